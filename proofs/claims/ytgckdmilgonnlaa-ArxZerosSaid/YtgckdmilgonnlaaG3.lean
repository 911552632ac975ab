/- The program's rounds: the walk. -/
import Derived.Test.YtgckdmilgonnlaaG2
namespace Go.Proofs.Ytgckdmilgonnlaa.H
open Go.RowKit Go.Shelf Go.Proofs.YtgckdmilgonnlaaW.PrintWords Go.Proofs.YtgckdmilgonnlaaW.PrintLast Go.Proofs.YtgckdmilgonnlaaW.PrintMore Go.Proofs.Ytgckdmilgonnlaa.Le Go.Proofs.Ytgckdmilgonnlaa.RowOf
attribute [local go_sem] Oper.semAt_some
set_option linter.unusedVariables false
set_option linter.unusedSimpArgs false

/-- The places of a round's quarters. -/
def ix (s i k : Nat) : Nat := 4 * k + (i + k * s) % 4
def qat (s i : Nat) (xs : List Int) : List Int := atL (ix s i 0) (ix s i 1) (ix s i 2) (ix s i 3) xs
def rnd (s : Nat) : Nat → List Int → List Int
  | 0, xs => xs
  | i + 1, xs => qat s i (rnd s i xs)
theorem rnd_length (s i : Nat) (xs : List Int) : (rnd s i xs).length = xs.length := by
  induction i with
  | zero => rfl
  | succ i ih => rw [rnd, qat, atL_length, ih]
theorem ix_lt (s i k : Nat) (hk : k < 4) : ix s i k < 16 := by unfold ix; omega

/-- The cells of four places. -/
def cellsI (f : Nat → Int) : Obj := .cells #[.int .i64 (f 0), .int .i64 (f 1), .int .i64 (f 2), .int .i64 (f 3)] 61 (0, 0)
/-- The first n places are known, the others 0. -/
def upto (s i n : Nat) (k : Nat) : Int := if k < n then (ix s i k : Int) else 0

theorem cellsI_at {W : World} {B : Nat} {f : Nat → Int} (h : W.heap[B]? = some (cellsI f)) (k : Nat) (hk : k < 4) :
    W.cell? ⟨B, k, none⟩ = some (.int .i64 (f k)) ∧ W.frozen? ⟨B, k, none⟩ = false := by
  have h1 : ∀ i, W.cell? ⟨B, i, none⟩ = (#[Value.int .i64 (f 0), .int .i64 (f 1), .int .i64 (f 2), .int .i64 (f 3)] : Array Value)[i]? := fun i => by
    unfold World.cell?
    rw [h]
    rfl
  have h2 : W.frozen? ⟨B, k, none⟩ = false := by simp [World.frozen?, h, cellsI]
  obtain rfl | rfl | rfl | rfl : k = 0 ∨ k = 1 ∨ k = 2 ∨ k = 3 := by omega
  all_goals exact ⟨(h1 _).trans rfl, h2⟩
theorem cellsI_set {W : World} {B : Nat} {s i k : Nat} (h : W.heap[B]? = some (cellsI (upto s i k))) (hk : k < 4) :
    (W.setCell ⟨B, k, none⟩ (.int .i64 (ix s i k : Int))).heap[B]? = some (cellsI (upto s i (k + 1))) := by
  obtain rfl | rfl | rfl | rfl : k = 0 ∨ k = 1 ∨ k = 2 ∨ k = 3 := by omega
  all_goals simp [World.setCell, Array.getElem?_modify, h, cellsI, upto]

theorem ix_val (s i k : Nat) (hs : s ≤ 1) (hi : i < 4) (hk : k < 4) : wrap64 (4 * (k : Int) + Int.tmod (wrap64 ((i : Int) + wrap64 ((k : Int) * (s : Int)))) 4) = (ix s i k : Int) := by
  obtain rfl | rfl : s = 0 ∨ s = 1 := by omega
  all_goals
    obtain rfl | rfl | rfl | rfl : i = 0 ∨ i = 1 ∨ i = 2 ∨ i = 3 := by omega
    all_goals
      obtain rfl | rfl | rfl | rfl : k = 0 ∨ k = 1 ∨ k = 2 ∨ k = 3 := by omega
      all_goals decide +kernel
theorem cells_full {W : World} {B s i : Nat} (h : W.heap[B]? = some (cellsI (upto s i 4))) (k : Nat) (hk : k < 4) : W.cell? ⟨B, k, none⟩ = some (.int .i64 (ix s i k : Int)) ∧ W.frozen? ⟨B, k, none⟩ = false := by
  obtain ⟨h1, h2⟩ := cellsI_at h k hk
  rw [upto, if_pos hk] at h1
  exact ⟨h1, h2⟩

def qk (q : Q4) : Nat → Int
  | 0 => q.1
  | 1 => q.2.1
  | 2 => q.2.2.1
  | _ => q.2.2.2
/-- The first k of the four words, in their places. -/
def setq (s i : Nat) (q : Q4) (xs : List Int) : Nat → List Int
  | 0 => xs
  | k + 1 => (setq s i q xs k).set (ix s i k) (qk q k)
theorem setq_length (s i : Nat) (q : Q4) (xs : List Int) (k : Nat) : (setq s i q xs k).length = xs.length := by
  induction k with
  | zero => rfl
  | succ k ih => rw [setq, List.length_set, ih]
theorem idx4 (q : Q4) (k : Nat) (hk : k < 4) (W : World) : (Instr.index 24 (.agg #[.int .u32 q.1, .int .u32 q.2.1, .int .u32 q.2.2.1, .int .u32 q.2.2.2]) (.int .i64 (k : Int))).run Try.prog W = .ok (.int .u32 (qk q k)) W := by
  obtain rfl | rfl | rfl | rfl : k = 0 ∨ k = 1 ∨ k = 2 ∨ k = 3 := by omega
  all_goals rfl

set_option maxRecDepth 100000 in
set_option maxHeartbeats 2000000 in
theorem round_calls (g s : Nat) (xs : List Int) (w : World) (hR : Row w g 43 xs) (hl : xs.length = 16) (hs : s ≤ 1) :
    Calls Try.prog 22 #[.pointer (some ⟨g, 0, none⟩), .int .i64 s] w fun e w' => (∃ v, e = .returned v) ∧ Row w' g 43 (rnd s 4 xs) ∧ w.grownBy w' (some g) := by
  go_enter Try.func22, Try.ntmps22
  go_wp2
  go_loopw [10] (fun vi wr => ∃ i : Nat, vi = .int .i64 i ∧ i ≤ 4 ∧ Row wr g 43 (rnd s i xs) ∧ w.grownBy wr (some g)) (fun vi _ => 4 - (intOf vi).toNat)
  case atStart => exact ⟨0, rfl, by omega, hR, World.grownBy.refl _ _⟩
  case round =>
    clear hR
    obtain ⟨i, rfl, hi, hR, hG⟩ := hrel
    have hL := (rnd_length s i xs).trans hl
    by_cases hi4 : i = 4
    · subst hi4
      go_wp2
      go_end0
      exact ⟨⟨_, rfl⟩, hR, hG⟩
    · have hlt : decide ((i : Int) < 4) = true := decide_eq_true (by omega)
      go_upto_region 4 with (fail)
      obtain ⟨B, hBe⟩ : ∃ B, wr.heap.size = B := ⟨_, rfl⟩
      have hA : (wr.alloc (cellsI (upto s i 0))).heap[B]? = some (cellsI (upto s i 0)) := by rw [← hBe]; exact World.alloc_heap_new wr _
      have hR1 := hR.alloc (cellsI (upto s i 0))
      have hG1 : w.grownBy (wr.alloc (cellsI (upto s i 0))) (some g) := gb_trans hG (gb_of_below ((Below.refl _ _).alloc (Nat.le_refl _) _) _)
      have hwB : w.heap.size ≤ B := by have := hG.size; omega
      have hgB : g ≠ B := by have := hR.lt; omega
      change Code.wp _ _ _ _ (wr.alloc (cellsI (upto s i 0)))
      rw [hBe]
      generalize wr.alloc (cellsI (upto s i 0)) = W1 at hA hR1 hG1 ⊢
      clear hR hG hBe
      go_wp2
      go_loopw [13] (fun vk wk => ∃ k : Nat, vk = .int .i64 k ∧ k ≤ 4 ∧ wk.heap[B]? = some (cellsI (upto s i k)) ∧ Row wk g 43 (rnd s i xs) ∧ w.grownBy wk (some g)) (fun vk _ => 4 - (intOf vk).toNat)
      case atStart => exact ⟨0, rfl, by omega, hA, hR1, hG1⟩
      case round =>
        clear hA hR1 hG1
        obtain ⟨k, rfl, hk, hA, hR1, hG1⟩ := hrel
        by_cases hk4 : k = 4
        · subst hk4
          go_upto_region 9 with (fail)
          have hi00 : (0 : Int) ≤ (ix s i 0 : Int) := Int.natCast_nonneg _
          have hi01 : (0 : Int) ≤ (ix s i 1 : Int) := Int.natCast_nonneg _
          have hi02 : (0 : Int) ≤ (ix s i 2 : Int) := Int.natCast_nonneg _
          have hi03 : (0 : Int) ≤ (ix s i 3 : Int) := Int.natCast_nonneg _
          have hi10 : (ix s i 0 : Int) < 16 := by have := ix_lt s i 0 (by decide); omega
          have hi11 : (ix s i 1 : Int) < 16 := by have := ix_lt s i 1 (by decide); omega
          have hi12 : (ix s i 2 : Int) < 16 := by have := ix_lt s i 2 (by decide); omega
          have hi13 : (ix s i 3 : Int) < 16 := by have := ix_lt s i 3 (by decide); omega
          refine start_ (n := 27) (S := fun w' => w'.heap[B]? = some (cellsI (upto s i 4)) ∧ Row w' g 43 (rnd s i xs)) (ds := [26]) #[false, false, false, false, false, false, false, false, false, false, false, false, false, false, false, false, false, false, false, false, false, false, false, false, false, false, false] (by kernel_rfl) rfl rfl ⟨hA, hR1.kept rfl⟩ (fun hHeld => ?_)
          have hg0 : w.grownBy wr.drew (some g) := gb_trans hG1 (gb_of_below (Below.drew (Below.refl _ _)) _)
          generalize wr.drew = W0 at hHeld hg0 ⊢
          clear hA hR1 hG1
          refine pure_ (i := 0) (N := some 28) (v := ?_) (a' := ?_) #[true, false, false, false, false, false, false, false, false, false, false, false, false, false, false, false, false, false, false, false, false, false, false, false, false, false, false] rfl rfl (by kernel_rfl) (fun _ _ _ h => h) (Or.inl ⟨by rfl, ?_⟩) ?_ ?_
          rotate_left
          · intro w'
            go_simp
            try (with_reducible rfl)
          rotate_left
          · simp only [Act.put, List.setIfInBounds_toArray, List.set_cons_zero, List.set_cons_succ, i64_w, i32_w]
            rfl
          refine pure_ (i := 1) (N := some 29) (v := ?_) (a' := ?_) #[true, true, false, false, false, false, false, false, false, false, false, false, false, false, false, false, false, false, false, false, false, false, false, false, false, false, false] rfl rfl (by kernel_rfl) (fun _ _ _ h => h) (Or.inl ⟨by rfl, ?_⟩) ?_ ?_
          rotate_left
          · intro w'
            go_simp
            try (with_reducible rfl)
          rotate_left
          · simp only [Act.put, List.setIfInBounds_toArray, List.set_cons_zero, List.set_cons_succ, i64_w, i32_w]
            rfl
          refine take_ (i := 2) (N := some 30) (v := ?_) (a' := ?_) #[true, true, true, false, false, false, false, false, false, false, false, false, false, false, false, false, false, false, false, false, false, false, false, false, false, false, false] rfl rfl (by kernel_rfl) (fun _ _ _ h => h) (Or.inl ⟨by rfl, ?_⟩) hHeld ?_ ?_
          rotate_left
          · intro w' hS_
            have a0 := (cells_full hS_.1 0 (by decide)).1; have r0 := hS_.2.cell (ix s i 0) (by rw [hL]; exact ix_lt s i 0 (by decide)); have a1 := (cells_full hS_.1 1 (by decide)).1; have r1 := hS_.2.cell (ix s i 1) (by rw [hL]; exact ix_lt s i 1 (by decide)); have a2 := (cells_full hS_.1 2 (by decide)).1; have r2 := hS_.2.cell (ix s i 2) (by rw [hL]; exact ix_lt s i 2 (by decide)); have a3 := (cells_full hS_.1 3 (by decide)).1; have r3 := hS_.2.cell (ix s i 3) (by rw [hL]; exact ix_lt s i 3 (by decide)); have fa := fun k hk => (cells_full hS_.1 k hk).2; have fr := hS_.2.frozen
            go_simp
            try (with_reducible rfl)
          rotate_left
          · simp only [Act.put, List.setIfInBounds_toArray, List.set_cons_zero, List.set_cons_succ, i64_w, i32_w]
            rfl
          refine pure_ (i := 3) (N := some 31) (v := ?_) (a' := ?_) #[true, true, true, true, false, false, false, false, false, false, false, false, false, false, false, false, false, false, false, false, false, false, false, false, false, false, false] rfl rfl (by kernel_rfl) (fun _ _ _ h => h) (Or.inl ⟨by rfl, ?_⟩) ?_ ?_
          rotate_left
          · intro w'
            go_simp
            try (with_reducible rfl)
          rotate_left
          · simp only [Act.put, List.setIfInBounds_toArray, List.set_cons_zero, List.set_cons_succ, i64_w, i32_w]
            rfl
          refine pure_ (i := 4) (N := some 32) (v := ?_) (a' := ?_) #[true, true, true, true, true, false, false, false, false, false, false, false, false, false, false, false, false, false, false, false, false, false, false, false, false, false, false] rfl rfl (by kernel_rfl) (fun _ _ _ h => h) (Or.inl ⟨by rfl, ?_⟩) ?_ ?_
          rotate_left
          · intro w'
            go_simp
            try (with_reducible rfl)
          rotate_left
          · simp only [Act.put, List.setIfInBounds_toArray, List.set_cons_zero, List.set_cons_succ, i64_w, i32_w]
            rfl
          refine take_ (i := 5) (N := some 33) (v := ?_) (a' := ?_) #[true, true, true, true, true, true, false, false, false, false, false, false, false, false, false, false, false, false, false, false, false, false, false, false, false, false, false] rfl rfl (by kernel_rfl) (fun _ _ _ h => h) (Or.inl ⟨by rfl, ?_⟩) hHeld ?_ ?_
          rotate_left
          · intro w' hS_
            have a0 := (cells_full hS_.1 0 (by decide)).1; have r0 := hS_.2.cell (ix s i 0) (by rw [hL]; exact ix_lt s i 0 (by decide)); have a1 := (cells_full hS_.1 1 (by decide)).1; have r1 := hS_.2.cell (ix s i 1) (by rw [hL]; exact ix_lt s i 1 (by decide)); have a2 := (cells_full hS_.1 2 (by decide)).1; have r2 := hS_.2.cell (ix s i 2) (by rw [hL]; exact ix_lt s i 2 (by decide)); have a3 := (cells_full hS_.1 3 (by decide)).1; have r3 := hS_.2.cell (ix s i 3) (by rw [hL]; exact ix_lt s i 3 (by decide)); have fa := fun k hk => (cells_full hS_.1 k hk).2; have fr := hS_.2.frozen
            go_simp
            try (with_reducible rfl)
          rotate_left
          · simp only [Act.put, List.setIfInBounds_toArray, List.set_cons_zero, List.set_cons_succ, i64_w, i32_w]
            rfl
          refine pure_ (i := 6) (N := some 34) (v := ?_) (a' := ?_) #[true, true, true, true, true, true, true, false, false, false, false, false, false, false, false, false, false, false, false, false, false, false, false, false, false, false, false] rfl rfl (by kernel_rfl) (fun _ _ _ h => h) (Or.inl ⟨by rfl, ?_⟩) ?_ ?_
          rotate_left
          · intro w'
            go_simp
            try (with_reducible rfl)
          rotate_left
          · simp only [Act.put, List.setIfInBounds_toArray, List.set_cons_zero, List.set_cons_succ, i64_w, i32_w]
            rfl
          refine pure_ (i := 7) (N := some 35) (v := ?_) (a' := ?_) #[true, true, true, true, true, true, true, true, false, false, false, false, false, false, false, false, false, false, false, false, false, false, false, false, false, false, false] rfl rfl (by kernel_rfl) (fun _ _ _ h => h) (Or.inl ⟨by rfl, ?_⟩) ?_ ?_
          rotate_left
          · intro w'
            go_simp
            try (with_reducible rfl)
          rotate_left
          · simp only [Act.put, List.setIfInBounds_toArray, List.set_cons_zero, List.set_cons_succ, i64_w, i32_w]
            rfl
          refine take_ (i := 8) (N := some 36) (v := ?_) (a' := ?_) #[true, true, true, true, true, true, true, true, true, false, false, false, false, false, false, false, false, false, false, false, false, false, false, false, false, false, false] rfl rfl (by kernel_rfl) (fun _ _ _ h => h) (Or.inl ⟨by rfl, ?_⟩) hHeld ?_ ?_
          rotate_left
          · intro w' hS_
            have a0 := (cells_full hS_.1 0 (by decide)).1; have r0 := hS_.2.cell (ix s i 0) (by rw [hL]; exact ix_lt s i 0 (by decide)); have a1 := (cells_full hS_.1 1 (by decide)).1; have r1 := hS_.2.cell (ix s i 1) (by rw [hL]; exact ix_lt s i 1 (by decide)); have a2 := (cells_full hS_.1 2 (by decide)).1; have r2 := hS_.2.cell (ix s i 2) (by rw [hL]; exact ix_lt s i 2 (by decide)); have a3 := (cells_full hS_.1 3 (by decide)).1; have r3 := hS_.2.cell (ix s i 3) (by rw [hL]; exact ix_lt s i 3 (by decide)); have fa := fun k hk => (cells_full hS_.1 k hk).2; have fr := hS_.2.frozen
            go_simp
            try (with_reducible rfl)
          rotate_left
          · simp only [Act.put, List.setIfInBounds_toArray, List.set_cons_zero, List.set_cons_succ, i64_w, i32_w]
            rfl
          refine pure_ (i := 9) (N := some 37) (v := ?_) (a' := ?_) #[true, true, true, true, true, true, true, true, true, true, false, false, false, false, false, false, false, false, false, false, false, false, false, false, false, false, false] rfl rfl (by kernel_rfl) (fun _ _ _ h => h) (Or.inl ⟨by rfl, ?_⟩) ?_ ?_
          rotate_left
          · intro w'
            go_simp
            try (with_reducible rfl)
          rotate_left
          · simp only [Act.put, List.setIfInBounds_toArray, List.set_cons_zero, List.set_cons_succ, i64_w, i32_w]
            rfl
          refine pure_ (i := 10) (N := some 38) (v := ?_) (a' := ?_) #[true, true, true, true, true, true, true, true, true, true, true, false, false, false, false, false, false, false, false, false, false, false, false, false, false, false, false] rfl rfl (by kernel_rfl) (fun _ _ _ h => h) (Or.inl ⟨by rfl, ?_⟩) ?_ ?_
          rotate_left
          · intro w'
            go_simp
            try (with_reducible rfl)
          rotate_left
          · simp only [Act.put, List.setIfInBounds_toArray, List.set_cons_zero, List.set_cons_succ, i64_w, i32_w]
            rfl
          refine take_ (i := 11) (N := some 39) (v := ?_) (a' := ?_) #[true, true, true, true, true, true, true, true, true, true, true, true, false, false, false, false, false, false, false, false, false, false, false, false, false, false, false] rfl rfl (by kernel_rfl) (fun _ _ _ h => h) (Or.inl ⟨by rfl, ?_⟩) hHeld ?_ ?_
          rotate_left
          · intro w' hS_
            have a0 := (cells_full hS_.1 0 (by decide)).1; have r0 := hS_.2.cell (ix s i 0) (by rw [hL]; exact ix_lt s i 0 (by decide)); have a1 := (cells_full hS_.1 1 (by decide)).1; have r1 := hS_.2.cell (ix s i 1) (by rw [hL]; exact ix_lt s i 1 (by decide)); have a2 := (cells_full hS_.1 2 (by decide)).1; have r2 := hS_.2.cell (ix s i 2) (by rw [hL]; exact ix_lt s i 2 (by decide)); have a3 := (cells_full hS_.1 3 (by decide)).1; have r3 := hS_.2.cell (ix s i 3) (by rw [hL]; exact ix_lt s i 3 (by decide)); have fa := fun k hk => (cells_full hS_.1 k hk).2; have fr := hS_.2.frozen
            go_simp
            try (with_reducible rfl)
          rotate_left
          · simp only [Act.put, List.setIfInBounds_toArray, List.set_cons_zero, List.set_cons_succ, i64_w, i32_w]
            rfl
          refine pure_ (i := 12) (N := some 40) (v := ?_) (a' := ?_) #[true, true, true, true, true, true, true, true, true, true, true, true, true, false, false, false, false, false, false, false, false, false, false, false, false, false, false] rfl rfl (by kernel_rfl) (fun _ _ _ h => h) (Or.inl ⟨by rfl, ?_⟩) ?_ ?_
          rotate_left
          · intro w'
            go_simp
            try (with_reducible rfl)
          rotate_left
          · simp only [Act.put, List.setIfInBounds_toArray, List.set_cons_zero, List.set_cons_succ, i64_w, i32_w]
            rfl
          refine pure_ (i := 13) (N := some 41) (v := ?_) (a' := ?_) #[true, true, true, true, true, true, true, true, true, true, true, true, true, true, false, false, false, false, false, false, false, false, false, false, false, false, false] rfl rfl (by kernel_rfl) (fun _ _ _ h => h) (Or.inl ⟨by rfl, ?_⟩) ?_ ?_
          rotate_left
          · intro w'
            go_simp
            try (with_reducible rfl)
          rotate_left
          · simp only [Act.put, List.setIfInBounds_toArray, List.set_cons_zero, List.set_cons_succ, i64_w, i32_w]
            rfl
          refine take_ (i := 14) (N := some 42) (v := ?_) (a' := ?_) #[true, true, true, true, true, true, true, true, true, true, true, true, true, true, true, false, false, false, false, false, false, false, false, false, false, false, false] rfl rfl (by kernel_rfl) (fun _ _ _ h => h) (Or.inl ⟨by rfl, ?_⟩) hHeld ?_ ?_
          rotate_left
          · intro w' hS_
            have a0 := (cells_full hS_.1 0 (by decide)).1; have r0 := hS_.2.cell (ix s i 0) (by rw [hL]; exact ix_lt s i 0 (by decide)); have a1 := (cells_full hS_.1 1 (by decide)).1; have r1 := hS_.2.cell (ix s i 1) (by rw [hL]; exact ix_lt s i 1 (by decide)); have a2 := (cells_full hS_.1 2 (by decide)).1; have r2 := hS_.2.cell (ix s i 2) (by rw [hL]; exact ix_lt s i 2 (by decide)); have a3 := (cells_full hS_.1 3 (by decide)).1; have r3 := hS_.2.cell (ix s i 3) (by rw [hL]; exact ix_lt s i 3 (by decide)); have fa := fun k hk => (cells_full hS_.1 k hk).2; have fr := hS_.2.frozen
            go_simp
            try (with_reducible rfl)
          rotate_left
          · simp only [Act.put, List.setIfInBounds_toArray, List.set_cons_zero, List.set_cons_succ, i64_w, i32_w]
            rfl
          refine pure_ (i := 15) (N := some 43) (v := ?_) (a' := ?_) #[true, true, true, true, true, true, true, true, true, true, true, true, true, true, true, true, false, false, false, false, false, false, false, false, false, false, false] rfl rfl (by kernel_rfl) (fun _ _ _ h => h) (Or.inl ⟨by rfl, ?_⟩) ?_ ?_
          rotate_left
          · intro w'
            go_simp
            try (with_reducible rfl)
          rotate_left
          · simp only [Act.put, List.setIfInBounds_toArray, List.set_cons_zero, List.set_cons_succ, i64_w, i32_w]
            rfl
          refine pure_ (i := 16) (N := some 44) (v := ?_) (a' := ?_) #[true, true, true, true, true, true, true, true, true, true, true, true, true, true, true, true, true, false, false, false, false, false, false, false, false, false, false] rfl rfl (by kernel_rfl) (fun _ _ _ h => h) (Or.inl ⟨by rfl, ?_⟩) ?_ ?_
          rotate_left
          · intro w'
            go_simp
            try (with_reducible rfl)
          rotate_left
          · simp only [Act.put, List.setIfInBounds_toArray, List.set_cons_zero, List.set_cons_succ, i64_w, i32_w]
            rfl
          refine take_ (i := 17) (N := some 45) (v := ?_) (a' := ?_) #[true, true, true, true, true, true, true, true, true, true, true, true, true, true, true, true, true, true, false, false, false, false, false, false, false, false, false] rfl rfl (by kernel_rfl) (fun _ _ _ h => h) (Or.inl ⟨by rfl, ?_⟩) hHeld ?_ ?_
          rotate_left
          · intro w' hS_
            have a0 := (cells_full hS_.1 0 (by decide)).1; have r0 := hS_.2.cell (ix s i 0) (by rw [hL]; exact ix_lt s i 0 (by decide)); have a1 := (cells_full hS_.1 1 (by decide)).1; have r1 := hS_.2.cell (ix s i 1) (by rw [hL]; exact ix_lt s i 1 (by decide)); have a2 := (cells_full hS_.1 2 (by decide)).1; have r2 := hS_.2.cell (ix s i 2) (by rw [hL]; exact ix_lt s i 2 (by decide)); have a3 := (cells_full hS_.1 3 (by decide)).1; have r3 := hS_.2.cell (ix s i 3) (by rw [hL]; exact ix_lt s i 3 (by decide)); have fa := fun k hk => (cells_full hS_.1 k hk).2; have fr := hS_.2.frozen
            go_simp
            try (with_reducible rfl)
          rotate_left
          · simp only [Act.put, List.setIfInBounds_toArray, List.set_cons_zero, List.set_cons_succ, i64_w, i32_w]
            rfl
          refine pure_ (i := 18) (N := some 46) (v := ?_) (a' := ?_) #[true, true, true, true, true, true, true, true, true, true, true, true, true, true, true, true, true, true, true, false, false, false, false, false, false, false, false] rfl rfl (by kernel_rfl) (fun _ _ _ h => h) (Or.inl ⟨by rfl, ?_⟩) ?_ ?_
          rotate_left
          · intro w'
            go_simp
            try (with_reducible rfl)
          rotate_left
          · simp only [Act.put, List.setIfInBounds_toArray, List.set_cons_zero, List.set_cons_succ, i64_w, i32_w]
            rfl
          refine pure_ (i := 19) (N := some 47) (v := ?_) (a' := ?_) #[true, true, true, true, true, true, true, true, true, true, true, true, true, true, true, true, true, true, true, true, false, false, false, false, false, false, false] rfl rfl (by kernel_rfl) (fun _ _ _ h => h) (Or.inl ⟨by rfl, ?_⟩) ?_ ?_
          rotate_left
          · intro w'
            go_simp
            try (with_reducible rfl)
          rotate_left
          · simp only [Act.put, List.setIfInBounds_toArray, List.set_cons_zero, List.set_cons_succ, i64_w, i32_w]
            rfl
          refine take_ (i := 20) (N := some 48) (v := ?_) (a' := ?_) #[true, true, true, true, true, true, true, true, true, true, true, true, true, true, true, true, true, true, true, true, true, false, false, false, false, false, false] rfl rfl (by kernel_rfl) (fun _ _ _ h => h) (Or.inl ⟨by rfl, ?_⟩) hHeld ?_ ?_
          rotate_left
          · intro w' hS_
            have a0 := (cells_full hS_.1 0 (by decide)).1; have r0 := hS_.2.cell (ix s i 0) (by rw [hL]; exact ix_lt s i 0 (by decide)); have a1 := (cells_full hS_.1 1 (by decide)).1; have r1 := hS_.2.cell (ix s i 1) (by rw [hL]; exact ix_lt s i 1 (by decide)); have a2 := (cells_full hS_.1 2 (by decide)).1; have r2 := hS_.2.cell (ix s i 2) (by rw [hL]; exact ix_lt s i 2 (by decide)); have a3 := (cells_full hS_.1 3 (by decide)).1; have r3 := hS_.2.cell (ix s i 3) (by rw [hL]; exact ix_lt s i 3 (by decide)); have fa := fun k hk => (cells_full hS_.1 k hk).2; have fr := hS_.2.frozen
            go_simp
            try (with_reducible rfl)
          rotate_left
          · simp only [Act.put, List.setIfInBounds_toArray, List.set_cons_zero, List.set_cons_succ, i64_w, i32_w]
            rfl
          refine pure_ (i := 21) (N := some 49) (v := ?_) (a' := ?_) #[true, true, true, true, true, true, true, true, true, true, true, true, true, true, true, true, true, true, true, true, true, true, false, false, false, false, false] rfl rfl (by kernel_rfl) (fun _ _ _ h => h) (Or.inl ⟨by rfl, ?_⟩) ?_ ?_
          rotate_left
          · intro w'
            go_simp
            try (with_reducible rfl)
          rotate_left
          · simp only [Act.put, List.setIfInBounds_toArray, List.set_cons_zero, List.set_cons_succ, i64_w, i32_w]
            rfl
          refine pure_ (i := 22) (N := some 50) (v := ?_) (a' := ?_) #[true, true, true, true, true, true, true, true, true, true, true, true, true, true, true, true, true, true, true, true, true, true, true, false, false, false, false] rfl rfl (by kernel_rfl) (fun _ _ _ h => h) (Or.inl ⟨by rfl, ?_⟩) ?_ ?_
          rotate_left
          · intro w'
            go_simp
            try (with_reducible rfl)
          rotate_left
          · simp only [Act.put, List.setIfInBounds_toArray, List.set_cons_zero, List.set_cons_succ, i64_w, i32_w]
            rfl
          refine take_ (i := 23) (N := some 51) (v := ?_) (a' := ?_) #[true, true, true, true, true, true, true, true, true, true, true, true, true, true, true, true, true, true, true, true, true, true, true, true, false, false, false] rfl rfl (by kernel_rfl) (fun _ _ _ h => h) (Or.inl ⟨by rfl, ?_⟩) hHeld ?_ ?_
          rotate_left
          · intro w' hS_
            have a0 := (cells_full hS_.1 0 (by decide)).1; have r0 := hS_.2.cell (ix s i 0) (by rw [hL]; exact ix_lt s i 0 (by decide)); have a1 := (cells_full hS_.1 1 (by decide)).1; have r1 := hS_.2.cell (ix s i 1) (by rw [hL]; exact ix_lt s i 1 (by decide)); have a2 := (cells_full hS_.1 2 (by decide)).1; have r2 := hS_.2.cell (ix s i 2) (by rw [hL]; exact ix_lt s i 2 (by decide)); have a3 := (cells_full hS_.1 3 (by decide)).1; have r3 := hS_.2.cell (ix s i 3) (by rw [hL]; exact ix_lt s i 3 (by decide)); have fa := fun k hk => (cells_full hS_.1 k hk).2; have fr := hS_.2.frozen
            go_simp
            try (with_reducible rfl)
          rotate_left
          · simp only [Act.put, List.setIfInBounds_toArray, List.set_cons_zero, List.set_cons_succ, i64_w, i32_w]
            rfl
          refine two_ (i := 24) (j := 25) (Ni := some 52) (Nj := some 7) #[true, true, true, true, true, true, true, true, true, true, true, true, true, true, true, true, true, true, true, true, true, true, true, true, true, false, false] #[true, true, true, true, true, true, true, true, true, true, true, true, true, true, true, true, true, true, true, true, true, true, true, true, false, true, false] rfl rfl rfl rfl (by kernel_rfl) (by decide) (by decide) (fun K hK => ?one) (fun K hK => ?two)
          case' one =>
            refine goes_ Try.func11 (by kernel_rfl) rfl #[.int .u32 (wrd (rnd s i xs) (ix s i 0)), .int .u32 (wrd (rnd s i xs) (ix s i 1)), .int .u32 (wrd (rnd s i xs) (ix s i 2)), .int .u32 (wrd (rnd s i xs) (ix s i 3))] (by rfl) rfl rfl (by (try simp only [List.map_toArray, List.map_cons, List.map_nil]); first | done | rfl) ?_
            refine (Quarter_calls _ _ _ _ _).mono ?_
            rintro e w1 ⟨rfl, hb1⟩
            refine ⟨_, rfl, ?_⟩
            have hA1 := (hb1.block B (Array.getElem?_eq_some_iff.1 hHeld.1).1).trans hHeld.1
            have hR1 := hHeld.2.below hb1 hHeld.2.lt
            refine hK.out _ _ ⟨hA1, hR1⟩ (fun hHeld1 => ?_)
            clear hK K
            refine one_ (i := 25) (N := some 7) #[true, true, true, true, true, true, true, true, true, true, true, true, true, true, true, true, true, true, true, true, true, true, true, true, true, true, false] rfl rfl (by kernel_rfl) (by decide) (fun K hK => ?_)
            refine box_step ?hg (N := 7) ?hd (cs := #[.int .u32 0, .int .u32 0, .int .u32 0, .int .u32 0]) (t := 24) ?hr ?_; (case hd => rfl); (case hg => rfl); (case hr => first | (go_simp; done) | (go_simp; rfl))
            intro gb hg w2 hbox hb2
            have hA2 := (hb2.block B (Array.getElem?_eq_some_iff.1 hA1).1).trans hA1
            have hR2 := hR1.below hb2 hR1.lt
            have hgb : w.heap.size ≤ gb := by have := hb1.size; have := hg0.size; omega
            have hgg : g ≠ gb := by have := hR1.lt; omega
            have hBB : B ≠ gb := by have := (Array.getElem?_eq_some_iff.1 hA1).1; omega
            have hG2 := gb_trans (gb_trans hg0 (gb_of_below hb1 (some g))) (gb_of_below hb2 (some g))
            clear hR1 hA1 hHeld1 hb1 hb2 hg hHeld hg0
            refine hK.out _ _ ⟨hA2, hR2⟩ (fun hHeld => ?_)
            clear hK K
          case' two =>
            refine box_step ?hg (N := 7) ?hd (cs := #[.int .u32 0, .int .u32 0, .int .u32 0, .int .u32 0]) (t := 24) ?hr ?_; (case hd => rfl); (case hg => rfl); (case hr => first | (go_simp; done) | (go_simp; rfl))
            intro gb hg w1 hbox1 hb1
            have hA1 := (hb1.block B (Array.getElem?_eq_some_iff.1 hHeld.1).1).trans hHeld.1
            have hR1 := hHeld.2.below hb1 hHeld.2.lt
            have hgb : w.heap.size ≤ gb := by have := hg0.size; omega
            have hgg : g ≠ gb := by have := hHeld.2.lt; omega
            have hBB : B ≠ gb := by have := (Array.getElem?_eq_some_iff.1 hHeld.1).1; omega
            refine hK.out _ _ ⟨hA1, hR1⟩ (fun hHeld1 => ?_)
            clear hK K
            refine one_ (i := 24) (N := some 52) #[true, true, true, true, true, true, true, true, true, true, true, true, true, true, true, true, true, true, true, true, true, true, true, true, true, true, false] rfl rfl (by kernel_rfl) (by decide) (fun K hK => ?_)
            refine goes_ Try.func11 (by kernel_rfl) rfl #[.int .u32 (wrd (rnd s i xs) (ix s i 0)), .int .u32 (wrd (rnd s i xs) (ix s i 1)), .int .u32 (wrd (rnd s i xs) (ix s i 2)), .int .u32 (wrd (rnd s i xs) (ix s i 3))] (by rfl) rfl rfl (by (try simp only [List.map_toArray, List.map_cons, List.map_nil]); first | done | rfl) ?_
            refine (Quarter_calls _ _ _ _ _).mono ?_
            rintro e w2 ⟨rfl, hb2⟩
            refine ⟨_, rfl, ?_⟩
            have hA2 := (hb2.block B (Array.getElem?_eq_some_iff.1 hA1).1).trans hA1
            have hR2 := hR1.below hb2 hR1.lt
            have hbox : w2.heap[gb]? = some (cells4 (0, 0, 0, 0)) := (hb2.block gb (Array.getElem?_eq_some_iff.1 hbox1).1).trans hbox1
            have hG2 := gb_trans (gb_trans hg0 (gb_of_below hb1 (some g))) (gb_of_below hb2 (some g))
            clear hR1 hA1 hHeld1 hb1 hb2 hg hHeld hbox1 hg0
            refine hK.out _ _ ⟨hA2, hR2⟩ (fun hHeld => ?_)
            clear hK K
          all_goals
            obtain ⟨c0, c1, c2, c3, cf⟩ := cells4_at (q := (0, 0, 0, 0)) hbox
            refine last_ (i := 26) (N := none) #[true, true, true, true, true, true, true, true, true, true, true, true, true, true, true, true, true, true, true, true, true, true, true, true, true, true, true] rfl rfl (by kernel_rfl) (by decide) (fun K hK => ?_)
            generalize hq : quarter (wrd (rnd s i xs) (ix s i 0), wrd (rnd s i xs) (ix s i 1), wrd (rnd s i xs) (ix s i 2), wrd (rnd s i xs) (ix s i 3)) = q at *
            refine skip_step (w1 := (((w2.setCell ⟨gb, 0, none⟩ (.int .u32 q.1)).setCell ⟨gb, 1, none⟩ (.int .u32 q.2.1)).setCell ⟨gb, 2, none⟩ (.int .u32 q.2.2.1)).setCell ⟨gb, 3, none⟩ (.int .u32 q.2.2.2)) (by rfl) ?hr ?_
            case hr =>
              simp only [agg4]
              go_simp
            refine hK.out _ _ ?_
            clear hK K
            have hB3 : ((((w2.setCell ⟨gb, 0, none⟩ (.int .u32 q.1)).setCell ⟨gb, 1, none⟩ (.int .u32 q.2.1)).setCell ⟨gb, 2, none⟩ (.int .u32 q.2.2.1)).setCell ⟨gb, 3, none⟩ (.int .u32 q.2.2.2)).heap[gb]? = some (cells4 q) := cells4_set (q := (0, 0, 0, 0)) hbox _ _ _ _
            have hR3 := (((hR2.far (p := ⟨gb, 0, none⟩) hgg (.int .u32 q.1)).far (p := ⟨gb, 1, none⟩) hgg (.int .u32 q.2.1)).far (p := ⟨gb, 2, none⟩) hgg (.int .u32 q.2.2.1)).far (p := ⟨gb, 3, none⟩) hgg (.int .u32 q.2.2.2)
            have hA3 : ((((w2.setCell ⟨gb, 0, none⟩ (.int .u32 q.1)).setCell ⟨gb, 1, none⟩ (.int .u32 q.2.1)).setCell ⟨gb, 2, none⟩ (.int .u32 q.2.2.1)).setCell ⟨gb, 3, none⟩ (.int .u32 q.2.2.2)).heap[B]? = some (cellsI (upto s i 4)) := by
              rw [Below.heap_setCell _ _ _ _ hBB, Below.heap_setCell _ _ _ _ hBB, Below.heap_setCell _ _ _ _ hBB, Below.heap_setCell _ _ _ _ hBB]
              exact hA2
            have hG3 := gb_set_new (gb_set_new (gb_set_new (gb_set_new hG2 hgb 0 (.int .u32 q.1)) hgb 1 (.int .u32 q.2.1)) hgb 2 (.int .u32 q.2.2.1)) hgb 3 (.int .u32 q.2.2.2)
            generalize (((w2.setCell ⟨gb, 0, none⟩ (.int .u32 q.1)).setCell ⟨gb, 1, none⟩ (.int .u32 q.2.1)).setCell ⟨gb, 2, none⟩ (.int .u32 q.2.2.1)).setCell ⟨gb, 3, none⟩ (.int .u32 q.2.2.2) = W3 at hB3 hR3 hA3 hG3 ⊢
            clear hR2 hA2 hG2 hHeld hbox c0 c1 c2 c3 cf
            refine done_ (by kernel_rfl) ?_
            obtain ⟨c0, c1, c2, c3, cf⟩ := cells4_at hB3
            simp only [Act.put, List.setIfInBounds_toArray, List.set_cons_zero, List.set_cons_succ, List.getElem_toArray, List.getElem_cons_succ, List.getElem_cons_zero]
            go_wp2
            have hat : setq s i q (rnd s i xs) 4 = rnd s (i + 1) xs := by
              rw [rnd, qat, atL, hq]
              rfl
            clear hq hB3 c0 c1 c2 c3 cf
            go_loopw [54] (fun vk wk => ∃ k : Nat, vk = .int .i64 k ∧ k ≤ 4 ∧ wk.heap[B]? = some (cellsI (upto s i 4)) ∧ Row wk g 43 (setq s i q (rnd s i xs) k) ∧ w.grownBy wk (some g)) (fun vk _ => 4 - (intOf vk).toNat)
            case atStart => exact ⟨0, rfl, by omega, hA3, hR3, hG3⟩
            case round =>
              clear hA3 hR3 hG3
              obtain ⟨k, rfl, hk, hA, hR1, hG1⟩ := hrel
              have hLq := (setq_length s i q (rnd s i xs) k).trans hL
              by_cases hk4 : k = 4
              · subst hk4
                rw [hat] at hR1
                go_wp2
                exact ⟨⟨i + 1, by go_num, by omega, hR1, hG1⟩, by simp [intOf]; omega⟩
              · have hltk : decide ((k : Int) < 4) = true := decide_eq_true (by omega)
                have hk0 : (0 : Int) ≤ (k : Int) := by omega
                have hk1 : (k : Int) < 4 := by omega
                have hidx := idx4 q k (by omega)
                have hx0 : (0 : Int) ≤ (ix s i k : Int) := Int.natCast_nonneg _
                have hx1 : (ix s i k : Int) < 16 := by have := ix_lt s i k (by omega); omega
                go_upto_region 13 with (fail)
                refine start_ (n := 8) (S := fun w' => w'.heap[B]? = some (cellsI (upto s i 4)) ∧ Row w' g 43 (setq s i q (rnd s i xs) k)) (ds := [7]) #[false, false, false, false, false, false, false, false] (by kernel_rfl) rfl rfl ⟨hA, hR1.kept rfl⟩ (fun hHeld => ?_)
                have hg0 : w.grownBy wr.drew (some g) := gb_trans hG1 (gb_of_below (Below.drew (Below.refl _ _)) _)
                generalize wr.drew = W7 at hHeld hg0 ⊢
                clear hA hR1 hG1
                refine pure_ (i := 0) (N := some 58) (v := ?_) (a' := ?_) #[true, false, false, false, false, false, false, false] rfl rfl (by kernel_rfl) (fun _ _ _ h => h) (Or.inl ⟨by rfl, ?_⟩) ?_ ?_
                rotate_left
                · intro w'
                  go_simp
                  try (with_reducible rfl)
                rotate_left
                · simp only [Act.put, List.setIfInBounds_toArray, List.set_cons_zero, List.set_cons_succ, i64_w, i32_w]
                  rfl
                refine pure_ (i := 1) (N := some 59) (v := ?_) (a' := ?_) #[true, true, false, false, false, false, false, false] rfl rfl (by kernel_rfl) (fun _ _ _ h => h) (Or.inl ⟨by rfl, ?_⟩) ?_ ?_
                rotate_left
                · intro w'
                  go_simp
                  try (with_reducible rfl)
                rotate_left
                · simp only [Act.put, List.setIfInBounds_toArray, List.set_cons_zero, List.set_cons_succ, i64_w, i32_w]
                  rfl
                refine pure_ (i := 2) (N := some 60) (v := ?_) (a' := ?_) #[true, true, true, false, false, false, false, false] rfl rfl (by kernel_rfl) (fun _ _ _ h => h) (Or.inl ⟨by rfl, ?_⟩) ?_ ?_
                rotate_left
                · intro w'
                  go_simp
                  try (with_reducible rfl)
                rotate_left
                · simp only [Act.put, List.setIfInBounds_toArray, List.set_cons_zero, List.set_cons_succ, i64_w, i32_w]
                  rfl
                refine take_ (i := 3) (N := some 61) (v := ?_) (a' := ?_) #[true, true, true, true, false, false, false, false] rfl rfl (by kernel_rfl) (fun _ _ _ h => h) (Or.inl ⟨by rfl, ?_⟩) hHeld ?_ ?_
                rotate_left
                · intro w' hS_
                  obtain ⟨a0, f0⟩ := cells_full hS_.1 k (by omega)
                  go_simp
                  try (with_reducible rfl)
                rotate_left
                · simp only [Act.put, List.setIfInBounds_toArray, List.set_cons_zero, List.set_cons_succ, i64_w, i32_w]
                  rfl
                refine pure_ (i := 4) (N := some 62) (v := ?_) (a' := ?_) #[true, true, true, true, true, false, false, false] rfl rfl (by kernel_rfl) (fun _ _ _ h => h) (Or.inl ⟨by rfl, ?_⟩) ?_ ?_
                rotate_left
                · intro w'
                  go_simp
                  try (with_reducible rfl)
                rotate_left
                · simp only [Act.put, List.setIfInBounds_toArray, List.set_cons_zero, List.set_cons_succ, i64_w, i32_w]
                  rfl
                refine pure_ (i := 5) (N := some 63) (v := ?_) (a' := ?_) #[true, true, true, true, true, true, false, false] rfl rfl (by kernel_rfl) (fun _ _ _ h => h) (Or.inl ⟨by rfl, ?_⟩) ?_ ?_
                rotate_left
                · intro w'
                  go_simp
                  try (with_reducible rfl)
                rotate_left
                · simp only [Act.put, List.setIfInBounds_toArray, List.set_cons_zero, List.set_cons_succ, i64_w, i32_w]
                  rfl
                refine pure_ (i := 6) (N := some 64) (v := ?_) (a' := ?_) #[true, true, true, true, true, true, true, false] rfl rfl (by kernel_rfl) (fun _ _ _ h => h) (Or.inl ⟨by rfl, ?_⟩) ?_ ?_
                rotate_left
                · intro w'
                  go_simp
                  try (with_reducible rfl)
                rotate_left
                · simp only [Act.put, List.setIfInBounds_toArray, List.set_cons_zero, List.set_cons_succ, i64_w, i32_w]
                  rfl
                refine last_ (i := 7) (N := none) #[true, true, true, true, true, true, true, true] rfl rfl (by kernel_rfl) (by decide) (fun K hK => ?_)
                have hc := hHeld.2.cell (ix s i k) (by rw [hLq]; exact ix_lt s i k (by omega))
                have hf := hHeld.2.frozen
                refine skip_step (w1 := W7.setCell ⟨g, ix s i k, none⟩ (.int .u32 (qk q k))) (by rfl) ?hr2 ?_
                case hr2 => go_simp
                refine hK.out _ _ ?_
                clear hK K
                have hA5 := (Below.heap_setCell W7 ⟨g, ix s i k, none⟩ (.int .u32 (qk q k)) B (fun e => hgB e.symm)).trans hHeld.1
                have hR5 := hHeld.2.set (ix s i k) (by rw [hLq]; exact ix_lt s i k (by omega)) (qk q k)
                have hG5 := gb_trans hg0 (gb_set W7 g (ix s i k) (.int .u32 (qk q k)))
                generalize W7.setCell ⟨g, ix s i k, none⟩ (.int .u32 (qk q k)) = W8 at hA5 hR5 hG5 ⊢
                clear hHeld hg0 hc hf
                refine done_ (by kernel_rfl) ?_
                simp only [Act.put, List.setIfInBounds_toArray, List.set_cons_zero, List.set_cons_succ, List.getElem_toArray, List.getElem_cons_succ, List.getElem_cons_zero]
                go_wp2
                exact ⟨⟨k + 1, by go_num, by omega, hA5, hR5, hG5⟩, by simp [intOf]; omega⟩
        · have hltk : decide ((k : Int) < 4) = true := decide_eq_true (by omega)
          have hk0 : (0 : Int) ≤ (k : Int) := by omega
          have hk1 : (k : Int) < 4 := by omega
          obtain ⟨cA, fA⟩ := cellsI_at hA k (by omega)
          go_wp2
          rw [ix_val s i k hs (by omega) (by omega)]
          exact ⟨⟨k + 1, by go_num, by omega, cellsI_set hA (by omega), hR1.far (p := ⟨B, k, none⟩) hgB _, gb_set_new hG1 hwB _ _⟩, by simp [intOf]; omega⟩

end Go.Proofs.Ytgckdmilgonnlaa.H
