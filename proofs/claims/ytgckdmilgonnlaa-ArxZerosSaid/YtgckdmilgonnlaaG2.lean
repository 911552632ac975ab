/- The reference's block: the walks. -/
import Derived.Test.YtgckdmilgonnlaaG1
import Derived.Test.YtgckdmilgonnlaaRowOf
import Derived.Test.YtgckdmilgonnlaaH2
import Derived.Shelf.RegionOpen
import Derived.StillTailTactics
namespace Go.Proofs.Ytgckdmilgonnlaa.H
open Go.RowKit Go.Shelf Go.Proofs.YtgckdmilgonnlaaW.PrintWords Go.Proofs.YtgckdmilgonnlaaW.PrintLast Go.Proofs.YtgckdmilgonnlaaW.PrintMore Go.Proofs.Ytgckdmilgonnlaa.Le Go.Proofs.Ytgckdmilgonnlaa.RowOf
attribute [local go_sem] Oper.semAt_some
set_option linter.unusedVariables false
set_option linter.unusedSimpArgs false

/-- A quarter turn of four words, in their place. -/
def atL (a b c d : Nat) (xs : List Int) : List Int :=
  let q := quarter (wrd xs a, wrd xs b, wrd xs c, wrd xs d)
  (((xs.set a q.1).set b q.2.1).set c q.2.2.1).set d q.2.2.2
theorem atL_length (a b c d : Nat) (xs : List Int) : (atL a b c d xs).length = xs.length := by simp [atL]

theorem skip_step {P : Program} {ops : Array Oper} {a : Act} {o : Oper} {Kc : Act → World → Prop} {Q : Exit → Act → World → Prop} {W w1 : World} (hw : Region.wanted o (yielded ops a.tmps) = true) (hrun : (execOp a.eval o).run P W = .ok .skip w1) (h : Kc (a.put o.dst undef) w1) :
    if Region.wanted o (yielded ops a.tmps) = true then Oper.wp P o a W Kc Q else Kc (a.put o.dst undef) W := by
  rw [if_pos hw]
  unfold Oper.wp
  rw [hrun, Oper.upon_skip]
  exact h

set_option maxRecDepth 100000 in
set_option maxHeartbeats 2000000 in
theorem at_calls (a b c d g cap : Nat) (xs : List Int) (w : World) (hR : Row w g 22 xs) (hl : xs.length = 16) (ha : a < 16) (hb : b < 16) (hc : c < 16) (hd : d < 16) :
    Calls Try.prog 24 #[.slice (some ⟨g, 0, none⟩) 16 cap, .int .i64 a, .int .i64 b, .int .i64 c, .int .i64 d] w fun e w' => (∃ v, e = .returned v) ∧ Row w' g 22 (atL a b c d xs) ∧ w.grownBy w' (some g) := by
  have ca := hR.cell a (by omega)
  have cb := hR.cell b (by omega)
  have cc := hR.cell c (by omega)
  have cd := hR.cell d (by omega)
  have cf := hR.frozen
  have ha0 : (0 : Int) ≤ (a : Int) := by omega
  have hb0 : (0 : Int) ≤ (b : Int) := by omega
  have hc0 : (0 : Int) ≤ (c : Int) := by omega
  have hd0 : (0 : Int) ≤ (d : Int) := by omega
  have ha1 : (a : Int) < 16 := by omega
  have hb1 : (b : Int) < 16 := by omega
  have hc1 : (c : Int) < 16 := by omega
  have hd1 : (d : Int) < 16 := by omega
  go_enter Try.func24, Try.ntmps24
  refine wp_seq_k fun K0 hK0 => ?_
  refine start_ (n := 19) (S := fun w' => Row w' g 22 xs) (ds := [18]) #[false, false, false, false, false, false, false, false, false, false, false, false, false, false, false, false, false, false, false] (by kernel_rfl) rfl rfl (hR.kept rfl) (fun hHeld => ?_)
  have hg0 : w.grownBy w.drew (some g) := gb_of_below (Below.drew (Below.refl _ _)) _
  have hsz0 : w.heap.size ≤ w.drew.heap.size := Nat.le_refl _
  generalize w.drew = W0 at hHeld hg0 hsz0 ⊢
  clear ca cb cc cd cf
  refine pure_ (i := 0) (N := some 11) (v := ?_) (a' := ?_) #[true, false, false, false, false, false, false, false, false, false, false, false, false, false, false, false, false, false, false] rfl rfl (by kernel_rfl) (fun _ _ _ h => h) (Or.inl ⟨by rfl, ?_⟩) ?_ ?_
  rotate_left
  · intro w'
    go_simp
    try (with_reducible rfl)
  rotate_left
  · simp only [Act.put, List.setIfInBounds_toArray, List.set_cons_zero, List.set_cons_succ, i64_w, i32_w]
    rfl
  refine pure_ (i := 1) (N := some 12) (v := ?_) (a' := ?_) #[true, true, false, false, false, false, false, false, false, false, false, false, false, false, false, false, false, false, false] rfl rfl (by kernel_rfl) (fun _ _ _ h => h) (Or.inl ⟨by rfl, ?_⟩) ?_ ?_
  rotate_left
  · intro w'
    go_simp
    try (with_reducible rfl)
  rotate_left
  · simp only [Act.put, List.setIfInBounds_toArray, List.set_cons_zero, List.set_cons_succ, i64_w, i32_w]
    rfl
  refine pure_ (i := 2) (N := some 13) (v := ?_) (a' := ?_) #[true, true, true, false, false, false, false, false, false, false, false, false, false, false, false, false, false, false, false] rfl rfl (by kernel_rfl) (fun _ _ _ h => h) (Or.inl ⟨by rfl, ?_⟩) ?_ ?_
  rotate_left
  · intro w'
    go_simp
    try (with_reducible rfl)
  rotate_left
  · simp only [Act.put, List.setIfInBounds_toArray, List.set_cons_zero, List.set_cons_succ, i64_w, i32_w]
    rfl
  refine take_ (i := 3) (N := some 14) (v := ?_) (a' := ?_) #[true, true, true, true, false, false, false, false, false, false, false, false, false, false, false, false, false, false, false] rfl rfl (by kernel_rfl) (fun _ _ _ h => h) (Or.inl ⟨by rfl, ?_⟩) hHeld ?_ ?_
  rotate_left
  · intro w' hS_
    have ca := hS_.cell a (by omega); have cb := hS_.cell b (by omega); have cc := hS_.cell c (by omega); have cd := hS_.cell d (by omega); have cf := hS_.frozen
    go_simp
    try (with_reducible rfl)
  rotate_left
  · simp only [Act.put, List.setIfInBounds_toArray, List.set_cons_zero, List.set_cons_succ, i64_w, i32_w]
    rfl
  refine pure_ (i := 4) (N := some 15) (v := ?_) (a' := ?_) #[true, true, true, true, true, false, false, false, false, false, false, false, false, false, false, false, false, false, false] rfl rfl (by kernel_rfl) (fun _ _ _ h => h) (Or.inl ⟨by rfl, ?_⟩) ?_ ?_
  rotate_left
  · intro w'
    go_simp
    try (with_reducible rfl)
  rotate_left
  · simp only [Act.put, List.setIfInBounds_toArray, List.set_cons_zero, List.set_cons_succ, i64_w, i32_w]
    rfl
  refine pure_ (i := 5) (N := some 16) (v := ?_) (a' := ?_) #[true, true, true, true, true, true, false, false, false, false, false, false, false, false, false, false, false, false, false] rfl rfl (by kernel_rfl) (fun _ _ _ h => h) (Or.inl ⟨by rfl, ?_⟩) ?_ ?_
  rotate_left
  · intro w'
    go_simp
    try (with_reducible rfl)
  rotate_left
  · simp only [Act.put, List.setIfInBounds_toArray, List.set_cons_zero, List.set_cons_succ, i64_w, i32_w]
    rfl
  refine pure_ (i := 6) (N := some 17) (v := ?_) (a' := ?_) #[true, true, true, true, true, true, true, false, false, false, false, false, false, false, false, false, false, false, false] rfl rfl (by kernel_rfl) (fun _ _ _ h => h) (Or.inl ⟨by rfl, ?_⟩) ?_ ?_
  rotate_left
  · intro w'
    go_simp
    try (with_reducible rfl)
  rotate_left
  · simp only [Act.put, List.setIfInBounds_toArray, List.set_cons_zero, List.set_cons_succ, i64_w, i32_w]
    rfl
  refine take_ (i := 7) (N := some 18) (v := ?_) (a' := ?_) #[true, true, true, true, true, true, true, true, false, false, false, false, false, false, false, false, false, false, false] rfl rfl (by kernel_rfl) (fun _ _ _ h => h) (Or.inl ⟨by rfl, ?_⟩) hHeld ?_ ?_
  rotate_left
  · intro w' hS_
    have ca := hS_.cell a (by omega); have cb := hS_.cell b (by omega); have cc := hS_.cell c (by omega); have cd := hS_.cell d (by omega); have cf := hS_.frozen
    go_simp
    try (with_reducible rfl)
  rotate_left
  · simp only [Act.put, List.setIfInBounds_toArray, List.set_cons_zero, List.set_cons_succ, i64_w, i32_w]
    rfl
  refine pure_ (i := 8) (N := some 19) (v := ?_) (a' := ?_) #[true, true, true, true, true, true, true, true, true, false, false, false, false, false, false, false, false, false, false] rfl rfl (by kernel_rfl) (fun _ _ _ h => h) (Or.inl ⟨by rfl, ?_⟩) ?_ ?_
  rotate_left
  · intro w'
    go_simp
    try (with_reducible rfl)
  rotate_left
  · simp only [Act.put, List.setIfInBounds_toArray, List.set_cons_zero, List.set_cons_succ, i64_w, i32_w]
    rfl
  refine pure_ (i := 9) (N := some 20) (v := ?_) (a' := ?_) #[true, true, true, true, true, true, true, true, true, true, false, false, false, false, false, false, false, false, false] rfl rfl (by kernel_rfl) (fun _ _ _ h => h) (Or.inl ⟨by rfl, ?_⟩) ?_ ?_
  rotate_left
  · intro w'
    go_simp
    try (with_reducible rfl)
  rotate_left
  · simp only [Act.put, List.setIfInBounds_toArray, List.set_cons_zero, List.set_cons_succ, i64_w, i32_w]
    rfl
  refine pure_ (i := 10) (N := some 21) (v := ?_) (a' := ?_) #[true, true, true, true, true, true, true, true, true, true, true, false, false, false, false, false, false, false, false] rfl rfl (by kernel_rfl) (fun _ _ _ h => h) (Or.inl ⟨by rfl, ?_⟩) ?_ ?_
  rotate_left
  · intro w'
    go_simp
    try (with_reducible rfl)
  rotate_left
  · simp only [Act.put, List.setIfInBounds_toArray, List.set_cons_zero, List.set_cons_succ, i64_w, i32_w]
    rfl
  refine take_ (i := 11) (N := some 22) (v := ?_) (a' := ?_) #[true, true, true, true, true, true, true, true, true, true, true, true, false, false, false, false, false, false, false] rfl rfl (by kernel_rfl) (fun _ _ _ h => h) (Or.inl ⟨by rfl, ?_⟩) hHeld ?_ ?_
  rotate_left
  · intro w' hS_
    have ca := hS_.cell a (by omega); have cb := hS_.cell b (by omega); have cc := hS_.cell c (by omega); have cd := hS_.cell d (by omega); have cf := hS_.frozen
    go_simp
    try (with_reducible rfl)
  rotate_left
  · simp only [Act.put, List.setIfInBounds_toArray, List.set_cons_zero, List.set_cons_succ, i64_w, i32_w]
    rfl
  refine pure_ (i := 12) (N := some 23) (v := ?_) (a' := ?_) #[true, true, true, true, true, true, true, true, true, true, true, true, true, false, false, false, false, false, false] rfl rfl (by kernel_rfl) (fun _ _ _ h => h) (Or.inl ⟨by rfl, ?_⟩) ?_ ?_
  rotate_left
  · intro w'
    go_simp
    try (with_reducible rfl)
  rotate_left
  · simp only [Act.put, List.setIfInBounds_toArray, List.set_cons_zero, List.set_cons_succ, i64_w, i32_w]
    rfl
  refine pure_ (i := 13) (N := some 24) (v := ?_) (a' := ?_) #[true, true, true, true, true, true, true, true, true, true, true, true, true, true, false, false, false, false, false] rfl rfl (by kernel_rfl) (fun _ _ _ h => h) (Or.inl ⟨by rfl, ?_⟩) ?_ ?_
  rotate_left
  · intro w'
    go_simp
    try (with_reducible rfl)
  rotate_left
  · simp only [Act.put, List.setIfInBounds_toArray, List.set_cons_zero, List.set_cons_succ, i64_w, i32_w]
    rfl
  refine pure_ (i := 14) (N := some 25) (v := ?_) (a' := ?_) #[true, true, true, true, true, true, true, true, true, true, true, true, true, true, true, false, false, false, false] rfl rfl (by kernel_rfl) (fun _ _ _ h => h) (Or.inl ⟨by rfl, ?_⟩) ?_ ?_
  rotate_left
  · intro w'
    go_simp
    try (with_reducible rfl)
  rotate_left
  · simp only [Act.put, List.setIfInBounds_toArray, List.set_cons_zero, List.set_cons_succ, i64_w, i32_w]
    rfl
  refine take_ (i := 15) (N := some 26) (v := ?_) (a' := ?_) #[true, true, true, true, true, true, true, true, true, true, true, true, true, true, true, true, false, false, false] rfl rfl (by kernel_rfl) (fun _ _ _ h => h) (Or.inl ⟨by rfl, ?_⟩) hHeld ?_ ?_
  rotate_left
  · intro w' hS_
    have ca := hS_.cell a (by omega); have cb := hS_.cell b (by omega); have cc := hS_.cell c (by omega); have cd := hS_.cell d (by omega); have cf := hS_.frozen
    go_simp
    try (with_reducible rfl)
  rotate_left
  · simp only [Act.put, List.setIfInBounds_toArray, List.set_cons_zero, List.set_cons_succ, i64_w, i32_w]
    rfl
  refine two_ (i := 16) (j := 17) (Ni := some 27) (Nj := some 10) #[true, true, true, true, true, true, true, true, true, true, true, true, true, true, true, true, true, false, false] #[true, true, true, true, true, true, true, true, true, true, true, true, true, true, true, true, false, true, false] rfl rfl rfl rfl (by kernel_rfl) (by decide) (by decide) (fun K hK => ?one) (fun K hK => ?two)
  case' one =>
    refine goes_ Try.func12 (by kernel_rfl) rfl #[.int .u32 (wrd xs a), .int .u32 (wrd xs b), .int .u32 (wrd xs c), .int .u32 (wrd xs d)] (by rfl) rfl rfl (by (try simp only [List.map_toArray, List.map_cons, List.map_nil]); first | done | rfl) ?_
    refine (refQuarter_calls _ _ _ _ _).mono ?_
    rintro e w1 ⟨rfl, hb1⟩
    refine ⟨_, rfl, ?_⟩
    have hR1 := hHeld.below hb1 hHeld.lt
    refine hK.out _ _ hR1 (fun hHeld1 => ?_)
    clear hK K
    refine one_ (i := 17) (N := some 10) #[true, true, true, true, true, true, true, true, true, true, true, true, true, true, true, true, true, true, false] rfl rfl (by kernel_rfl) (by decide) (fun K hK => ?_)
    refine box_step ?hg (N := 10) ?hd (cs := #[.int .u32 0, .int .u32 0, .int .u32 0, .int .u32 0]) (t := 24) ?hr ?_; (case hd => rfl); (case hg => rfl); (case hr => first | (go_simp; done) | (go_simp; rfl))
    intro gb hg w2 hbox hb2
    have hR2 := hR1.below hb2 hR1.lt
    have hgb : w.heap.size ≤ gb := by have := hb1.size; omega
    have hgg : g ≠ gb := by have := hR1.lt; omega
    have hG2 := gb_trans (gb_trans hg0 (gb_of_below hb1 (some g))) (gb_of_below hb2 (some g))
    clear hR1 hHeld1 hb1 hb2 hg hHeld
    refine hK.out _ _ hR2 (fun hHeld => ?_)
    clear hK K
  case' two =>
    refine box_step ?hg (N := 10) ?hd (cs := #[.int .u32 0, .int .u32 0, .int .u32 0, .int .u32 0]) (t := 24) ?hr ?_; (case hd => rfl); (case hg => rfl); (case hr => first | (go_simp; done) | (go_simp; rfl))
    intro gb hg w1 hbox1 hb1
    have hR1 := hHeld.below hb1 hHeld.lt
    have hgb : w.heap.size ≤ gb := by omega
    have hgg : g ≠ gb := by have := hHeld.lt; omega
    refine hK.out _ _ hR1 (fun hHeld1 => ?_)
    clear hK K
    refine one_ (i := 16) (N := some 27) #[true, true, true, true, true, true, true, true, true, true, true, true, true, true, true, true, true, true, false] rfl rfl (by kernel_rfl) (by decide) (fun K hK => ?_)
    refine goes_ Try.func12 (by kernel_rfl) rfl #[.int .u32 (wrd xs a), .int .u32 (wrd xs b), .int .u32 (wrd xs c), .int .u32 (wrd xs d)] (by rfl) rfl rfl (by (try simp only [List.map_toArray, List.map_cons, List.map_nil]); first | done | rfl) ?_
    refine (refQuarter_calls _ _ _ _ _).mono ?_
    rintro e w2 ⟨rfl, hb2⟩
    refine ⟨_, rfl, ?_⟩
    have hR2 := hR1.below hb2 hR1.lt
    have hbox : w2.heap[gb]? = some (cells4 (0, 0, 0, 0)) := (hb2.block gb (Array.getElem?_eq_some_iff.1 hbox1).1).trans hbox1
    have hG2 := gb_trans (gb_trans hg0 (gb_of_below hb1 (some g))) (gb_of_below hb2 (some g))
    clear hR1 hHeld1 hb1 hb2 hg hHeld hbox1
    refine hK.out _ _ hR2 (fun hHeld => ?_)
    clear hK K
  all_goals
    obtain ⟨c0, c1, c2, c3, cf⟩ := cells4_at (q := (0, 0, 0, 0)) hbox
    refine last_ (i := 18) (N := none) #[true, true, true, true, true, true, true, true, true, true, true, true, true, true, true, true, true, true, true] rfl rfl (by kernel_rfl) (by decide) (fun K hK => ?_)
    generalize hq : quarter (wrd xs a, wrd xs b, wrd xs c, wrd xs d) = q at *
    refine skip_step (w1 := (((w2.setCell ⟨gb, 0, none⟩ (.int .u32 q.1)).setCell ⟨gb, 1, none⟩ (.int .u32 q.2.1)).setCell ⟨gb, 2, none⟩ (.int .u32 q.2.2.1)).setCell ⟨gb, 3, none⟩ (.int .u32 q.2.2.2)) (by rfl) ?hr ?_
    case hr => 
      simp only [agg4]
      go_simp
    refine hK.out _ _ ?_
    clear hK K
    have hB3 : ((((w2.setCell ⟨gb, 0, none⟩ (.int .u32 q.1)).setCell ⟨gb, 1, none⟩ (.int .u32 q.2.1)).setCell ⟨gb, 2, none⟩ (.int .u32 q.2.2.1)).setCell ⟨gb, 3, none⟩ (.int .u32 q.2.2.2)).heap[gb]? = some (cells4 q) := cells4_set (q := (0, 0, 0, 0)) hbox _ _ _ _
    have hR3 := (((hR2.far (p := ⟨gb, 0, none⟩) hgg (.int .u32 q.1)).far (p := ⟨gb, 1, none⟩) hgg (.int .u32 q.2.1)).far (p := ⟨gb, 2, none⟩) hgg (.int .u32 q.2.2.1)).far (p := ⟨gb, 3, none⟩) hgg (.int .u32 q.2.2.2)
    have hG3 := gb_set_new (gb_set_new (gb_set_new (gb_set_new hG2 hgb 0 (.int .u32 q.1)) hgb 1 (.int .u32 q.2.1)) hgb 2 (.int .u32 q.2.2.1)) hgb 3 (.int .u32 q.2.2.2)
    generalize (((w2.setCell ⟨gb, 0, none⟩ (.int .u32 q.1)).setCell ⟨gb, 1, none⟩ (.int .u32 q.2.1)).setCell ⟨gb, 2, none⟩ (.int .u32 q.2.2.1)).setCell ⟨gb, 3, none⟩ (.int .u32 q.2.2.2) = W3 at hB3 hR3 hG3 ⊢
    clear hR2 hG2 hHeld hbox c0 c1 c2 c3 cf
    refine done_ (by kernel_rfl) ?_
    refine hK0 _ _ ?_
    clear hK0 K0
    simp only [Act.put, List.setIfInBounds_toArray, List.set_cons_zero, List.set_cons_succ, List.getElem_toArray, List.getElem_cons_succ, List.getElem_cons_zero]
    obtain ⟨c0, c1, c2, c3, cf⟩ := cells4_at hB3
    have z0 := hR3.cell a (by (try simp only [List.length_set]); omega)
    have zf := hR3.frozen
    go_upto_region 2 with (fail)
    have hR4 := hR3.set a (by (try simp only [List.length_set]); omega) q.1
    have hG4 := gb_trans hG3 (gb_set W3 g a (.int .u32 q.1))
    have hB4 : (W3.setCell ⟨g, a, none⟩ (.int .u32 q.1)).heap[gb]? = some (cells4 q) := (Below.heap_setCell _ _ _ _ (fun e => hgg e.symm)).trans hB3
    generalize W3.setCell ⟨g, a, none⟩ (.int .u32 q.1) = W4 at hR4 hG4 hB4 ⊢
    clear hR3 hG3 hB3 c0 c1 c2 c3 cf z0 zf
    obtain ⟨c0, c1, c2, c3, cf⟩ := cells4_at hB4
    have z0 := hR4.cell b (by (try simp only [List.length_set]); omega)
    have zf := hR4.frozen
    go_upto_region 3 with (fail)
    have hR5 := hR4.set b (by (try simp only [List.length_set]); omega) q.2.1
    have hG5 := gb_trans hG4 (gb_set W4 g b (.int .u32 q.2.1))
    have hB5 : (W4.setCell ⟨g, b, none⟩ (.int .u32 q.2.1)).heap[gb]? = some (cells4 q) := (Below.heap_setCell _ _ _ _ (fun e => hgg e.symm)).trans hB4
    generalize W4.setCell ⟨g, b, none⟩ (.int .u32 q.2.1) = W5 at hR5 hG5 hB5 ⊢
    clear hR4 hG4 hB4 c0 c1 c2 c3 cf z0 zf
    obtain ⟨c0, c1, c2, c3, cf⟩ := cells4_at hB5
    have z0 := hR5.cell c (by (try simp only [List.length_set]); omega)
    have zf := hR5.frozen
    go_upto_region 4 with (fail)
    have hR6 := hR5.set c (by (try simp only [List.length_set]); omega) q.2.2.1
    have hG6 := gb_trans hG5 (gb_set W5 g c (.int .u32 q.2.2.1))
    have hB6 : (W5.setCell ⟨g, c, none⟩ (.int .u32 q.2.2.1)).heap[gb]? = some (cells4 q) := (Below.heap_setCell _ _ _ _ (fun e => hgg e.symm)).trans hB5
    generalize W5.setCell ⟨g, c, none⟩ (.int .u32 q.2.2.1) = W6 at hR6 hG6 hB6 ⊢
    clear hR5 hG5 hB5 c0 c1 c2 c3 cf z0 zf
    obtain ⟨c0, c1, c2, c3, cf⟩ := cells4_at hB6
    have z0 := hR6.cell d (by (try simp only [List.length_set]); omega)
    have zf := hR6.frozen
    go_wp2
    go_end0
    refine ⟨⟨_, rfl⟩, ?_, gb_trans hG6 (gb_set _ _ _ _)⟩
    have hR7 := hR6.set d (by (try simp only [List.length_set]); omega) q.2.2.2
    unfold atL
    rw [hq]
    exact hR7

end Go.Proofs.Ytgckdmilgonnlaa.H
