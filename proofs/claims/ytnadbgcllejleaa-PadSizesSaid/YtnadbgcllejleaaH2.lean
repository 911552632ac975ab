-- Written by a program of this session (hyb.py), which drives the print over functions some of which are proved by hand.
import Derived.Test.YtnadbgcllejleaaH0
import Derived.Test.YtnadbgcllejleaaH1
namespace Go.Proofs.Ytnadbgcllejleaa.H
open Go.RowKit Go.Proofs.YtnadbgcllejleaaW.PrintWords Go.Proofs.YtnadbgcllejleaaW.PrintLast Go.Proofs.YtnadbgcllejleaaW.PrintMore
attribute [local go_sem] max2_int min2_int max_two min_two max_three min_three max_four min_four   -- for this text's walks alone
set_option linter.unusedVariables false
set_option linter.unusedSimpArgs false

/-! ### sphragisref05_Unpad: function 14 -/
def sphragisref05_Unpad.l0 : Nat → ByteArray → Int → Int → Option (ByteArray × Int)
  | 0, _, _, _ => none
  | k + 1, x0, x4, x5 => if x5 < (x0.size : Int) then (if 0 ≤ x5 then (if (bt x0 x5) = 0 then (sphragisref05_Unpad.l0 k x0 x4 (wrap64 (x5 + 1))) else (some ((⟨#[]⟩ : ByteArray), 50))) else (none)) else (if 2 ≤ (wrap64 (2 + x4)) then (if (wrap64 (2 + x4)) ≤ (x0.size : Int) then (some (x0.extract 2 ((wrap64 (2 + x4)) : Int).toNat, 0)) else (none)) else (none))
def sphragisref05_Unpad.f (k : Nat) (a0 : ByteArray) : Option (ByteArray × Int) := if (a0.size : Int) = 200 then (if 0 < (a0.size : Int) then (if 1 < (a0.size : Int) then (if (wrap64 ((wrap64 (256 * (wrap64 (bt a0 0)))) + (wrap64 (bt a0 1)))) > 198 then (some ((⟨#[]⟩ : ByteArray), 50)) else (sphragisref05_Unpad.l0 k a0 (wrap64 ((wrap64 (256 * (wrap64 (bt a0 0)))) + (wrap64 (bt a0 1)))) (wrap64 (2 + (wrap64 ((wrap64 (256 * (wrap64 (bt a0 0)))) + (wrap64 (bt a0 1)))))))) else (none)) else (none)) else (some ((⟨#[]⟩ : ByteArray), 50))
theorem sphragisref05_Unpad.mono_l : ∀ k, (∀ y0 y1 y2, LeO (sphragisref05_Unpad.l0 k y0 y1 y2) (sphragisref05_Unpad.l0 (k + 1) y0 y1 y2))
  | 0 => fun _ _ _ r h => by simp [sphragisref05_Unpad.l0] at h
  | k + 1 => by
    have ih0 := sphragisref05_Unpad.mono_l k
    · intro y0 y1 y2
      unfold sphragisref05_Unpad.l0
      repeat' first
      | (with_reducible exact ih0 _ _ _)
      | (with_reducible exact LeO.refl _)
      | (with_reducible exact LeO.none _)
      | (with_reducible refine LeO.ite ?_ ?_)
      | (with_reducible refine LeO.bind ?_ (fun _ => ?_))
      | exact ih0 _ _ _
      | exact LeO.none _
      | refine LeO.ite ?_ ?_
      | refine LeO.bind ?_ (fun _ => ?_)
theorem sphragisref05_Unpad.mono : ∀ a0 k, LeO (sphragisref05_Unpad.f k a0) (sphragisref05_Unpad.f (k + 1) a0) := by
  intro a0 k
  have ih0 := sphragisref05_Unpad.mono_l k
  unfold sphragisref05_Unpad.f
  repeat' first
      | (with_reducible exact ih0 _ _ _)
      | (with_reducible exact LeO.refl _)
      | (with_reducible exact LeO.none _)
      | (with_reducible refine LeO.ite ?_ ?_)
      | (with_reducible refine LeO.bind ?_ (fun _ => ?_))
      | exact ih0 _ _ _
      | exact LeO.none _
      | refine LeO.ite ?_ ?_
      | refine LeO.bind ?_ (fun _ => ?_)
set_option maxHeartbeats 8000000 in
set_option maxRecDepth 100000 in
theorem sphragisref05_Unpad.calls (k : Nat) (a0 : ByteArray) (r1 : ByteArray) (r2 : Int) (w : World) (h : sphragisref05_Unpad.f k a0 = some (r1, r2)) :
    Calls Try.prog 14 #[.string a0] w fun e w' => e = .returned (.tuple #[.string r1, .int .i64 r2]) ∧ Drawn0 w w' := by
  have H : (if (a0.size : Int) = 200 then (if 0 < (a0.size : Int) then (if 1 < (a0.size : Int) then (if (wrap64 ((wrap64 (256 * (wrap64 (bt a0 0)))) + (wrap64 (bt a0 1)))) > 198 then (some ((⟨#[]⟩ : ByteArray), 50)) else (sphragisref05_Unpad.l0 k a0 (wrap64 ((wrap64 (256 * (wrap64 (bt a0 0)))) + (wrap64 (bt a0 1)))) (wrap64 (2 + (wrap64 ((wrap64 (256 * (wrap64 (bt a0 0)))) + (wrap64 (bt a0 1)))))))) else (none)) else (none)) else (some ((⟨#[]⟩ : ByteArray), 50))) = some (r1, r2) := h
  clear h
  by_cases c2 : (a0.size : Int) = 200
  · rw [if_pos c2] at H
    have c2b0 : ((a0.size : Int) == 200) = true := beq_iff_eq.mpr c2
    have c2b1 : ((a0.size : Int) != 200) = false := bne_eq_false_iff_eq.mpr c2
    clear c2
    by_cases c3 : 0 < (a0.size : Int)
    · rw [if_pos c3] at H
      have c3b0 : decide (0 < (a0.size : Int)) = true := decide_eq_true c3
      have c3b1 : decide (0 < a0.size) = true := decide_eq_true (by omega)
      clear c3
      by_cases c5 : 1 < (a0.size : Int)
      · rw [if_pos c5] at H
        have c5b0 : decide (1 < (a0.size : Int)) = true := decide_eq_true c5
        have c5b1 : decide (1 < a0.size) = true := decide_eq_true (by omega)
        clear c5
        by_cases c7 : (wrap64 ((wrap64 (256 * (wrap64 (bt a0 0)))) + (wrap64 (bt a0 1)))) > 198
        · rw [if_pos c7] at H
          have c7b0 : decide (198 < (wrap64 ((wrap64 (256 * (wrap64 (bt a0 0)))) + (wrap64 (bt a0 1))))) = true := decide_eq_true c7
          clear c7
          simp only [Option.some.injEq, Prod.mk.injEq] at H
          obtain ⟨rfl, rfl⟩ := H
          have p4 : 0 ≤ (0 : Int) := (by omega)
          have q4 : 0 < a0.size := (by have : (0 : Int) < (a0.size : Int) := of_decide_eq_true (by first | (with_reducible assumption) | assumption); omega)
          have hx4 : ∀ h : 0 < a0.size, ((a0[0]'h).toNat : Int) = bt a0 0 := bt_at a0 0
          clear p4
          have qi4 : (0 < (a0.size : Int)) = True := eq_true (of_decide_eq_true (by first | (with_reducible assumption) | assumption))
          replace q4 := eq_true q4
          have p6 : 0 ≤ (1 : Int) := (by omega)
          have q6 : 1 < a0.size := (by have : (1 : Int) < (a0.size : Int) := of_decide_eq_true (by first | (with_reducible assumption) | assumption); omega)
          have hx6 : ∀ h : 1 < a0.size, ((a0[1]'h).toNat : Int) = bt a0 1 := bt_at a0 1
          clear p6
          have qi6 : (1 < (a0.size : Int)) = True := eq_true (of_decide_eq_true (by first | (with_reducible assumption) | assumption))
          replace q6 := eq_true q6
          go_enter Try.func14, Try.ntmps14
          go_wp2
          repeat (go_quiet (fail); try go_wp2)
          go_ret2
          exact ⟨by first | rfl | (simp; done) | (simp [*]; done), by repeat (first | exact Drawn0.refl _ | apply Drawn0.step)⟩
        · rw [if_neg c7] at H
          have c7b0 : decide (198 < (wrap64 ((wrap64 (256 * (wrap64 (bt a0 0)))) + (wrap64 (bt a0 1))))) = false := decide_eq_false c7
          clear c7
          have H' := Aside0.mk H
          clear H
          have p4 : 0 ≤ (0 : Int) := (by omega)
          have q4 : 0 < a0.size := (by have : (0 : Int) < (a0.size : Int) := of_decide_eq_true (by first | (with_reducible assumption) | assumption); omega)
          have hx4 : ∀ h : 0 < a0.size, ((a0[0]'h).toNat : Int) = bt a0 0 := bt_at a0 0
          clear p4
          have qi4 : (0 < (a0.size : Int)) = True := eq_true (of_decide_eq_true (by first | (with_reducible assumption) | assumption))
          replace q4 := eq_true q4
          have p6 : 0 ≤ (1 : Int) := (by omega)
          have q6 : 1 < a0.size := (by have : (1 : Int) < (a0.size : Int) := of_decide_eq_true (by first | (with_reducible assumption) | assumption); omega)
          have hx6 : ∀ h : 1 < a0.size, ((a0[1]'h).toNat : Int) = bt a0 1 := bt_at a0 1
          clear p6
          have qi6 : (1 < (a0.size : Int)) = True := eq_true (of_decide_eq_true (by first | (with_reducible assumption) | assumption))
          replace q6 := eq_true q6
          go_enter Try.func14, Try.ntmps14
          go_wp2
          repeat (go_quiet (fail); try go_wp2)
          go_loopg [5] k (fun kq v5 w' => ∃ (x5_1 : Int), v5 = .int .i64 x5_1 ∧ Aside0 (sphragisref05_Unpad.l0 kq a0 (wrap64 ((wrap64 (256 * (wrap64 (bt a0 0)))) + (wrap64 (bt a0 1)))) x5_1 = some (r1, r2)) ∧ Aside0 (kq ≤ k) ∧ Drawn0 w w')
          case atStart => exact ⟨(wrap64 (2 + (wrap64 ((wrap64 (256 * (wrap64 (bt a0 0)))) + (wrap64 (bt a0 1)))))), (by first | rfl | (simp; done) | (simp [*]; done)), H', ⟨Nat.le_refl _⟩, by repeat (first | exact Drawn0.refl _ | apply Drawn0.step)⟩
          case round =>
            clear H'
            try clear c1
            try clear c2
            try clear c2b0
            try clear c2b1
            try clear p2
            try clear c3
            try clear c3b0
            try clear c3b1
            try clear p4
            try clear q4
            try clear hx4
            try clear qi4
            try clear c5
            try clear c5b0
            try clear c5b1
            try clear p6
            try clear q6
            try clear hx6
            try clear qi6
            try clear c7
            try clear c7b0
            try clear p4
            try clear p6
            try clear q4
            try clear q6
            obtain ⟨x5_1, rfl, HA, HK1, ⟨m1, rfl⟩⟩ := hrel
            cases gk with
            | zero => exact absurd HA.out (by simp [sphragisref05_Unpad.l0])
            | succ k1 =>
              have H := HA.out
              clear HA
              simp only [sphragisref05_Unpad.l0] at H
              by_cases c8 : x5_1 < (a0.size : Int)
              · rw [if_pos c8] at H
                have c8b0 : decide (x5_1 < (a0.size : Int)) = true := decide_eq_true c8
                clear c8
                by_cases c9 : 0 ≤ x5_1
                · rw [if_pos c9] at H
                  have c9b0 : decide (0 ≤ x5_1) = true := decide_eq_true c9
                  clear c9
                  by_cases c11 : (bt a0 x5_1) = 0
                  · rw [if_pos c11] at H
                    have c11b0 : ((bt a0 x5_1) == 0) = true := beq_iff_eq.mpr c11
                    have c11b1 : ((bt a0 x5_1) != 0) = false := bne_eq_false_iff_eq.mpr c11
                    clear c11
                    have H' := Aside0.mk H
                    clear H
                    have p10 : 0 ≤ (x5_1 : Int) := of_decide_eq_true (by first | (with_reducible assumption) | assumption)
                    have q10 : x5_1 < (a0.size : Int) := of_decide_eq_true (by first | (with_reducible assumption) | assumption)
                    have hx10 := bt_at a0 x5_1
                    replace p10 := eq_true p10
                    replace q10 := eq_true q10
                    go_wp2
                    repeat (go_quiet (fail); try go_wp2)
                    go_roundg k1
                    case measure => have := HK1.out; omega
                    case rel => exact ⟨(wrap64 (x5_1 + 1)), (by first | rfl | (simp; done) | (simp [*]; done)), H', ⟨by have := HK1.out; omega⟩, by repeat (first | exact Drawn0.refl _ | apply Drawn0.step)⟩
                  · rw [if_neg c11] at H
                    have c11b0 : ((bt a0 x5_1) == 0) = false := beq_eq_false_iff_ne.mpr c11
                    have c11b1 : ((bt a0 x5_1) != 0) = true := bne_iff_ne.mpr c11
                    simp only [Option.some.injEq, Prod.mk.injEq] at H
                    obtain ⟨rfl, rfl⟩ := H
                    have p10 : 0 ≤ (x5_1 : Int) := of_decide_eq_true (by first | (with_reducible assumption) | assumption)
                    have q10 : x5_1 < (a0.size : Int) := of_decide_eq_true (by first | (with_reducible assumption) | assumption)
                    have hx10 := bt_at a0 x5_1
                    replace p10 := eq_true p10
                    replace q10 := eq_true q10
                    go_wp2
                    repeat (go_quiet (fail); try go_wp2)
                    go_ret2
                    exact ⟨by first | rfl | (simp; done) | (simp [*]; done), by repeat (first | exact Drawn0.refl _ | apply Drawn0.step)⟩
                · rw [if_neg c9] at H
                  exact absurd H (by simp)
              · rw [if_neg c8] at H
                have c8b0 : decide (x5_1 < (a0.size : Int)) = false := decide_eq_false c8
                clear c8
                by_cases c12 : 2 ≤ (wrap64 (2 + (wrap64 ((wrap64 (256 * (wrap64 (bt a0 0)))) + (wrap64 (bt a0 1))))))
                · rw [if_pos c12] at H
                  have c12b0 := eq_true c12
                  have c12b1 : decide (2 ≤ (wrap64 (2 + (wrap64 ((wrap64 (256 * (wrap64 (bt a0 0)))) + (wrap64 (bt a0 1))))))) = true := decide_eq_true c12
                  by_cases c13 : (wrap64 (2 + (wrap64 ((wrap64 (256 * (wrap64 (bt a0 0)))) + (wrap64 (bt a0 1)))))) ≤ (a0.size : Int)
                  · rw [if_pos c13] at H
                    have c13b0 := eq_true c13
                    have c13b1 : decide ((wrap64 (2 + (wrap64 ((wrap64 (256 * (wrap64 (bt a0 0)))) + (wrap64 (bt a0 1)))))) ≤ (a0.size : Int)) = true := decide_eq_true c13
                    simp only [Option.some.injEq, Prod.mk.injEq] at H
                    obtain ⟨rfl, rfl⟩ := H
                    go_wp2
                    repeat (go_quiet (fail); try go_wp2)
                    go_ret2
                    exact ⟨by first | rfl | (simp; done) | (simp [*]; done), by repeat (first | exact Drawn0.refl _ | apply Drawn0.step)⟩
                  · rw [if_neg c13] at H
                    exact absurd H (by simp)
                · rw [if_neg c12] at H
                  exact absurd H (by simp)
      · rw [if_neg c5] at H
        exact absurd H (by simp)
    · rw [if_neg c3] at H
      exact absurd H (by simp)
  · rw [if_neg c2] at H
    have c2b0 : ((a0.size : Int) == 200) = false := beq_eq_false_iff_ne.mpr c2
    have c2b1 : ((a0.size : Int) != 200) = true := bne_iff_ne.mpr c2
    simp only [Option.some.injEq, Prod.mk.injEq] at H
    obtain ⟨rfl, rfl⟩ := H
    go_enter Try.func14, Try.ntmps14
    go_wp2
    repeat (go_quiet (fail); try go_wp2)
    go_ret2
    exact ⟨by first | rfl | (simp; done) | (simp [*]; done), by repeat (first | exact Drawn0.refl _ | apply Drawn0.step)⟩

/-! ### sphragislaw05_PadUnpads: function 4 -/
def sphragislaw05_PadUnpads.f (k : Nat) (a0 : ByteArray) : Option (Bool) := (sphragislaw05_shown.f k).bind fun t117 => ((pad_Unpad.f k a0).bind fun bt118 => ((sphragisref05_Unpad.f k a0).bind fun bt120 => (if t117 = true then (if bt118.1.toList = bt120.1.toList then (some (bt118.2 == bt120.2)) else (none)) else (none))))
theorem sphragislaw05_PadUnpads.mono : ∀ a0 k, LeO (sphragislaw05_PadUnpads.f k a0) (sphragislaw05_PadUnpads.f (k + 1) a0) := by
  intro a0 k
  unfold sphragislaw05_PadUnpads.f
  repeat' first
      | (with_reducible exact pad_Unpad.mono _ _)
      | (with_reducible exact sphragislaw05_shown.mono _)
      | (with_reducible exact sphragisref05_Unpad.mono _ _)
      | (with_reducible exact LeO.refl _)
      | (with_reducible exact LeO.none _)
      | (with_reducible refine LeO.ite ?_ ?_)
      | (with_reducible refine LeO.bind ?_ (fun _ => ?_))
      | exact pad_Unpad.mono _ _
      | exact sphragislaw05_shown.mono _
      | exact sphragisref05_Unpad.mono _ _
      | exact LeO.none _
      | refine LeO.ite ?_ ?_
      | refine LeO.bind ?_ (fun _ => ?_)
set_option maxHeartbeats 8000000 in
set_option maxRecDepth 100000 in
theorem sphragislaw05_PadUnpads.calls (k : Nat) (a0 : ByteArray) (r : Bool) (w : World) (h : sphragislaw05_PadUnpads.f k a0 = some r) :
    Calls Try.prog 4 #[.string a0] w fun e w' => e = .returned (.bool r) ∧ Below w.heap.size w w' := by
  have HB := Aside0.mk (Below.refl w.heap.size w)
  have H : ((sphragislaw05_shown.f k).bind fun t117 => ((pad_Unpad.f k a0).bind fun bt118 => ((sphragisref05_Unpad.f k a0).bind fun bt120 => (if t117 = true then (if bt118.1.toList = bt120.1.toList then (some (bt118.2 == bt120.2)) else (none)) else (none))))) = some r := h
  clear h
  replace H := Option.bind_eq_some_iff.mp H
  obtain ⟨t117, A20, H⟩ := H
  replace H : ((pad_Unpad.f k a0).bind fun bt118 => ((sphragisref05_Unpad.f k a0).bind fun bt120 => (if t117 = true then (if bt118.1.toList = bt120.1.toList then (some (bt118.2 == bt120.2)) else (none)) else (none)))) = some r := H
  have A2 := Aside0.mk A20
  clear A20
  replace H := Option.bind_eq_some_iff.mp H
  obtain ⟨⟨t118, t119⟩, A30, H⟩ := H
  replace H : ((sphragisref05_Unpad.f k a0).bind fun bt120 => (if t117 = true then (if t118.toList = bt120.1.toList then (some (t119 == bt120.2)) else (none)) else (none))) = some r := H
  have A3 := Aside0.mk A30
  clear A30
  replace H := Option.bind_eq_some_iff.mp H
  obtain ⟨⟨t120, t121⟩, A40, H⟩ := H
  replace H : (if t117 = true then (if t118.toList = t120.toList then (some (t119 == t121)) else (none)) else (none)) = some r := H
  have A4 := Aside0.mk A40
  clear A40
  by_cases c5 : t117 = true
  · subst c5
    have H1 : (if t118.toList = t120.toList then (some (t119 == t121)) else (none)) = some r := by rw [if_pos rfl] at H; exact H
    clear H
    have H := H1
    clear H1
    by_cases c6 : t118.toList = t120.toList
    · rw [if_pos c6] at H
      have c6b0 : (t118.toList == t120.toList) = true := beq_iff_eq.mpr c6
      have c6b1 : (t118.toList != t120.toList) = false := bne_eq_false_iff_eq.mpr c6
      clear c6
      obtain rfl := Option.some.inj H
      go_enter Try.func4, Try.ntmps4
      go_wp2_with (first | ((with_reducible refine gate_callee (f := 10) rfl ?_); refine goesL_ (some 8) rfl rfl Try.func10 (by kernel_rfl) rfl #[] rfl (by (try simp only [List.map_toArray, List.map_cons, List.map_nil]); first | done | rfl | (simp only [List.length_drop, List.length_take]; rfl)) ?_; (with_reducible refine (sphragislaw05_shown.calls k  true _ A2.out).mono ?_); rintro e w7 ⟨rfl, hb⟩; refine ⟨_, rfl, ?_⟩; have n0_ := Aside0.mk (below_step (by repeat (first | (with_reducible first | exact HB.out | apply below_alloc | apply pw_below_drewN | apply below_drew1) | exact HB.out)) hb); clear HB; have HB := n0_; clear n0_; (try clear hb); (try clear hb2); (try clear hk); (try clear hi)) | ((with_reducible refine gate_callee (f := 13) rfl ?_); refine goesL_ (some 11) rfl rfl Try.func13 (by kernel_rfl) rfl #[.string a0] rfl (by (try simp only [List.map_toArray, List.map_cons, List.map_nil]); first | done | rfl | (simp only [List.length_drop, List.length_take]; rfl)) ?_; (with_reducible refine (pad_Unpad.calls k a0 t118 t119 _ A3.out).mono ?_); rintro e w' ⟨rfl, ⟨nd, rfl⟩⟩; refine ⟨_, rfl, ?_⟩) | ((with_reducible refine gate_callee (f := 14) rfl ?_); refine goesL_ (some 16) rfl rfl Try.func14 (by kernel_rfl) rfl #[.string a0] rfl (by (try simp only [List.map_toArray, List.map_cons, List.map_nil]); first | done | rfl | (simp only [List.length_drop, List.length_take]; rfl)) ?_; (with_reducible refine (sphragisref05_Unpad.calls k a0 t120 t121 _ A4.out).mono ?_); rintro e w' ⟨rfl, ⟨nd, rfl⟩⟩; refine ⟨_, rfl, ?_⟩))
      go_ret
      exact ⟨by first | rfl | (simp [errW_none, errW_some] <;> rfl) | (simp [*, errW_none, errW_some] <;> rfl), by repeat (first | (with_reducible first | exact HB.out | apply below_alloc | apply pw_below_drewN | apply below_drew1) | exact HB.out)⟩
    · rw [if_neg c6] at H
      exact absurd H (by simp)
  · replace c5 := Bool.eq_false_iff.mpr c5
    subst c5
    have H1 : (none) = some r := by rw [if_neg (show ¬ (false = true) by decide)] at H; exact H
    clear H
    have H := H1
    clear H1
    exact absurd H (by simp)

/-- THE ONE PURE STATEMENT of sphragislaw05_PadUnpads: yours. -/
def sphragislaw05_PadUnpads.Pure : Prop := ∀ (a0 : ByteArray), a0.size ≤ 140737488351232 → ∃ k, sphragislaw05_PadUnpads.f k a0 = some true
theorem sphragislaw05_PadUnpads.walk (P : sphragislaw05_PadUnpads.Pure) (a0 : ByteArray) (w : World) (w0 : a0.size ≤ 140737488351232) :
    Calls Try.prog 4 #[.string a0] w fun e w' => e = .returned (.bool true) ∧ Below w.heap.size w w' := by
  obtain ⟨k, h⟩ := P a0 w0
  refine (sphragislaw05_PadUnpads.calls k a0 true w h).mono ?_
  rintro e w' ⟨rfl, hd⟩
  exact ⟨rfl, hd⟩

/-! ### sphragislaw05_PadBack: function 5 -/
def sphragislaw05_PadBack.f (k : Nat) (a0 : ByteArray) (a1 : ByteArray) : Option (Bool) := (sphragislaw05_shown.f k).bind fun t122 => ((pad_Pad.f a0).bind fun bt123 => ((pad_Unpad.f k bt123.1).bind fun bt125 => ((pad_Unpad.f k a1).bind fun bt127 => ((pad_Pad.f bt127.1).bind fun bt129 => (if bt123.2 = 0 then (if t122 = true then (if bt125.2 = 0 then (if bt125.1.toList = a0.toList then (if (bt123.1.size : Int) = 200 then (if bt127.2 = 0 then (if bt129.2 = 0 then (some (bt129.1.toList == a1.toList)) else (none)) else (if bt127.1.toList = ([] : List UInt8) then (some true) else (none))) else (none)) else (none)) else (none)) else (none)) else (if t122 = true then (if (a0.size : Int) > 198 then (some (bt123.1.toList == ([] : List UInt8))) else (none)) else (none)))))))
theorem sphragislaw05_PadBack.mono : ∀ a0 a1 k, LeO (sphragislaw05_PadBack.f k a0 a1) (sphragislaw05_PadBack.f (k + 1) a0 a1) := by
  intro a0 a1 k
  unfold sphragislaw05_PadBack.f
  repeat' first
      | (with_reducible exact pad_Unpad.mono _ _)
      | (with_reducible exact sphragislaw05_shown.mono _)
      | (with_reducible exact LeO.refl _)
      | (with_reducible exact LeO.none _)
      | (with_reducible refine LeO.ite ?_ ?_)
      | (with_reducible refine LeO.bind ?_ (fun _ => ?_))
      | exact pad_Unpad.mono _ _
      | exact sphragislaw05_shown.mono _
      | exact LeO.none _
      | refine LeO.ite ?_ ?_
      | refine LeO.bind ?_ (fun _ => ?_)
set_option maxHeartbeats 8000000 in
set_option maxRecDepth 100000 in
theorem sphragislaw05_PadBack.calls (k : Nat) (a0 : ByteArray) (a1 : ByteArray) (r : Bool) (w : World) (h : sphragislaw05_PadBack.f k a0 a1 = some r) :
    Calls Try.prog 5 #[.string a0, .string a1] w fun e w' => e = .returned (.bool r) ∧ Below w.heap.size w w' := by
  have HB := Aside0.mk (Below.refl w.heap.size w)
  have H : ((sphragislaw05_shown.f k).bind fun t122 => ((pad_Pad.f a0).bind fun bt123 => ((pad_Unpad.f k bt123.1).bind fun bt125 => ((pad_Unpad.f k a1).bind fun bt127 => ((pad_Pad.f bt127.1).bind fun bt129 => (if bt123.2 = 0 then (if t122 = true then (if bt125.2 = 0 then (if bt125.1.toList = a0.toList then (if (bt123.1.size : Int) = 200 then (if bt127.2 = 0 then (if bt129.2 = 0 then (some (bt129.1.toList == a1.toList)) else (none)) else (if bt127.1.toList = ([] : List UInt8) then (some true) else (none))) else (none)) else (none)) else (none)) else (none)) else (if t122 = true then (if (a0.size : Int) > 198 then (some (bt123.1.toList == ([] : List UInt8))) else (none)) else (none)))))))) = some r := h
  clear h
  replace H := Option.bind_eq_some_iff.mp H
  obtain ⟨t122, A30, H⟩ := H
  replace H : ((pad_Pad.f a0).bind fun bt123 => ((pad_Unpad.f k bt123.1).bind fun bt125 => ((pad_Unpad.f k a1).bind fun bt127 => ((pad_Pad.f bt127.1).bind fun bt129 => (if bt123.2 = 0 then (if t122 = true then (if bt125.2 = 0 then (if bt125.1.toList = a0.toList then (if (bt123.1.size : Int) = 200 then (if bt127.2 = 0 then (if bt129.2 = 0 then (some (bt129.1.toList == a1.toList)) else (none)) else (if bt127.1.toList = ([] : List UInt8) then (some true) else (none))) else (none)) else (none)) else (none)) else (none)) else (if t122 = true then (if (a0.size : Int) > 198 then (some (bt123.1.toList == ([] : List UInt8))) else (none)) else (none))))))) = some r := H
  have A3 := Aside0.mk A30
  clear A30
  replace H := Option.bind_eq_some_iff.mp H
  obtain ⟨⟨t123, t124⟩, A40, H⟩ := H
  replace H : ((pad_Unpad.f k t123).bind fun bt125 => ((pad_Unpad.f k a1).bind fun bt127 => ((pad_Pad.f bt127.1).bind fun bt129 => (if t124 = 0 then (if t122 = true then (if bt125.2 = 0 then (if bt125.1.toList = a0.toList then (if (t123.size : Int) = 200 then (if bt127.2 = 0 then (if bt129.2 = 0 then (some (bt129.1.toList == a1.toList)) else (none)) else (if bt127.1.toList = ([] : List UInt8) then (some true) else (none))) else (none)) else (none)) else (none)) else (none)) else (if t122 = true then (if (a0.size : Int) > 198 then (some (t123.toList == ([] : List UInt8))) else (none)) else (none)))))) = some r := H
  have A4 := Aside0.mk A40
  clear A40
  replace H := Option.bind_eq_some_iff.mp H
  obtain ⟨⟨t125, t126⟩, A50, H⟩ := H
  replace H : ((pad_Unpad.f k a1).bind fun bt127 => ((pad_Pad.f bt127.1).bind fun bt129 => (if t124 = 0 then (if t122 = true then (if t126 = 0 then (if t125.toList = a0.toList then (if (t123.size : Int) = 200 then (if bt127.2 = 0 then (if bt129.2 = 0 then (some (bt129.1.toList == a1.toList)) else (none)) else (if bt127.1.toList = ([] : List UInt8) then (some true) else (none))) else (none)) else (none)) else (none)) else (none)) else (if t122 = true then (if (a0.size : Int) > 198 then (some (t123.toList == ([] : List UInt8))) else (none)) else (none))))) = some r := H
  have A5 := Aside0.mk A50
  clear A50
  replace H := Option.bind_eq_some_iff.mp H
  obtain ⟨⟨t127, t128⟩, A60, H⟩ := H
  replace H : ((pad_Pad.f t127).bind fun bt129 => (if t124 = 0 then (if t122 = true then (if t126 = 0 then (if t125.toList = a0.toList then (if (t123.size : Int) = 200 then (if t128 = 0 then (if bt129.2 = 0 then (some (bt129.1.toList == a1.toList)) else (none)) else (if t127.toList = ([] : List UInt8) then (some true) else (none))) else (none)) else (none)) else (none)) else (none)) else (if t122 = true then (if (a0.size : Int) > 198 then (some (t123.toList == ([] : List UInt8))) else (none)) else (none)))) = some r := H
  have A6 := Aside0.mk A60
  clear A60
  replace H := Option.bind_eq_some_iff.mp H
  obtain ⟨⟨t129, t130⟩, A70, H⟩ := H
  replace H : (if t124 = 0 then (if t122 = true then (if t126 = 0 then (if t125.toList = a0.toList then (if (t123.size : Int) = 200 then (if t128 = 0 then (if t130 = 0 then (some (t129.toList == a1.toList)) else (none)) else (if t127.toList = ([] : List UInt8) then (some true) else (none))) else (none)) else (none)) else (none)) else (none)) else (if t122 = true then (if (a0.size : Int) > 198 then (some (t123.toList == ([] : List UInt8))) else (none)) else (none))) = some r := H
  have A7 := Aside0.mk A70
  clear A70
  by_cases c8 : t124 = 0
  · rw [if_pos c8] at H
    have c8b0 : (t124 == 0) = true := beq_iff_eq.mpr c8
    have c8b1 : (t124 != 0) = false := bne_eq_false_iff_eq.mpr c8
    clear c8
    by_cases c9 : t122 = true
    · subst c9
      have H1 : (if t126 = 0 then (if t125.toList = a0.toList then (if (t123.size : Int) = 200 then (if t128 = 0 then (if t130 = 0 then (some (t129.toList == a1.toList)) else (none)) else (if t127.toList = ([] : List UInt8) then (some true) else (none))) else (none)) else (none)) else (none)) = some r := by rw [if_pos rfl] at H; exact H
      clear H
      have H := H1
      clear H1
      by_cases c10 : t126 = 0
      · rw [if_pos c10] at H
        have c10b0 : (t126 == 0) = true := beq_iff_eq.mpr c10
        have c10b1 : (t126 != 0) = false := bne_eq_false_iff_eq.mpr c10
        clear c10
        by_cases c11 : t125.toList = a0.toList
        · rw [if_pos c11] at H
          have c11b0 : (t125.toList == a0.toList) = true := beq_iff_eq.mpr c11
          have c11b1 : (t125.toList != a0.toList) = false := bne_eq_false_iff_eq.mpr c11
          clear c11
          by_cases c12 : (t123.size : Int) = 200
          · rw [if_pos c12] at H
            have c12b0 : ((t123.size : Int) == 200) = true := beq_iff_eq.mpr c12
            have c12b1 : ((t123.size : Int) != 200) = false := bne_eq_false_iff_eq.mpr c12
            clear c12
            by_cases c13 : t128 = 0
            · rw [if_pos c13] at H
              have c13b0 : (t128 == 0) = true := beq_iff_eq.mpr c13
              have c13b1 : (t128 != 0) = false := bne_eq_false_iff_eq.mpr c13
              clear c13
              by_cases c14 : t130 = 0
              · rw [if_pos c14] at H
                have c14b0 : (t130 == 0) = true := beq_iff_eq.mpr c14
                have c14b1 : (t130 != 0) = false := bne_eq_false_iff_eq.mpr c14
                clear c14
                obtain rfl := Option.some.inj H
                go_enter Try.func5, Try.ntmps5
                go_wp2_with (first | ((with_reducible refine gate_callee (f := 10) rfl ?_); refine goesL_ (some 14) rfl rfl Try.func10 (by kernel_rfl) rfl #[] rfl (by (try simp only [List.map_toArray, List.map_cons, List.map_nil]); first | done | rfl | (simp only [List.length_drop, List.length_take]; rfl)) ?_; (with_reducible refine (sphragislaw05_shown.calls k  true _ A3.out).mono ?_); rintro e w15 ⟨rfl, hb⟩; refine ⟨_, rfl, ?_⟩; have n0_ := Aside0.mk (below_step (by repeat (first | (with_reducible first | exact HB.out | apply below_alloc | apply pw_below_drewN | apply below_drew1) | exact HB.out)) hb); clear HB; have HB := n0_; clear n0_; (try clear hb); (try clear hb2); (try clear hk); (try clear hi)) | ((with_reducible refine gate_callee (f := 11) rfl ?_); refine goesL_ (some 17) rfl rfl Try.func11 (by kernel_rfl) rfl #[.string a0] rfl (by (try simp only [List.map_toArray, List.map_cons, List.map_nil]); first | done | rfl | (simp only [List.length_drop, List.length_take]; rfl)) ?_; (with_reducible refine (pad_Pad.calls a0 t123 t124 _ A4.out).mono ?_); rintro e w16 ⟨rfl, hb⟩; refine ⟨_, rfl, ?_⟩; have n0_ := Aside0.mk (below_step (by repeat (first | (with_reducible first | exact HB.out | apply below_alloc | apply pw_below_drewN | apply below_drew1) | exact HB.out)) hb); clear HB; have HB := n0_; clear n0_; (try clear hb); (try clear hb2); (try clear hk); (try clear hi)) | ((with_reducible refine gate_callee (f := 13) rfl ?_); refine goesL_ (some 22) rfl rfl Try.func13 (by kernel_rfl) rfl #[.string t123] rfl (by (try simp only [List.map_toArray, List.map_cons, List.map_nil]); first | done | rfl | (simp only [List.length_drop, List.length_take]; rfl)) ?_; (with_reducible refine (pad_Unpad.calls k t123 t125 t126 _ A5.out).mono ?_); rintro e w' ⟨rfl, ⟨nd, rfl⟩⟩; refine ⟨_, rfl, ?_⟩) | ((with_reducible refine gate_callee (f := 13) rfl ?_); refine goesL_ (some 27) rfl rfl Try.func13 (by kernel_rfl) rfl #[.string a1] rfl (by (try simp only [List.map_toArray, List.map_cons, List.map_nil]); first | done | rfl | (simp only [List.length_drop, List.length_take]; rfl)) ?_; (with_reducible refine (pad_Unpad.calls k a1 t127 t128 _ A6.out).mono ?_); rintro e w' ⟨rfl, ⟨nd, rfl⟩⟩; refine ⟨_, rfl, ?_⟩) | ((with_reducible refine gate_callee (f := 11) rfl ?_); refine goesL_ (some 32) rfl rfl Try.func11 (by kernel_rfl) rfl #[.string t127] rfl (by (try simp only [List.map_toArray, List.map_cons, List.map_nil]); first | done | rfl | (simp only [List.length_drop, List.length_take]; rfl)) ?_; (with_reducible refine (pad_Pad.calls t127 t129 t130 _ A7.out).mono ?_); rintro e w17 ⟨rfl, hb⟩; refine ⟨_, rfl, ?_⟩; have n0_ := Aside0.mk (below_step (by repeat (first | (with_reducible first | exact HB.out | apply below_alloc | apply pw_below_drewN | apply below_drew1) | exact HB.out)) hb); clear HB; have HB := n0_; clear n0_; (try clear hb); (try clear hb2); (try clear hk); (try clear hi)))
                go_ret
                exact ⟨by first | rfl | (simp [errW_none, errW_some] <;> rfl) | (simp [*, errW_none, errW_some] <;> rfl), by repeat (first | (with_reducible first | exact HB.out | apply below_alloc | apply pw_below_drewN | apply below_drew1) | exact HB.out)⟩
              · rw [if_neg c14] at H
                exact absurd H (by simp)
            · rw [if_neg c13] at H
              have c13b0 : (t128 == 0) = false := beq_eq_false_iff_ne.mpr c13
              have c13b1 : (t128 != 0) = true := bne_iff_ne.mpr c13
              by_cases c18 : t127.toList = ([] : List UInt8)
              · rw [if_pos c18] at H
                have c18b0 : (t127.toList == ([] : List UInt8)) = true := beq_iff_eq.mpr c18
                have c18b1 : (t127.toList != ([] : List UInt8)) = false := bne_eq_false_iff_eq.mpr c18
                clear c18
                obtain rfl := Option.some.inj H
                go_enter Try.func5, Try.ntmps5
                go_wp2_with (first | ((with_reducible refine gate_callee (f := 10) rfl ?_); refine goesL_ (some 14) rfl rfl Try.func10 (by kernel_rfl) rfl #[] rfl (by (try simp only [List.map_toArray, List.map_cons, List.map_nil]); first | done | rfl | (simp only [List.length_drop, List.length_take]; rfl)) ?_; (with_reducible refine (sphragislaw05_shown.calls k  true _ A3.out).mono ?_); rintro e w19 ⟨rfl, hb⟩; refine ⟨_, rfl, ?_⟩; have n0_ := Aside0.mk (below_step (by repeat (first | (with_reducible first | exact HB.out | apply below_alloc | apply pw_below_drewN | apply below_drew1) | exact HB.out)) hb); clear HB; have HB := n0_; clear n0_; (try clear hb); (try clear hb2); (try clear hk); (try clear hi)) | ((with_reducible refine gate_callee (f := 11) rfl ?_); refine goesL_ (some 17) rfl rfl Try.func11 (by kernel_rfl) rfl #[.string a0] rfl (by (try simp only [List.map_toArray, List.map_cons, List.map_nil]); first | done | rfl | (simp only [List.length_drop, List.length_take]; rfl)) ?_; (with_reducible refine (pad_Pad.calls a0 t123 t124 _ A4.out).mono ?_); rintro e w20 ⟨rfl, hb⟩; refine ⟨_, rfl, ?_⟩; have n0_ := Aside0.mk (below_step (by repeat (first | (with_reducible first | exact HB.out | apply below_alloc | apply pw_below_drewN | apply below_drew1) | exact HB.out)) hb); clear HB; have HB := n0_; clear n0_; (try clear hb); (try clear hb2); (try clear hk); (try clear hi)) | ((with_reducible refine gate_callee (f := 13) rfl ?_); refine goesL_ (some 22) rfl rfl Try.func13 (by kernel_rfl) rfl #[.string t123] rfl (by (try simp only [List.map_toArray, List.map_cons, List.map_nil]); first | done | rfl | (simp only [List.length_drop, List.length_take]; rfl)) ?_; (with_reducible refine (pad_Unpad.calls k t123 t125 t126 _ A5.out).mono ?_); rintro e w' ⟨rfl, ⟨nd, rfl⟩⟩; refine ⟨_, rfl, ?_⟩) | ((with_reducible refine gate_callee (f := 13) rfl ?_); refine goesL_ (some 27) rfl rfl Try.func13 (by kernel_rfl) rfl #[.string a1] rfl (by (try simp only [List.map_toArray, List.map_cons, List.map_nil]); first | done | rfl | (simp only [List.length_drop, List.length_take]; rfl)) ?_; (with_reducible refine (pad_Unpad.calls k a1 t127 t128 _ A6.out).mono ?_); rintro e w' ⟨rfl, ⟨nd, rfl⟩⟩; refine ⟨_, rfl, ?_⟩) | ((with_reducible refine gate_callee (f := 11) rfl ?_); refine goesL_ (some 32) rfl rfl Try.func11 (by kernel_rfl) rfl #[.string t127] rfl (by (try simp only [List.map_toArray, List.map_cons, List.map_nil]); first | done | rfl | (simp only [List.length_drop, List.length_take]; rfl)) ?_; (with_reducible refine (pad_Pad.calls t127 t129 t130 _ A7.out).mono ?_); rintro e w21 ⟨rfl, hb⟩; refine ⟨_, rfl, ?_⟩; have n0_ := Aside0.mk (below_step (by repeat (first | (with_reducible first | exact HB.out | apply below_alloc | apply pw_below_drewN | apply below_drew1) | exact HB.out)) hb); clear HB; have HB := n0_; clear n0_; (try clear hb); (try clear hb2); (try clear hk); (try clear hi)))
                go_ret
                exact ⟨by first | rfl | (simp [errW_none, errW_some] <;> rfl) | (simp [*, errW_none, errW_some] <;> rfl), by repeat (first | (with_reducible first | exact HB.out | apply below_alloc | apply pw_below_drewN | apply below_drew1) | exact HB.out)⟩
              · rw [if_neg c18] at H
                exact absurd H (by simp)
          · rw [if_neg c12] at H
            exact absurd H (by simp)
        · rw [if_neg c11] at H
          exact absurd H (by simp)
      · rw [if_neg c10] at H
        exact absurd H (by simp)
    · replace c9 := Bool.eq_false_iff.mpr c9
      subst c9
      have H1 : (none) = some r := by rw [if_neg (show ¬ (false = true) by decide)] at H; exact H
      clear H
      have H := H1
      clear H1
      exact absurd H (by simp)
  · rw [if_neg c8] at H
    have c8b0 : (t124 == 0) = false := beq_eq_false_iff_ne.mpr c8
    have c8b1 : (t124 != 0) = true := bne_iff_ne.mpr c8
    by_cases c22 : t122 = true
    · subst c22
      have H1 : (if (a0.size : Int) > 198 then (some (t123.toList == ([] : List UInt8))) else (none)) = some r := by rw [if_pos rfl] at H; exact H
      clear H
      have H := H1
      clear H1
      by_cases c23 : (a0.size : Int) > 198
      · rw [if_pos c23] at H
        have c23b0 : decide (198 < (a0.size : Int)) = true := decide_eq_true c23
        have c23b1 : decide (198 < a0.size) = true := decide_eq_true (by omega)
        clear c23
        obtain rfl := Option.some.inj H
        go_enter Try.func5, Try.ntmps5
        go_wp2_with (first | ((with_reducible refine gate_callee (f := 10) rfl ?_); refine goesL_ (some 14) rfl rfl Try.func10 (by kernel_rfl) rfl #[] rfl (by (try simp only [List.map_toArray, List.map_cons, List.map_nil]); first | done | rfl | (simp only [List.length_drop, List.length_take]; rfl)) ?_; (with_reducible refine (sphragislaw05_shown.calls k  true _ A3.out).mono ?_); rintro e w24 ⟨rfl, hb⟩; refine ⟨_, rfl, ?_⟩; have n0_ := Aside0.mk (below_step (by repeat (first | (with_reducible first | exact HB.out | apply below_alloc | apply pw_below_drewN | apply below_drew1) | exact HB.out)) hb); clear HB; have HB := n0_; clear n0_; (try clear hb); (try clear hb2); (try clear hk); (try clear hi)) | ((with_reducible refine gate_callee (f := 11) rfl ?_); refine goesL_ (some 17) rfl rfl Try.func11 (by kernel_rfl) rfl #[.string a0] rfl (by (try simp only [List.map_toArray, List.map_cons, List.map_nil]); first | done | rfl | (simp only [List.length_drop, List.length_take]; rfl)) ?_; (with_reducible refine (pad_Pad.calls a0 t123 t124 _ A4.out).mono ?_); rintro e w25 ⟨rfl, hb⟩; refine ⟨_, rfl, ?_⟩; have n0_ := Aside0.mk (below_step (by repeat (first | (with_reducible first | exact HB.out | apply below_alloc | apply pw_below_drewN | apply below_drew1) | exact HB.out)) hb); clear HB; have HB := n0_; clear n0_; (try clear hb); (try clear hb2); (try clear hk); (try clear hi)) | ((with_reducible refine gate_callee (f := 13) rfl ?_); refine goesL_ (some 22) rfl rfl Try.func13 (by kernel_rfl) rfl #[.string t123] rfl (by (try simp only [List.map_toArray, List.map_cons, List.map_nil]); first | done | rfl | (simp only [List.length_drop, List.length_take]; rfl)) ?_; (with_reducible refine (pad_Unpad.calls k t123 t125 t126 _ A5.out).mono ?_); rintro e w' ⟨rfl, ⟨nd, rfl⟩⟩; refine ⟨_, rfl, ?_⟩) | ((with_reducible refine gate_callee (f := 13) rfl ?_); refine goesL_ (some 27) rfl rfl Try.func13 (by kernel_rfl) rfl #[.string a1] rfl (by (try simp only [List.map_toArray, List.map_cons, List.map_nil]); first | done | rfl | (simp only [List.length_drop, List.length_take]; rfl)) ?_; (with_reducible refine (pad_Unpad.calls k a1 t127 t128 _ A6.out).mono ?_); rintro e w' ⟨rfl, ⟨nd, rfl⟩⟩; refine ⟨_, rfl, ?_⟩) | ((with_reducible refine gate_callee (f := 11) rfl ?_); refine goesL_ (some 32) rfl rfl Try.func11 (by kernel_rfl) rfl #[.string t127] rfl (by (try simp only [List.map_toArray, List.map_cons, List.map_nil]); first | done | rfl | (simp only [List.length_drop, List.length_take]; rfl)) ?_; (with_reducible refine (pad_Pad.calls t127 t129 t130 _ A7.out).mono ?_); rintro e w26 ⟨rfl, hb⟩; refine ⟨_, rfl, ?_⟩; have n0_ := Aside0.mk (below_step (by repeat (first | (with_reducible first | exact HB.out | apply below_alloc | apply pw_below_drewN | apply below_drew1) | exact HB.out)) hb); clear HB; have HB := n0_; clear n0_; (try clear hb); (try clear hb2); (try clear hk); (try clear hi)))
        go_ret
        exact ⟨by first | rfl | (simp [errW_none, errW_some] <;> rfl) | (simp [*, errW_none, errW_some] <;> rfl), by repeat (first | (with_reducible first | exact HB.out | apply below_alloc | apply pw_below_drewN | apply below_drew1) | exact HB.out)⟩
      · rw [if_neg c23] at H
        exact absurd H (by simp)
    · replace c22 := Bool.eq_false_iff.mpr c22
      subst c22
      have H1 : (none) = some r := by rw [if_neg (show ¬ (false = true) by decide)] at H; exact H
      clear H
      have H := H1
      clear H1
      exact absurd H (by simp)

/-- THE ONE PURE STATEMENT of sphragislaw05_PadBack: yours. -/
def sphragislaw05_PadBack.Pure : Prop := ∀ (a0 : ByteArray) (a1 : ByteArray), a0.size ≤ 140737488351232 → a1.size ≤ 140737488351232 → ∃ k, sphragislaw05_PadBack.f k a0 a1 = some true
theorem sphragislaw05_PadBack.walk (P : sphragislaw05_PadBack.Pure) (a0 : ByteArray) (a1 : ByteArray) (w : World) (w0 : a0.size ≤ 140737488351232) (w1 : a1.size ≤ 140737488351232) :
    Calls Try.prog 5 #[.string a0, .string a1] w fun e w' => e = .returned (.bool true) ∧ Below w.heap.size w w' := by
  obtain ⟨k, h⟩ := P a0 a1 w0 w1
  refine (sphragislaw05_PadBack.calls k a0 a1 true w h).mono ?_
  rintro e w' ⟨rfl, hd⟩
  exact ⟨rfl, hd⟩

end Go.Proofs.Ytnadbgcllejleaa.H
