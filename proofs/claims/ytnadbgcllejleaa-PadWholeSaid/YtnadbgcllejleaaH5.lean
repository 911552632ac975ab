-- Written by a program of this session (hyb.py), which drives the print over functions some of which are proved by hand.
import Derived.Test.YtnadbgcllejleaaH0
import Derived.Test.YtnadbgcllejleaaH1
import Derived.Test.YtnadbgcllejleaaH4
import Derived.Test.YtnadbgcllejleaaG1
namespace Go.Proofs.Ytnadbgcllejleaa.H
open Go.RowKit Go.Proofs.YtnadbgcllejleaaW.PrintWords Go.Proofs.YtnadbgcllejleaaW.PrintLast Go.Proofs.YtnadbgcllejleaaW.PrintMore
attribute [local go_sem] max2_int min2_int max_two min_two max_three min_three max_four min_four   -- for this text's walks alone
set_option linter.unusedVariables false
set_option linter.unusedSimpArgs false

/-! ### sphragisref05_Cut: function 17 -/
def sphragisref05_Cut.l0 : Nat → ByteArray → List ByteArray → Int → Option (List ByteArray)
  | 0, _, _, _ => none
  | k + 1, x0, x3, x4 => if x4 < (x0.size : Int) then (if 0 ≤ x4 then (if x4 ≤ (mn (x0.size : Int) (wrap64 (x4 + 198))) then (if (mn (x0.size : Int) (wrap64 (x4 + 198))) ≤ (x0.size : Int) then (if x3.length < 8796093022208 then (sphragisref05_Cut.l0 k x0 (x3 ++ [x0.extract (x4 : Int).toNat ((mn (x0.size : Int) (wrap64 (x4 + 198))) : Int).toNat]) (wrap64 (x4 + 198))) else (none)) else (none)) else (none)) else (none)) else (some x3)
def sphragisref05_Cut.f (k : Nat) (a0 : ByteArray) : Option (List ByteArray) := sphragisref05_Cut.l0 k a0 ([] : List ByteArray) 0
theorem sphragisref05_Cut.mono_l : ∀ k, (∀ y0 y1 y2, LeO (sphragisref05_Cut.l0 k y0 y1 y2) (sphragisref05_Cut.l0 (k + 1) y0 y1 y2))
  | 0 => fun _ _ _ r h => by simp [sphragisref05_Cut.l0] at h
  | k + 1 => by
    have ih0 := sphragisref05_Cut.mono_l k
    · intro y0 y1 y2
      unfold sphragisref05_Cut.l0
      repeat' first
      | (with_reducible exact ih0 _ _ _)
      | (with_reducible exact LeO.refl _)
      | (with_reducible exact LeO.none _)
      | (with_reducible refine LeO.ite ?_ ?_)
      | (with_reducible refine LeO.bind ?_ (fun _ => ?_))
      | exact ih0 _ _ _
      | exact LeO.none _
      | refine LeO.ite ?_ ?_
      | refine LeO.bind ?_ (fun _ => ?_)
theorem sphragisref05_Cut.mono : ∀ a0 k, LeO (sphragisref05_Cut.f k a0) (sphragisref05_Cut.f (k + 1) a0) := by
  intro a0 k
  have ih0 := sphragisref05_Cut.mono_l k
  unfold sphragisref05_Cut.f
  repeat' first
      | (with_reducible exact ih0 _ _ _)
      | (with_reducible exact LeO.refl _)
      | (with_reducible exact LeO.none _)
      | (with_reducible refine LeO.ite ?_ ?_)
      | (with_reducible refine LeO.bind ?_ (fun _ => ?_))
      | exact ih0 _ _ _
      | exact LeO.none _
      | refine LeO.ite ?_ ?_
      | refine LeO.bind ?_ (fun _ => ?_)
set_option maxHeartbeats 8000000 in
set_option maxRecDepth 100000 in
theorem sphragisref05_Cut.calls (k : Nat) (a0 : ByteArray) (r : List ByteArray) (w : World) (h : sphragisref05_Cut.f k a0 = some r) :
    Calls Try.prog 17 #[.string a0] w fun e w' => ∃ v0_ : Value, e = .returned (v0_) ∧ Kd.R Kd.string 9 w' w.heap.size (fun _ => True) v0_ r ∧ Below w.heap.size w w' := by
  have HB := Aside0.mk (Below.refl w.heap.size w)
  have H : (sphragisref05_Cut.l0 k a0 ([] : List ByteArray) 0) = some r := h
  clear h
  have H' := Aside0.mk H
  clear H
  go_enter Try.func17, Try.ntmps17
  go_wp2
  go_loopg [3, 4] k (fun kq v3 v4 w' => ∃ (x3_1 : List ByteArray) (x4_1 : Int), v4 = .int .i64 x4_1 ∧ Aside0 (sphragisref05_Cut.l0 kq a0 x3_1 x4_1 = some r) ∧ Aside0 (kq ≤ k) ∧ Aside0 (Kd.R Kd.string 9 w' w.heap.size (fun _ => True) v3 x3_1) ∧ Aside0 (Below w.heap.size w w'))
  case atStart => exact ⟨(([] : List ByteArray)), (0), (by first | rfl | (simp; done) | (simp [*]; done)), H', ⟨Nat.le_refl _⟩, ⟨by first | exact Kd.R_nil _ _ _ _ _ | exact Kd.N_nil _ _ _ _ _ | exact Kd.V_nil _ _ _ _ _ | exact Kd.Q_nil _ _ _ _ _ | exact Kd.S_nil _ _ _ _ _⟩, ⟨by repeat (first | (with_reducible first | exact HB.out | apply below_alloc | apply pw_below_drewN | apply below_drew1) | exact HB.out)⟩⟩
  case round =>
    clear H'
    try clear c1
    obtain ⟨x3_1, x4_1, rfl, HA, HK1, HO_3, HB⟩ := hrel
    cases gk with
    | zero => exact absurd HA.out (by simp [sphragisref05_Cut.l0])
    | succ k1 =>
      have H := HA.out
      clear HA
      simp only [sphragisref05_Cut.l0] at H
      by_cases c2 : x4_1 < (a0.size : Int)
      · rw [if_pos c2] at H
        have c2b0 : decide (x4_1 < (a0.size : Int)) = true := decide_eq_true c2
        clear c2
        obtain ⟨ji3, hji3⟩ : ∃ j_ : Int, (mn (a0.size : Int) (wrap64 (x4_1 + 198))) = j_ := ⟨_, rfl⟩
        replace H : (if 0 ≤ x4_1 then (if x4_1 ≤ (ji3) then (if (ji3) ≤ (a0.size : Int) then (if x3_1.length < 8796093022208 then (sphragisref05_Cut.l0 k1 a0 (x3_1 ++ [a0.extract (x4_1 : Int).toNat ((ji3) : Int).toNat]) (wrap64 (x4_1 + 198))) else (none)) else (none)) else (none)) else (none)) = some r := by first | (rw [hji3] at H; exact H) | (simp only [hji3] at H ⊢; exact H)
        have hji3_ : (if (wrap64 (x4_1 + 198)) < (a0.size : Int) then (wrap64 (x4_1 + 198)) else (a0.size : Int)) = ji3 := hji3
        by_cases c4 : 0 ≤ x4_1
        · rw [if_pos c4] at H
          have c4b0 := eq_true c4
          have c4b1 : decide (0 ≤ x4_1) = true := decide_eq_true c4
          clear c4
          by_cases c5 : x4_1 ≤ (ji3)
          · rw [if_pos c5] at H
            have c5b0 := eq_true c5
            have c5b1 : decide (x4_1 ≤ (ji3)) = true := decide_eq_true c5
            clear c5
            by_cases c6 : (ji3) ≤ (a0.size : Int)
            · rw [if_pos c6] at H
              have c6b0 := eq_true c6
              have c6b1 : decide ((ji3) ≤ (a0.size : Int)) = true := decide_eq_true c6
              clear c6
              by_cases c7 : x3_1.length < 8796093022208
              · rw [if_pos c7] at H
                have LMc7 := Aside0.mk c7
                clear c7
                obtain ⟨y151, hy151⟩ : ∃ y_ : List ByteArray, y_ = (x3_1 ++ [a0.extract (x4_1 : Int).toNat ((ji3) : Int).toNat]) := ⟨_, rfl⟩
                replace H : (sphragisref05_Cut.l0 k1 a0 y151 (wrap64 (x4_1 + 198))) = some r := by first | (rw [hy151]; with_reducible exact H) | (have H2_ := (Option.bind_some _ _).symm.trans H; rw [hy151]; with_reducible exact H2_) | (have H2_ := (Option.bind_some _ _).symm.trans H; with_reducible exact H2_) | with_reducible exact H | (rw [hy151]; exact H) | exact H
                have Ny151 := Aside0.mk hy151
                clear hy151
                have H' := Aside0.mk H
                clear H
                go_wp2_with (first | ((with_reducible refine gate_builtin (b := .append) (xs := #[.tmp 11, .tmp 20]) rfl ?_); at_builtin; refine Kd.R_append Kd.string (w0 := w) w.heap.size rfl (.tmp 11) (.tmp 20) 32 9 (.string ⟨#[]⟩) 16 rfl Try.underlying32 info9 rfl (by decide) (by omega) u3 x3_1 (a0.extract (x4_1 : Int).toNat ((ji3) : Int).toNat) [.string (a0.extract (x4_1 : Int).toNat ((ji3) : Int).toNat)] (fun _ => True) (fun _ => False) rfl rfl ?aP (fun _ hk => hk.elim) ?aF ?aO ?aB ?aS ?aL ?_; (case aP => exact rfl); (case aB => exact (by repeat (first | (with_reducible first | exact HB.out | apply below_alloc | apply pw_below_drewN | apply below_drew1) | exact HB.out))); (case aF => exact (fun _ _ => trivial)); (case aO => exact (by (with_reducible repeat (first | apply Kd.R_alloc | apply Kd.R_drewN | apply Kd.R_drew)); exact HO_3.out)); (case aS => exact (below_size (by repeat (first | (with_reducible first | exact HB.out | apply below_alloc | apply pw_below_drewN | apply below_drew1) | exact HB.out)))); (case aL => have := LMc7.out; omega); intro v152 w8 ho hb hg hat; rw [← Ny151.out] at ho; have n0_ := Aside0.mk (hb); have n1_ := Aside0.mk (ho); clear HB; clear HO_3; have HB := n0_; have HO153 := n1_; clear n0_ n1_; clear ho hb hg hat))
                go_roundg k1
                case measure => have := HK1.out; omega
                case rel => exact ⟨(y151), (wrap64 (x4_1 + 198)), (by first | rfl | (simp; done) | (simp [*]; done)), H', ⟨by have := HK1.out; omega⟩, ⟨by (with_reducible repeat (first | apply Kd.R_alloc | apply Kd.R_drewN | apply Kd.R_drew)); exact HO153.out⟩, ⟨by repeat (first | (with_reducible first | exact HB.out | apply below_alloc | apply pw_below_drewN | apply below_drew1) | exact HB.out)⟩⟩
              · rw [if_neg c7] at H
                exact absurd H (by simp)
            · rw [if_neg c6] at H
              exact absurd H (by simp)
          · rw [if_neg c5] at H
            exact absurd H (by simp)
        · rw [if_neg c4] at H
          exact absurd H (by simp)
      · rw [if_neg c2] at H
        have c2b0 : decide (x4_1 < (a0.size : Int)) = false := decide_eq_false c2
        clear c2
        obtain rfl := Option.some.inj H
        go_wp2
        go_ret
        exact ⟨_, by first | rfl | (simp [errW_none, errW_some] <;> rfl) | (simp [*, errW_none, errW_some] <;> rfl), by (with_reducible repeat (first | apply Kd.R_alloc | apply Kd.R_drewN | apply Kd.R_drew)); exact HO_3.out, by repeat (first | (with_reducible first | exact HB.out | apply below_alloc | apply pw_below_drewN | apply below_drew1) | exact HB.out)⟩

/-! ### sphragislaw05_PadCuts: function 8 -/
def sphragislaw05_PadCuts.f (k : Nat) (a0 : ByteArray) : Option (Bool) := (sphragislaw05_shown.f k).bind fun t154 => (if 0 ≤ (mn (a0.size : Int) 5000) then (if (mn (a0.size : Int) 5000) ≤ (a0.size : Int) then (if t154 = true then ((pad_Cut.f (a0.extract 0 ((mn (a0.size : Int) 5000) : Int).toNat)).bind fun t155 => ((sphragisref05_Cut.f k (a0.extract 0 ((mn (a0.size : Int) 5000) : Int).toNat)).bind fun t158 => ((sphragisref05_Same.f k t155 t158).bind fun t161 => (some t161)))) else (none)) else (none)) else (none))
theorem sphragislaw05_PadCuts.mono : ∀ a0 k, LeO (sphragislaw05_PadCuts.f k a0) (sphragislaw05_PadCuts.f (k + 1) a0) := by
  intro a0 k
  unfold sphragislaw05_PadCuts.f
  repeat' first
      | (with_reducible exact sphragislaw05_shown.mono _)
      | (with_reducible exact sphragisref05_Cut.mono _ _)
      | (with_reducible exact sphragisref05_Same.mono _ _ _)
      | (with_reducible exact LeO.refl _)
      | (with_reducible exact LeO.none _)
      | (with_reducible refine LeO.ite ?_ ?_)
      | (with_reducible refine LeO.bind ?_ (fun _ => ?_))
      | exact sphragislaw05_shown.mono _
      | exact sphragisref05_Cut.mono _ _
      | exact sphragisref05_Same.mono _ _ _
      | exact LeO.none _
      | refine LeO.ite ?_ ?_
      | refine LeO.bind ?_ (fun _ => ?_)
set_option maxHeartbeats 8000000 in
set_option maxRecDepth 100000 in
theorem sphragislaw05_PadCuts.calls (k : Nat) (a0 : ByteArray) (r : Bool) (w : World) (h : sphragislaw05_PadCuts.f k a0 = some r) :
    Calls Try.prog 8 #[.string a0] w fun e w' => e = .returned (.bool r) ∧ Below w.heap.size w w' := by
  have HB := Aside0.mk (Below.refl w.heap.size w)
  have H : ((sphragislaw05_shown.f k).bind fun t154 => (if 0 ≤ (mn (a0.size : Int) 5000) then (if (mn (a0.size : Int) 5000) ≤ (a0.size : Int) then (if t154 = true then ((pad_Cut.f (a0.extract 0 ((mn (a0.size : Int) 5000) : Int).toNat)).bind fun t155 => ((sphragisref05_Cut.f k (a0.extract 0 ((mn (a0.size : Int) 5000) : Int).toNat)).bind fun t158 => ((sphragisref05_Same.f k t155 t158).bind fun t161 => (some t161)))) else (none)) else (none)) else (none))) = some r := h
  clear h
  replace H := Option.bind_eq_some_iff.mp H
  obtain ⟨t154, A20, H⟩ := H
  replace H : (if 0 ≤ (mn (a0.size : Int) 5000) then (if (mn (a0.size : Int) 5000) ≤ (a0.size : Int) then (if t154 = true then ((pad_Cut.f (a0.extract 0 ((mn (a0.size : Int) 5000) : Int).toNat)).bind fun t155 => ((sphragisref05_Cut.f k (a0.extract 0 ((mn (a0.size : Int) 5000) : Int).toNat)).bind fun t158 => ((sphragisref05_Same.f k t155 t158).bind fun t161 => (some t161)))) else (none)) else (none)) else (none)) = some r := H
  have A2 := Aside0.mk A20
  clear A20
  obtain ⟨ji3, hji3⟩ : ∃ j_ : Int, (mn (a0.size : Int) 5000) = j_ := ⟨_, rfl⟩
  replace H : (if 0 ≤ (ji3) then (if (ji3) ≤ (a0.size : Int) then (if t154 = true then ((pad_Cut.f (a0.extract 0 ((ji3) : Int).toNat)).bind fun t155 => ((sphragisref05_Cut.f k (a0.extract 0 ((ji3) : Int).toNat)).bind fun t158 => ((sphragisref05_Same.f k t155 t158).bind fun t161 => (some t161)))) else (none)) else (none)) else (none)) = some r := by first | (rw [hji3] at H; exact H) | (simp only [hji3] at H ⊢; exact H)
  (try rw [hji3] at A2)
  (try (have hji3h : ji3 ≤ 5000 := by (rw [← hji3]; unfold mn; (repeat' split) <;> omega)))
  (try (have hji3g : ji3 ≤ 64 := by omega))
  (try (have hji3l : 0 ≤ ji3 := by (rw [← hji3]; unfold mn; (repeat' split) <;> omega)))
  (try (have hji3m : 0 ≤ ji3 := by omega))
  have hji3_ : (if 5000 < (a0.size : Int) then 5000 else (a0.size : Int)) = ji3 := hji3
  by_cases c4 : 0 ≤ (ji3)
  · rw [if_pos c4] at H
    have c4b0 := eq_true c4
    have c4b1 : decide (0 ≤ (ji3)) = true := decide_eq_true c4
    clear c4
    by_cases c5 : (ji3) ≤ (a0.size : Int)
    · rw [if_pos c5] at H
      have c5b0 := eq_true c5
      have c5b1 : decide ((ji3) ≤ (a0.size : Int)) = true := decide_eq_true c5
      clear c5
      by_cases c6 : t154 = true
      · subst c6
        have H1 : ((pad_Cut.f (a0.extract 0 ((ji3) : Int).toNat)).bind fun t155 => ((sphragisref05_Cut.f k (a0.extract 0 ((ji3) : Int).toNat)).bind fun t158 => ((sphragisref05_Same.f k t155 t158).bind fun t161 => (some t161)))) = some r := by rw [if_pos rfl] at H; exact H
        clear H
        have H := H1
        clear H1
        replace H := Option.bind_eq_some_iff.mp H
        obtain ⟨t155, A70, H⟩ := H
        replace H : ((sphragisref05_Cut.f k (a0.extract 0 ((ji3) : Int).toNat)).bind fun t158 => ((sphragisref05_Same.f k t155 t158).bind fun t161 => (some t161))) = some r := H
        have A7 := Aside0.mk A70
        clear A70
        replace H := Option.bind_eq_some_iff.mp H
        obtain ⟨t158, A80, H⟩ := H
        replace H : ((sphragisref05_Same.f k t155 t158).bind fun t161 => (some t161)) = some r := H
        have A8 := Aside0.mk A80
        clear A80
        replace H := Option.bind_eq_some_iff.mp H
        obtain ⟨t161, A90, H⟩ := H
        replace H : (some t161) = some r := H
        have A9 := Aside0.mk A90
        clear A90
        obtain rfl := Option.some.inj H
        go_enter Try.func8, Try.ntmps8
        go_wp2_with (first | ((with_reducible refine gate_callee (f := 10) rfl ?_); refine goesL_ (some 4) rfl rfl Try.func10 (by kernel_rfl) rfl #[] rfl (by (try simp only [List.map_toArray, List.map_cons, List.map_nil]); first | done | rfl | (simp only [List.length_drop, List.length_take]; rfl)) ?_; (with_reducible refine (sphragislaw05_shown.calls k  true _ A2.out).mono ?_); rintro e w10 ⟨rfl, hb⟩; refine ⟨_, rfl, ?_⟩; have n0_ := Aside0.mk (below_step (by repeat (first | (with_reducible first | exact HB.out | apply below_alloc | apply pw_below_drewN | apply below_drew1) | exact HB.out)) hb); clear HB; have HB := n0_; clear n0_; (try clear hb); (try clear hb2); (try clear hk); (try clear hi)) | (go_at_call 16; (with_reducible refine (pad_Cut.calls (a0.extract 0 ((ji3) : Int).toNat) t155 _ A7.out).mono ?_); rintro e w11 ⟨v156, rfl, ho0, hb⟩; have n0_ := Aside0.mk (Kd.R_lower ho0 (below_size (by repeat (first | (with_reducible first | exact HB.out | apply below_alloc | apply pw_below_drewN | apply below_drew1) | exact HB.out)))); have n1_ := Aside0.mk (below_step (by repeat (first | (with_reducible first | exact HB.out | apply below_alloc | apply pw_below_drewN | apply below_drew1) | exact HB.out)) hb); clear HB; have HO157 := n0_; have HB := n1_; clear n0_ n1_; (try clear hb); (try clear hb2); (try clear hk); (try clear hi); (try clear ho0)) | (go_at_call 17; (with_reducible refine (sphragisref05_Cut.calls k (a0.extract 0 ((ji3) : Int).toNat) t158 _ A8.out).mono ?_); rintro e w12 ⟨v159, rfl, ho0, hb⟩; have n0_ := Aside0.mk (Kd.R_elder' (by (with_reducible repeat (first | apply Kd.R_alloc | apply Kd.R_drewN | apply Kd.R_drew)); exact HO157.out) (Kd.R_base ho0) hb); have n1_ := Aside0.mk (Kd.R_lower (Kd.R_new' ho0 (Kd.R_lt (by (with_reducible repeat (first | apply Kd.R_alloc | apply Kd.R_drewN | apply Kd.R_drew)); exact HO157.out))) (below_size (by repeat (first | (with_reducible first | exact HB.out | apply below_alloc | apply pw_below_drewN | apply below_drew1) | exact HB.out)))); have n2_ := Aside0.mk (below_step (by repeat (first | (with_reducible first | exact HB.out | apply below_alloc | apply pw_below_drewN | apply below_drew1) | exact HB.out)) hb); clear HO157; clear HB; have HO157 := n0_; have HO160 := n1_; have HB := n2_; clear n0_ n1_ n2_; (try clear hb); (try clear hb2); (try clear hk); (try clear hi); (try clear ho0); obtain ⟨Ao13, co13, eo13⟩ := Kd.R_slice HO157.out; subst eo13; obtain ⟨Ao14, co14, eo14⟩ := Kd.R_slice HO160.out; subst eo14) | (go_at_call 15; (with_reducible refine (sphragisref05_Same.calls k _ _ t155 _ _ t158 t161 _ ?side1 ?side2 ?side3 ?side4 A9.out).mono ?_); (case side1 => repeat (first | exact (Kd.R_reads' HO157.out).2.2 | (with_reducible refine Kd.C_alloc ?_ _) | (with_reducible refine Kd.C_drewN ?_ _) | (with_reducible refine Kd.C_drew ?_))); (case side2 => exact (Kd.R_reads' HO157.out).2.1); (case side3 => repeat (first | exact (Kd.R_reads' HO160.out).2.2 | (with_reducible refine Kd.C_alloc ?_ _) | (with_reducible refine Kd.C_drewN ?_ _) | (with_reducible refine Kd.C_drew ?_))); (case side4 => exact (Kd.R_reads' HO160.out).2.1); rintro e w' ⟨rfl, ⟨nd, rfl⟩⟩))
        go_ret
        exact ⟨by first | rfl | (simp [errW_none, errW_some] <;> rfl) | (simp only [← hji3]; first | rfl | (simp [errW_none, errW_some] <;> rfl)) | (simp [*, errW_none, errW_some] <;> rfl), by repeat (first | (with_reducible first | exact HB.out | apply below_alloc | apply pw_below_drewN | apply below_drew1) | exact HB.out)⟩
      · replace c6 := Bool.eq_false_iff.mpr c6
        subst c6
        have H1 : (none) = some r := by rw [if_neg (show ¬ (false = true) by decide)] at H; exact H
        clear H
        have H := H1
        clear H1
        exact absurd H (by simp)
    · rw [if_neg c5] at H
      exact absurd H (by simp)
  · rw [if_neg c4] at H
    exact absurd H (by simp)

/-- THE ONE PURE STATEMENT of sphragislaw05_PadCuts: yours. -/
def sphragislaw05_PadCuts.Pure : Prop := ∀ (a0 : ByteArray), a0.size ≤ 140737488351232 → ∃ k, sphragislaw05_PadCuts.f k a0 = some true
theorem sphragislaw05_PadCuts.walk (P : sphragislaw05_PadCuts.Pure) (a0 : ByteArray) (w : World) (w0 : a0.size ≤ 140737488351232) :
    Calls Try.prog 8 #[.string a0] w fun e w' => e = .returned (.bool true) ∧ Below w.heap.size w w' := by
  obtain ⟨k, h⟩ := P a0 w0
  refine (sphragislaw05_PadCuts.calls k a0 true w h).mono ?_
  rintro e w' ⟨rfl, hd⟩
  exact ⟨rfl, hd⟩

/-! ### sphragislaw05_PadWhole: function 9 -/
def sphragislaw05_PadWhole.l0 : Nat → ByteArray → Bool → List ByteArray → ByteArray → Int → Option (Bool)
  | 0, _, _, _, _, _ => none
  | k + 1, x0, x3, x4, x5, x6 => if x6 < (x4.length : Int) then (if 0 ≤ x6 then ((pad_Pad.f (rdOf ByteArray.empty x4 x6)).bind fun bt167 => (if bt167.2 = 0 then (if (rdOf ByteArray.empty x4 x6).toList = ([] : List UInt8) then (none) else (if x6 < (wrap64 ((x4.length : Int) - 1)) then (if ((rdOf ByteArray.empty x4 x6).size : Int) = 198 then (if x5.size + (rdOf ByteArray.empty x4 x6).size ≤ 9223372036854775807 then (sphragislaw05_PadWhole.l0 k x0 x3 x4 (x5 ++ (rdOf ByteArray.empty x4 x6)) (wrap64 (x6 + 1))) else (none)) else (none)) else (if x5.size + (rdOf ByteArray.empty x4 x6).size ≤ 9223372036854775807 then (sphragislaw05_PadWhole.l0 k x0 x3 x4 (x5 ++ (rdOf ByteArray.empty x4 x6)) (wrap64 (x6 + 1))) else (none)))) else (none))) else (none)) else (if x3 = true then (some (x5.toList == x0.toList)) else (none))
def sphragislaw05_PadWhole.f (k : Nat) (a0 : ByteArray) : Option (Bool) := (sphragislaw05_shown.f k).bind fun t162 => (if 0 ≤ (mn (a0.size : Int) 5000) then (if (mn (a0.size : Int) 5000) ≤ (a0.size : Int) then ((pad_Cut.f (a0.extract 0 ((mn (a0.size : Int) 5000) : Int).toNat)).bind fun t163 => (sphragislaw05_PadWhole.l0 k (a0.extract 0 ((mn (a0.size : Int) 5000) : Int).toNat) t162 t163 (⟨#[]⟩ : ByteArray) 0)) else (none)) else (none))
theorem sphragislaw05_PadWhole.mono_l : ∀ k, (∀ y0 y1 y2 y3 y4, LeO (sphragislaw05_PadWhole.l0 k y0 y1 y2 y3 y4) (sphragislaw05_PadWhole.l0 (k + 1) y0 y1 y2 y3 y4))
  | 0 => fun _ _ _ _ _ r h => by simp [sphragislaw05_PadWhole.l0] at h
  | k + 1 => by
    have ih0 := sphragislaw05_PadWhole.mono_l k
    · intro y0 y1 y2 y3 y4
      unfold sphragislaw05_PadWhole.l0
      repeat' first
      | (with_reducible exact ih0 _ _ _ _ _)
      | (with_reducible exact sphragislaw05_shown.mono _)
      | (with_reducible exact LeO.refl _)
      | (with_reducible exact LeO.none _)
      | (with_reducible refine LeO.ite ?_ ?_)
      | (with_reducible refine LeO.bind ?_ (fun _ => ?_))
      | exact ih0 _ _ _ _ _
      | exact sphragislaw05_shown.mono _
      | exact LeO.none _
      | refine LeO.ite ?_ ?_
      | refine LeO.bind ?_ (fun _ => ?_)
theorem sphragislaw05_PadWhole.mono : ∀ a0 k, LeO (sphragislaw05_PadWhole.f k a0) (sphragislaw05_PadWhole.f (k + 1) a0) := by
  intro a0 k
  have ih0 := sphragislaw05_PadWhole.mono_l k
  unfold sphragislaw05_PadWhole.f
  repeat' first
      | (with_reducible exact ih0 _ _ _ _ _)
      | (with_reducible exact sphragislaw05_shown.mono _)
      | (with_reducible exact LeO.refl _)
      | (with_reducible exact LeO.none _)
      | (with_reducible refine LeO.ite ?_ ?_)
      | (with_reducible refine LeO.bind ?_ (fun _ => ?_))
      | exact ih0 _ _ _ _ _
      | exact sphragislaw05_shown.mono _
      | exact LeO.none _
      | refine LeO.ite ?_ ?_
      | refine LeO.bind ?_ (fun _ => ?_)
set_option maxHeartbeats 8000000 in
set_option maxRecDepth 100000 in
theorem sphragislaw05_PadWhole.calls (k : Nat) (a0 : ByteArray) (r : Bool) (w : World) (h : sphragislaw05_PadWhole.f k a0 = some r) :
    Calls Try.prog 9 #[.string a0] w fun e w' => e = .returned (.bool r) ∧ Below w.heap.size w w' := by
  have HB := Aside0.mk (Below.refl w.heap.size w)
  have H : ((sphragislaw05_shown.f k).bind fun t162 => (if 0 ≤ (mn (a0.size : Int) 5000) then (if (mn (a0.size : Int) 5000) ≤ (a0.size : Int) then ((pad_Cut.f (a0.extract 0 ((mn (a0.size : Int) 5000) : Int).toNat)).bind fun t163 => (sphragislaw05_PadWhole.l0 k (a0.extract 0 ((mn (a0.size : Int) 5000) : Int).toNat) t162 t163 (⟨#[]⟩ : ByteArray) 0)) else (none)) else (none))) = some r := h
  clear h
  replace H := Option.bind_eq_some_iff.mp H
  obtain ⟨t162, A20, H⟩ := H
  replace H : (if 0 ≤ (mn (a0.size : Int) 5000) then (if (mn (a0.size : Int) 5000) ≤ (a0.size : Int) then ((pad_Cut.f (a0.extract 0 ((mn (a0.size : Int) 5000) : Int).toNat)).bind fun t163 => (sphragislaw05_PadWhole.l0 k (a0.extract 0 ((mn (a0.size : Int) 5000) : Int).toNat) t162 t163 (⟨#[]⟩ : ByteArray) 0)) else (none)) else (none)) = some r := H
  have A2 := Aside0.mk A20
  clear A20
  obtain ⟨ji3, hji3⟩ : ∃ j_ : Int, (mn (a0.size : Int) 5000) = j_ := ⟨_, rfl⟩
  replace H : (if 0 ≤ (ji3) then (if (ji3) ≤ (a0.size : Int) then ((pad_Cut.f (a0.extract 0 ((ji3) : Int).toNat)).bind fun t163 => (sphragislaw05_PadWhole.l0 k (a0.extract 0 ((ji3) : Int).toNat) t162 t163 (⟨#[]⟩ : ByteArray) 0)) else (none)) else (none)) = some r := by first | (rw [hji3] at H; exact H) | (simp only [hji3] at H ⊢; exact H)
  (try rw [hji3] at A2)
  (try (have hji3h : ji3 ≤ 5000 := by (rw [← hji3]; unfold mn; (repeat' split) <;> omega)))
  (try (have hji3g : ji3 ≤ 64 := by omega))
  (try (have hji3l : 0 ≤ ji3 := by (rw [← hji3]; unfold mn; (repeat' split) <;> omega)))
  (try (have hji3m : 0 ≤ ji3 := by omega))
  have hji3_ : (if 5000 < (a0.size : Int) then 5000 else (a0.size : Int)) = ji3 := hji3
  by_cases c4 : 0 ≤ (ji3)
  · rw [if_pos c4] at H
    have c4b0 := eq_true c4
    have c4b1 : decide (0 ≤ (ji3)) = true := decide_eq_true c4
    clear c4
    by_cases c5 : (ji3) ≤ (a0.size : Int)
    · rw [if_pos c5] at H
      have c5b0 := eq_true c5
      have c5b1 : decide ((ji3) ≤ (a0.size : Int)) = true := decide_eq_true c5
      clear c5
      replace H := Option.bind_eq_some_iff.mp H
      obtain ⟨t163, A60, H⟩ := H
      replace H : (sphragislaw05_PadWhole.l0 k (a0.extract 0 ((ji3) : Int).toNat) t162 t163 (⟨#[]⟩ : ByteArray) 0) = some r := H
      have A6 := Aside0.mk A60
      clear A60
      have H' := Aside0.mk H
      clear H
      go_enter Try.func9, Try.ntmps9
      go_wp2_with (first | ((with_reducible refine gate_callee (f := 10) rfl ?_); refine goesL_ (some 9) rfl rfl Try.func10 (by kernel_rfl) rfl #[] rfl (by (try simp only [List.map_toArray, List.map_cons, List.map_nil]); first | done | rfl | (simp only [List.length_drop, List.length_take]; rfl)) ?_; (with_reducible refine (sphragislaw05_shown.calls k  t162 _ A2.out).mono ?_); rintro e w7 ⟨rfl, hb⟩; refine ⟨_, rfl, ?_⟩; have n0_ := Aside0.mk (below_step (by repeat (first | (with_reducible first | exact HB.out | apply below_alloc | apply pw_below_drewN | apply below_drew1) | exact HB.out)) hb); clear HB; have HB := n0_; clear n0_; (try clear hb); (try clear hb2); (try clear hk); (try clear hi)) | ((with_reducible refine gate_callee (f := 16) rfl ?_); refine goesL_ (some 16) rfl rfl Try.func16 (by kernel_rfl) rfl #[.string (a0.extract 0 ((ji3) : Int).toNat)] rfl (by (try simp only [List.map_toArray, List.map_cons, List.map_nil]); first | done | (simp only [hji3]; rfl) | rfl | (simp only [List.length_drop, List.length_take]; rfl)) ?_; (with_reducible refine (pad_Cut.calls (a0.extract 0 ((ji3) : Int).toNat) t163 _ A6.out).mono ?_); rintro e w8 ⟨v164, rfl, ho0, hb⟩; refine ⟨_, rfl, ?_⟩; have n0_ := Aside0.mk (Kd.R_lower ho0 (below_size (by repeat (first | (with_reducible first | exact HB.out | apply below_alloc | apply pw_below_drewN | apply below_drew1) | exact HB.out)))); have n1_ := Aside0.mk (below_step (by repeat (first | (with_reducible first | exact HB.out | apply below_alloc | apply pw_below_drewN | apply below_drew1) | exact HB.out)) hb); clear HB; have HO165 := n0_; have HB := n1_; clear n0_ n1_; (try clear hb); (try clear hb2); (try clear hk); (try clear hi); (try clear ho0)))
      go_loopg [5, 6] k (fun kq v5 v6 w' => ∃ (x5_1 : ByteArray) (x6_1 : Int), v5 = .string x5_1 ∧ v6 = .int .i64 x6_1 ∧ Aside0 (sphragislaw05_PadWhole.l0 kq (a0.extract 0 ((ji3) : Int).toNat) t162 t163 x5_1 x6_1 = some r) ∧ Aside0 (kq ≤ k) ∧ Aside0 (Kd.R Kd.string 9 w' w.heap.size (fun _ => True) v164 t163) ∧ Aside0 (Below w.heap.size w w'))
      case atStart => exact ⟨((⟨#[]⟩ : ByteArray)), (0), (by first | rfl | (simp; done) | (simp [*]; done)), (by first | rfl | (simp; done) | (simp [*]; done)), H', ⟨Nat.le_refl _⟩, ⟨by (with_reducible repeat (first | apply Kd.R_alloc | apply Kd.R_drewN | apply Kd.R_drew)); exact HO165.out⟩, ⟨by repeat (first | (with_reducible first | exact HB.out | apply below_alloc | apply pw_below_drewN | apply below_drew1) | exact HB.out)⟩⟩
      case round =>
        clear H'
        try clear c1
        try clear p2
        try clear c4
        try clear c4b0
        try clear c4b1
        try clear c5
        try clear c5b0
        try clear c5b1
        obtain ⟨x5_1, x6_1, rfl, rfl, HA, HK1, HO_4, HB⟩ := hrel
        cases gk with
        | zero => exact absurd HA.out (by simp [sphragislaw05_PadWhole.l0])
        | succ k1 =>
          have H := HA.out
          clear HA
          simp only [sphragislaw05_PadWhole.l0] at H
          by_cases c9 : x6_1 < (t163.length : Int)
          · rw [if_pos c9] at H
            have c9b0 : decide (x6_1 < (t163.length : Int)) = true := decide_eq_true c9
            clear c9
            by_cases c10 : 0 ≤ x6_1
            · rw [if_pos c10] at H
              have c10b0 : decide (0 ≤ x6_1) = true := decide_eq_true c10
              clear c10
              replace H := Option.bind_eq_some_iff.mp H
              obtain ⟨⟨t167, t168⟩, A110, H⟩ := H
              replace H : (if t168 = 0 then (if (rdOf ByteArray.empty t163 x6_1).toList = ([] : List UInt8) then (none) else (if x6_1 < (wrap64 ((t163.length : Int) - 1)) then (if ((rdOf ByteArray.empty t163 x6_1).size : Int) = 198 then (if x5_1.size + (rdOf ByteArray.empty t163 x6_1).size ≤ 9223372036854775807 then (sphragislaw05_PadWhole.l0 k1 (a0.extract 0 ((ji3) : Int).toNat) t162 t163 (x5_1 ++ (rdOf ByteArray.empty t163 x6_1)) (wrap64 (x6_1 + 1))) else (none)) else (none)) else (if x5_1.size + (rdOf ByteArray.empty t163 x6_1).size ≤ 9223372036854775807 then (sphragislaw05_PadWhole.l0 k1 (a0.extract 0 ((ji3) : Int).toNat) t162 t163 (x5_1 ++ (rdOf ByteArray.empty t163 x6_1)) (wrap64 (x6_1 + 1))) else (none)))) else (none)) = some r := H
              have A11 := Aside0.mk A110
              clear A110
              by_cases c12 : t168 = 0
              · rw [if_pos c12] at H
                have c12b0 : (t168 == 0) = true := beq_iff_eq.mpr c12
                have c12b1 : (t168 != 0) = false := bne_eq_false_iff_eq.mpr c12
                clear c12
                by_cases c13 : (rdOf ByteArray.empty t163 x6_1).toList = ([] : List UInt8)
                · rw [if_pos c13] at H
                  exact absurd H (by simp)
                · rw [if_neg c13] at H
                  have c13b0 : ((rdOf ByteArray.empty t163 x6_1).toList == ([] : List UInt8)) = false := beq_eq_false_iff_ne.mpr c13
                  have c13b1 : ((rdOf ByteArray.empty t163 x6_1).toList != ([] : List UInt8)) = true := bne_iff_ne.mpr c13
                  by_cases c14 : x6_1 < (wrap64 ((t163.length : Int) - 1))
                  · rw [if_pos c14] at H
                    have c14b0 : decide (x6_1 < (wrap64 ((t163.length : Int) - 1))) = true := decide_eq_true c14
                    clear c14
                    by_cases c15 : ((rdOf ByteArray.empty t163 x6_1).size : Int) = 198
                    · rw [if_pos c15] at H
                      have c15b0 : (((rdOf ByteArray.empty t163 x6_1).size : Int) == 198) = true := beq_iff_eq.mpr c15
                      have c15b1 : (((rdOf ByteArray.empty t163 x6_1).size : Int) != 198) = false := bne_eq_false_iff_eq.mpr c15
                      clear c15
                      by_cases c16 : x5_1.size + (rdOf ByteArray.empty t163 x6_1).size ≤ 9223372036854775807
                      · rw [if_pos c16] at H
                        have c16b0 := eq_true c16
                        have c16b1 : decide (x5_1.size + (rdOf ByteArray.empty t163 x6_1).size ≤ 9223372036854775807) = true := decide_eq_true c16
                        try have c16b2 : (9223372036854775807 < x5_1.size + (rdOf ByteArray.empty t163 x6_1).size) = False := eq_false (Nat.not_lt.2 c16)
                        have H' := Aside0.mk H
                        clear H
                        obtain ⟨Ao17, co17, eo17⟩ := Kd.R_slice HO_4.out
                        subst eo17
                        have p166 : 0 ≤ (x6_1 : Int) := of_decide_eq_true (by first | (with_reducible assumption) | assumption)
                        have q166 : x6_1 < (t163.length : Int) := of_decide_eq_true (by first | (with_reducible assumption) | assumption)
                        obtain ⟨ad166, e166, hx166_0⟩ := Kd.at_string (Kd.R_reads' HO_4.out).2.2 x6_1 p166 q166
                        cases e166
                        replace p166 := eq_true p166
                        replace q166 := eq_true q166
                        go_wp2_with (first | ((with_reducible refine gate_callee (f := 11) rfl ?_); refine goesL_ (some 28) rfl rfl Try.func11 (by kernel_rfl) rfl #[.string (rdOf ByteArray.empty t163 x6_1)] rfl (by (try simp only [List.map_toArray, List.map_cons, List.map_nil]); first | done | rfl | (simp only [List.length_drop, List.length_take]; rfl)) ?_; (with_reducible refine (pad_Pad.calls (rdOf ByteArray.empty t163 x6_1) t167 t168 _ A11.out).mono ?_); rintro e w18 ⟨rfl, hb⟩; refine ⟨_, rfl, ?_⟩; have n0_ := Aside0.mk (Kd.R_below (by (with_reducible repeat (first | apply Kd.R_alloc | apply Kd.R_drewN | apply Kd.R_drew)); exact HO_4.out) hb); have n1_ := Aside0.mk (below_step (by repeat (first | (with_reducible first | exact HB.out | apply below_alloc | apply pw_below_drewN | apply below_drew1) | exact HB.out)) hb); clear HO_4; clear HB; have HO_4 := n0_; have HB := n1_; clear n0_ n1_; (try clear hb); (try clear hb2); (try clear hk); (try clear hi); have p169 : 0 ≤ (x6_1 : Int) := of_decide_eq_true (by first | (with_reducible assumption) | assumption); have q169 : x6_1 < (t163.length : Int) := of_decide_eq_true (by first | (with_reducible assumption) | assumption); obtain ⟨ad169, e169, hx169_0⟩ := Kd.at_string (Kd.R_reads' HO_4.out).2.2 x6_1 p169 q169; obtain rfl : ad166 = ad169 := (by injection e169); replace p169 := eq_true p169; replace q169 := eq_true q169; have p170 : 0 ≤ (x6_1 : Int) := of_decide_eq_true (by first | (with_reducible assumption) | assumption); have q170 : x6_1 < (t163.length : Int) := of_decide_eq_true (by first | (with_reducible assumption) | assumption); obtain ⟨ad170, e170, hx170_0⟩ := Kd.at_string (Kd.R_reads' HO_4.out).2.2 x6_1 p170 q170; obtain rfl : ad166 = ad170 := (by injection e170); replace p170 := eq_true p170; replace q170 := eq_true q170; have p171 : 0 ≤ (x6_1 : Int) := of_decide_eq_true (by first | (with_reducible assumption) | assumption); have q171 : x6_1 < (t163.length : Int) := of_decide_eq_true (by first | (with_reducible assumption) | assumption); obtain ⟨ad171, e171, hx171_0⟩ := Kd.at_string (Kd.R_reads' HO_4.out).2.2 x6_1 p171 q171; obtain rfl : ad166 = ad171 := (by injection e171); replace p171 := eq_true p171; replace q171 := eq_true q171))
                        go_roundg k1
                        case measure => have := HK1.out; omega
                        case rel => exact ⟨(x5_1 ++ (rdOf ByteArray.empty t163 x6_1)), (wrap64 (x6_1 + 1)), (by first | rfl | (simp; done) | (simp [*]; done)), (by first | rfl | (simp; done) | (simp [*]; done)), H', ⟨by have := HK1.out; omega⟩, ⟨by (with_reducible repeat (first | apply Kd.R_alloc | apply Kd.R_drewN | apply Kd.R_drew)); exact HO_4.out⟩, ⟨by repeat (first | (with_reducible first | exact HB.out | apply below_alloc | apply pw_below_drewN | apply below_drew1) | exact HB.out)⟩⟩
                      · rw [if_neg c16] at H
                        exact absurd H (by simp)
                    · rw [if_neg c15] at H
                      exact absurd H (by simp)
                  · rw [if_neg c14] at H
                    have c14b0 : decide (x6_1 < (wrap64 ((t163.length : Int) - 1))) = false := decide_eq_false c14
                    clear c14
                    by_cases c19 : x5_1.size + (rdOf ByteArray.empty t163 x6_1).size ≤ 9223372036854775807
                    · rw [if_pos c19] at H
                      have c19b0 := eq_true c19
                      have c19b1 : decide (x5_1.size + (rdOf ByteArray.empty t163 x6_1).size ≤ 9223372036854775807) = true := decide_eq_true c19
                      try have c19b2 : (9223372036854775807 < x5_1.size + (rdOf ByteArray.empty t163 x6_1).size) = False := eq_false (Nat.not_lt.2 c19)
                      have H' := Aside0.mk H
                      clear H
                      obtain ⟨Ao20, co20, eo20⟩ := Kd.R_slice HO_4.out
                      subst eo20
                      have p166 : 0 ≤ (x6_1 : Int) := of_decide_eq_true (by first | (with_reducible assumption) | assumption)
                      have q166 : x6_1 < (t163.length : Int) := of_decide_eq_true (by first | (with_reducible assumption) | assumption)
                      obtain ⟨ad166, e166, hx166_0⟩ := Kd.at_string (Kd.R_reads' HO_4.out).2.2 x6_1 p166 q166
                      cases e166
                      replace p166 := eq_true p166
                      replace q166 := eq_true q166
                      go_wp2_with (first | ((with_reducible refine gate_callee (f := 11) rfl ?_); refine goesL_ (some 28) rfl rfl Try.func11 (by kernel_rfl) rfl #[.string (rdOf ByteArray.empty t163 x6_1)] rfl (by (try simp only [List.map_toArray, List.map_cons, List.map_nil]); first | done | rfl | (simp only [List.length_drop, List.length_take]; rfl)) ?_; (with_reducible refine (pad_Pad.calls (rdOf ByteArray.empty t163 x6_1) t167 t168 _ A11.out).mono ?_); rintro e w21 ⟨rfl, hb⟩; refine ⟨_, rfl, ?_⟩; have n0_ := Aside0.mk (Kd.R_below (by (with_reducible repeat (first | apply Kd.R_alloc | apply Kd.R_drewN | apply Kd.R_drew)); exact HO_4.out) hb); have n1_ := Aside0.mk (below_step (by repeat (first | (with_reducible first | exact HB.out | apply below_alloc | apply pw_below_drewN | apply below_drew1) | exact HB.out)) hb); clear HO_4; clear HB; have HO_4 := n0_; have HB := n1_; clear n0_ n1_; (try clear hb); (try clear hb2); (try clear hk); (try clear hi); have p169 : 0 ≤ (x6_1 : Int) := of_decide_eq_true (by first | (with_reducible assumption) | assumption); have q169 : x6_1 < (t163.length : Int) := of_decide_eq_true (by first | (with_reducible assumption) | assumption); obtain ⟨ad169, e169, hx169_0⟩ := Kd.at_string (Kd.R_reads' HO_4.out).2.2 x6_1 p169 q169; obtain rfl : ad166 = ad169 := (by injection e169); replace p169 := eq_true p169; replace q169 := eq_true q169; have p172 : 0 ≤ (x6_1 : Int) := of_decide_eq_true (by first | (with_reducible assumption) | assumption); have q172 : x6_1 < (t163.length : Int) := of_decide_eq_true (by first | (with_reducible assumption) | assumption); obtain ⟨ad172, e172, hx172_0⟩ := Kd.at_string (Kd.R_reads' HO_4.out).2.2 x6_1 p172 q172; obtain rfl : ad166 = ad172 := (by injection e172); replace p172 := eq_true p172; replace q172 := eq_true q172))
                      go_roundg k1
                      case measure => have := HK1.out; omega
                      case rel => exact ⟨(x5_1 ++ (rdOf ByteArray.empty t163 x6_1)), (wrap64 (x6_1 + 1)), (by first | rfl | (simp; done) | (simp [*]; done)), (by first | rfl | (simp; done) | (simp [*]; done)), H', ⟨by have := HK1.out; omega⟩, ⟨by (with_reducible repeat (first | apply Kd.R_alloc | apply Kd.R_drewN | apply Kd.R_drew)); exact HO_4.out⟩, ⟨by repeat (first | (with_reducible first | exact HB.out | apply below_alloc | apply pw_below_drewN | apply below_drew1) | exact HB.out)⟩⟩
                    · rw [if_neg c19] at H
                      exact absurd H (by simp)
              · rw [if_neg c12] at H
                exact absurd H (by simp)
            · rw [if_neg c10] at H
              exact absurd H (by simp)
          · rw [if_neg c9] at H
            have c9b0 : decide (x6_1 < (t163.length : Int)) = false := decide_eq_false c9
            clear c9
            by_cases c22 : t162 = true
            · subst c22
              have H1 : (some (x5_1.toList == (a0.extract 0 ((ji3) : Int).toNat).toList)) = some r := by rw [if_pos rfl] at H; exact H
              clear H
              have H := H1
              clear H1
              obtain rfl := Option.some.inj H
              obtain ⟨Ao23, co23, eo23⟩ := Kd.R_slice HO_4.out
              subst eo23
              go_wp2
              go_ret
              exact ⟨by first | rfl | (simp [errW_none, errW_some] <;> rfl) | (simp only [← hji3]; first | rfl | (simp [errW_none, errW_some] <;> rfl)) | (simp [*, errW_none, errW_some] <;> rfl), by repeat (first | (with_reducible first | exact HB.out | apply below_alloc | apply pw_below_drewN | apply below_drew1) | exact HB.out)⟩
            · replace c22 := Bool.eq_false_iff.mpr c22
              subst c22
              have H1 : (none) = some r := by rw [if_neg (show ¬ (false = true) by decide)] at H; exact H
              clear H
              have H := H1
              clear H1
              exact absurd H (by simp)
    · rw [if_neg c5] at H
      exact absurd H (by simp)
  · rw [if_neg c4] at H
    exact absurd H (by simp)

/-- THE ONE PURE STATEMENT of sphragislaw05_PadWhole: yours. -/
def sphragislaw05_PadWhole.Pure : Prop := ∀ (a0 : ByteArray), a0.size ≤ 140737488351232 → ∃ k, sphragislaw05_PadWhole.f k a0 = some true
theorem sphragislaw05_PadWhole.walk (P : sphragislaw05_PadWhole.Pure) (a0 : ByteArray) (w : World) (w0 : a0.size ≤ 140737488351232) :
    Calls Try.prog 9 #[.string a0] w fun e w' => e = .returned (.bool true) ∧ Below w.heap.size w w' := by
  obtain ⟨k, h⟩ := P a0 w0
  refine (sphragislaw05_PadWhole.calls k a0 true w h).mono ?_
  rintro e w' ⟨rfl, hd⟩
  exact ⟨rfl, hd⟩

end Go.Proofs.Ytnadbgcllejleaa.H
