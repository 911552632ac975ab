-- Written by a program of this session (hyb.py), which drives the print over functions some of which are proved by hand.
import Derived.Test.YtgckdmilgonnlaaH0
import Derived.Test.YtgckdmilgonnlaaH4
import Derived.Test.YtgckdmilgonnlaaG4
import Derived.Test.YtgckdmilgonnlaaG5
namespace Go.Proofs.Ytgckdmilgonnlaa.H
open Go.RowKit Go.Proofs.YtgckdmilgonnlaaW.PrintWords Go.Proofs.YtgckdmilgonnlaaW.PrintLast Go.Proofs.YtgckdmilgonnlaaW.PrintMore
attribute [local go_sem] max2_int min2_int max_two min_two max_three min_three max_four min_four   -- for this text's walks alone
set_option linter.unusedVariables false
set_option linter.unusedSimpArgs false

/-! ### sphragislaw01_ArxTwice: function 7 -/
def sphragislaw01_ArxTwice.f (a0 : ByteArray) (a1 : ByteArray) (a2 : ByteArray) : Option (Bool) := (sphragislaw01_shown.f).bind fun t146 => ((sphragislaw01_cut.f a2).bind fun t147 => ((arx_Xor.f a0 a1 t147).bind fun bt148 => ((arx_Xor.f a0 a1 bt148.1).bind fun bt150 => (if (a0.size : Int) = 32 then (if ((a1.size : Int) = 12) then (if t146 = true then (if bt148.2 = 0 then (if bt150.2 = 0 then (if bt150.1.toList = t147.toList then (some ((bt148.1.size : Int) == (t147.size : Int))) else (none)) else (none)) else (none)) else (none)) else (if t146 = true then (if bt148.2 = 2 then (if bt150.2 = 2 then (some (bt148.1.toList == ([] : List UInt8))) else (none)) else (none)) else (none))) else (if t146 = true then (if bt148.2 = 2 then (if bt150.2 = 2 then (some (bt148.1.toList == ([] : List UInt8))) else (none)) else (none)) else (none))))))
set_option maxHeartbeats 8000000 in
set_option maxRecDepth 100000 in
theorem sphragislaw01_ArxTwice.calls (a0 : ByteArray) (a1 : ByteArray) (a2 : ByteArray) (r : Bool) (w : World) (h : sphragislaw01_ArxTwice.f a0 a1 a2 = some r) :
    Calls Try.prog 7 #[.string a0, .string a1, .string a2] w fun e w' => e = .returned (.bool r) ∧ Below w.heap.size w w' := by
  have HB := Aside0.mk (Below.refl w.heap.size w)
  have H : ((sphragislaw01_shown.f).bind fun t146 => ((sphragislaw01_cut.f a2).bind fun t147 => ((arx_Xor.f a0 a1 t147).bind fun bt148 => ((arx_Xor.f a0 a1 bt148.1).bind fun bt150 => (if (a0.size : Int) = 32 then (if ((a1.size : Int) = 12) then (if t146 = true then (if bt148.2 = 0 then (if bt150.2 = 0 then (if bt150.1.toList = t147.toList then (some ((bt148.1.size : Int) == (t147.size : Int))) else (none)) else (none)) else (none)) else (none)) else (if t146 = true then (if bt148.2 = 2 then (if bt150.2 = 2 then (some (bt148.1.toList == ([] : List UInt8))) else (none)) else (none)) else (none))) else (if t146 = true then (if bt148.2 = 2 then (if bt150.2 = 2 then (some (bt148.1.toList == ([] : List UInt8))) else (none)) else (none)) else (none))))))) = some r := h
  clear h
  replace H := Option.bind_eq_some_iff.mp H
  obtain ⟨t146, A40, H⟩ := H
  replace H : ((sphragislaw01_cut.f a2).bind fun t147 => ((arx_Xor.f a0 a1 t147).bind fun bt148 => ((arx_Xor.f a0 a1 bt148.1).bind fun bt150 => (if (a0.size : Int) = 32 then (if ((a1.size : Int) = 12) then (if t146 = true then (if bt148.2 = 0 then (if bt150.2 = 0 then (if bt150.1.toList = t147.toList then (some ((bt148.1.size : Int) == (t147.size : Int))) else (none)) else (none)) else (none)) else (none)) else (if t146 = true then (if bt148.2 = 2 then (if bt150.2 = 2 then (some (bt148.1.toList == ([] : List UInt8))) else (none)) else (none)) else (none))) else (if t146 = true then (if bt148.2 = 2 then (if bt150.2 = 2 then (some (bt148.1.toList == ([] : List UInt8))) else (none)) else (none)) else (none)))))) = some r := H
  have A4 := Aside0.mk A40
  clear A40
  replace H := Option.bind_eq_some_iff.mp H
  obtain ⟨t147, A50, H⟩ := H
  replace H : ((arx_Xor.f a0 a1 t147).bind fun bt148 => ((arx_Xor.f a0 a1 bt148.1).bind fun bt150 => (if (a0.size : Int) = 32 then (if ((a1.size : Int) = 12) then (if t146 = true then (if bt148.2 = 0 then (if bt150.2 = 0 then (if bt150.1.toList = t147.toList then (some ((bt148.1.size : Int) == (t147.size : Int))) else (none)) else (none)) else (none)) else (none)) else (if t146 = true then (if bt148.2 = 2 then (if bt150.2 = 2 then (some (bt148.1.toList == ([] : List UInt8))) else (none)) else (none)) else (none))) else (if t146 = true then (if bt148.2 = 2 then (if bt150.2 = 2 then (some (bt148.1.toList == ([] : List UInt8))) else (none)) else (none)) else (none))))) = some r := H
  have A5 := Aside0.mk A50
  clear A50
  replace H := Option.bind_eq_some_iff.mp H
  obtain ⟨⟨t148, t149⟩, A60, H⟩ := H
  replace H : ((arx_Xor.f a0 a1 t148).bind fun bt150 => (if (a0.size : Int) = 32 then (if ((a1.size : Int) = 12) then (if t146 = true then (if t149 = 0 then (if bt150.2 = 0 then (if bt150.1.toList = t147.toList then (some ((t148.size : Int) == (t147.size : Int))) else (none)) else (none)) else (none)) else (none)) else (if t146 = true then (if t149 = 2 then (if bt150.2 = 2 then (some (t148.toList == ([] : List UInt8))) else (none)) else (none)) else (none))) else (if t146 = true then (if t149 = 2 then (if bt150.2 = 2 then (some (t148.toList == ([] : List UInt8))) else (none)) else (none)) else (none)))) = some r := H
  have A6 := Aside0.mk A60
  clear A60
  replace H := Option.bind_eq_some_iff.mp H
  obtain ⟨⟨t150, t151⟩, A70, H⟩ := H
  replace H : (if (a0.size : Int) = 32 then (if ((a1.size : Int) = 12) then (if t146 = true then (if t149 = 0 then (if t151 = 0 then (if t150.toList = t147.toList then (some ((t148.size : Int) == (t147.size : Int))) else (none)) else (none)) else (none)) else (none)) else (if t146 = true then (if t149 = 2 then (if t151 = 2 then (some (t148.toList == ([] : List UInt8))) else (none)) else (none)) else (none))) else (if t146 = true then (if t149 = 2 then (if t151 = 2 then (some (t148.toList == ([] : List UInt8))) else (none)) else (none)) else (none))) = some r := H
  have A7 := Aside0.mk A70
  clear A70
  by_cases c8 : (a0.size : Int) = 32
  · rw [if_pos c8] at H
    have c8b0 : ((a0.size : Int) == 32) = true := beq_iff_eq.mpr c8
    have c8b1 : ((a0.size : Int) != 32) = false := bne_eq_false_iff_eq.mpr c8
    clear c8
    by_cases c9 : ((a1.size : Int) = 12)
    · rw [if_pos c9] at H
      have c9b0 : ((a1.size : Int) == 12) = true := beq_iff_eq.mpr c9
      have c9b1 : ((a1.size : Int) != 12) = false := bne_eq_false_iff_eq.mpr c9
      clear c9
      by_cases c10 : t146 = true
      · subst c10
        have H1 : (if t149 = 0 then (if t151 = 0 then (if t150.toList = t147.toList then (some ((t148.size : Int) == (t147.size : Int))) else (none)) else (none)) else (none)) = some r := by rw [if_pos rfl] at H; exact H
        clear H
        have H := H1
        clear H1
        by_cases c11 : t149 = 0
        · rw [if_pos c11] at H
          have c11b0 : (t149 == 0) = true := beq_iff_eq.mpr c11
          have c11b1 : (t149 != 0) = false := bne_eq_false_iff_eq.mpr c11
          clear c11
          by_cases c12 : t151 = 0
          · rw [if_pos c12] at H
            have c12b0 : (t151 == 0) = true := beq_iff_eq.mpr c12
            have c12b1 : (t151 != 0) = false := bne_eq_false_iff_eq.mpr c12
            clear c12
            by_cases c13 : t150.toList = t147.toList
            · rw [if_pos c13] at H
              have c13b0 : (t150.toList == t147.toList) = true := beq_iff_eq.mpr c13
              have c13b1 : (t150.toList != t147.toList) = false := bne_eq_false_iff_eq.mpr c13
              clear c13
              obtain rfl := Option.some.inj H
              go_enter Try.func7, Try.ntmps7
              go_wp2_with (first | ((with_reducible refine gate_callee (f := 10) rfl ?_); refine goesL_ (some 13) rfl rfl Try.func10 (by kernel_rfl) rfl #[] rfl (by (try simp only [List.map_toArray, List.map_cons, List.map_nil]); first | done | rfl | (simp only [List.length_drop, List.length_take]; rfl)) ?_; (with_reducible refine (sphragislaw01_shown.calls  true _ A4.out).mono ?_); rintro e w14 ⟨rfl, hb⟩; refine ⟨_, rfl, ?_⟩; have n0_ := Aside0.mk (below_step (by repeat (first | (with_reducible first | exact HB.out | apply below_alloc | apply pw_below_drewN | apply below_drew1) | exact HB.out)) hb); clear HB; have HB := n0_; clear n0_; (try clear hb); (try clear hb2); (try clear hk); (try clear hi)) | ((with_reducible refine gate_callee (f := 16) rfl ?_); refine goesL_ (some 15) rfl rfl Try.func16 (by kernel_rfl) rfl #[.string a2] rfl (by (try simp only [List.map_toArray, List.map_cons, List.map_nil]); first | done | rfl | (simp only [List.length_drop, List.length_take]; rfl)) ?_; (with_reducible refine (sphragislaw01_cut.calls a2 t147 _ A5.out).mono ?_); rintro e w15 ⟨rfl, hb⟩; refine ⟨_, rfl, ?_⟩; have n0_ := Aside0.mk (below_step (by repeat (first | (with_reducible first | exact HB.out | apply below_alloc | apply pw_below_drewN | apply below_drew1) | exact HB.out)) hb); clear HB; have HB := n0_; clear n0_; (try clear hb); (try clear hb2); (try clear hk); (try clear hi)) | ((with_reducible refine gate_callee (f := 15) rfl ?_); refine goesL_ (some 20) rfl rfl Try.func15 (by kernel_rfl) rfl #[.string a0, .string a1, .string t147] rfl (by (try simp only [List.map_toArray, List.map_cons, List.map_nil]); first | done | rfl | (simp only [List.length_drop, List.length_take]; rfl)) ?_; (with_reducible refine (arx_Xor.calls a0 a1 t147 t148 t149 _ A6.out).mono ?_); rintro e w16 ⟨rfl, hb⟩; refine ⟨_, rfl, ?_⟩; have n0_ := Aside0.mk (below_step (by repeat (first | (with_reducible first | exact HB.out | apply below_alloc | apply pw_below_drewN | apply below_drew1) | exact HB.out)) hb); clear HB; have HB := n0_; clear n0_; (try clear hb); (try clear hb2); (try clear hk); (try clear hi)) | ((with_reducible refine gate_callee (f := 15) rfl ?_); refine goesL_ (some 27) rfl rfl Try.func15 (by kernel_rfl) rfl #[.string a0, .string a1, .string t148] rfl (by (try simp only [List.map_toArray, List.map_cons, List.map_nil]); first | done | rfl | (simp only [List.length_drop, List.length_take]; rfl)) ?_; (with_reducible refine (arx_Xor.calls a0 a1 t148 t150 t151 _ A7.out).mono ?_); rintro e w17 ⟨rfl, hb⟩; refine ⟨_, rfl, ?_⟩; have n0_ := Aside0.mk (below_step (by repeat (first | (with_reducible first | exact HB.out | apply below_alloc | apply pw_below_drewN | apply below_drew1) | exact HB.out)) hb); clear HB; have HB := n0_; clear n0_; (try clear hb); (try clear hb2); (try clear hk); (try clear hi)))
              go_ret
              exact ⟨by first | rfl | (simp [errW_none, errW_some] <;> rfl) | (simp [*, errW_none, errW_some] <;> rfl), by repeat (first | (with_reducible first | exact HB.out | apply below_alloc | apply pw_below_drewN | apply below_drew1) | exact HB.out)⟩
            · rw [if_neg c13] at H
              exact absurd H (by simp)
          · rw [if_neg c12] at H
            exact absurd H (by simp)
        · rw [if_neg c11] at H
          exact absurd H (by simp)
      · replace c10 := Bool.eq_false_iff.mpr c10
        subst c10
        have H1 : (none) = some r := by rw [if_neg (show ¬ (false = true) by decide)] at H; exact H
        clear H
        have H := H1
        clear H1
        exact absurd H (by simp)
    · rw [if_neg c9] at H
      have c9b0 : ((a1.size : Int) == 12) = false := beq_eq_false_iff_ne.mpr c9
      have c9b1 : ((a1.size : Int) != 12) = true := bne_iff_ne.mpr c9
      by_cases c18 : t146 = true
      · subst c18
        have H1 : (if t149 = 2 then (if t151 = 2 then (some (t148.toList == ([] : List UInt8))) else (none)) else (none)) = some r := by rw [if_pos rfl] at H; exact H
        clear H
        have H := H1
        clear H1
        by_cases c19 : t149 = 2
        · rw [if_pos c19] at H
          have c19b0 : (t149 == 2) = true := beq_iff_eq.mpr c19
          have c19b1 : (t149 != 2) = false := bne_eq_false_iff_eq.mpr c19
          clear c19
          by_cases c20 : t151 = 2
          · rw [if_pos c20] at H
            have c20b0 : (t151 == 2) = true := beq_iff_eq.mpr c20
            have c20b1 : (t151 != 2) = false := bne_eq_false_iff_eq.mpr c20
            clear c20
            obtain rfl := Option.some.inj H
            go_enter Try.func7, Try.ntmps7
            go_wp2_with (first | ((with_reducible refine gate_callee (f := 10) rfl ?_); refine goesL_ (some 13) rfl rfl Try.func10 (by kernel_rfl) rfl #[] rfl (by (try simp only [List.map_toArray, List.map_cons, List.map_nil]); first | done | rfl | (simp only [List.length_drop, List.length_take]; rfl)) ?_; (with_reducible refine (sphragislaw01_shown.calls  true _ A4.out).mono ?_); rintro e w21 ⟨rfl, hb⟩; refine ⟨_, rfl, ?_⟩; have n0_ := Aside0.mk (below_step (by repeat (first | (with_reducible first | exact HB.out | apply below_alloc | apply pw_below_drewN | apply below_drew1) | exact HB.out)) hb); clear HB; have HB := n0_; clear n0_; (try clear hb); (try clear hb2); (try clear hk); (try clear hi)) | ((with_reducible refine gate_callee (f := 16) rfl ?_); refine goesL_ (some 15) rfl rfl Try.func16 (by kernel_rfl) rfl #[.string a2] rfl (by (try simp only [List.map_toArray, List.map_cons, List.map_nil]); first | done | rfl | (simp only [List.length_drop, List.length_take]; rfl)) ?_; (with_reducible refine (sphragislaw01_cut.calls a2 t147 _ A5.out).mono ?_); rintro e w22 ⟨rfl, hb⟩; refine ⟨_, rfl, ?_⟩; have n0_ := Aside0.mk (below_step (by repeat (first | (with_reducible first | exact HB.out | apply below_alloc | apply pw_below_drewN | apply below_drew1) | exact HB.out)) hb); clear HB; have HB := n0_; clear n0_; (try clear hb); (try clear hb2); (try clear hk); (try clear hi)) | ((with_reducible refine gate_callee (f := 15) rfl ?_); refine goesL_ (some 20) rfl rfl Try.func15 (by kernel_rfl) rfl #[.string a0, .string a1, .string t147] rfl (by (try simp only [List.map_toArray, List.map_cons, List.map_nil]); first | done | rfl | (simp only [List.length_drop, List.length_take]; rfl)) ?_; (with_reducible refine (arx_Xor.calls a0 a1 t147 t148 t149 _ A6.out).mono ?_); rintro e w23 ⟨rfl, hb⟩; refine ⟨_, rfl, ?_⟩; have n0_ := Aside0.mk (below_step (by repeat (first | (with_reducible first | exact HB.out | apply below_alloc | apply pw_below_drewN | apply below_drew1) | exact HB.out)) hb); clear HB; have HB := n0_; clear n0_; (try clear hb); (try clear hb2); (try clear hk); (try clear hi)) | ((with_reducible refine gate_callee (f := 15) rfl ?_); refine goesL_ (some 27) rfl rfl Try.func15 (by kernel_rfl) rfl #[.string a0, .string a1, .string t148] rfl (by (try simp only [List.map_toArray, List.map_cons, List.map_nil]); first | done | rfl | (simp only [List.length_drop, List.length_take]; rfl)) ?_; (with_reducible refine (arx_Xor.calls a0 a1 t148 t150 t151 _ A7.out).mono ?_); rintro e w24 ⟨rfl, hb⟩; refine ⟨_, rfl, ?_⟩; have n0_ := Aside0.mk (below_step (by repeat (first | (with_reducible first | exact HB.out | apply below_alloc | apply pw_below_drewN | apply below_drew1) | exact HB.out)) hb); clear HB; have HB := n0_; clear n0_; (try clear hb); (try clear hb2); (try clear hk); (try clear hi)))
            go_ret
            exact ⟨by first | rfl | (simp [errW_none, errW_some] <;> rfl) | (simp [*, errW_none, errW_some] <;> rfl), by repeat (first | (with_reducible first | exact HB.out | apply below_alloc | apply pw_below_drewN | apply below_drew1) | exact HB.out)⟩
          · rw [if_neg c20] at H
            exact absurd H (by simp)
        · rw [if_neg c19] at H
          exact absurd H (by simp)
      · replace c18 := Bool.eq_false_iff.mpr c18
        subst c18
        have H1 : (none) = some r := by rw [if_neg (show ¬ (false = true) by decide)] at H; exact H
        clear H
        have H := H1
        clear H1
        exact absurd H (by simp)
  · rw [if_neg c8] at H
    have c8b0 : ((a0.size : Int) == 32) = false := beq_eq_false_iff_ne.mpr c8
    have c8b1 : ((a0.size : Int) != 32) = true := bne_iff_ne.mpr c8
    by_cases c25 : t146 = true
    · subst c25
      have H1 : (if t149 = 2 then (if t151 = 2 then (some (t148.toList == ([] : List UInt8))) else (none)) else (none)) = some r := by rw [if_pos rfl] at H; exact H
      clear H
      have H := H1
      clear H1
      by_cases c26 : t149 = 2
      · rw [if_pos c26] at H
        have c26b0 : (t149 == 2) = true := beq_iff_eq.mpr c26
        have c26b1 : (t149 != 2) = false := bne_eq_false_iff_eq.mpr c26
        clear c26
        by_cases c27 : t151 = 2
        · rw [if_pos c27] at H
          have c27b0 : (t151 == 2) = true := beq_iff_eq.mpr c27
          have c27b1 : (t151 != 2) = false := bne_eq_false_iff_eq.mpr c27
          clear c27
          obtain rfl := Option.some.inj H
          go_enter Try.func7, Try.ntmps7
          go_wp2_with (first | ((with_reducible refine gate_callee (f := 10) rfl ?_); refine goesL_ (some 13) rfl rfl Try.func10 (by kernel_rfl) rfl #[] rfl (by (try simp only [List.map_toArray, List.map_cons, List.map_nil]); first | done | rfl | (simp only [List.length_drop, List.length_take]; rfl)) ?_; (with_reducible refine (sphragislaw01_shown.calls  true _ A4.out).mono ?_); rintro e w28 ⟨rfl, hb⟩; refine ⟨_, rfl, ?_⟩; have n0_ := Aside0.mk (below_step (by repeat (first | (with_reducible first | exact HB.out | apply below_alloc | apply pw_below_drewN | apply below_drew1) | exact HB.out)) hb); clear HB; have HB := n0_; clear n0_; (try clear hb); (try clear hb2); (try clear hk); (try clear hi)) | ((with_reducible refine gate_callee (f := 16) rfl ?_); refine goesL_ (some 15) rfl rfl Try.func16 (by kernel_rfl) rfl #[.string a2] rfl (by (try simp only [List.map_toArray, List.map_cons, List.map_nil]); first | done | rfl | (simp only [List.length_drop, List.length_take]; rfl)) ?_; (with_reducible refine (sphragislaw01_cut.calls a2 t147 _ A5.out).mono ?_); rintro e w29 ⟨rfl, hb⟩; refine ⟨_, rfl, ?_⟩; have n0_ := Aside0.mk (below_step (by repeat (first | (with_reducible first | exact HB.out | apply below_alloc | apply pw_below_drewN | apply below_drew1) | exact HB.out)) hb); clear HB; have HB := n0_; clear n0_; (try clear hb); (try clear hb2); (try clear hk); (try clear hi)) | ((with_reducible refine gate_callee (f := 15) rfl ?_); refine goesL_ (some 20) rfl rfl Try.func15 (by kernel_rfl) rfl #[.string a0, .string a1, .string t147] rfl (by (try simp only [List.map_toArray, List.map_cons, List.map_nil]); first | done | rfl | (simp only [List.length_drop, List.length_take]; rfl)) ?_; (with_reducible refine (arx_Xor.calls a0 a1 t147 t148 t149 _ A6.out).mono ?_); rintro e w30 ⟨rfl, hb⟩; refine ⟨_, rfl, ?_⟩; have n0_ := Aside0.mk (below_step (by repeat (first | (with_reducible first | exact HB.out | apply below_alloc | apply pw_below_drewN | apply below_drew1) | exact HB.out)) hb); clear HB; have HB := n0_; clear n0_; (try clear hb); (try clear hb2); (try clear hk); (try clear hi)) | ((with_reducible refine gate_callee (f := 15) rfl ?_); refine goesL_ (some 27) rfl rfl Try.func15 (by kernel_rfl) rfl #[.string a0, .string a1, .string t148] rfl (by (try simp only [List.map_toArray, List.map_cons, List.map_nil]); first | done | rfl | (simp only [List.length_drop, List.length_take]; rfl)) ?_; (with_reducible refine (arx_Xor.calls a0 a1 t148 t150 t151 _ A7.out).mono ?_); rintro e w31 ⟨rfl, hb⟩; refine ⟨_, rfl, ?_⟩; have n0_ := Aside0.mk (below_step (by repeat (first | (with_reducible first | exact HB.out | apply below_alloc | apply pw_below_drewN | apply below_drew1) | exact HB.out)) hb); clear HB; have HB := n0_; clear n0_; (try clear hb); (try clear hb2); (try clear hk); (try clear hi)))
          go_ret
          exact ⟨by first | rfl | (simp [errW_none, errW_some] <;> rfl) | (simp [*, errW_none, errW_some] <;> rfl), by repeat (first | (with_reducible first | exact HB.out | apply below_alloc | apply pw_below_drewN | apply below_drew1) | exact HB.out)⟩
        · rw [if_neg c27] at H
          exact absurd H (by simp)
      · rw [if_neg c26] at H
        exact absurd H (by simp)
    · replace c25 := Bool.eq_false_iff.mpr c25
      subst c25
      have H1 : (none) = some r := by rw [if_neg (show ¬ (false = true) by decide)] at H; exact H
      clear H
      have H := H1
      clear H1
      exact absurd H (by simp)

/-- THE ONE PURE STATEMENT of sphragislaw01_ArxTwice: yours. -/
def sphragislaw01_ArxTwice.Pure : Prop := ∀ (a0 : ByteArray) (a1 : ByteArray) (a2 : ByteArray), a0.size ≤ 140737488351232 → a1.size ≤ 140737488351232 → a2.size ≤ 140737488351232 → sphragislaw01_ArxTwice.f a0 a1 a2 = some true
theorem sphragislaw01_ArxTwice.walk (P : sphragislaw01_ArxTwice.Pure) (a0 : ByteArray) (a1 : ByteArray) (a2 : ByteArray) (w : World) (w0 : a0.size ≤ 140737488351232) (w1 : a1.size ≤ 140737488351232) (w2 : a2.size ≤ 140737488351232) :
    Calls Try.prog 7 #[.string a0, .string a1, .string a2] w fun e w' => e = .returned (.bool true) ∧ Below w.heap.size w w' := by
  have h := P a0 a1 a2 w0 w1 w2
  refine (sphragislaw01_ArxTwice.calls a0 a1 a2 true w h).mono ?_
  rintro e w' ⟨rfl, hd⟩
  exact ⟨rfl, hd⟩

end Go.Proofs.Ytgckdmilgonnlaa.H
