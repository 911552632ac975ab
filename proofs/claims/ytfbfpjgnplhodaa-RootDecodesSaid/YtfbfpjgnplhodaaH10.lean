-- Written by a program of this session (hyb.py), which drives the print over functions some of which are proved by hand.
import Derived.Test.YtfbfpjgnplhodaaH0
import Derived.Test.YtfbfpjgnplhodaaH2
import Derived.Test.YtfbfpjgnplhodaaH4
import Derived.Test.YtfbfpjgnplhodaaH5
import Derived.Test.YtfbfpjgnplhodaaH9
import Derived.Test.YtfbfpjgnplhodaaG2
namespace Go.Proofs.Ytfbfpjgnplhodaa.H
open Go.RowKit Go.Proofs.YtfbfpjgnplhodaaW.PrintWords Go.Proofs.YtfbfpjgnplhodaaW.PrintLast Go.Proofs.YtfbfpjgnplhodaaW.PrintMore
attribute [local go_sem] max2_int min2_int max_two min_two max_three min_three max_four min_four   -- for this text's walks alone
set_option linter.unusedVariables false
set_option linter.unusedSimpArgs false

attribute [local go_sem high] eqA27
/-! ### sphragislaw15_RootDecodes: function 7 -/
def sphragislaw15_RootDecodes.f (k : Nat) (a0 : ByteArray) : Option (Bool) := (sphragislaw15_shown.f k).bind fun t208 => ((root_Decode.f a0).bind fun bt209 => ((sphragisref15_Decode.f k a0).bind fun bt216 => (if t208 = true then (if (bt209.1 == bt216.1 && (bt209.2.1 == bt216.2.1 && (bt209.2.2.1 == bt216.2.2.1 && ((bt209.2.2.2.1 == bt216.2.2.2.1 && (bt209.2.2.2.2.1.toList == bt216.2.2.2.2.1.toList)))))) = true then (some (bt209.2.2.2.2.2 == bt216.2.2.2.2.2)) else (none)) else (none))))
theorem sphragislaw15_RootDecodes.mono : ∀ a0 k, LeO (sphragislaw15_RootDecodes.f k a0) (sphragislaw15_RootDecodes.f (k + 1) a0) := by
  intro a0 k
  unfold sphragislaw15_RootDecodes.f
  repeat' first
      | (with_reducible exact sphragislaw15_shown.mono _)
      | (with_reducible exact sphragisref15_Decode.mono _ _)
      | (with_reducible exact LeO.refl _)
      | (with_reducible exact LeO.none _)
      | (with_reducible refine LeO.ite ?_ ?_)
      | (with_reducible refine LeO.bind ?_ (fun _ => ?_))
      | exact sphragislaw15_shown.mono _
      | exact sphragisref15_Decode.mono _ _
      | exact LeO.none _
      | refine LeO.ite ?_ ?_
      | refine LeO.bind ?_ (fun _ => ?_)
set_option maxHeartbeats 8000000 in
set_option maxRecDepth 100000 in
theorem sphragislaw15_RootDecodes.calls (k : Nat) (a0 : ByteArray) (r : Bool) (w : World) (h : sphragislaw15_RootDecodes.f k a0 = some r) :
    Calls Try.prog 7 #[.string a0] w fun e w' => e = .returned (.bool r) ∧ Below w.heap.size w w' := by
  have hu27 := Try.underlying27
  have HB := Aside0.mk (Below.refl w.heap.size w)
  have H : ((sphragislaw15_shown.f k).bind fun t208 => ((root_Decode.f a0).bind fun bt209 => ((sphragisref15_Decode.f k a0).bind fun bt216 => (if t208 = true then (if (bt209.1 == bt216.1 && (bt209.2.1 == bt216.2.1 && (bt209.2.2.1 == bt216.2.2.1 && ((bt209.2.2.2.1 == bt216.2.2.2.1 && (bt209.2.2.2.2.1.toList == bt216.2.2.2.2.1.toList)))))) = true then (some (bt209.2.2.2.2.2 == bt216.2.2.2.2.2)) else (none)) else (none))))) = some r := h
  clear h
  replace H := Option.bind_eq_some_iff.mp H
  obtain ⟨t208, A20, H⟩ := H
  replace H : ((root_Decode.f a0).bind fun bt209 => ((sphragisref15_Decode.f k a0).bind fun bt216 => (if t208 = true then (if (bt209.1 == bt216.1 && (bt209.2.1 == bt216.2.1 && (bt209.2.2.1 == bt216.2.2.1 && ((bt209.2.2.2.1 == bt216.2.2.2.1 && (bt209.2.2.2.2.1.toList == bt216.2.2.2.2.1.toList)))))) = true then (some (bt209.2.2.2.2.2 == bt216.2.2.2.2.2)) else (none)) else (none)))) = some r := H
  have A2 := Aside0.mk A20
  clear A20
  replace H := Option.bind_eq_some_iff.mp H
  obtain ⟨⟨t209, t210, t211, t212, t213, t214⟩, A30, H⟩ := H
  replace H : ((sphragisref15_Decode.f k a0).bind fun bt216 => (if t208 = true then (if (t209 == bt216.1 && (t210 == bt216.2.1 && (t211 == bt216.2.2.1 && ((t212 == bt216.2.2.2.1 && (t213.toList == bt216.2.2.2.2.1.toList)))))) = true then (some (t214 == bt216.2.2.2.2.2)) else (none)) else (none))) = some r := H
  have A3 := Aside0.mk A30
  clear A30
  replace H := Option.bind_eq_some_iff.mp H
  obtain ⟨⟨t216, t217, t218, t219, t220, t221⟩, A40, H⟩ := H
  replace H : (if t208 = true then (if (t209 == t216 && (t210 == t217 && (t211 == t218 && ((t212 == t219 && (t213.toList == t220.toList)))))) = true then (some (t214 == t221)) else (none)) else (none)) = some r := H
  have A4 := Aside0.mk A40
  clear A40
  by_cases c5 : t208 = true
  · subst c5
    have H1 : (if (t209 == t216 && (t210 == t217 && (t211 == t218 && ((t212 == t219 && (t213.toList == t220.toList)))))) = true then (some (t214 == t221)) else (none)) = some r := by rw [if_pos rfl] at H; exact H
    clear H
    have H := H1
    clear H1
    by_cases c6 : (t209 == t216 && (t210 == t217 && (t211 == t218 && ((t212 == t219 && (t213.toList == t220.toList)))))) = true
    · rw [if_pos c6] at H
      have c6b0 : (t209 == t216 && (t210 == t217 && (t211 == t218 && ((t212 == t219 && (t213.toList == t220.toList)))))) = true := c6
      (try (have c6b1 : decide (t209 = t216 && (t210 == t217 && (t211 == t218 && ((t212 == t219 && (t213.toList == t220.toList)))))) = true := by simpa using c6))
      (try (have c6b2 : (t209 == t216 && (t210 == t217 && (t211 == t218 && ((t212 == t219 && (t213.toList == t220.toList)))))) = true := by simpa using c6))
      clear c6
      obtain rfl := Option.some.inj H
      go_enter Try.func7, Try.ntmps7
      go_wp2_with (first | ((with_reducible refine gate_callee (f := 10) rfl ?_); refine goesL_ (some 8) rfl rfl Try.func10 (by kernel_rfl) rfl #[] rfl (by (try simp only [List.map_toArray, List.map_cons, List.map_nil]); first | done | rfl | (simp only [List.length_drop, List.length_take]; rfl)) ?_; (with_reducible refine (sphragislaw15_shown.calls k  true _ A2.out).mono ?_); rintro e w7 ⟨rfl, hb⟩; refine ⟨_, rfl, ?_⟩; have n0_ := Aside0.mk (below_step (by repeat (first | (with_reducible first | exact HB.out | apply below_alloc | apply pw_below_drewN | apply below_drew1) | exact HB.out)) hb); clear HB; have HB := n0_; clear n0_; (try clear hb); (try clear hb2); (try clear hk); (try clear hi)) | ((with_reducible refine gate_callee (f := 18) rfl ?_); refine goesL_ (some 11) rfl rfl Try.func18 (by kernel_rfl) rfl #[.string a0] rfl (by (try simp only [List.map_toArray, List.map_cons, List.map_nil]); first | done | rfl | (simp only [List.length_drop, List.length_take]; rfl)) ?_; (with_reducible refine (root_Decode.calls a0 t209 t210 t211 t212 t213 t214 _ A3.out).mono ?_); rintro e w8 ⟨rfl, hb⟩; refine ⟨_, rfl, ?_⟩; have n0_ := Aside0.mk (below_step (by repeat (first | (with_reducible first | exact HB.out | apply below_alloc | apply pw_below_drewN | apply below_drew1) | exact HB.out)) hb); clear HB; have HB := n0_; clear n0_; (try clear hb); (try clear hb2); (try clear hk); (try clear hi)) | ((with_reducible refine gate_dst (N := 4) rfl ?_); refine box_event ?hg (N := 4) ?hd (cs := #[.int .u64 0, .int .u32 0, .int .u32 0, .int .u32 0, .string (⟨#[]⟩ : ByteArray)]) (t := 27) ?hr ?_; (case hd => rfl); (case hg => rfl); (case hr => first | (go_simp; done) | (go_simp; rfl)); intro gb215 hg w9 hbox hb; have n0_ := Aside0.mk (below_step (by repeat (first | (with_reducible first | exact HB.out | apply below_alloc | apply pw_below_drewN | apply below_drew1) | exact HB.out)) hb); have n1_ := Aside0.mk (hbox); have n2_ := Aside0.mk ((by rw [hg]; exact (below_size (by repeat (first | (with_reducible first | exact HB.out | apply below_alloc | apply pw_below_drewN | apply below_drew1) | exact HB.out))) : w.heap.size ≤ gb215)); have n3_ := Aside0.mk ((by rw [hg]; exact (below_size (by repeat (first | (with_reducible first | exact HB.out | apply below_alloc | apply pw_below_drewN | apply below_drew1) | exact HB.out))) : w.heap.size ≤ gb215)); clear HB; have HB := n0_; have BK215 := n1_; have GW215 := n2_; have GE215 := n3_; clear n0_ n1_ n2_ n3_; clear hb hbox hg; have hcz10_0 : w9.cell? ⟨gb215, 0, none⟩ = some (.int .u64 0) := (blk_cell BK215.out 0).trans rfl; have hcz10_1 : w9.cell? ⟨gb215, 1, none⟩ = some (.int .u32 0) := (blk_cell BK215.out 1).trans rfl; have hcz10_2 : w9.cell? ⟨gb215, 2, none⟩ = some (.int .u32 0) := (blk_cell BK215.out 2).trans rfl; have hcz10_3 : w9.cell? ⟨gb215, 3, none⟩ = some (.int .u32 0) := (blk_cell BK215.out 3).trans rfl; have hcz10_4 : w9.cell? ⟨gb215, 4, none⟩ = some (.string (⟨#[]⟩ : ByteArray)) := (blk_cell BK215.out 4).trans rfl; have hfz10_0 := blk_frozen BK215.out 0; have hfz10_1 := blk_frozen BK215.out 1; have hfz10_2 := blk_frozen BK215.out 2; have hfz10_3 := blk_frozen BK215.out 3; have hfz10_4 := blk_frozen BK215.out 4) | ((with_reducible refine gate_callee (f := 19) rfl ?_); refine goesL_ (some 16) rfl rfl Try.func19 (by kernel_rfl) rfl #[.string a0] rfl (by (try simp only [List.map_toArray, List.map_cons, List.map_nil]); first | done | rfl | (simp only [List.length_drop, List.length_take]; rfl)) ?_; (with_reducible refine (sphragisref15_Decode.calls k a0 t216 t217 t218 t219 t220 t221 _ A4.out).mono ?_); rintro e w11 ⟨rfl, hb⟩; refine ⟨_, rfl, ?_⟩; have n0_ := Aside0.mk (blk_below (g := gb215) (o := .cells #[.int .u64 t209, .int .u32 t210, .int .u32 t211, .int .u32 t212, .string t213] 27 (0, 0)) (by (with_reducible repeat (first | refine blk_drewN ?_ _ | refine blk_drew ?_ | refine blk_alloc ?_ _)); refine blk_put (cs := #[.int .u64 t209, .int .u32 t210, .int .u32 t211, .int .u32 t212, .string (⟨#[]⟩ : ByteArray)]) ?_ 4 _ rfl; (with_reducible repeat (first | refine blk_drewN ?_ _ | refine blk_drew ?_ | refine blk_alloc ?_ _)); refine blk_put (cs := #[.int .u64 t209, .int .u32 t210, .int .u32 t211, .int .u32 0, .string (⟨#[]⟩ : ByteArray)]) ?_ 3 _ rfl; (with_reducible repeat (first | refine blk_drewN ?_ _ | refine blk_drew ?_ | refine blk_alloc ?_ _)); refine blk_put (cs := #[.int .u64 t209, .int .u32 t210, .int .u32 0, .int .u32 0, .string (⟨#[]⟩ : ByteArray)]) ?_ 2 _ rfl; (with_reducible repeat (first | refine blk_drewN ?_ _ | refine blk_drew ?_ | refine blk_alloc ?_ _)); refine blk_put (cs := #[.int .u64 t209, .int .u32 0, .int .u32 0, .int .u32 0, .string (⟨#[]⟩ : ByteArray)]) ?_ 1 _ rfl; (with_reducible repeat (first | refine blk_drewN ?_ _ | refine blk_drew ?_ | refine blk_alloc ?_ _)); refine blk_put (cs := #[.int .u64 0, .int .u32 0, .int .u32 0, .int .u32 0, .string (⟨#[]⟩ : ByteArray)]) ?_ 0 _ rfl; (with_reducible repeat (first | refine blk_drewN ?_ _ | refine blk_drew ?_ | refine blk_alloc ?_ _)); exact BK215.out) hb); have n1_ := Aside0.mk (below_step (by repeat (first | (with_reducible first | exact HB.out | apply below_alloc | apply pw_below_drewN | apply below_drew1 | refine below_set ?_ GE215.out) | exact HB.out)) hb); clear BK215; clear HB; have BK215 := n0_; have HB := n1_; clear n0_ n1_; (try clear hb); (try clear hb2); (try clear hk); (try clear hi)) | ((with_reducible refine gate_dst (N := 6) rfl ?_); refine box_event ?hg (N := 6) ?hd (cs := #[.int .u64 0, .int .u32 0, .int .u32 0, .int .u32 0, .string (⟨#[]⟩ : ByteArray)]) (t := 27) ?hr ?_; (case hd => rfl); (case hg => rfl); (case hr => first | (go_simp; done) | (go_simp; rfl)); intro gb222 hg w12 hbox hb; have n0_ := Aside0.mk (blk_below (g := gb215) (o := .cells #[.int .u64 t209, .int .u32 t210, .int .u32 t211, .int .u32 t212, .string t213] 27 (0, 0)) (by (with_reducible repeat (first | refine blk_drewN ?_ _ | refine blk_drew ?_ | refine blk_alloc ?_ _)); exact BK215.out) hb); have n1_ := Aside0.mk (below_step (by repeat (first | (with_reducible first | exact HB.out | apply below_alloc | apply pw_below_drewN | apply below_drew1 | refine below_set ?_ GE215.out) | exact HB.out)) hb); have n2_ := Aside0.mk (hbox); have n3_ := Aside0.mk ((by rw [hg]; exact (below_size (by repeat (first | (with_reducible first | exact HB.out | apply below_alloc | apply pw_below_drewN | apply below_drew1 | refine below_set ?_ GE215.out) | exact HB.out))) : w.heap.size ≤ gb222)); have n4_ := Aside0.mk ((by rw [hg]; exact (below_size (by repeat (first | (with_reducible first | exact HB.out | apply below_alloc | apply pw_below_drewN | apply below_drew1 | refine below_set ?_ GE215.out) | exact HB.out))) : w.heap.size ≤ gb222)); have n5_ := Aside0.mk ((by rw [hg]; exact Nat.ne_of_lt (blk_lt (g := gb215) (o := .cells #[.int .u64 t209, .int .u32 t210, .int .u32 t211, .int .u32 t212, .string t213] 27 (0, 0)) (by (with_reducible repeat (first | refine blk_drewN ?_ _ | refine blk_drew ?_ | refine blk_alloc ?_ _)); exact BK215.out)) : gb215 ≠ gb222)); have n6_ := Aside0.mk ((by rw [hg]; exact Nat.ne_of_gt (blk_lt (g := gb215) (o := .cells #[.int .u64 t209, .int .u32 t210, .int .u32 t211, .int .u32 t212, .string t213] 27 (0, 0)) (by (with_reducible repeat (first | refine blk_drewN ?_ _ | refine blk_drew ?_ | refine blk_alloc ?_ _)); exact BK215.out)) : gb222 ≠ gb215)); clear BK215; clear HB; have BK215 := n0_; have HB := n1_; have BK222 := n2_; have GW222 := n3_; have GE222 := n4_; have NB215_222 := n5_; have NB222_215 := n6_; clear n0_ n1_ n2_ n3_ n4_ n5_ n6_; clear hb hbox hg; have hnb13 := NB222_215.out; have hnc13 := NB215_222.out; have hcz14_0 : w12.cell? ⟨gb222, 0, none⟩ = some (.int .u64 0) := (blk_cell BK222.out 0).trans rfl; have hcz14_1 : w12.cell? ⟨gb222, 1, none⟩ = some (.int .u32 0) := (blk_cell BK222.out 1).trans rfl; have hcz14_2 : w12.cell? ⟨gb222, 2, none⟩ = some (.int .u32 0) := (blk_cell BK222.out 2).trans rfl; have hcz14_3 : w12.cell? ⟨gb222, 3, none⟩ = some (.int .u32 0) := (blk_cell BK222.out 3).trans rfl; have hcz14_4 : w12.cell? ⟨gb222, 4, none⟩ = some (.string (⟨#[]⟩ : ByteArray)) := (blk_cell BK222.out 4).trans rfl; have hfz14_0 := blk_frozen BK222.out 0; have hfz14_1 := blk_frozen BK222.out 1; have hfz14_2 := blk_frozen BK222.out 2; have hfz14_3 := blk_frozen BK222.out 3; have hfz14_4 := blk_frozen BK222.out 4; have hcz15_0 : w12.cell? ⟨gb215, 0, none⟩ = some (.int .u64 t209) := (blk_cell BK215.out 0).trans rfl; have hcz15_1 : w12.cell? ⟨gb215, 1, none⟩ = some (.int .u32 t210) := (blk_cell BK215.out 1).trans rfl; have hcz15_2 : w12.cell? ⟨gb215, 2, none⟩ = some (.int .u32 t211) := (blk_cell BK215.out 2).trans rfl; have hcz15_3 : w12.cell? ⟨gb215, 3, none⟩ = some (.int .u32 t212) := (blk_cell BK215.out 3).trans rfl; have hcz15_4 : w12.cell? ⟨gb215, 4, none⟩ = some (.string t213) := (blk_cell BK215.out 4).trans rfl; have hfz15_0 := blk_frozen BK215.out 0; have hfz15_1 := blk_frozen BK215.out 1; have hfz15_2 := blk_frozen BK215.out 2; have hfz15_3 := blk_frozen BK215.out 3; have hfz15_4 := blk_frozen BK215.out 4))
      go_ret
      exact ⟨by first | rfl | (simp [errW_none, errW_some] <;> rfl) | (simp [*, errW_none, errW_some] <;> rfl), by repeat (first | (with_reducible first | exact HB.out | apply below_alloc | apply pw_below_drewN | apply below_drew1 | refine below_set ?_ GE215.out | refine below_set ?_ GE222.out) | exact HB.out)⟩
    · rw [if_neg c6] at H
      exact absurd H (by simp)
  · replace c5 := Bool.eq_false_iff.mpr c5
    subst c5
    have H1 : (none) = some r := by rw [if_neg (show ¬ (false = true) by decide)] at H; exact H
    clear H
    have H := H1
    clear H1
    exact absurd H (by simp)

/-- THE ONE PURE STATEMENT of sphragislaw15_RootDecodes: yours. -/
def sphragislaw15_RootDecodes.Pure : Prop := ∀ (a0 : ByteArray), a0.size ≤ 140737488351232 → ∃ k, sphragislaw15_RootDecodes.f k a0 = some true
theorem sphragislaw15_RootDecodes.walk (P : sphragislaw15_RootDecodes.Pure) (a0 : ByteArray) (w : World) (w0 : a0.size ≤ 140737488351232) :
    Calls Try.prog 7 #[.string a0] w fun e w' => e = .returned (.bool true) ∧ Below w.heap.size w w' := by
  obtain ⟨k, h⟩ := P a0 w0
  refine (sphragislaw15_RootDecodes.calls k a0 true w h).mono ?_
  rintro e w' ⟨rfl, hd⟩
  exact ⟨rfl, hd⟩

/-! ### sphragislaw15_RootEnds: function 9 -/
def sphragislaw15_RootEnds.j0 : Nat → Int → Int → Bool → ByteArray → Bool → Option (Bool)
  | 0, _, _, _, _, _ => none
  | k + 1, x1, x2, x7, x8, x31 => if x31 = true then (some x7) else (if 0 ≤ x1 then (if x1 ≤ (x8.size : Int) then ((root_Decode.f (x8.extract 0 (x1 : Int).toNat)).bind fun bt227 => ((some (([x2] : List Int) : List Int)).bind fun y234 => (if x8.size + (strOfNums y234).size ≤ 9223372036854775807 then ((root_Decode.f (x8 ++ (strOfNums y234))).bind fun bt237 => (if x7 = true then (if bt227.2.2.2.2.2 = 120 then (some (bt237.2.2.2.2.2 == 120)) else (none)) else (none))) else (none)))) else (none)) else (none))
def sphragislaw15_RootEnds.f (k : Nat) (a0_0 : Int) (a0_1 : Int) (a0_2 : Int) (a0_3 : Int) (a0_4 : ByteArray) (a1 : Int) (a2 : Int) : Option (Bool) := (sphragislaw15_shown.f k).bind fun t224 => ((root_Encode.f k a0_0 a0_1 a0_2 a0_3 a0_4).bind fun bt225 => (if bt225.2 = 0 then (if a1 < 0 then (sphragislaw15_RootEnds.j0 k a1 a2 t224 bt225.1 true) else (sphragislaw15_RootEnds.j0 k a1 a2 t224 bt225.1 (decide (a1 ≥ (bt225.1.size : Int))))) else (sphragislaw15_RootEnds.j0 k a1 a2 t224 bt225.1 true)))
theorem sphragislaw15_RootEnds.mono_l : ∀ k, (∀ y0 y1 y2 y3 y4, LeO (sphragislaw15_RootEnds.j0 k y0 y1 y2 y3 y4) (sphragislaw15_RootEnds.j0 (k + 1) y0 y1 y2 y3 y4))
  | 0 => fun _ _ _ _ _ r h => by simp [sphragislaw15_RootEnds.j0] at h
  | k + 1 => by
    have ih0 := sphragislaw15_RootEnds.mono_l k
    · intro y0 y1 y2 y3 y4
      unfold sphragislaw15_RootEnds.j0
      repeat' first
      | (with_reducible exact ih0 _ _ _ _ _)
      | (with_reducible exact root_Encode.mono _ _ _ _ _ _)
      | (with_reducible exact sphragislaw15_shown.mono _)
      | (with_reducible exact LeO.refl _)
      | (with_reducible exact LeO.none _)
      | (with_reducible refine LeO.ite ?_ ?_)
      | (with_reducible refine LeO.bind ?_ (fun _ => ?_))
      | exact ih0 _ _ _ _ _
      | exact root_Encode.mono _ _ _ _ _ _
      | exact sphragislaw15_shown.mono _
      | exact LeO.none _
      | refine LeO.ite ?_ ?_
      | refine LeO.bind ?_ (fun _ => ?_)
theorem sphragislaw15_RootEnds.mono : ∀ a0 a1 a2 a3 a4 a5 a6 k, LeO (sphragislaw15_RootEnds.f k a0 a1 a2 a3 a4 a5 a6) (sphragislaw15_RootEnds.f (k + 1) a0 a1 a2 a3 a4 a5 a6) := by
  intro a0 a1 a2 a3 a4 a5 a6 k
  have ih0 := sphragislaw15_RootEnds.mono_l k
  unfold sphragislaw15_RootEnds.f
  repeat' first
      | (with_reducible exact ih0 _ _ _ _ _)
      | (with_reducible exact root_Encode.mono _ _ _ _ _ _)
      | (with_reducible exact sphragislaw15_shown.mono _)
      | (with_reducible exact LeO.refl _)
      | (with_reducible exact LeO.none _)
      | (with_reducible refine LeO.ite ?_ ?_)
      | (with_reducible refine LeO.bind ?_ (fun _ => ?_))
      | exact ih0 _ _ _ _ _
      | exact root_Encode.mono _ _ _ _ _ _
      | exact sphragislaw15_shown.mono _
      | exact LeO.none _
      | refine LeO.ite ?_ ?_
      | refine LeO.bind ?_ (fun _ => ?_)
set_option maxHeartbeats 8000000 in
set_option maxRecDepth 100000 in
theorem sphragislaw15_RootEnds.calls (k : Nat) (a0_0 : Int) (a0_1 : Int) (a0_2 : Int) (a0_3 : Int) (a0_4 : ByteArray) (a1 : Int) (a2 : Int) (r : Bool) (w : World) (h : sphragislaw15_RootEnds.f k a0_0 a0_1 a0_2 a0_3 a0_4 a1 a2 = some r) :
    Calls Try.prog 9 #[.agg #[.int .u64 a0_0, .int .u32 a0_1, .int .u32 a0_2, .int .u32 a0_3, .string a0_4], .int .i64 a1, .int .u8 a2] w fun e w' => e = .returned (.bool r) ∧ Below w.heap.size w w' := by
  have hu27 := Try.underlying27
  have HB := Aside0.mk (Below.refl w.heap.size w)
  have H : ((sphragislaw15_shown.f k).bind fun t224 => ((root_Encode.f k a0_0 a0_1 a0_2 a0_3 a0_4).bind fun bt225 => (if bt225.2 = 0 then (if a1 < 0 then (sphragislaw15_RootEnds.j0 k a1 a2 t224 bt225.1 true) else (sphragislaw15_RootEnds.j0 k a1 a2 t224 bt225.1 (decide (a1 ≥ (bt225.1.size : Int))))) else (sphragislaw15_RootEnds.j0 k a1 a2 t224 bt225.1 true)))) = some r := h
  clear h
  replace H := Option.bind_eq_some_iff.mp H
  obtain ⟨t224, A40, H⟩ := H
  replace H : ((root_Encode.f k a0_0 a0_1 a0_2 a0_3 a0_4).bind fun bt225 => (if bt225.2 = 0 then (if a1 < 0 then (sphragislaw15_RootEnds.j0 k a1 a2 t224 bt225.1 true) else (sphragislaw15_RootEnds.j0 k a1 a2 t224 bt225.1 (decide (a1 ≥ (bt225.1.size : Int))))) else (sphragislaw15_RootEnds.j0 k a1 a2 t224 bt225.1 true))) = some r := H
  have A4 := Aside0.mk A40
  clear A40
  replace H := Option.bind_eq_some_iff.mp H
  obtain ⟨⟨t225, t226⟩, A50, H⟩ := H
  replace H : (if t226 = 0 then (if a1 < 0 then (sphragislaw15_RootEnds.j0 k a1 a2 t224 t225 true) else (sphragislaw15_RootEnds.j0 k a1 a2 t224 t225 (decide (a1 ≥ (t225.size : Int))))) else (sphragislaw15_RootEnds.j0 k a1 a2 t224 t225 true)) = some r := H
  have A5 := Aside0.mk A50
  clear A50
  have HC6 := Aside0.mk H
  clear H
  go_enter Try.func9, Try.ntmps9
  go_upto_region 3 with (first | ((with_reducible refine gate_dst (N := 3) rfl ?_); (try (refine gate_guard (by rfl) ?_; dsimp only)); refine box_event ?hg (N := 3) ?hd (cs := #[.int .u64 a0_0, .int .u32 a0_1, .int .u32 a0_2, .int .u32 a0_3, .string a0_4]) (t := 27) ?hr ?_; (case hd => rfl); (case hg => rfl); (case hr => first | (go_simp; done) | (go_simp; rfl)); intro gb223 hg w7 hbox hb; have n0_ := Aside0.mk (below_step (by repeat (first | (with_reducible first | exact HB.out | apply below_alloc | apply pw_below_drewN | apply below_drew1) | exact HB.out)) hb); have n1_ := Aside0.mk (hbox); have n2_ := Aside0.mk ((by rw [hg]; exact (below_size (by repeat (first | (with_reducible first | exact HB.out | apply below_alloc | apply pw_below_drewN | apply below_drew1) | exact HB.out))) : w.heap.size ≤ gb223)); have n3_ := Aside0.mk ((by rw [hg]; exact (below_size (by repeat (first | (with_reducible first | exact HB.out | apply below_alloc | apply pw_below_drewN | apply below_drew1) | exact HB.out))) : w.heap.size ≤ gb223)); clear HB; have HB := n0_; have BK223 := n1_; have GW223 := n2_; have GE223 := n3_; clear n0_ n1_ n2_ n3_; clear hb hbox hg) | ((with_reducible refine gate_callee (f := 10) rfl ?_); refine goesL_ (some 14) rfl rfl Try.func10 (by kernel_rfl) rfl #[] rfl (by (try simp only [List.map_toArray, List.map_cons, List.map_nil]); first | done | rfl | (simp only [List.length_drop, List.length_take]; rfl)) ?_; (with_reducible refine (sphragislaw15_shown.calls k  t224 _ A4.out).mono ?_); rintro e w8 ⟨rfl, hb⟩; refine ⟨_, rfl, ?_⟩; have n0_ := Aside0.mk (blk_below (g := gb223) (o := .cells #[.int .u64 a0_0, .int .u32 a0_1, .int .u32 a0_2, .int .u32 a0_3, .string a0_4] 27 (0, 0)) (by (with_reducible repeat (first | refine blk_drewN ?_ _ | refine blk_drew ?_ | refine blk_alloc ?_ _)); exact BK223.out) hb); have n1_ := Aside0.mk (below_step (by repeat (first | (with_reducible first | exact HB.out | apply below_alloc | apply pw_below_drewN | apply below_drew1 | refine below_set ?_ GE223.out) | exact HB.out)) hb); clear BK223; clear HB; have BK223 := n0_; have HB := n1_; clear n0_ n1_; (try clear hb); (try clear hb2); (try clear hk); (try clear hi); have hcz9_0 : w8.cell? ⟨gb223, 0, none⟩ = some (.int .u64 a0_0) := (blk_cell BK223.out 0).trans rfl; have hcz9_1 : w8.cell? ⟨gb223, 1, none⟩ = some (.int .u32 a0_1) := (blk_cell BK223.out 1).trans rfl; have hcz9_2 : w8.cell? ⟨gb223, 2, none⟩ = some (.int .u32 a0_2) := (blk_cell BK223.out 2).trans rfl; have hcz9_3 : w8.cell? ⟨gb223, 3, none⟩ = some (.int .u32 a0_3) := (blk_cell BK223.out 3).trans rfl; have hcz9_4 : w8.cell? ⟨gb223, 4, none⟩ = some (.string a0_4) := (blk_cell BK223.out 4).trans rfl; have hfz9_0 := blk_frozen BK223.out 0; have hfz9_1 := blk_frozen BK223.out 1; have hfz9_2 := blk_frozen BK223.out 2; have hfz9_3 := blk_frozen BK223.out 3; have hfz9_4 := blk_frozen BK223.out 4) | ((with_reducible refine gate_callee (f := 11) rfl ?_); refine goesL_ (some 17) rfl rfl Try.func11 (by kernel_rfl) rfl #[.agg #[.int .u64 a0_0, .int .u32 a0_1, .int .u32 a0_2, .int .u32 a0_3, .string a0_4]] rfl (by (try simp only [List.map_toArray, List.map_cons, List.map_nil]); first | done | rfl | (simp only [List.length_drop, List.length_take]; rfl)) ?_; (with_reducible refine (root_Encode.calls k a0_0 a0_1 a0_2 a0_3 a0_4 t225 t226 _ A5.out).mono ?_); rintro e w10 ⟨rfl, hb⟩; refine ⟨_, rfl, ?_⟩; have n0_ := Aside0.mk (blk_below (g := gb223) (o := .cells #[.int .u64 a0_0, .int .u32 a0_1, .int .u32 a0_2, .int .u32 a0_3, .string a0_4] 27 (0, 0)) (by (with_reducible repeat (first | refine blk_drewN ?_ _ | refine blk_drew ?_ | refine blk_alloc ?_ _)); exact BK223.out) hb); have n1_ := Aside0.mk (below_step (by repeat (first | (with_reducible first | exact HB.out | apply below_alloc | apply pw_below_drewN | apply below_drew1 | refine below_set ?_ GE223.out) | exact HB.out)) hb); clear BK223; clear HB; have BK223 := n0_; have HB := n1_; clear n0_ n1_; (try clear hb); (try clear hb2); (try clear hk); (try clear hi)))
  (try simp only [Act.put, List.setIfInBounds_toArray, List.set_cons_zero, List.set_cons_succ])
  go_cut [31] (fun v31 wc => ∃ (kq : Nat) (x31_5 : Bool), v31 = .bool x31_5 ∧ Aside0 (sphragislaw15_RootEnds.j0 kq a1 a2 t224 t225 x31_5 = some r) ∧ Aside0 (kq ≤ k) ∧ Aside0 (wc.heap[gb223]? = some (.cells #[.int .u64 a0_0, .int .u32 a0_1, .int .u32 a0_2, .int .u32 a0_3, .string a0_4] 27 (0, 0))) ∧ Aside0 (Below w.heap.size w wc))
  case first =>
    have H := HC6.out
    clear HC6
    by_cases c11 : t226 = 0
    · rw [if_pos c11] at H
      have c11b0 : (t226 == 0) = true := beq_iff_eq.mpr c11
      have c11b1 : (t226 != 0) = false := bne_eq_false_iff_eq.mpr c11
      clear c11
      (first | rw [c11b0] | (simp only [i64_w, i32_w]; rw [c11b0]) | skip)
      by_cases c12 : a1 < 0
      · rw [if_pos c12] at H
        have c12b0 : decide (a1 < 0) = true := decide_eq_true c12
        clear c12
        have H' := Aside0.mk H
        clear H
        go_wp2
        go_meet
        case rel => exact ⟨_, (true), (by first | rfl | (simp; done) | (simp [*]; done)), H', ⟨by first | omega | exact Nat.le_refl _⟩, ⟨by (with_reducible repeat (first | refine blk_drewN ?_ _ | refine blk_drew ?_ | refine blk_alloc ?_ _)); exact BK223.out⟩, ⟨by repeat (first | (with_reducible first | exact HB.out | apply below_alloc | apply pw_below_drewN | apply below_drew1 | refine below_set ?_ GE223.out) | exact HB.out)⟩⟩
      · rw [if_neg c12] at H
        have c12b0 : decide (a1 < 0) = false := decide_eq_false c12
        clear c12
        have H' := Aside0.mk H
        clear H
        go_wp2
        go_meet
        case rel => exact ⟨_, (decide (a1 ≥ (t225.size : Int))), (by first | rfl | (simp; done) | (simp [*]; done)), H', ⟨by first | omega | exact Nat.le_refl _⟩, ⟨by (with_reducible repeat (first | refine blk_drewN ?_ _ | refine blk_drew ?_ | refine blk_alloc ?_ _)); exact BK223.out⟩, ⟨by repeat (first | (with_reducible first | exact HB.out | apply below_alloc | apply pw_below_drewN | apply below_drew1 | refine below_set ?_ GE223.out) | exact HB.out)⟩⟩
    · rw [if_neg c11] at H
      have c11b0 : (t226 == 0) = false := beq_eq_false_iff_ne.mpr c11
      have c11b1 : (t226 != 0) = true := bne_iff_ne.mpr c11
      (first | rw [c11b0] | (simp only [i64_w, i32_w]; rw [c11b0]) | skip)
      have H' := Aside0.mk H
      clear H
      go_wp2
      go_meet
      case rel => exact ⟨_, (true), (by first | rfl | (simp; done) | (simp [*]; done)), H', ⟨by first | omega | exact Nat.le_refl _⟩, ⟨by (with_reducible repeat (first | refine blk_drewN ?_ _ | refine blk_drew ?_ | refine blk_alloc ?_ _)); exact BK223.out⟩, ⟨by repeat (first | (with_reducible first | exact HB.out | apply below_alloc | apply pw_below_drewN | apply below_drew1 | refine below_set ?_ GE223.out) | exact HB.out)⟩⟩
  case rest =>
    clear HC6
    try clear c1
    try clear p2
    try clear c9
    try clear c10
    try clear c11
    try clear c11b0
    try clear c11b1
    try clear c12
    try clear c12b0
    try clear hcz9_0
    try clear hcz9_1
    try clear hcz9_2
    try clear hcz9_3
    try clear hcz9_4
    try clear hfz9_0
    try clear hfz9_1
    try clear hfz9_2
    try clear hfz9_3
    try clear hfz9_4
    obtain ⟨kq, x31_5, rfl, HA, HJ5, BK223, HB⟩ := hcut
    cases kq with
    | zero => exact absurd HA.out (by simp [sphragislaw15_RootEnds.j0])
    | succ kj5 =>
      have H := HA.out
      clear HA
      simp only [sphragislaw15_RootEnds.j0] at H
      by_cases c13 : x31_5 = true
      · subst c13
        have H1 : (some t224) = some r := by rw [if_pos rfl] at H; exact H
        clear H
        have H := H1
        clear H1
        obtain rfl := Option.some.inj H
        go_wp2
        go_ret
        exact ⟨by first | rfl | (simp [errW_none, errW_some] <;> rfl) | (simp [*, errW_none, errW_some] <;> rfl), by repeat (first | (with_reducible first | exact HB.out | apply below_alloc | apply pw_below_drewN | apply below_drew1 | refine below_set ?_ GE223.out) | exact HB.out)⟩
      · replace c13 := Bool.eq_false_iff.mpr c13
        subst c13
        have H1 : (if 0 ≤ a1 then (if a1 ≤ (t225.size : Int) then ((root_Decode.f (t225.extract 0 (a1 : Int).toNat)).bind fun bt227 => ((some (([a2] : List Int) : List Int)).bind fun y234 => (if t225.size + (strOfNums y234).size ≤ 9223372036854775807 then ((root_Decode.f (t225 ++ (strOfNums y234))).bind fun bt237 => (if t224 = true then (if bt227.2.2.2.2.2 = 120 then (some (bt237.2.2.2.2.2 == 120)) else (none)) else (none))) else (none)))) else (none)) else (none)) = some r := by rw [if_neg (show ¬ (false = true) by decide)] at H; exact H
        clear H
        have H := H1
        clear H1
        by_cases c14 : 0 ≤ a1
        · rw [if_pos c14] at H
          have c14b0 := eq_true c14
          have c14b1 : decide (0 ≤ a1) = true := decide_eq_true c14
          clear c14
          by_cases c15 : a1 ≤ (t225.size : Int)
          · rw [if_pos c15] at H
            have c15b0 := eq_true c15
            have c15b1 : decide (a1 ≤ (t225.size : Int)) = true := decide_eq_true c15
            clear c15
            replace H := Option.bind_eq_some_iff.mp H
            obtain ⟨⟨t227, t228, t229, t230, t231, t232⟩, A160, H⟩ := H
            replace H : ((some (([a2] : List Int) : List Int)).bind fun y234 => (if t225.size + (strOfNums y234).size ≤ 9223372036854775807 then ((root_Decode.f (t225 ++ (strOfNums y234))).bind fun bt237 => (if t224 = true then (if t232 = 120 then (some (bt237.2.2.2.2.2 == 120)) else (none)) else (none))) else (none))) = some r := H
            have A16 := Aside0.mk A160
            clear A160
            obtain ⟨y234, hy234⟩ : ∃ y_ : List Int, y_ = (([a2] : List Int)) := ⟨_, rfl⟩
            replace H : (if t225.size + (strOfNums y234).size ≤ 9223372036854775807 then ((root_Decode.f (t225 ++ (strOfNums y234))).bind fun bt237 => (if t224 = true then (if t232 = 120 then (some (bt237.2.2.2.2.2 == 120)) else (none)) else (none))) else (none)) = some r := by first | (rw [hy234]; with_reducible exact H) | (have H2_ := (Option.bind_some _ _).symm.trans H; rw [hy234]; with_reducible exact H2_) | (have H2_ := (Option.bind_some _ _).symm.trans H; with_reducible exact H2_) | with_reducible exact H | (rw [hy234]; exact H) | exact H
            have Ny234 := Aside0.mk hy234
            clear hy234
            by_cases c17 : t225.size + (strOfNums y234).size ≤ 9223372036854775807
            · rw [if_pos c17] at H
              have c17b0 := eq_true c17
              have c17b1 : decide (t225.size + (strOfNums y234).size ≤ 9223372036854775807) = true := decide_eq_true c17
              try have c17b2 : (9223372036854775807 < t225.size + (strOfNums y234).size) = False := eq_false (Nat.not_lt.2 c17)
              replace H := Option.bind_eq_some_iff.mp H
              obtain ⟨⟨t237, t238, t239, t240, t241, t242⟩, A180, H⟩ := H
              replace H : (if t224 = true then (if t232 = 120 then (some (t242 == 120)) else (none)) else (none)) = some r := H
              have A18 := Aside0.mk A180
              clear A180
              by_cases c19 : t224 = true
              · subst c19
                have H1 : (if t232 = 120 then (some (t242 == 120)) else (none)) = some r := by rw [if_pos rfl] at H; exact H
                clear H
                have H := H1
                clear H1
                by_cases c20 : t232 = 120
                · rw [if_pos c20] at H
                  have c20b0 : (t232 == 120) = true := beq_iff_eq.mpr c20
                  have c20b1 : (t232 != 120) = false := bne_eq_false_iff_eq.mpr c20
                  clear c20
                  obtain rfl := Option.some.inj H
                  go_wp2_with (first | ((with_reducible refine gate_callee (f := 18) rfl ?_); refine goesL_ (some 37) rfl rfl Try.func18 (by kernel_rfl) rfl #[.string (t225.extract 0 (a1 : Int).toNat)] rfl (by (try simp only [List.map_toArray, List.map_cons, List.map_nil]); first | done | rfl | (simp only [List.length_drop, List.length_take]; rfl)) ?_; (with_reducible refine (root_Decode.calls (t225.extract 0 (a1 : Int).toNat) t227 t228 t229 t230 t231 t232 _ A16.out).mono ?_); rintro e w21 ⟨rfl, hb⟩; refine ⟨_, rfl, ?_⟩; have n0_ := Aside0.mk (blk_below (g := gb223) (o := .cells #[.int .u64 a0_0, .int .u32 a0_1, .int .u32 a0_2, .int .u32 a0_3, .string a0_4] 27 (0, 0)) (by (with_reducible repeat (first | refine blk_drewN ?_ _ | refine blk_drew ?_ | refine blk_alloc ?_ _)); exact BK223.out) hb); have n1_ := Aside0.mk (below_step (by repeat (first | (with_reducible first | exact HB.out | apply below_alloc | apply pw_below_drewN | apply below_drew1 | refine below_set ?_ GE223.out) | exact HB.out)) hb); clear BK223; clear HB; have BK223 := n0_; have HB := n1_; clear n0_ n1_; (try clear hb); (try clear hb2); (try clear hk); (try clear hi)) | ((with_reducible refine gate_dst (N := 10) rfl ?_); (try (refine gate_guard (by rfl) ?_; dsimp only)); refine box_event ?hg (N := 10) ?hd (cs := #[.int .u64 0, .int .u32 0, .int .u32 0, .int .u32 0, .string (⟨#[]⟩ : ByteArray)]) (t := 27) ?hr ?_; (case hd => rfl); (case hg => rfl); (case hr => first | (go_simp; done) | (go_simp; rfl)); intro gb233 hg w22 hbox hb; have n0_ := Aside0.mk (blk_below (g := gb223) (o := .cells #[.int .u64 a0_0, .int .u32 a0_1, .int .u32 a0_2, .int .u32 a0_3, .string a0_4] 27 (0, 0)) (by (with_reducible repeat (first | refine blk_drewN ?_ _ | refine blk_drew ?_ | refine blk_alloc ?_ _)); exact BK223.out) hb); have n1_ := Aside0.mk (below_step (by repeat (first | (with_reducible first | exact HB.out | apply below_alloc | apply pw_below_drewN | apply below_drew1 | refine below_set ?_ GE223.out) | exact HB.out)) hb); have n2_ := Aside0.mk (hbox); have n3_ := Aside0.mk ((by rw [hg]; exact (below_size (by repeat (first | (with_reducible first | exact HB.out | apply below_alloc | apply pw_below_drewN | apply below_drew1 | refine below_set ?_ GE223.out) | exact HB.out))) : w.heap.size ≤ gb233)); have n4_ := Aside0.mk ((by rw [hg]; exact (below_size (by repeat (first | (with_reducible first | exact HB.out | apply below_alloc | apply pw_below_drewN | apply below_drew1 | refine below_set ?_ GE223.out) | exact HB.out))) : w.heap.size ≤ gb233)); have n5_ := Aside0.mk ((by rw [hg]; exact Nat.ne_of_lt (blk_lt (g := gb223) (o := .cells #[.int .u64 a0_0, .int .u32 a0_1, .int .u32 a0_2, .int .u32 a0_3, .string a0_4] 27 (0, 0)) (by (with_reducible repeat (first | refine blk_drewN ?_ _ | refine blk_drew ?_ | refine blk_alloc ?_ _)); exact BK223.out)) : gb223 ≠ gb233)); have n6_ := Aside0.mk ((by rw [hg]; exact Nat.ne_of_gt (blk_lt (g := gb223) (o := .cells #[.int .u64 a0_0, .int .u32 a0_1, .int .u32 a0_2, .int .u32 a0_3, .string a0_4] 27 (0, 0)) (by (with_reducible repeat (first | refine blk_drewN ?_ _ | refine blk_drew ?_ | refine blk_alloc ?_ _)); exact BK223.out)) : gb233 ≠ gb223)); clear BK223; clear HB; have BK223 := n0_; have HB := n1_; have BK233 := n2_; have GW233 := n3_; have GE233 := n4_; have NB223_233 := n5_; have NB233_223 := n6_; clear n0_ n1_ n2_ n3_ n4_ n5_ n6_; clear hb hbox hg; have hnb23 := NB233_223.out; have hnc23 := NB223_233.out; have hcz24_0 : w22.cell? ⟨gb233, 0, none⟩ = some (.int .u64 0) := (blk_cell BK233.out 0).trans rfl; have hcz24_1 : w22.cell? ⟨gb233, 1, none⟩ = some (.int .u32 0) := (blk_cell BK233.out 1).trans rfl; have hcz24_2 : w22.cell? ⟨gb233, 2, none⟩ = some (.int .u32 0) := (blk_cell BK233.out 2).trans rfl; have hcz24_3 : w22.cell? ⟨gb233, 3, none⟩ = some (.int .u32 0) := (blk_cell BK233.out 3).trans rfl; have hcz24_4 : w22.cell? ⟨gb233, 4, none⟩ = some (.string (⟨#[]⟩ : ByteArray)) := (blk_cell BK233.out 4).trans rfl; have hfz24_0 := blk_frozen BK233.out 0; have hfz24_1 := blk_frozen BK233.out 1; have hfz24_2 := blk_frozen BK233.out 2; have hfz24_3 := blk_frozen BK233.out 3; have hfz24_4 := blk_frozen BK233.out 4) | ((with_reducible refine gate_dst (N := 43) rfl ?_); (try (refine gate_guard (by rfl) ?_; dsimp only)); refine Kd.R_lit (Kd.int .u8) _ 5 ?hg (N := 43) ?hd (xs := ([a2] : List Int)) (inner := [.int .u8 a2]) (ok := fun _ => True) (okp := fun _ => True) ?hr ?hp (fun _ hk => hk) trivial (Below.refl _ _) (Nat.le_refl _) (by simp) ?_; (case hd => rfl); (case hg => rfl); (case hr => first | (go_simp; done) | (go_simp; rfl)); (case hp => exact (Reps.one (show Kd.M (Kd.int .u8) _ _ _ a2 [.int .u8 a2] from rfl) (Reps.none _ _))); intro v235 w25 ho26 hb hg_ hnew_; clear hg_ hnew_; (first | rw [← Ny234.out] at ho26 | (simp only [Int.reduceToNat] at ho26; rw [← Ny234.out] at ho26)); have n0_ := Aside0.mk (Kd.R_lower ho26 (below_size (by repeat (first | (with_reducible first | exact HB.out | apply below_alloc | apply pw_below_drewN | apply below_drew1 | refine below_set ?_ GE223.out | refine below_set ?_ GE233.out) | exact HB.out)))); have n1_ := Aside0.mk (blk_below (g := gb223) (o := .cells #[.int .u64 a0_0, .int .u32 a0_1, .int .u32 a0_2, .int .u32 a0_3, .string a0_4] 27 (0, 0)) (by (with_reducible repeat (first | refine blk_drewN ?_ _ | refine blk_drew ?_ | refine blk_alloc ?_ _)); refine blk_far ?_ NB223_233.out _; (with_reducible repeat (first | refine blk_drewN ?_ _ | refine blk_drew ?_ | refine blk_alloc ?_ _)); refine blk_far ?_ NB223_233.out _; (with_reducible repeat (first | refine blk_drewN ?_ _ | refine blk_drew ?_ | refine blk_alloc ?_ _)); refine blk_far ?_ NB223_233.out _; (with_reducible repeat (first | refine blk_drewN ?_ _ | refine blk_drew ?_ | refine blk_alloc ?_ _)); refine blk_far ?_ NB223_233.out _; (with_reducible repeat (first | refine blk_drewN ?_ _ | refine blk_drew ?_ | refine blk_alloc ?_ _)); refine blk_far ?_ NB223_233.out _; (with_reducible repeat (first | refine blk_drewN ?_ _ | refine blk_drew ?_ | refine blk_alloc ?_ _)); exact BK223.out) hb); have n2_ := Aside0.mk (blk_below (g := gb233) (o := .cells #[.int .u64 t227, .int .u32 t228, .int .u32 t229, .int .u32 t230, .string t231] 27 (0, 0)) (by (with_reducible repeat (first | refine blk_drewN ?_ _ | refine blk_drew ?_ | refine blk_alloc ?_ _)); refine blk_put (cs := #[.int .u64 t227, .int .u32 t228, .int .u32 t229, .int .u32 t230, .string (⟨#[]⟩ : ByteArray)]) ?_ 4 _ rfl; (with_reducible repeat (first | refine blk_drewN ?_ _ | refine blk_drew ?_ | refine blk_alloc ?_ _)); refine blk_put (cs := #[.int .u64 t227, .int .u32 t228, .int .u32 t229, .int .u32 0, .string (⟨#[]⟩ : ByteArray)]) ?_ 3 _ rfl; (with_reducible repeat (first | refine blk_drewN ?_ _ | refine blk_drew ?_ | refine blk_alloc ?_ _)); refine blk_put (cs := #[.int .u64 t227, .int .u32 t228, .int .u32 0, .int .u32 0, .string (⟨#[]⟩ : ByteArray)]) ?_ 2 _ rfl; (with_reducible repeat (first | refine blk_drewN ?_ _ | refine blk_drew ?_ | refine blk_alloc ?_ _)); refine blk_put (cs := #[.int .u64 t227, .int .u32 0, .int .u32 0, .int .u32 0, .string (⟨#[]⟩ : ByteArray)]) ?_ 1 _ rfl; (with_reducible repeat (first | refine blk_drewN ?_ _ | refine blk_drew ?_ | refine blk_alloc ?_ _)); refine blk_put (cs := #[.int .u64 0, .int .u32 0, .int .u32 0, .int .u32 0, .string (⟨#[]⟩ : ByteArray)]) ?_ 0 _ rfl; (with_reducible repeat (first | refine blk_drewN ?_ _ | refine blk_drew ?_ | refine blk_alloc ?_ _)); exact BK233.out) hb); have n3_ := Aside0.mk (below_step (by repeat (first | (with_reducible first | exact HB.out | apply below_alloc | apply pw_below_drewN | apply below_drew1 | refine below_set ?_ GE223.out | refine below_set ?_ GE233.out) | exact HB.out)) hb); clear BK223; clear BK233; clear HB; have HO236 := n0_; have BK223 := n1_; have BK233 := n2_; have HB := n3_; clear n0_ n1_ n2_ n3_; clear hb ho26; have hcv27 := own_string (P := Try.prog) Try.underlying42 Try.underlying5 Try.underlying9 (Kd.own_of_R HO236.out)) | ((with_reducible refine gate_callee (f := 18) rfl ?_); refine goesL_ (some 46) rfl rfl Try.func18 (by kernel_rfl) rfl #[.string (t225 ++ (strOfNums y234))] rfl (by (try simp only [List.map_toArray, List.map_cons, List.map_nil]); first | done | rfl | (simp only [List.length_drop, List.length_take]; rfl)) ?_; (with_reducible refine (root_Decode.calls (t225 ++ (strOfNums y234)) t237 t238 t239 t240 t241 t242 _ A18.out).mono ?_); rintro e w28 ⟨rfl, hb⟩; refine ⟨_, rfl, ?_⟩; have n0_ := Aside0.mk (Kd.R_below (by (with_reducible repeat (first | apply Kd.R_alloc | apply Kd.R_drewN | apply Kd.R_drew)); exact HO236.out) hb); have n1_ := Aside0.mk (blk_below (g := gb223) (o := .cells #[.int .u64 a0_0, .int .u32 a0_1, .int .u32 a0_2, .int .u32 a0_3, .string a0_4] 27 (0, 0)) (by (with_reducible repeat (first | refine blk_drewN ?_ _ | refine blk_drew ?_ | refine blk_alloc ?_ _)); exact BK223.out) hb); have n2_ := Aside0.mk (blk_below (g := gb233) (o := .cells #[.int .u64 t227, .int .u32 t228, .int .u32 t229, .int .u32 t230, .string t231] 27 (0, 0)) (by (with_reducible repeat (first | refine blk_drewN ?_ _ | refine blk_drew ?_ | refine blk_alloc ?_ _)); exact BK233.out) hb); have n3_ := Aside0.mk (below_step (by repeat (first | (with_reducible first | exact HB.out | apply below_alloc | apply pw_below_drewN | apply below_drew1 | refine below_set ?_ GE223.out | refine below_set ?_ GE233.out) | exact HB.out)) hb); clear HO236; clear BK223; clear BK233; clear HB; have HO236 := n0_; have BK223 := n1_; have BK233 := n2_; have HB := n3_; clear n0_ n1_ n2_ n3_; (try clear hb); (try clear hb2); (try clear hk); (try clear hi)) | ((with_reducible refine gate_dst (N := 12) rfl ?_); (try (refine gate_guard (by rfl) ?_; dsimp only)); refine box_event ?hg (N := 12) ?hd (cs := #[.int .u64 0, .int .u32 0, .int .u32 0, .int .u32 0, .string (⟨#[]⟩ : ByteArray)]) (t := 27) ?hr ?_; (case hd => rfl); (case hg => rfl); (case hr => first | (go_simp; done) | (go_simp; rfl)); intro gb243 hg w29 hbox hb; have n0_ := Aside0.mk (Kd.R_below (by (with_reducible repeat (first | apply Kd.R_alloc | apply Kd.R_drewN | apply Kd.R_drew)); exact HO236.out) hb); have n1_ := Aside0.mk (blk_below (g := gb223) (o := .cells #[.int .u64 a0_0, .int .u32 a0_1, .int .u32 a0_2, .int .u32 a0_3, .string a0_4] 27 (0, 0)) (by (with_reducible repeat (first | refine blk_drewN ?_ _ | refine blk_drew ?_ | refine blk_alloc ?_ _)); exact BK223.out) hb); have n2_ := Aside0.mk (blk_below (g := gb233) (o := .cells #[.int .u64 t227, .int .u32 t228, .int .u32 t229, .int .u32 t230, .string t231] 27 (0, 0)) (by (with_reducible repeat (first | refine blk_drewN ?_ _ | refine blk_drew ?_ | refine blk_alloc ?_ _)); exact BK233.out) hb); have n3_ := Aside0.mk (below_step (by repeat (first | (with_reducible first | exact HB.out | apply below_alloc | apply pw_below_drewN | apply below_drew1 | refine below_set ?_ GE223.out | refine below_set ?_ GE233.out) | exact HB.out)) hb); have n4_ := Aside0.mk (hbox); have n5_ := Aside0.mk ((by rw [hg]; exact (below_size (by repeat (first | (with_reducible first | exact HB.out | apply below_alloc | apply pw_below_drewN | apply below_drew1 | refine below_set ?_ GE223.out | refine below_set ?_ GE233.out) | exact HB.out))) : w.heap.size ≤ gb243)); have n6_ := Aside0.mk ((by rw [hg]; exact (below_size (by repeat (first | (with_reducible first | exact HB.out | apply below_alloc | apply pw_below_drewN | apply below_drew1 | refine below_set ?_ GE223.out | refine below_set ?_ GE233.out) | exact HB.out))) : w.heap.size ≤ gb243)); have n7_ := Aside0.mk ((by rw [hg]; exact Nat.ne_of_lt (blk_lt (g := gb223) (o := .cells #[.int .u64 a0_0, .int .u32 a0_1, .int .u32 a0_2, .int .u32 a0_3, .string a0_4] 27 (0, 0)) (by (with_reducible repeat (first | refine blk_drewN ?_ _ | refine blk_drew ?_ | refine blk_alloc ?_ _)); exact BK223.out)) : gb223 ≠ gb243)); have n8_ := Aside0.mk ((by rw [hg]; exact Nat.ne_of_gt (blk_lt (g := gb223) (o := .cells #[.int .u64 a0_0, .int .u32 a0_1, .int .u32 a0_2, .int .u32 a0_3, .string a0_4] 27 (0, 0)) (by (with_reducible repeat (first | refine blk_drewN ?_ _ | refine blk_drew ?_ | refine blk_alloc ?_ _)); exact BK223.out)) : gb243 ≠ gb223)); have n9_ := Aside0.mk ((by rw [hg]; exact Nat.ne_of_lt (blk_lt (g := gb233) (o := .cells #[.int .u64 t227, .int .u32 t228, .int .u32 t229, .int .u32 t230, .string t231] 27 (0, 0)) (by (with_reducible repeat (first | refine blk_drewN ?_ _ | refine blk_drew ?_ | refine blk_alloc ?_ _)); exact BK233.out)) : gb233 ≠ gb243)); have n10_ := Aside0.mk ((by rw [hg]; exact Nat.ne_of_gt (blk_lt (g := gb233) (o := .cells #[.int .u64 t227, .int .u32 t228, .int .u32 t229, .int .u32 t230, .string t231] 27 (0, 0)) (by (with_reducible repeat (first | refine blk_drewN ?_ _ | refine blk_drew ?_ | refine blk_alloc ?_ _)); exact BK233.out)) : gb243 ≠ gb233)); clear HO236; clear BK223; clear BK233; clear HB; have HO236 := n0_; have BK223 := n1_; have BK233 := n2_; have HB := n3_; have BK243 := n4_; have GW243 := n5_; have GE243 := n6_; have NB223_243 := n7_; have NB243_223 := n8_; have NB233_243 := n9_; have NB243_233 := n10_; clear n0_ n1_ n2_ n3_ n4_ n5_ n6_ n7_ n8_ n9_ n10_; clear hb hbox hg; have hnb30 := NB243_223.out; have hnc30 := NB223_243.out; have hnb31 := NB243_233.out; have hnc31 := NB233_243.out; have hcz32_0 : w29.cell? ⟨gb243, 0, none⟩ = some (.int .u64 0) := (blk_cell BK243.out 0).trans rfl; have hcz32_1 : w29.cell? ⟨gb243, 1, none⟩ = some (.int .u32 0) := (blk_cell BK243.out 1).trans rfl; have hcz32_2 : w29.cell? ⟨gb243, 2, none⟩ = some (.int .u32 0) := (blk_cell BK243.out 2).trans rfl; have hcz32_3 : w29.cell? ⟨gb243, 3, none⟩ = some (.int .u32 0) := (blk_cell BK243.out 3).trans rfl; have hcz32_4 : w29.cell? ⟨gb243, 4, none⟩ = some (.string (⟨#[]⟩ : ByteArray)) := (blk_cell BK243.out 4).trans rfl; have hfz32_0 := blk_frozen BK243.out 0; have hfz32_1 := blk_frozen BK243.out 1; have hfz32_2 := blk_frozen BK243.out 2; have hfz32_3 := blk_frozen BK243.out 3; have hfz32_4 := blk_frozen BK243.out 4))
                  go_ret
                  exact ⟨by first | rfl | (simp [errW_none, errW_some] <;> rfl) | (simp [*, errW_none, errW_some] <;> rfl), by repeat (first | (with_reducible first | exact HB.out | apply below_alloc | apply pw_below_drewN | apply below_drew1 | refine below_set ?_ GE223.out | refine below_set ?_ GE233.out | refine below_set ?_ GE243.out) | exact HB.out)⟩
                · rw [if_neg c20] at H
                  exact absurd H (by simp)
              · replace c19 := Bool.eq_false_iff.mpr c19
                subst c19
                have H1 : (none) = some r := by rw [if_neg (show ¬ (false = true) by decide)] at H; exact H
                clear H
                have H := H1
                clear H1
                exact absurd H (by simp)
            · rw [if_neg c17] at H
              exact absurd H (by simp)
          · rw [if_neg c15] at H
            exact absurd H (by simp)
        · rw [if_neg c14] at H
          exact absurd H (by simp)

end Go.Proofs.Ytfbfpjgnplhodaa.H
