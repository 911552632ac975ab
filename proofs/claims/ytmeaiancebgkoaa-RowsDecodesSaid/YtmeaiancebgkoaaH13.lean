-- Written by a program of this session (hyb.py), which drives the print over functions some of which are proved by hand.
import Derived.Test.YtmeaiancebgkoaaH0
import Derived.Test.YtmeaiancebgkoaaH1
import Derived.Test.YtmeaiancebgkoaaH11
import Derived.Test.YtmeaiancebgkoaaH12
namespace Go.Proofs.Ytmeaiancebgkoaa.H
open Go.RowKit Go.Proofs.YtmeaiancebgkoaaW.PrintWords Go.Proofs.YtmeaiancebgkoaaW.PrintLast Go.Proofs.YtmeaiancebgkoaaW.PrintMore
attribute [local go_sem] max2_int min2_int max_two min_two max_three min_three max_four min_four   -- for this text's walks alone
set_option linter.unusedVariables false
set_option linter.unusedSimpArgs false

attribute [local go_sem high] eqA24
/-! ### sphragisref10_Right: function 15 -/
mutual
def sphragisref10_Right.j0 : Nat → Bool → Int → Int → Int → Int → List (S47) → List (S28) → Int → ByteArray → Option (Bool)
 | 0, _, _, _, _, _, _, _, _, _ => none
 | k + 1, x75, x166000, x166001, x166002, x166003, x166004, x166005, x166006, x166007 => if x75 = true then (some false) else (sphragisref10_Right.l0 k 0 x166000 x166001 x166002 x166003 x166004 x166005 x166006 x166007)
def sphragisref10_Right.l0 : Nat → Int → Int → Int → Int → Int → List (S47) → List (S28) → Int → ByteArray → Option (Bool)
 | 0, _, _, _, _, _, _, _, _, _ => none
 | k + 1, x5, x166000, x166001, x166002, x166003, x166004, x166005, x166006, x166007 => if x5 < (x166005.length : Int) then (if 0 ≤ x5 then ((sphragisref10_RightRef.f ((rd_T28 x166005 x5).f0) ((rd_T28 x166005 x5).f1)).bind fun t171 => (if t171 = true then (sphragisref10_Right.l0 k (wrap64 (x5 + 1)) x166000 x166001 x166002 x166003 x166004 x166005 x166006 x166007) else (some false))) else (none)) else ((sphragisref08_Right.f k x166001 x166002 x166003).bind fun t172 => (some t172))
end
def sphragisref10_Right.f (k : Nat) (a0_0 : Int) (a0_1 : Int) (a0_2 : Int) (a0_3 : Int) (l0_4 : List (S47)) (l0_5 : List (S28)) (a0_6 : Int) (a0_7 : ByteArray) : Option (Bool) := if a0_0 = 1 then ((sphragisref09_Right.f k l0_4).bind fun t166 => ((sphragisref10_RightRef.f a0_6 a0_7).bind fun t167 => (if (l0_4.length : Int) ≤ 4 then (if t166 = true then (if t167 = true then (if (l0_5.length : Int) = 0 then (some (a0_1 == 0 && (a0_2 == 0 && (a0_3 == 0)))) else (some false)) else ((sphragisref10_none.f a0_6 a0_7).bind fun t168 => (if t168 = true then (if (l0_5.length : Int) = 0 then (some (a0_1 == 0 && (a0_2 == 0 && (a0_3 == 0)))) else (some false)) else (some false)))) else (some false)) else (some false)))) else (if a0_0 = 2 then (if (l0_4.length : Int) > 0 then (sphragisref10_Right.j0 k true a0_0 a0_1 a0_2 a0_3 l0_4 l0_5 a0_6 a0_7) else ((sphragisref10_none.f a0_6 a0_7).bind fun t169 => (if t169 = true then (if (l0_5.length : Int) < 2 then (sphragisref10_Right.j0 k true a0_0 a0_1 a0_2 a0_3 l0_4 l0_5 a0_6 a0_7) else (if (l0_5.length : Int) > 4 then (sphragisref10_Right.j0 k true a0_0 a0_1 a0_2 a0_3 l0_4 l0_5 a0_6 a0_7) else (sphragisref10_Right.j0 k (decide (a0_3 < 1)) a0_0 a0_1 a0_2 a0_3 l0_4 l0_5 a0_6 a0_7))) else (sphragisref10_Right.j0 k true a0_0 a0_1 a0_2 a0_3 l0_4 l0_5 a0_6 a0_7)))) else (sphragisref10_Right.j0 k true a0_0 a0_1 a0_2 a0_3 l0_4 l0_5 a0_6 a0_7))
theorem sphragisref10_Right.mono_l : ∀ k, (∀ y0 y1 y2 y3 y4 y5 y6 y7 y8, LeO (sphragisref10_Right.j0 k y0 y1 y2 y3 y4 y5 y6 y7 y8) (sphragisref10_Right.j0 (k + 1) y0 y1 y2 y3 y4 y5 y6 y7 y8)) ∧ (∀ y0 y1 y2 y3 y4 y5 y6 y7 y8, LeO (sphragisref10_Right.l0 k y0 y1 y2 y3 y4 y5 y6 y7 y8) (sphragisref10_Right.l0 (k + 1) y0 y1 y2 y3 y4 y5 y6 y7 y8))
 | 0 => ⟨fun _ _ _ _ _ _ _ _ _ r h => by simp [sphragisref10_Right.j0] at h, fun _ _ _ _ _ _ _ _ _ r h => by simp [sphragisref10_Right.l0] at h⟩
 | k + 1 => by
  obtain ⟨ih0, ih1⟩ := sphragisref10_Right.mono_l k
  refine ⟨?_, ?_⟩
  ·intro y0 y1 y2 y3 y4 y5 y6 y7 y8
   unfold sphragisref10_Right.j0
   repeat' first
   | (with_reducible exact ih0 _ _ _ _ _ _ _ _ _)
   | (with_reducible exact ih1 _ _ _ _ _ _ _ _ _)
   | (with_reducible exact sphragisref08_Right.mono _ _ _ _)
   | (with_reducible exact sphragisref09_Right.mono _ _)
   | (with_reducible exact LeO.refl _)
   | (with_reducible exact LeO.none _)
   | (with_reducible refine LeO.ite ?_ ?_)
   | (with_reducible refine LeO.bind ?_ (fun _ => ?_))
   | exact ih0 _ _ _ _ _ _ _ _ _
   | exact ih1 _ _ _ _ _ _ _ _ _
   | exact sphragisref08_Right.mono _ _ _ _
   | exact sphragisref09_Right.mono _ _
   | exact LeO.none _
   | refine LeO.ite ?_ ?_
   | refine LeO.bind ?_ (fun _ => ?_)
  ·intro y0 y1 y2 y3 y4 y5 y6 y7 y8
   unfold sphragisref10_Right.l0
   repeat' first
   | (with_reducible exact ih0 _ _ _ _ _ _ _ _ _)
   | (with_reducible exact ih1 _ _ _ _ _ _ _ _ _)
   | (with_reducible exact sphragisref08_Right.mono _ _ _ _)
   | (with_reducible exact sphragisref09_Right.mono _ _)
   | (with_reducible exact LeO.refl _)
   | (with_reducible exact LeO.none _)
   | (with_reducible refine LeO.ite ?_ ?_)
   | (with_reducible refine LeO.bind ?_ (fun _ => ?_))
   | exact ih0 _ _ _ _ _ _ _ _ _
   | exact ih1 _ _ _ _ _ _ _ _ _
   | exact sphragisref08_Right.mono _ _ _ _
   | exact sphragisref09_Right.mono _ _
   | exact LeO.none _
   | refine LeO.ite ?_ ?_
   | refine LeO.bind ?_ (fun _ => ?_)
theorem sphragisref10_Right.mono : ∀ a0 a1 a2 a3 a4 a5 a6 a7 k, LeO (sphragisref10_Right.f k a0 a1 a2 a3 a4 a5 a6 a7) (sphragisref10_Right.f (k + 1) a0 a1 a2 a3 a4 a5 a6 a7) := by
 intro a0 a1 a2 a3 a4 a5 a6 a7 k
 obtain ⟨ih0, ih1⟩ := sphragisref10_Right.mono_l k
 unfold sphragisref10_Right.f
 repeat' first
   | (with_reducible exact ih0 _ _ _ _ _ _ _ _ _)
   | (with_reducible exact ih1 _ _ _ _ _ _ _ _ _)
   | (with_reducible exact sphragisref08_Right.mono _ _ _ _)
   | (with_reducible exact sphragisref09_Right.mono _ _)
   | (with_reducible exact LeO.refl _)
   | (with_reducible exact LeO.none _)
   | (with_reducible refine LeO.ite ?_ ?_)
   | (with_reducible refine LeO.bind ?_ (fun _ => ?_))
   | exact ih0 _ _ _ _ _ _ _ _ _
   | exact ih1 _ _ _ _ _ _ _ _ _
   | exact sphragisref08_Right.mono _ _ _ _
   | exact sphragisref09_Right.mono _ _
   | exact LeO.none _
   | refine LeO.ite ?_ ?_
   | refine LeO.bind ?_ (fun _ => ?_)
set_option maxHeartbeats 8000000 in
set_option maxRecDepth 100000 in
theorem sphragisref10_Right.calls (k : Nat) (a0_0 : Int) (a0_1 : Int) (a0_2 : Int) (a0_3 : Int) (A0_4 : Option Addr) (c0_4 : Nat) (l0_4 : List (S47)) (A0_5 : Option Addr) (c0_5 : Nat) (l0_5 : List (S28)) (a0_6 : Int) (a0_7 : ByteArray) (r : Bool) (w : World) (hr0_4 : Kd.C k47 w A0_4 l0_4.length l0_4) (hc0_4 : l0_4.length ≤ c0_4) (hr0_5 : Kd.C k28 w A0_5 l0_5.length l0_5) (hc0_5 : l0_5.length ≤ c0_5) (h : sphragisref10_Right.f k a0_0 a0_1 a0_2 a0_3 l0_4 l0_5 a0_6 a0_7 = some r) :
  Calls Try.prog 15 #[.agg #[.int .i64 a0_0, .int .u32 a0_1, .int .u32 a0_2, .int .i64 a0_3, .slice A0_4 l0_4.length c0_4, .slice A0_5 l0_5.length c0_5, .int .u32 a0_6, .string a0_7]] w fun e w' => e = .returned (.bool r) ∧ Below w.heap.size w w' := by
 have hu30 := Try.underlying30
 have hu28 := Try.underlying28
 have hu24 := Try.underlying24
 have HR0_4 := Aside0.mk hr0_4
 have HC0_4 := Aside0.mk hc0_4
 clear hr0_4 hc0_4
 have HR0_5 := Aside0.mk hr0_5
 have HC0_5 := Aside0.mk hc0_5
 clear hr0_5 hc0_5
 have HB := Aside0.mk (Below.refl w.heap.size w)
 have H : (if a0_0 = 1 then ((sphragisref09_Right.f k l0_4).bind fun t166 => ((sphragisref10_RightRef.f a0_6 a0_7).bind fun t167 => (if (l0_4.length : Int) ≤ 4 then (if t166 = true then (if t167 = true then (if (l0_5.length : Int) = 0 then (some (a0_1 == 0 && (a0_2 == 0 && (a0_3 == 0)))) else (some false)) else ((sphragisref10_none.f a0_6 a0_7).bind fun t168 => (if t168 = true then (if (l0_5.length : Int) = 0 then (some (a0_1 == 0 && (a0_2 == 0 && (a0_3 == 0)))) else (some false)) else (some false)))) else (some false)) else (some false)))) else (if a0_0 = 2 then (if (l0_4.length : Int) > 0 then (sphragisref10_Right.j0 k true a0_0 a0_1 a0_2 a0_3 l0_4 l0_5 a0_6 a0_7) else ((sphragisref10_none.f a0_6 a0_7).bind fun t169 => (if t169 = true then (if (l0_5.length : Int) < 2 then (sphragisref10_Right.j0 k true a0_0 a0_1 a0_2 a0_3 l0_4 l0_5 a0_6 a0_7) else (if (l0_5.length : Int) > 4 then (sphragisref10_Right.j0 k true a0_0 a0_1 a0_2 a0_3 l0_4 l0_5 a0_6 a0_7) else (sphragisref10_Right.j0 k (decide (a0_3 < 1)) a0_0 a0_1 a0_2 a0_3 l0_4 l0_5 a0_6 a0_7))) else (sphragisref10_Right.j0 k true a0_0 a0_1 a0_2 a0_3 l0_4 l0_5 a0_6 a0_7)))) else (sphragisref10_Right.j0 k true a0_0 a0_1 a0_2 a0_3 l0_4 l0_5 a0_6 a0_7))) = some r := h
 clear h
 by_cases c2 : a0_0 = 1
 ·rw [if_pos c2] at H
  have c2b0 : (a0_0 == 1) = true := beq_iff_eq.mpr c2
  have c2b1 : (a0_0 != 1) = false := bne_eq_false_iff_eq.mpr c2
  clear c2
  replace H := Option.bind_eq_some_iff.mp H
  obtain ⟨t166, A30, H⟩ := H
  replace H : ((sphragisref10_RightRef.f a0_6 a0_7).bind fun t167 => (if (l0_4.length : Int) ≤ 4 then (if t166 = true then (if t167 = true then (if (l0_5.length : Int) = 0 then (some (a0_1 == 0 && (a0_2 == 0 && (a0_3 == 0)))) else (some false)) else ((sphragisref10_none.f a0_6 a0_7).bind fun t168 => (if t168 = true then (if (l0_5.length : Int) = 0 then (some (a0_1 == 0 && (a0_2 == 0 && (a0_3 == 0)))) else (some false)) else (some false)))) else (some false)) else (some false))) = some r := H
  have A3 := Aside0.mk A30
  clear A30
  replace H := Option.bind_eq_some_iff.mp H
  obtain ⟨t167, A40, H⟩ := H
  replace H : (if (l0_4.length : Int) ≤ 4 then (if t166 = true then (if t167 = true then (if (l0_5.length : Int) = 0 then (some (a0_1 == 0 && (a0_2 == 0 && (a0_3 == 0)))) else (some false)) else ((sphragisref10_none.f a0_6 a0_7).bind fun t168 => (if t168 = true then (if (l0_5.length : Int) = 0 then (some (a0_1 == 0 && (a0_2 == 0 && (a0_3 == 0)))) else (some false)) else (some false)))) else (some false)) else (some false)) = some r := H
  have A4 := Aside0.mk A40
  clear A40
  by_cases c5 : (l0_4.length : Int) ≤ 4
  ·rw [if_pos c5] at H
   have c5b0 : decide ((l0_4.length : Int) ≤ 4) = true := decide_eq_true c5
   have c5b1 : decide (l0_4.length ≤ 4) = true := decide_eq_true (by omega)
   clear c5
   by_cases c6 : t166 = true
   ·subst c6
    have H1 : (if t167 = true then (if (l0_5.length : Int) = 0 then (some (a0_1 == 0 && (a0_2 == 0 && (a0_3 == 0)))) else (some false)) else ((sphragisref10_none.f a0_6 a0_7).bind fun t168 => (if t168 = true then (if (l0_5.length : Int) = 0 then (some (a0_1 == 0 && (a0_2 == 0 && (a0_3 == 0)))) else (some false)) else (some false)))) = some r := by rw [if_pos rfl] at H; exact H
    clear H
    have H := H1
    clear H1
    by_cases c7 : t167 = true
    ·subst c7
     have H1 : (if (l0_5.length : Int) = 0 then (some (a0_1 == 0 && (a0_2 == 0 && (a0_3 == 0)))) else (some false)) = some r := by rw [if_pos rfl] at H; exact H
     clear H
     have H := H1
     clear H1
     by_cases c8 : (l0_5.length : Int) = 0
     ·rw [if_pos c8] at H
      have c8b0 : ((l0_5.length : Int) == 0) = true := beq_iff_eq.mpr c8
      have c8b1 : ((l0_5.length : Int) != 0) = false := bne_eq_false_iff_eq.mpr c8
      clear c8
      obtain rfl := Option.some.inj H
      go_enter Try.func15, Try.ntmps15
      go_wp2_with (first | ((with_reducible refine gate_dst (N := 1) rfl ?_); (try (refine gate_guard (by rfl) ?_; dsimp only)); refine box_event ?hg (N := 1) ?hd (cs := #[.int .i64 a0_0, .int .u32 a0_1, .int .u32 a0_2, .int .i64 a0_3, .slice A0_4 l0_4.length c0_4, .slice A0_5 l0_5.length c0_5, .int .u32 a0_6, .string a0_7]) (t := 30) ?hr ?_; (case hd => rfl); (case hg => rfl); (case hr => first | (go_simp; done) | (go_simp; rfl)); intro gb165 hg w9 hbox hb; have n0_ := Aside0.mk (below_step (by repeat (first | (with_reducible first | exact HB.out | apply below_alloc | apply pw_below_drewN | apply below_drew1) | exact HB.out)) hb); have n1_ := Aside0.mk (hbox); have n2_ := Aside0.mk ((by rw [hg]; exact (below_size (by repeat (first | (with_reducible first | exact HB.out | apply below_alloc | apply pw_below_drewN | apply below_drew1) | exact HB.out))) : w.heap.size ≤ gb165)); have n3_ := Aside0.mk ((by rw [hg]; exact (below_size (by repeat (first | (with_reducible first | exact HB.out | apply below_alloc | apply pw_below_drewN | apply below_drew1) | exact HB.out))) : w.heap.size ≤ gb165)); clear HB; have HB := n0_; have BK165 := n1_; have GW165 := n2_; have GE165 := n3_; clear n0_ n1_ n2_ n3_; clear hb hbox hg; have hcz10_0 : w9.cell? ⟨gb165, 0, none⟩ = some (.int .i64 a0_0) := (blk_cell BK165.out 0).trans rfl; have hcz10_1 : w9.cell? ⟨gb165, 1, none⟩ = some (.int .u32 a0_1) := (blk_cell BK165.out 1).trans rfl; have hcz10_2 : w9.cell? ⟨gb165, 2, none⟩ = some (.int .u32 a0_2) := (blk_cell BK165.out 2).trans rfl; have hcz10_3 : w9.cell? ⟨gb165, 3, none⟩ = some (.int .i64 a0_3) := (blk_cell BK165.out 3).trans rfl; have hcz10_4 : w9.cell? ⟨gb165, 4, none⟩ = some (.slice A0_4 l0_4.length c0_4) := (blk_cell BK165.out 4).trans rfl; have hcz10_5 : w9.cell? ⟨gb165, 5, none⟩ = some (.slice A0_5 l0_5.length c0_5) := (blk_cell BK165.out 5).trans rfl; have hcz10_6 : w9.cell? ⟨gb165, 6, none⟩ = some (.int .u32 a0_6) := (blk_cell BK165.out 6).trans rfl; have hcz10_7 : w9.cell? ⟨gb165, 7, none⟩ = some (.string a0_7) := (blk_cell BK165.out 7).trans rfl; have hfz10_0 := blk_frozen BK165.out 0; have hfz10_1 := blk_frozen BK165.out 1; have hfz10_2 := blk_frozen BK165.out 2; have hfz10_3 := blk_frozen BK165.out 3; have hfz10_4 := blk_frozen BK165.out 4; have hfz10_5 := blk_frozen BK165.out 5; have hfz10_6 := blk_frozen BK165.out 6; have hfz10_7 := blk_frozen BK165.out 7) | ((with_reducible refine gate_callee (f := 26) rfl ?_); refine goesL_ (some 12) rfl rfl Try.func26 (by kernel_rfl) rfl #[.slice A0_4 l0_4.length c0_4] rfl (by (try simp only [List.map_toArray, List.map_cons, List.map_nil]); first | done | rfl | (simp only [List.length_drop, List.length_take]; rfl)) ?_; (with_reducible refine (sphragisref09_Right.calls k _ _ l0_4 true _ ?side1 ?side2 A3.out).mono ?_); (case side1 => repeat (first | exact (Kd.C_below HR0_4.out HB.out) | (with_reducible refine Kd.C_alloc ?_ _) | (with_reducible refine Kd.C_drewN ?_ _) | (with_reducible refine Kd.C_drew ?_))); (case side2 => exact HC0_4.out); rintro e w11 ⟨rfl, hb⟩; refine ⟨_, rfl, ?_⟩; have n0_ := Aside0.mk (blk_below (g := gb165) (o := .cells #[.int .i64 a0_0, .int .u32 a0_1, .int .u32 a0_2, .int .i64 a0_3, .slice A0_4 l0_4.length c0_4, .slice A0_5 l0_5.length c0_5, .int .u32 a0_6, .string a0_7] 30 (0, 0)) (by (with_reducible repeat (first | refine blk_drewN ?_ _ | refine blk_drew ?_ | refine blk_alloc ?_ _)); exact BK165.out) hb); have n1_ := Aside0.mk (below_step (by repeat (first | (with_reducible first | exact HB.out | apply below_alloc | apply pw_below_drewN | apply below_drew1 | refine below_set ?_ GE165.out) | exact HB.out)) hb); clear BK165; clear HB; have BK165 := n0_; have HB := n1_; clear n0_ n1_; (try clear hb); (try clear hb2); (try clear hk); (try clear hi); have hcz12_0 : w11.cell? ⟨gb165, 0, none⟩ = some (.int .i64 a0_0) := (blk_cell BK165.out 0).trans rfl; have hcz12_1 : w11.cell? ⟨gb165, 1, none⟩ = some (.int .u32 a0_1) := (blk_cell BK165.out 1).trans rfl; have hcz12_2 : w11.cell? ⟨gb165, 2, none⟩ = some (.int .u32 a0_2) := (blk_cell BK165.out 2).trans rfl; have hcz12_3 : w11.cell? ⟨gb165, 3, none⟩ = some (.int .i64 a0_3) := (blk_cell BK165.out 3).trans rfl; have hcz12_4 : w11.cell? ⟨gb165, 4, none⟩ = some (.slice A0_4 l0_4.length c0_4) := (blk_cell BK165.out 4).trans rfl; have hcz12_5 : w11.cell? ⟨gb165, 5, none⟩ = some (.slice A0_5 l0_5.length c0_5) := (blk_cell BK165.out 5).trans rfl; have hcz12_6 : w11.cell? ⟨gb165, 6, none⟩ = some (.int .u32 a0_6) := (blk_cell BK165.out 6).trans rfl; have hcz12_7 : w11.cell? ⟨gb165, 7, none⟩ = some (.string a0_7) := (blk_cell BK165.out 7).trans rfl; have hfz12_0 := blk_frozen BK165.out 0; have hfz12_1 := blk_frozen BK165.out 1; have hfz12_2 := blk_frozen BK165.out 2; have hfz12_3 := blk_frozen BK165.out 3; have hfz12_4 := blk_frozen BK165.out 4; have hfz12_5 := blk_frozen BK165.out 5; have hfz12_6 := blk_frozen BK165.out 6; have hfz12_7 := blk_frozen BK165.out 7) | ((with_reducible refine gate_callee (f := 12) rfl ?_); refine goesL_ (some 15) rfl rfl Try.func12 (by kernel_rfl) rfl #[.agg #[.int .u32 a0_6, .string a0_7]] rfl (by (try simp only [List.map_toArray, List.map_cons, List.map_nil]); first | done | rfl | (simp only [List.length_drop, List.length_take]; rfl)) ?_; (with_reducible refine (sphragisref10_RightRef.calls a0_6 a0_7 true _ A4.out).mono ?_); rintro e w13 ⟨rfl, hb⟩; refine ⟨_, rfl, ?_⟩; have n0_ := Aside0.mk (blk_below (g := gb165) (o := .cells #[.int .i64 a0_0, .int .u32 a0_1, .int .u32 a0_2, .int .i64 a0_3, .slice A0_4 l0_4.length c0_4, .slice A0_5 l0_5.length c0_5, .int .u32 a0_6, .string a0_7] 30 (0, 0)) (by (with_reducible repeat (first | refine blk_drewN ?_ _ | refine blk_drew ?_ | refine blk_alloc ?_ _)); exact BK165.out) hb); have n1_ := Aside0.mk (below_step (by repeat (first | (with_reducible first | exact HB.out | apply below_alloc | apply pw_below_drewN | apply below_drew1 | refine below_set ?_ GE165.out) | exact HB.out)) hb); clear BK165; clear HB; have BK165 := n0_; have HB := n1_; clear n0_ n1_; (try clear hb); (try clear hb2); (try clear hk); (try clear hi); have hcz14_0 : w13.cell? ⟨gb165, 0, none⟩ = some (.int .i64 a0_0) := (blk_cell BK165.out 0).trans rfl; have hcz14_1 : w13.cell? ⟨gb165, 1, none⟩ = some (.int .u32 a0_1) := (blk_cell BK165.out 1).trans rfl; have hcz14_2 : w13.cell? ⟨gb165, 2, none⟩ = some (.int .u32 a0_2) := (blk_cell BK165.out 2).trans rfl; have hcz14_3 : w13.cell? ⟨gb165, 3, none⟩ = some (.int .i64 a0_3) := (blk_cell BK165.out 3).trans rfl; have hcz14_4 : w13.cell? ⟨gb165, 4, none⟩ = some (.slice A0_4 l0_4.length c0_4) := (blk_cell BK165.out 4).trans rfl; have hcz14_5 : w13.cell? ⟨gb165, 5, none⟩ = some (.slice A0_5 l0_5.length c0_5) := (blk_cell BK165.out 5).trans rfl; have hcz14_6 : w13.cell? ⟨gb165, 6, none⟩ = some (.int .u32 a0_6) := (blk_cell BK165.out 6).trans rfl; have hcz14_7 : w13.cell? ⟨gb165, 7, none⟩ = some (.string a0_7) := (blk_cell BK165.out 7).trans rfl; have hfz14_0 := blk_frozen BK165.out 0; have hfz14_1 := blk_frozen BK165.out 1; have hfz14_2 := blk_frozen BK165.out 2; have hfz14_3 := blk_frozen BK165.out 3; have hfz14_4 := blk_frozen BK165.out 4; have hfz14_5 := blk_frozen BK165.out 5; have hfz14_6 := blk_frozen BK165.out 6; have hfz14_7 := blk_frozen BK165.out 7))
      go_ret
      exact ⟨by first | rfl | (simp [errW_none, errW_some] <;> rfl) | (simp [*, errW_none, errW_some] <;> rfl), by repeat (first | (with_reducible first | exact HB.out | apply below_alloc | apply pw_below_drewN | apply below_drew1 | refine below_set ?_ GE165.out) | exact HB.out)⟩
     ·rw [if_neg c8] at H
      have c8b0 : ((l0_5.length : Int) == 0) = false := beq_eq_false_iff_ne.mpr c8
      have c8b1 : ((l0_5.length : Int) != 0) = true := bne_iff_ne.mpr c8
      have c8b2 : ¬ (l0_5 = []) := fun h_ => c8 (by rw [h_]; rfl)
      obtain rfl := Option.some.inj H
      go_enter Try.func15, Try.ntmps15
      go_wp2_with (first | ((with_reducible refine gate_dst (N := 1) rfl ?_); (try (refine gate_guard (by rfl) ?_; dsimp only)); refine box_event ?hg (N := 1) ?hd (cs := #[.int .i64 a0_0, .int .u32 a0_1, .int .u32 a0_2, .int .i64 a0_3, .slice A0_4 l0_4.length c0_4, .slice A0_5 l0_5.length c0_5, .int .u32 a0_6, .string a0_7]) (t := 30) ?hr ?_; (case hd => rfl); (case hg => rfl); (case hr => first | (go_simp; done) | (go_simp; rfl)); intro gb165 hg w15 hbox hb; have n0_ := Aside0.mk (below_step (by repeat (first | (with_reducible first | exact HB.out | apply below_alloc | apply pw_below_drewN | apply below_drew1) | exact HB.out)) hb); have n1_ := Aside0.mk (hbox); have n2_ := Aside0.mk ((by rw [hg]; exact (below_size (by repeat (first | (with_reducible first | exact HB.out | apply below_alloc | apply pw_below_drewN | apply below_drew1) | exact HB.out))) : w.heap.size ≤ gb165)); have n3_ := Aside0.mk ((by rw [hg]; exact (below_size (by repeat (first | (with_reducible first | exact HB.out | apply below_alloc | apply pw_below_drewN | apply below_drew1) | exact HB.out))) : w.heap.size ≤ gb165)); clear HB; have HB := n0_; have BK165 := n1_; have GW165 := n2_; have GE165 := n3_; clear n0_ n1_ n2_ n3_; clear hb hbox hg; have hcz16_0 : w15.cell? ⟨gb165, 0, none⟩ = some (.int .i64 a0_0) := (blk_cell BK165.out 0).trans rfl; have hcz16_1 : w15.cell? ⟨gb165, 1, none⟩ = some (.int .u32 a0_1) := (blk_cell BK165.out 1).trans rfl; have hcz16_2 : w15.cell? ⟨gb165, 2, none⟩ = some (.int .u32 a0_2) := (blk_cell BK165.out 2).trans rfl; have hcz16_3 : w15.cell? ⟨gb165, 3, none⟩ = some (.int .i64 a0_3) := (blk_cell BK165.out 3).trans rfl; have hcz16_4 : w15.cell? ⟨gb165, 4, none⟩ = some (.slice A0_4 l0_4.length c0_4) := (blk_cell BK165.out 4).trans rfl; have hcz16_5 : w15.cell? ⟨gb165, 5, none⟩ = some (.slice A0_5 l0_5.length c0_5) := (blk_cell BK165.out 5).trans rfl; have hcz16_6 : w15.cell? ⟨gb165, 6, none⟩ = some (.int .u32 a0_6) := (blk_cell BK165.out 6).trans rfl; have hcz16_7 : w15.cell? ⟨gb165, 7, none⟩ = some (.string a0_7) := (blk_cell BK165.out 7).trans rfl; have hfz16_0 := blk_frozen BK165.out 0; have hfz16_1 := blk_frozen BK165.out 1; have hfz16_2 := blk_frozen BK165.out 2; have hfz16_3 := blk_frozen BK165.out 3; have hfz16_4 := blk_frozen BK165.out 4; have hfz16_5 := blk_frozen BK165.out 5; have hfz16_6 := blk_frozen BK165.out 6; have hfz16_7 := blk_frozen BK165.out 7) | ((with_reducible refine gate_callee (f := 26) rfl ?_); refine goesL_ (some 12) rfl rfl Try.func26 (by kernel_rfl) rfl #[.slice A0_4 l0_4.length c0_4] rfl (by (try simp only [List.map_toArray, List.map_cons, List.map_nil]); first | done | rfl | (simp only [List.length_drop, List.length_take]; rfl)) ?_; (with_reducible refine (sphragisref09_Right.calls k _ _ l0_4 true _ ?side1 ?side2 A3.out).mono ?_); (case side1 => repeat (first | exact (Kd.C_below HR0_4.out HB.out) | (with_reducible refine Kd.C_alloc ?_ _) | (with_reducible refine Kd.C_drewN ?_ _) | (with_reducible refine Kd.C_drew ?_))); (case side2 => exact HC0_4.out); rintro e w17 ⟨rfl, hb⟩; refine ⟨_, rfl, ?_⟩; have n0_ := Aside0.mk (blk_below (g := gb165) (o := .cells #[.int .i64 a0_0, .int .u32 a0_1, .int .u32 a0_2, .int .i64 a0_3, .slice A0_4 l0_4.length c0_4, .slice A0_5 l0_5.length c0_5, .int .u32 a0_6, .string a0_7] 30 (0, 0)) (by (with_reducible repeat (first | refine blk_drewN ?_ _ | refine blk_drew ?_ | refine blk_alloc ?_ _)); exact BK165.out) hb); have n1_ := Aside0.mk (below_step (by repeat (first | (with_reducible first | exact HB.out | apply below_alloc | apply pw_below_drewN | apply below_drew1 | refine below_set ?_ GE165.out) | exact HB.out)) hb); clear BK165; clear HB; have BK165 := n0_; have HB := n1_; clear n0_ n1_; (try clear hb); (try clear hb2); (try clear hk); (try clear hi); have hcz18_0 : w17.cell? ⟨gb165, 0, none⟩ = some (.int .i64 a0_0) := (blk_cell BK165.out 0).trans rfl; have hcz18_1 : w17.cell? ⟨gb165, 1, none⟩ = some (.int .u32 a0_1) := (blk_cell BK165.out 1).trans rfl; have hcz18_2 : w17.cell? ⟨gb165, 2, none⟩ = some (.int .u32 a0_2) := (blk_cell BK165.out 2).trans rfl; have hcz18_3 : w17.cell? ⟨gb165, 3, none⟩ = some (.int .i64 a0_3) := (blk_cell BK165.out 3).trans rfl; have hcz18_4 : w17.cell? ⟨gb165, 4, none⟩ = some (.slice A0_4 l0_4.length c0_4) := (blk_cell BK165.out 4).trans rfl; have hcz18_5 : w17.cell? ⟨gb165, 5, none⟩ = some (.slice A0_5 l0_5.length c0_5) := (blk_cell BK165.out 5).trans rfl; have hcz18_6 : w17.cell? ⟨gb165, 6, none⟩ = some (.int .u32 a0_6) := (blk_cell BK165.out 6).trans rfl; have hcz18_7 : w17.cell? ⟨gb165, 7, none⟩ = some (.string a0_7) := (blk_cell BK165.out 7).trans rfl; have hfz18_0 := blk_frozen BK165.out 0; have hfz18_1 := blk_frozen BK165.out 1; have hfz18_2 := blk_frozen BK165.out 2; have hfz18_3 := blk_frozen BK165.out 3; have hfz18_4 := blk_frozen BK165.out 4; have hfz18_5 := blk_frozen BK165.out 5; have hfz18_6 := blk_frozen BK165.out 6; have hfz18_7 := blk_frozen BK165.out 7) | ((with_reducible refine gate_callee (f := 12) rfl ?_); refine goesL_ (some 15) rfl rfl Try.func12 (by kernel_rfl) rfl #[.agg #[.int .u32 a0_6, .string a0_7]] rfl (by (try simp only [List.map_toArray, List.map_cons, List.map_nil]); first | done | rfl | (simp only [List.length_drop, List.length_take]; rfl)) ?_; (with_reducible refine (sphragisref10_RightRef.calls a0_6 a0_7 true _ A4.out).mono ?_); rintro e w19 ⟨rfl, hb⟩; refine ⟨_, rfl, ?_⟩; have n0_ := Aside0.mk (blk_below (g := gb165) (o := .cells #[.int .i64 a0_0, .int .u32 a0_1, .int .u32 a0_2, .int .i64 a0_3, .slice A0_4 l0_4.length c0_4, .slice A0_5 l0_5.length c0_5, .int .u32 a0_6, .string a0_7] 30 (0, 0)) (by (with_reducible repeat (first | refine blk_drewN ?_ _ | refine blk_drew ?_ | refine blk_alloc ?_ _)); exact BK165.out) hb); have n1_ := Aside0.mk (below_step (by repeat (first | (with_reducible first | exact HB.out | apply below_alloc | apply pw_below_drewN | apply below_drew1 | refine below_set ?_ GE165.out) | exact HB.out)) hb); clear BK165; clear HB; have BK165 := n0_; have HB := n1_; clear n0_ n1_; (try clear hb); (try clear hb2); (try clear hk); (try clear hi); have hcz20_0 : w19.cell? ⟨gb165, 0, none⟩ = some (.int .i64 a0_0) := (blk_cell BK165.out 0).trans rfl; have hcz20_1 : w19.cell? ⟨gb165, 1, none⟩ = some (.int .u32 a0_1) := (blk_cell BK165.out 1).trans rfl; have hcz20_2 : w19.cell? ⟨gb165, 2, none⟩ = some (.int .u32 a0_2) := (blk_cell BK165.out 2).trans rfl; have hcz20_3 : w19.cell? ⟨gb165, 3, none⟩ = some (.int .i64 a0_3) := (blk_cell BK165.out 3).trans rfl; have hcz20_4 : w19.cell? ⟨gb165, 4, none⟩ = some (.slice A0_4 l0_4.length c0_4) := (blk_cell BK165.out 4).trans rfl; have hcz20_5 : w19.cell? ⟨gb165, 5, none⟩ = some (.slice A0_5 l0_5.length c0_5) := (blk_cell BK165.out 5).trans rfl; have hcz20_6 : w19.cell? ⟨gb165, 6, none⟩ = some (.int .u32 a0_6) := (blk_cell BK165.out 6).trans rfl; have hcz20_7 : w19.cell? ⟨gb165, 7, none⟩ = some (.string a0_7) := (blk_cell BK165.out 7).trans rfl; have hfz20_0 := blk_frozen BK165.out 0; have hfz20_1 := blk_frozen BK165.out 1; have hfz20_2 := blk_frozen BK165.out 2; have hfz20_3 := blk_frozen BK165.out 3; have hfz20_4 := blk_frozen BK165.out 4; have hfz20_5 := blk_frozen BK165.out 5; have hfz20_6 := blk_frozen BK165.out 6; have hfz20_7 := blk_frozen BK165.out 7))
      go_ret
      exact ⟨by first | rfl | (simp [errW_none, errW_some] <;> rfl) | (simp [*, errW_none, errW_some] <;> rfl), by repeat (first | (with_reducible first | exact HB.out | apply below_alloc | apply pw_below_drewN | apply below_drew1 | refine below_set ?_ GE165.out) | exact HB.out)⟩
    ·replace c7 := Bool.eq_false_iff.mpr c7
     subst c7
     have H1 : ((sphragisref10_none.f a0_6 a0_7).bind fun t168 => (if t168 = true then (if (l0_5.length : Int) = 0 then (some (a0_1 == 0 && (a0_2 == 0 && (a0_3 == 0)))) else (some false)) else (some false))) = some r := by rw [if_neg (show ¬ (false = true) by decide)] at H; exact H
     clear H
     have H := H1
     clear H1
     replace H := Option.bind_eq_some_iff.mp H
     obtain ⟨t168, A210, H⟩ := H
     replace H : (if t168 = true then (if (l0_5.length : Int) = 0 then (some (a0_1 == 0 && (a0_2 == 0 && (a0_3 == 0)))) else (some false)) else (some false)) = some r := H
     have A21 := Aside0.mk A210
     clear A210
     by_cases c22 : t168 = true
     ·subst c22
      have H1 : (if (l0_5.length : Int) = 0 then (some (a0_1 == 0 && (a0_2 == 0 && (a0_3 == 0)))) else (some false)) = some r := by rw [if_pos rfl] at H; exact H
      clear H
      have H := H1
      clear H1
      by_cases c23 : (l0_5.length : Int) = 0
      ·rw [if_pos c23] at H
       have c23b0 : ((l0_5.length : Int) == 0) = true := beq_iff_eq.mpr c23
       have c23b1 : ((l0_5.length : Int) != 0) = false := bne_eq_false_iff_eq.mpr c23
       clear c23
       obtain rfl := Option.some.inj H
       go_enter Try.func15, Try.ntmps15
       go_wp2_with (first | ((with_reducible refine gate_dst (N := 1) rfl ?_); (try (refine gate_guard (by rfl) ?_; dsimp only)); refine box_event ?hg (N := 1) ?hd (cs := #[.int .i64 a0_0, .int .u32 a0_1, .int .u32 a0_2, .int .i64 a0_3, .slice A0_4 l0_4.length c0_4, .slice A0_5 l0_5.length c0_5, .int .u32 a0_6, .string a0_7]) (t := 30) ?hr ?_; (case hd => rfl); (case hg => rfl); (case hr => first | (go_simp; done) | (go_simp; rfl)); intro gb165 hg w24 hbox hb; have n0_ := Aside0.mk (below_step (by repeat (first | (with_reducible first | exact HB.out | apply below_alloc | apply pw_below_drewN | apply below_drew1) | exact HB.out)) hb); have n1_ := Aside0.mk (hbox); have n2_ := Aside0.mk ((by rw [hg]; exact (below_size (by repeat (first | (with_reducible first | exact HB.out | apply below_alloc | apply pw_below_drewN | apply below_drew1) | exact HB.out))) : w.heap.size ≤ gb165)); have n3_ := Aside0.mk ((by rw [hg]; exact (below_size (by repeat (first | (with_reducible first | exact HB.out | apply below_alloc | apply pw_below_drewN | apply below_drew1) | exact HB.out))) : w.heap.size ≤ gb165)); clear HB; have HB := n0_; have BK165 := n1_; have GW165 := n2_; have GE165 := n3_; clear n0_ n1_ n2_ n3_; clear hb hbox hg; have hcz25_0 : w24.cell? ⟨gb165, 0, none⟩ = some (.int .i64 a0_0) := (blk_cell BK165.out 0).trans rfl; have hcz25_1 : w24.cell? ⟨gb165, 1, none⟩ = some (.int .u32 a0_1) := (blk_cell BK165.out 1).trans rfl; have hcz25_2 : w24.cell? ⟨gb165, 2, none⟩ = some (.int .u32 a0_2) := (blk_cell BK165.out 2).trans rfl; have hcz25_3 : w24.cell? ⟨gb165, 3, none⟩ = some (.int .i64 a0_3) := (blk_cell BK165.out 3).trans rfl; have hcz25_4 : w24.cell? ⟨gb165, 4, none⟩ = some (.slice A0_4 l0_4.length c0_4) := (blk_cell BK165.out 4).trans rfl; have hcz25_5 : w24.cell? ⟨gb165, 5, none⟩ = some (.slice A0_5 l0_5.length c0_5) := (blk_cell BK165.out 5).trans rfl; have hcz25_6 : w24.cell? ⟨gb165, 6, none⟩ = some (.int .u32 a0_6) := (blk_cell BK165.out 6).trans rfl; have hcz25_7 : w24.cell? ⟨gb165, 7, none⟩ = some (.string a0_7) := (blk_cell BK165.out 7).trans rfl; have hfz25_0 := blk_frozen BK165.out 0; have hfz25_1 := blk_frozen BK165.out 1; have hfz25_2 := blk_frozen BK165.out 2; have hfz25_3 := blk_frozen BK165.out 3; have hfz25_4 := blk_frozen BK165.out 4; have hfz25_5 := blk_frozen BK165.out 5; have hfz25_6 := blk_frozen BK165.out 6; have hfz25_7 := blk_frozen BK165.out 7) | ((with_reducible refine gate_callee (f := 26) rfl ?_); refine goesL_ (some 12) rfl rfl Try.func26 (by kernel_rfl) rfl #[.slice A0_4 l0_4.length c0_4] rfl (by (try simp only [List.map_toArray, List.map_cons, List.map_nil]); first | done | rfl | (simp only [List.length_drop, List.length_take]; rfl)) ?_; (with_reducible refine (sphragisref09_Right.calls k _ _ l0_4 true _ ?side1 ?side2 A3.out).mono ?_); (case side1 => repeat (first | exact (Kd.C_below HR0_4.out HB.out) | (with_reducible refine Kd.C_alloc ?_ _) | (with_reducible refine Kd.C_drewN ?_ _) | (with_reducible refine Kd.C_drew ?_))); (case side2 => exact HC0_4.out); rintro e w26 ⟨rfl, hb⟩; refine ⟨_, rfl, ?_⟩; have n0_ := Aside0.mk (blk_below (g := gb165) (o := .cells #[.int .i64 a0_0, .int .u32 a0_1, .int .u32 a0_2, .int .i64 a0_3, .slice A0_4 l0_4.length c0_4, .slice A0_5 l0_5.length c0_5, .int .u32 a0_6, .string a0_7] 30 (0, 0)) (by (with_reducible repeat (first | refine blk_drewN ?_ _ | refine blk_drew ?_ | refine blk_alloc ?_ _)); exact BK165.out) hb); have n1_ := Aside0.mk (below_step (by repeat (first | (with_reducible first | exact HB.out | apply below_alloc | apply pw_below_drewN | apply below_drew1 | refine below_set ?_ GE165.out) | exact HB.out)) hb); clear BK165; clear HB; have BK165 := n0_; have HB := n1_; clear n0_ n1_; (try clear hb); (try clear hb2); (try clear hk); (try clear hi); have hcz27_0 : w26.cell? ⟨gb165, 0, none⟩ = some (.int .i64 a0_0) := (blk_cell BK165.out 0).trans rfl; have hcz27_1 : w26.cell? ⟨gb165, 1, none⟩ = some (.int .u32 a0_1) := (blk_cell BK165.out 1).trans rfl; have hcz27_2 : w26.cell? ⟨gb165, 2, none⟩ = some (.int .u32 a0_2) := (blk_cell BK165.out 2).trans rfl; have hcz27_3 : w26.cell? ⟨gb165, 3, none⟩ = some (.int .i64 a0_3) := (blk_cell BK165.out 3).trans rfl; have hcz27_4 : w26.cell? ⟨gb165, 4, none⟩ = some (.slice A0_4 l0_4.length c0_4) := (blk_cell BK165.out 4).trans rfl; have hcz27_5 : w26.cell? ⟨gb165, 5, none⟩ = some (.slice A0_5 l0_5.length c0_5) := (blk_cell BK165.out 5).trans rfl; have hcz27_6 : w26.cell? ⟨gb165, 6, none⟩ = some (.int .u32 a0_6) := (blk_cell BK165.out 6).trans rfl; have hcz27_7 : w26.cell? ⟨gb165, 7, none⟩ = some (.string a0_7) := (blk_cell BK165.out 7).trans rfl; have hfz27_0 := blk_frozen BK165.out 0; have hfz27_1 := blk_frozen BK165.out 1; have hfz27_2 := blk_frozen BK165.out 2; have hfz27_3 := blk_frozen BK165.out 3; have hfz27_4 := blk_frozen BK165.out 4; have hfz27_5 := blk_frozen BK165.out 5; have hfz27_6 := blk_frozen BK165.out 6; have hfz27_7 := blk_frozen BK165.out 7) | ((with_reducible refine gate_callee (f := 12) rfl ?_); refine goesL_ (some 15) rfl rfl Try.func12 (by kernel_rfl) rfl #[.agg #[.int .u32 a0_6, .string a0_7]] rfl (by (try simp only [List.map_toArray, List.map_cons, List.map_nil]); first | done | rfl | (simp only [List.length_drop, List.length_take]; rfl)) ?_; (with_reducible refine (sphragisref10_RightRef.calls a0_6 a0_7 false _ A4.out).mono ?_); rintro e w28 ⟨rfl, hb⟩; refine ⟨_, rfl, ?_⟩; have n0_ := Aside0.mk (blk_below (g := gb165) (o := .cells #[.int .i64 a0_0, .int .u32 a0_1, .int .u32 a0_2, .int .i64 a0_3, .slice A0_4 l0_4.length c0_4, .slice A0_5 l0_5.length c0_5, .int .u32 a0_6, .string a0_7] 30 (0, 0)) (by (with_reducible repeat (first | refine blk_drewN ?_ _ | refine blk_drew ?_ | refine blk_alloc ?_ _)); exact BK165.out) hb); have n1_ := Aside0.mk (below_step (by repeat (first | (with_reducible first | exact HB.out | apply below_alloc | apply pw_below_drewN | apply below_drew1 | refine below_set ?_ GE165.out) | exact HB.out)) hb); clear BK165; clear HB; have BK165 := n0_; have HB := n1_; clear n0_ n1_; (try clear hb); (try clear hb2); (try clear hk); (try clear hi); have hcz29_0 : w28.cell? ⟨gb165, 0, none⟩ = some (.int .i64 a0_0) := (blk_cell BK165.out 0).trans rfl; have hcz29_1 : w28.cell? ⟨gb165, 1, none⟩ = some (.int .u32 a0_1) := (blk_cell BK165.out 1).trans rfl; have hcz29_2 : w28.cell? ⟨gb165, 2, none⟩ = some (.int .u32 a0_2) := (blk_cell BK165.out 2).trans rfl; have hcz29_3 : w28.cell? ⟨gb165, 3, none⟩ = some (.int .i64 a0_3) := (blk_cell BK165.out 3).trans rfl; have hcz29_4 : w28.cell? ⟨gb165, 4, none⟩ = some (.slice A0_4 l0_4.length c0_4) := (blk_cell BK165.out 4).trans rfl; have hcz29_5 : w28.cell? ⟨gb165, 5, none⟩ = some (.slice A0_5 l0_5.length c0_5) := (blk_cell BK165.out 5).trans rfl; have hcz29_6 : w28.cell? ⟨gb165, 6, none⟩ = some (.int .u32 a0_6) := (blk_cell BK165.out 6).trans rfl; have hcz29_7 : w28.cell? ⟨gb165, 7, none⟩ = some (.string a0_7) := (blk_cell BK165.out 7).trans rfl; have hfz29_0 := blk_frozen BK165.out 0; have hfz29_1 := blk_frozen BK165.out 1; have hfz29_2 := blk_frozen BK165.out 2; have hfz29_3 := blk_frozen BK165.out 3; have hfz29_4 := blk_frozen BK165.out 4; have hfz29_5 := blk_frozen BK165.out 5; have hfz29_6 := blk_frozen BK165.out 6; have hfz29_7 := blk_frozen BK165.out 7) | (go_at_call 27; (with_reducible refine (sphragisref10_none.calls a0_6 a0_7 true _ A21.out).mono ?_); rintro e w30 ⟨rfl, hb⟩; have n0_ := Aside0.mk (blk_below (g := gb165) (o := .cells #[.int .i64 a0_0, .int .u32 a0_1, .int .u32 a0_2, .int .i64 a0_3, .slice A0_4 l0_4.length c0_4, .slice A0_5 l0_5.length c0_5, .int .u32 a0_6, .string a0_7] 30 (0, 0)) (by (with_reducible repeat (first | refine blk_drewN ?_ _ | refine blk_drew ?_ | refine blk_alloc ?_ _)); exact BK165.out) hb); have n1_ := Aside0.mk (below_step (by repeat (first | (with_reducible first | exact HB.out | apply below_alloc | apply pw_below_drewN | apply below_drew1 | refine below_set ?_ GE165.out) | exact HB.out)) hb); clear BK165; clear HB; have BK165 := n0_; have HB := n1_; clear n0_ n1_; (try clear hb); (try clear hb2); (try clear hk); (try clear hi); have hcz31_0 : w30.cell? ⟨gb165, 0, none⟩ = some (.int .i64 a0_0) := (blk_cell BK165.out 0).trans rfl; have hcz31_1 : w30.cell? ⟨gb165, 1, none⟩ = some (.int .u32 a0_1) := (blk_cell BK165.out 1).trans rfl; have hcz31_2 : w30.cell? ⟨gb165, 2, none⟩ = some (.int .u32 a0_2) := (blk_cell BK165.out 2).trans rfl; have hcz31_3 : w30.cell? ⟨gb165, 3, none⟩ = some (.int .i64 a0_3) := (blk_cell BK165.out 3).trans rfl; have hcz31_4 : w30.cell? ⟨gb165, 4, none⟩ = some (.slice A0_4 l0_4.length c0_4) := (blk_cell BK165.out 4).trans rfl; have hcz31_5 : w30.cell? ⟨gb165, 5, none⟩ = some (.slice A0_5 l0_5.length c0_5) := (blk_cell BK165.out 5).trans rfl; have hcz31_6 : w30.cell? ⟨gb165, 6, none⟩ = some (.int .u32 a0_6) := (blk_cell BK165.out 6).trans rfl; have hcz31_7 : w30.cell? ⟨gb165, 7, none⟩ = some (.string a0_7) := (blk_cell BK165.out 7).trans rfl; have hfz31_0 := blk_frozen BK165.out 0; have hfz31_1 := blk_frozen BK165.out 1; have hfz31_2 := blk_frozen BK165.out 2; have hfz31_3 := blk_frozen BK165.out 3; have hfz31_4 := blk_frozen BK165.out 4; have hfz31_5 := blk_frozen BK165.out 5; have hfz31_6 := blk_frozen BK165.out 6; have hfz31_7 := blk_frozen BK165.out 7))
       go_ret
       exact ⟨by first | rfl | (simp [errW_none, errW_some] <;> rfl) | (simp [*, errW_none, errW_some] <;> rfl), by repeat (first | (with_reducible first | exact HB.out | apply below_alloc | apply pw_below_drewN | apply below_drew1 | refine below_set ?_ GE165.out) | exact HB.out)⟩
      ·rw [if_neg c23] at H
       have c23b0 : ((l0_5.length : Int) == 0) = false := beq_eq_false_iff_ne.mpr c23
       have c23b1 : ((l0_5.length : Int) != 0) = true := bne_iff_ne.mpr c23
       have c23b2 : ¬ (l0_5 = []) := fun h_ => c23 (by rw [h_]; rfl)
       obtain rfl := Option.some.inj H
       go_enter Try.func15, Try.ntmps15
       go_wp2_with (first | ((with_reducible refine gate_dst (N := 1) rfl ?_); (try (refine gate_guard (by rfl) ?_; dsimp only)); refine box_event ?hg (N := 1) ?hd (cs := #[.int .i64 a0_0, .int .u32 a0_1, .int .u32 a0_2, .int .i64 a0_3, .slice A0_4 l0_4.length c0_4, .slice A0_5 l0_5.length c0_5, .int .u32 a0_6, .string a0_7]) (t := 30) ?hr ?_; (case hd => rfl); (case hg => rfl); (case hr => first | (go_simp; done) | (go_simp; rfl)); intro gb165 hg w32 hbox hb; have n0_ := Aside0.mk (below_step (by repeat (first | (with_reducible first | exact HB.out | apply below_alloc | apply pw_below_drewN | apply below_drew1) | exact HB.out)) hb); have n1_ := Aside0.mk (hbox); have n2_ := Aside0.mk ((by rw [hg]; exact (below_size (by repeat (first | (with_reducible first | exact HB.out | apply below_alloc | apply pw_below_drewN | apply below_drew1) | exact HB.out))) : w.heap.size ≤ gb165)); have n3_ := Aside0.mk ((by rw [hg]; exact (below_size (by repeat (first | (with_reducible first | exact HB.out | apply below_alloc | apply pw_below_drewN | apply below_drew1) | exact HB.out))) : w.heap.size ≤ gb165)); clear HB; have HB := n0_; have BK165 := n1_; have GW165 := n2_; have GE165 := n3_; clear n0_ n1_ n2_ n3_; clear hb hbox hg; have hcz33_0 : w32.cell? ⟨gb165, 0, none⟩ = some (.int .i64 a0_0) := (blk_cell BK165.out 0).trans rfl; have hcz33_1 : w32.cell? ⟨gb165, 1, none⟩ = some (.int .u32 a0_1) := (blk_cell BK165.out 1).trans rfl; have hcz33_2 : w32.cell? ⟨gb165, 2, none⟩ = some (.int .u32 a0_2) := (blk_cell BK165.out 2).trans rfl; have hcz33_3 : w32.cell? ⟨gb165, 3, none⟩ = some (.int .i64 a0_3) := (blk_cell BK165.out 3).trans rfl; have hcz33_4 : w32.cell? ⟨gb165, 4, none⟩ = some (.slice A0_4 l0_4.length c0_4) := (blk_cell BK165.out 4).trans rfl; have hcz33_5 : w32.cell? ⟨gb165, 5, none⟩ = some (.slice A0_5 l0_5.length c0_5) := (blk_cell BK165.out 5).trans rfl; have hcz33_6 : w32.cell? ⟨gb165, 6, none⟩ = some (.int .u32 a0_6) := (blk_cell BK165.out 6).trans rfl; have hcz33_7 : w32.cell? ⟨gb165, 7, none⟩ = some (.string a0_7) := (blk_cell BK165.out 7).trans rfl; have hfz33_0 := blk_frozen BK165.out 0; have hfz33_1 := blk_frozen BK165.out 1; have hfz33_2 := blk_frozen BK165.out 2; have hfz33_3 := blk_frozen BK165.out 3; have hfz33_4 := blk_frozen BK165.out 4; have hfz33_5 := blk_frozen BK165.out 5; have hfz33_6 := blk_frozen BK165.out 6; have hfz33_7 := blk_frozen BK165.out 7) | ((with_reducible refine gate_callee (f := 26) rfl ?_); refine goesL_ (some 12) rfl rfl Try.func26 (by kernel_rfl) rfl #[.slice A0_4 l0_4.length c0_4] rfl (by (try simp only [List.map_toArray, List.map_cons, List.map_nil]); first | done | rfl | (simp only [List.length_drop, List.length_take]; rfl)) ?_; (with_reducible refine (sphragisref09_Right.calls k _ _ l0_4 true _ ?side1 ?side2 A3.out).mono ?_); (case side1 => repeat (first | exact (Kd.C_below HR0_4.out HB.out) | (with_reducible refine Kd.C_alloc ?_ _) | (with_reducible refine Kd.C_drewN ?_ _) | (with_reducible refine Kd.C_drew ?_))); (case side2 => exact HC0_4.out); rintro e w34 ⟨rfl, hb⟩; refine ⟨_, rfl, ?_⟩; have n0_ := Aside0.mk (blk_below (g := gb165) (o := .cells #[.int .i64 a0_0, .int .u32 a0_1, .int .u32 a0_2, .int .i64 a0_3, .slice A0_4 l0_4.length c0_4, .slice A0_5 l0_5.length c0_5, .int .u32 a0_6, .string a0_7] 30 (0, 0)) (by (with_reducible repeat (first | refine blk_drewN ?_ _ | refine blk_drew ?_ | refine blk_alloc ?_ _)); exact BK165.out) hb); have n1_ := Aside0.mk (below_step (by repeat (first | (with_reducible first | exact HB.out | apply below_alloc | apply pw_below_drewN | apply below_drew1 | refine below_set ?_ GE165.out) | exact HB.out)) hb); clear BK165; clear HB; have BK165 := n0_; have HB := n1_; clear n0_ n1_; (try clear hb); (try clear hb2); (try clear hk); (try clear hi); have hcz35_0 : w34.cell? ⟨gb165, 0, none⟩ = some (.int .i64 a0_0) := (blk_cell BK165.out 0).trans rfl; have hcz35_1 : w34.cell? ⟨gb165, 1, none⟩ = some (.int .u32 a0_1) := (blk_cell BK165.out 1).trans rfl; have hcz35_2 : w34.cell? ⟨gb165, 2, none⟩ = some (.int .u32 a0_2) := (blk_cell BK165.out 2).trans rfl; have hcz35_3 : w34.cell? ⟨gb165, 3, none⟩ = some (.int .i64 a0_3) := (blk_cell BK165.out 3).trans rfl; have hcz35_4 : w34.cell? ⟨gb165, 4, none⟩ = some (.slice A0_4 l0_4.length c0_4) := (blk_cell BK165.out 4).trans rfl; have hcz35_5 : w34.cell? ⟨gb165, 5, none⟩ = some (.slice A0_5 l0_5.length c0_5) := (blk_cell BK165.out 5).trans rfl; have hcz35_6 : w34.cell? ⟨gb165, 6, none⟩ = some (.int .u32 a0_6) := (blk_cell BK165.out 6).trans rfl; have hcz35_7 : w34.cell? ⟨gb165, 7, none⟩ = some (.string a0_7) := (blk_cell BK165.out 7).trans rfl; have hfz35_0 := blk_frozen BK165.out 0; have hfz35_1 := blk_frozen BK165.out 1; have hfz35_2 := blk_frozen BK165.out 2; have hfz35_3 := blk_frozen BK165.out 3; have hfz35_4 := blk_frozen BK165.out 4; have hfz35_5 := blk_frozen BK165.out 5; have hfz35_6 := blk_frozen BK165.out 6; have hfz35_7 := blk_frozen BK165.out 7) | ((with_reducible refine gate_callee (f := 12) rfl ?_); refine goesL_ (some 15) rfl rfl Try.func12 (by kernel_rfl) rfl #[.agg #[.int .u32 a0_6, .string a0_7]] rfl (by (try simp only [List.map_toArray, List.map_cons, List.map_nil]); first | done | rfl | (simp only [List.length_drop, List.length_take]; rfl)) ?_; (with_reducible refine (sphragisref10_RightRef.calls a0_6 a0_7 false _ A4.out).mono ?_); rintro e w36 ⟨rfl, hb⟩; refine ⟨_, rfl, ?_⟩; have n0_ := Aside0.mk (blk_below (g := gb165) (o := .cells #[.int .i64 a0_0, .int .u32 a0_1, .int .u32 a0_2, .int .i64 a0_3, .slice A0_4 l0_4.length c0_4, .slice A0_5 l0_5.length c0_5, .int .u32 a0_6, .string a0_7] 30 (0, 0)) (by (with_reducible repeat (first | refine blk_drewN ?_ _ | refine blk_drew ?_ | refine blk_alloc ?_ _)); exact BK165.out) hb); have n1_ := Aside0.mk (below_step (by repeat (first | (with_reducible first | exact HB.out | apply below_alloc | apply pw_below_drewN | apply below_drew1 | refine below_set ?_ GE165.out) | exact HB.out)) hb); clear BK165; clear HB; have BK165 := n0_; have HB := n1_; clear n0_ n1_; (try clear hb); (try clear hb2); (try clear hk); (try clear hi); have hcz37_0 : w36.cell? ⟨gb165, 0, none⟩ = some (.int .i64 a0_0) := (blk_cell BK165.out 0).trans rfl; have hcz37_1 : w36.cell? ⟨gb165, 1, none⟩ = some (.int .u32 a0_1) := (blk_cell BK165.out 1).trans rfl; have hcz37_2 : w36.cell? ⟨gb165, 2, none⟩ = some (.int .u32 a0_2) := (blk_cell BK165.out 2).trans rfl; have hcz37_3 : w36.cell? ⟨gb165, 3, none⟩ = some (.int .i64 a0_3) := (blk_cell BK165.out 3).trans rfl; have hcz37_4 : w36.cell? ⟨gb165, 4, none⟩ = some (.slice A0_4 l0_4.length c0_4) := (blk_cell BK165.out 4).trans rfl; have hcz37_5 : w36.cell? ⟨gb165, 5, none⟩ = some (.slice A0_5 l0_5.length c0_5) := (blk_cell BK165.out 5).trans rfl; have hcz37_6 : w36.cell? ⟨gb165, 6, none⟩ = some (.int .u32 a0_6) := (blk_cell BK165.out 6).trans rfl; have hcz37_7 : w36.cell? ⟨gb165, 7, none⟩ = some (.string a0_7) := (blk_cell BK165.out 7).trans rfl; have hfz37_0 := blk_frozen BK165.out 0; have hfz37_1 := blk_frozen BK165.out 1; have hfz37_2 := blk_frozen BK165.out 2; have hfz37_3 := blk_frozen BK165.out 3; have hfz37_4 := blk_frozen BK165.out 4; have hfz37_5 := blk_frozen BK165.out 5; have hfz37_6 := blk_frozen BK165.out 6; have hfz37_7 := blk_frozen BK165.out 7) | (go_at_call 27; (with_reducible refine (sphragisref10_none.calls a0_6 a0_7 true _ A21.out).mono ?_); rintro e w38 ⟨rfl, hb⟩; have n0_ := Aside0.mk (blk_below (g := gb165) (o := .cells #[.int .i64 a0_0, .int .u32 a0_1, .int .u32 a0_2, .int .i64 a0_3, .slice A0_4 l0_4.length c0_4, .slice A0_5 l0_5.length c0_5, .int .u32 a0_6, .string a0_7] 30 (0, 0)) (by (with_reducible repeat (first | refine blk_drewN ?_ _ | refine blk_drew ?_ | refine blk_alloc ?_ _)); exact BK165.out) hb); have n1_ := Aside0.mk (below_step (by repeat (first | (with_reducible first | exact HB.out | apply below_alloc | apply pw_below_drewN | apply below_drew1 | refine below_set ?_ GE165.out) | exact HB.out)) hb); clear BK165; clear HB; have BK165 := n0_; have HB := n1_; clear n0_ n1_; (try clear hb); (try clear hb2); (try clear hk); (try clear hi); have hcz39_0 : w38.cell? ⟨gb165, 0, none⟩ = some (.int .i64 a0_0) := (blk_cell BK165.out 0).trans rfl; have hcz39_1 : w38.cell? ⟨gb165, 1, none⟩ = some (.int .u32 a0_1) := (blk_cell BK165.out 1).trans rfl; have hcz39_2 : w38.cell? ⟨gb165, 2, none⟩ = some (.int .u32 a0_2) := (blk_cell BK165.out 2).trans rfl; have hcz39_3 : w38.cell? ⟨gb165, 3, none⟩ = some (.int .i64 a0_3) := (blk_cell BK165.out 3).trans rfl; have hcz39_4 : w38.cell? ⟨gb165, 4, none⟩ = some (.slice A0_4 l0_4.length c0_4) := (blk_cell BK165.out 4).trans rfl; have hcz39_5 : w38.cell? ⟨gb165, 5, none⟩ = some (.slice A0_5 l0_5.length c0_5) := (blk_cell BK165.out 5).trans rfl; have hcz39_6 : w38.cell? ⟨gb165, 6, none⟩ = some (.int .u32 a0_6) := (blk_cell BK165.out 6).trans rfl; have hcz39_7 : w38.cell? ⟨gb165, 7, none⟩ = some (.string a0_7) := (blk_cell BK165.out 7).trans rfl; have hfz39_0 := blk_frozen BK165.out 0; have hfz39_1 := blk_frozen BK165.out 1; have hfz39_2 := blk_frozen BK165.out 2; have hfz39_3 := blk_frozen BK165.out 3; have hfz39_4 := blk_frozen BK165.out 4; have hfz39_5 := blk_frozen BK165.out 5; have hfz39_6 := blk_frozen BK165.out 6; have hfz39_7 := blk_frozen BK165.out 7))
       go_ret
       exact ⟨by first | rfl | (simp [errW_none, errW_some] <;> rfl) | (simp [*, errW_none, errW_some] <;> rfl), by repeat (first | (with_reducible first | exact HB.out | apply below_alloc | apply pw_below_drewN | apply below_drew1 | refine below_set ?_ GE165.out) | exact HB.out)⟩
     ·replace c22 := Bool.eq_false_iff.mpr c22
      subst c22
      have H1 : (some false) = some r := by rw [if_neg (show ¬ (false = true) by decide)] at H; exact H
      clear H
      have H := H1
      clear H1
      obtain rfl := Option.some.inj H
      go_enter Try.func15, Try.ntmps15
      go_wp2_with (first | ((with_reducible refine gate_dst (N := 1) rfl ?_); (try (refine gate_guard (by rfl) ?_; dsimp only)); refine box_event ?hg (N := 1) ?hd (cs := #[.int .i64 a0_0, .int .u32 a0_1, .int .u32 a0_2, .int .i64 a0_3, .slice A0_4 l0_4.length c0_4, .slice A0_5 l0_5.length c0_5, .int .u32 a0_6, .string a0_7]) (t := 30) ?hr ?_; (case hd => rfl); (case hg => rfl); (case hr => first | (go_simp; done) | (go_simp; rfl)); intro gb165 hg w40 hbox hb; have n0_ := Aside0.mk (below_step (by repeat (first | (with_reducible first | exact HB.out | apply below_alloc | apply pw_below_drewN | apply below_drew1) | exact HB.out)) hb); have n1_ := Aside0.mk (hbox); have n2_ := Aside0.mk ((by rw [hg]; exact (below_size (by repeat (first | (with_reducible first | exact HB.out | apply below_alloc | apply pw_below_drewN | apply below_drew1) | exact HB.out))) : w.heap.size ≤ gb165)); have n3_ := Aside0.mk ((by rw [hg]; exact (below_size (by repeat (first | (with_reducible first | exact HB.out | apply below_alloc | apply pw_below_drewN | apply below_drew1) | exact HB.out))) : w.heap.size ≤ gb165)); clear HB; have HB := n0_; have BK165 := n1_; have GW165 := n2_; have GE165 := n3_; clear n0_ n1_ n2_ n3_; clear hb hbox hg; have hcz41_0 : w40.cell? ⟨gb165, 0, none⟩ = some (.int .i64 a0_0) := (blk_cell BK165.out 0).trans rfl; have hcz41_1 : w40.cell? ⟨gb165, 1, none⟩ = some (.int .u32 a0_1) := (blk_cell BK165.out 1).trans rfl; have hcz41_2 : w40.cell? ⟨gb165, 2, none⟩ = some (.int .u32 a0_2) := (blk_cell BK165.out 2).trans rfl; have hcz41_3 : w40.cell? ⟨gb165, 3, none⟩ = some (.int .i64 a0_3) := (blk_cell BK165.out 3).trans rfl; have hcz41_4 : w40.cell? ⟨gb165, 4, none⟩ = some (.slice A0_4 l0_4.length c0_4) := (blk_cell BK165.out 4).trans rfl; have hcz41_5 : w40.cell? ⟨gb165, 5, none⟩ = some (.slice A0_5 l0_5.length c0_5) := (blk_cell BK165.out 5).trans rfl; have hcz41_6 : w40.cell? ⟨gb165, 6, none⟩ = some (.int .u32 a0_6) := (blk_cell BK165.out 6).trans rfl; have hcz41_7 : w40.cell? ⟨gb165, 7, none⟩ = some (.string a0_7) := (blk_cell BK165.out 7).trans rfl; have hfz41_0 := blk_frozen BK165.out 0; have hfz41_1 := blk_frozen BK165.out 1; have hfz41_2 := blk_frozen BK165.out 2; have hfz41_3 := blk_frozen BK165.out 3; have hfz41_4 := blk_frozen BK165.out 4; have hfz41_5 := blk_frozen BK165.out 5; have hfz41_6 := blk_frozen BK165.out 6; have hfz41_7 := blk_frozen BK165.out 7) | ((with_reducible refine gate_callee (f := 26) rfl ?_); refine goesL_ (some 12) rfl rfl Try.func26 (by kernel_rfl) rfl #[.slice A0_4 l0_4.length c0_4] rfl (by (try simp only [List.map_toArray, List.map_cons, List.map_nil]); first | done | rfl | (simp only [List.length_drop, List.length_take]; rfl)) ?_; (with_reducible refine (sphragisref09_Right.calls k _ _ l0_4 true _ ?side1 ?side2 A3.out).mono ?_); (case side1 => repeat (first | exact (Kd.C_below HR0_4.out HB.out) | (with_reducible refine Kd.C_alloc ?_ _) | (with_reducible refine Kd.C_drewN ?_ _) | (with_reducible refine Kd.C_drew ?_))); (case side2 => exact HC0_4.out); rintro e w42 ⟨rfl, hb⟩; refine ⟨_, rfl, ?_⟩; have n0_ := Aside0.mk (blk_below (g := gb165) (o := .cells #[.int .i64 a0_0, .int .u32 a0_1, .int .u32 a0_2, .int .i64 a0_3, .slice A0_4 l0_4.length c0_4, .slice A0_5 l0_5.length c0_5, .int .u32 a0_6, .string a0_7] 30 (0, 0)) (by (with_reducible repeat (first | refine blk_drewN ?_ _ | refine blk_drew ?_ | refine blk_alloc ?_ _)); exact BK165.out) hb); have n1_ := Aside0.mk (below_step (by repeat (first | (with_reducible first | exact HB.out | apply below_alloc | apply pw_below_drewN | apply below_drew1 | refine below_set ?_ GE165.out) | exact HB.out)) hb); clear BK165; clear HB; have BK165 := n0_; have HB := n1_; clear n0_ n1_; (try clear hb); (try clear hb2); (try clear hk); (try clear hi); have hcz43_0 : w42.cell? ⟨gb165, 0, none⟩ = some (.int .i64 a0_0) := (blk_cell BK165.out 0).trans rfl; have hcz43_1 : w42.cell? ⟨gb165, 1, none⟩ = some (.int .u32 a0_1) := (blk_cell BK165.out 1).trans rfl; have hcz43_2 : w42.cell? ⟨gb165, 2, none⟩ = some (.int .u32 a0_2) := (blk_cell BK165.out 2).trans rfl; have hcz43_3 : w42.cell? ⟨gb165, 3, none⟩ = some (.int .i64 a0_3) := (blk_cell BK165.out 3).trans rfl; have hcz43_4 : w42.cell? ⟨gb165, 4, none⟩ = some (.slice A0_4 l0_4.length c0_4) := (blk_cell BK165.out 4).trans rfl; have hcz43_5 : w42.cell? ⟨gb165, 5, none⟩ = some (.slice A0_5 l0_5.length c0_5) := (blk_cell BK165.out 5).trans rfl; have hcz43_6 : w42.cell? ⟨gb165, 6, none⟩ = some (.int .u32 a0_6) := (blk_cell BK165.out 6).trans rfl; have hcz43_7 : w42.cell? ⟨gb165, 7, none⟩ = some (.string a0_7) := (blk_cell BK165.out 7).trans rfl; have hfz43_0 := blk_frozen BK165.out 0; have hfz43_1 := blk_frozen BK165.out 1; have hfz43_2 := blk_frozen BK165.out 2; have hfz43_3 := blk_frozen BK165.out 3; have hfz43_4 := blk_frozen BK165.out 4; have hfz43_5 := blk_frozen BK165.out 5; have hfz43_6 := blk_frozen BK165.out 6; have hfz43_7 := blk_frozen BK165.out 7) | ((with_reducible refine gate_callee (f := 12) rfl ?_); refine goesL_ (some 15) rfl rfl Try.func12 (by kernel_rfl) rfl #[.agg #[.int .u32 a0_6, .string a0_7]] rfl (by (try simp only [List.map_toArray, List.map_cons, List.map_nil]); first | done | rfl | (simp only [List.length_drop, List.length_take]; rfl)) ?_; (with_reducible refine (sphragisref10_RightRef.calls a0_6 a0_7 false _ A4.out).mono ?_); rintro e w44 ⟨rfl, hb⟩; refine ⟨_, rfl, ?_⟩; have n0_ := Aside0.mk (blk_below (g := gb165) (o := .cells #[.int .i64 a0_0, .int .u32 a0_1, .int .u32 a0_2, .int .i64 a0_3, .slice A0_4 l0_4.length c0_4, .slice A0_5 l0_5.length c0_5, .int .u32 a0_6, .string a0_7] 30 (0, 0)) (by (with_reducible repeat (first | refine blk_drewN ?_ _ | refine blk_drew ?_ | refine blk_alloc ?_ _)); exact BK165.out) hb); have n1_ := Aside0.mk (below_step (by repeat (first | (with_reducible first | exact HB.out | apply below_alloc | apply pw_below_drewN | apply below_drew1 | refine below_set ?_ GE165.out) | exact HB.out)) hb); clear BK165; clear HB; have BK165 := n0_; have HB := n1_; clear n0_ n1_; (try clear hb); (try clear hb2); (try clear hk); (try clear hi); have hcz45_0 : w44.cell? ⟨gb165, 0, none⟩ = some (.int .i64 a0_0) := (blk_cell BK165.out 0).trans rfl; have hcz45_1 : w44.cell? ⟨gb165, 1, none⟩ = some (.int .u32 a0_1) := (blk_cell BK165.out 1).trans rfl; have hcz45_2 : w44.cell? ⟨gb165, 2, none⟩ = some (.int .u32 a0_2) := (blk_cell BK165.out 2).trans rfl; have hcz45_3 : w44.cell? ⟨gb165, 3, none⟩ = some (.int .i64 a0_3) := (blk_cell BK165.out 3).trans rfl; have hcz45_4 : w44.cell? ⟨gb165, 4, none⟩ = some (.slice A0_4 l0_4.length c0_4) := (blk_cell BK165.out 4).trans rfl; have hcz45_5 : w44.cell? ⟨gb165, 5, none⟩ = some (.slice A0_5 l0_5.length c0_5) := (blk_cell BK165.out 5).trans rfl; have hcz45_6 : w44.cell? ⟨gb165, 6, none⟩ = some (.int .u32 a0_6) := (blk_cell BK165.out 6).trans rfl; have hcz45_7 : w44.cell? ⟨gb165, 7, none⟩ = some (.string a0_7) := (blk_cell BK165.out 7).trans rfl; have hfz45_0 := blk_frozen BK165.out 0; have hfz45_1 := blk_frozen BK165.out 1; have hfz45_2 := blk_frozen BK165.out 2; have hfz45_3 := blk_frozen BK165.out 3; have hfz45_4 := blk_frozen BK165.out 4; have hfz45_5 := blk_frozen BK165.out 5; have hfz45_6 := blk_frozen BK165.out 6; have hfz45_7 := blk_frozen BK165.out 7) | (go_at_call 27; (with_reducible refine (sphragisref10_none.calls a0_6 a0_7 false _ A21.out).mono ?_); rintro e w46 ⟨rfl, hb⟩; have n0_ := Aside0.mk (blk_below (g := gb165) (o := .cells #[.int .i64 a0_0, .int .u32 a0_1, .int .u32 a0_2, .int .i64 a0_3, .slice A0_4 l0_4.length c0_4, .slice A0_5 l0_5.length c0_5, .int .u32 a0_6, .string a0_7] 30 (0, 0)) (by (with_reducible repeat (first | refine blk_drewN ?_ _ | refine blk_drew ?_ | refine blk_alloc ?_ _)); exact BK165.out) hb); have n1_ := Aside0.mk (below_step (by repeat (first | (with_reducible first | exact HB.out | apply below_alloc | apply pw_below_drewN | apply below_drew1 | refine below_set ?_ GE165.out) | exact HB.out)) hb); clear BK165; clear HB; have BK165 := n0_; have HB := n1_; clear n0_ n1_; (try clear hb); (try clear hb2); (try clear hk); (try clear hi)))
      go_ret
      exact ⟨by first | rfl | (simp [errW_none, errW_some] <;> rfl) | (simp [*, errW_none, errW_some] <;> rfl), by repeat (first | (with_reducible first | exact HB.out | apply below_alloc | apply pw_below_drewN | apply below_drew1 | refine below_set ?_ GE165.out) | exact HB.out)⟩
   ·replace c6 := Bool.eq_false_iff.mpr c6
    subst c6
    have H1 : (some false) = some r := by rw [if_neg (show ¬ (false = true) by decide)] at H; exact H
    clear H
    have H := H1
    clear H1
    obtain rfl := Option.some.inj H
    go_enter Try.func15, Try.ntmps15
    go_wp2_with (first | ((with_reducible refine gate_dst (N := 1) rfl ?_); (try (refine gate_guard (by rfl) ?_; dsimp only)); refine box_event ?hg (N := 1) ?hd (cs := #[.int .i64 a0_0, .int .u32 a0_1, .int .u32 a0_2, .int .i64 a0_3, .slice A0_4 l0_4.length c0_4, .slice A0_5 l0_5.length c0_5, .int .u32 a0_6, .string a0_7]) (t := 30) ?hr ?_; (case hd => rfl); (case hg => rfl); (case hr => first | (go_simp; done) | (go_simp; rfl)); intro gb165 hg w47 hbox hb; have n0_ := Aside0.mk (below_step (by repeat (first | (with_reducible first | exact HB.out | apply below_alloc | apply pw_below_drewN | apply below_drew1) | exact HB.out)) hb); have n1_ := Aside0.mk (hbox); have n2_ := Aside0.mk ((by rw [hg]; exact (below_size (by repeat (first | (with_reducible first | exact HB.out | apply below_alloc | apply pw_below_drewN | apply below_drew1) | exact HB.out))) : w.heap.size ≤ gb165)); have n3_ := Aside0.mk ((by rw [hg]; exact (below_size (by repeat (first | (with_reducible first | exact HB.out | apply below_alloc | apply pw_below_drewN | apply below_drew1) | exact HB.out))) : w.heap.size ≤ gb165)); clear HB; have HB := n0_; have BK165 := n1_; have GW165 := n2_; have GE165 := n3_; clear n0_ n1_ n2_ n3_; clear hb hbox hg; have hcz48_0 : w47.cell? ⟨gb165, 0, none⟩ = some (.int .i64 a0_0) := (blk_cell BK165.out 0).trans rfl; have hcz48_1 : w47.cell? ⟨gb165, 1, none⟩ = some (.int .u32 a0_1) := (blk_cell BK165.out 1).trans rfl; have hcz48_2 : w47.cell? ⟨gb165, 2, none⟩ = some (.int .u32 a0_2) := (blk_cell BK165.out 2).trans rfl; have hcz48_3 : w47.cell? ⟨gb165, 3, none⟩ = some (.int .i64 a0_3) := (blk_cell BK165.out 3).trans rfl; have hcz48_4 : w47.cell? ⟨gb165, 4, none⟩ = some (.slice A0_4 l0_4.length c0_4) := (blk_cell BK165.out 4).trans rfl; have hcz48_5 : w47.cell? ⟨gb165, 5, none⟩ = some (.slice A0_5 l0_5.length c0_5) := (blk_cell BK165.out 5).trans rfl; have hcz48_6 : w47.cell? ⟨gb165, 6, none⟩ = some (.int .u32 a0_6) := (blk_cell BK165.out 6).trans rfl; have hcz48_7 : w47.cell? ⟨gb165, 7, none⟩ = some (.string a0_7) := (blk_cell BK165.out 7).trans rfl; have hfz48_0 := blk_frozen BK165.out 0; have hfz48_1 := blk_frozen BK165.out 1; have hfz48_2 := blk_frozen BK165.out 2; have hfz48_3 := blk_frozen BK165.out 3; have hfz48_4 := blk_frozen BK165.out 4; have hfz48_5 := blk_frozen BK165.out 5; have hfz48_6 := blk_frozen BK165.out 6; have hfz48_7 := blk_frozen BK165.out 7) | ((with_reducible refine gate_callee (f := 26) rfl ?_); refine goesL_ (some 12) rfl rfl Try.func26 (by kernel_rfl) rfl #[.slice A0_4 l0_4.length c0_4] rfl (by (try simp only [List.map_toArray, List.map_cons, List.map_nil]); first | done | rfl | (simp only [List.length_drop, List.length_take]; rfl)) ?_; (with_reducible refine (sphragisref09_Right.calls k _ _ l0_4 false _ ?side1 ?side2 A3.out).mono ?_); (case side1 => repeat (first | exact (Kd.C_below HR0_4.out HB.out) | (with_reducible refine Kd.C_alloc ?_ _) | (with_reducible refine Kd.C_drewN ?_ _) | (with_reducible refine Kd.C_drew ?_))); (case side2 => exact HC0_4.out); rintro e w49 ⟨rfl, hb⟩; refine ⟨_, rfl, ?_⟩; have n0_ := Aside0.mk (blk_below (g := gb165) (o := .cells #[.int .i64 a0_0, .int .u32 a0_1, .int .u32 a0_2, .int .i64 a0_3, .slice A0_4 l0_4.length c0_4, .slice A0_5 l0_5.length c0_5, .int .u32 a0_6, .string a0_7] 30 (0, 0)) (by (with_reducible repeat (first | refine blk_drewN ?_ _ | refine blk_drew ?_ | refine blk_alloc ?_ _)); exact BK165.out) hb); have n1_ := Aside0.mk (below_step (by repeat (first | (with_reducible first | exact HB.out | apply below_alloc | apply pw_below_drewN | apply below_drew1 | refine below_set ?_ GE165.out) | exact HB.out)) hb); clear BK165; clear HB; have BK165 := n0_; have HB := n1_; clear n0_ n1_; (try clear hb); (try clear hb2); (try clear hk); (try clear hi); have hcz50_0 : w49.cell? ⟨gb165, 0, none⟩ = some (.int .i64 a0_0) := (blk_cell BK165.out 0).trans rfl; have hcz50_1 : w49.cell? ⟨gb165, 1, none⟩ = some (.int .u32 a0_1) := (blk_cell BK165.out 1).trans rfl; have hcz50_2 : w49.cell? ⟨gb165, 2, none⟩ = some (.int .u32 a0_2) := (blk_cell BK165.out 2).trans rfl; have hcz50_3 : w49.cell? ⟨gb165, 3, none⟩ = some (.int .i64 a0_3) := (blk_cell BK165.out 3).trans rfl; have hcz50_4 : w49.cell? ⟨gb165, 4, none⟩ = some (.slice A0_4 l0_4.length c0_4) := (blk_cell BK165.out 4).trans rfl; have hcz50_5 : w49.cell? ⟨gb165, 5, none⟩ = some (.slice A0_5 l0_5.length c0_5) := (blk_cell BK165.out 5).trans rfl; have hcz50_6 : w49.cell? ⟨gb165, 6, none⟩ = some (.int .u32 a0_6) := (blk_cell BK165.out 6).trans rfl; have hcz50_7 : w49.cell? ⟨gb165, 7, none⟩ = some (.string a0_7) := (blk_cell BK165.out 7).trans rfl; have hfz50_0 := blk_frozen BK165.out 0; have hfz50_1 := blk_frozen BK165.out 1; have hfz50_2 := blk_frozen BK165.out 2; have hfz50_3 := blk_frozen BK165.out 3; have hfz50_4 := blk_frozen BK165.out 4; have hfz50_5 := blk_frozen BK165.out 5; have hfz50_6 := blk_frozen BK165.out 6; have hfz50_7 := blk_frozen BK165.out 7) | ((with_reducible refine gate_callee (f := 12) rfl ?_); refine goesL_ (some 15) rfl rfl Try.func12 (by kernel_rfl) rfl #[.agg #[.int .u32 a0_6, .string a0_7]] rfl (by (try simp only [List.map_toArray, List.map_cons, List.map_nil]); first | done | rfl | (simp only [List.length_drop, List.length_take]; rfl)) ?_; (with_reducible refine (sphragisref10_RightRef.calls a0_6 a0_7 t167 _ A4.out).mono ?_); rintro e w51 ⟨rfl, hb⟩; refine ⟨_, rfl, ?_⟩; have n0_ := Aside0.mk (blk_below (g := gb165) (o := .cells #[.int .i64 a0_0, .int .u32 a0_1, .int .u32 a0_2, .int .i64 a0_3, .slice A0_4 l0_4.length c0_4, .slice A0_5 l0_5.length c0_5, .int .u32 a0_6, .string a0_7] 30 (0, 0)) (by (with_reducible repeat (first | refine blk_drewN ?_ _ | refine blk_drew ?_ | refine blk_alloc ?_ _)); exact BK165.out) hb); have n1_ := Aside0.mk (below_step (by repeat (first | (with_reducible first | exact HB.out | apply below_alloc | apply pw_below_drewN | apply below_drew1 | refine below_set ?_ GE165.out) | exact HB.out)) hb); clear BK165; clear HB; have BK165 := n0_; have HB := n1_; clear n0_ n1_; (try clear hb); (try clear hb2); (try clear hk); (try clear hi); have hcz52_0 : w51.cell? ⟨gb165, 0, none⟩ = some (.int .i64 a0_0) := (blk_cell BK165.out 0).trans rfl; have hcz52_1 : w51.cell? ⟨gb165, 1, none⟩ = some (.int .u32 a0_1) := (blk_cell BK165.out 1).trans rfl; have hcz52_2 : w51.cell? ⟨gb165, 2, none⟩ = some (.int .u32 a0_2) := (blk_cell BK165.out 2).trans rfl; have hcz52_3 : w51.cell? ⟨gb165, 3, none⟩ = some (.int .i64 a0_3) := (blk_cell BK165.out 3).trans rfl; have hcz52_4 : w51.cell? ⟨gb165, 4, none⟩ = some (.slice A0_4 l0_4.length c0_4) := (blk_cell BK165.out 4).trans rfl; have hcz52_5 : w51.cell? ⟨gb165, 5, none⟩ = some (.slice A0_5 l0_5.length c0_5) := (blk_cell BK165.out 5).trans rfl; have hcz52_6 : w51.cell? ⟨gb165, 6, none⟩ = some (.int .u32 a0_6) := (blk_cell BK165.out 6).trans rfl; have hcz52_7 : w51.cell? ⟨gb165, 7, none⟩ = some (.string a0_7) := (blk_cell BK165.out 7).trans rfl; have hfz52_0 := blk_frozen BK165.out 0; have hfz52_1 := blk_frozen BK165.out 1; have hfz52_2 := blk_frozen BK165.out 2; have hfz52_3 := blk_frozen BK165.out 3; have hfz52_4 := blk_frozen BK165.out 4; have hfz52_5 := blk_frozen BK165.out 5; have hfz52_6 := blk_frozen BK165.out 6; have hfz52_7 := blk_frozen BK165.out 7))
    go_ret
    exact ⟨by first | rfl | (simp [errW_none, errW_some] <;> rfl) | (simp [*, errW_none, errW_some] <;> rfl), by repeat (first | (with_reducible first | exact HB.out | apply below_alloc | apply pw_below_drewN | apply below_drew1 | refine below_set ?_ GE165.out) | exact HB.out)⟩
  ·rw [if_neg c5] at H
   have c5b0 : decide ((l0_4.length : Int) ≤ 4) = false := decide_eq_false c5
   have c5b1 : decide (l0_4.length ≤ 4) = false := decide_eq_false (by omega)
   clear c5
   obtain rfl := Option.some.inj H
   go_enter Try.func15, Try.ntmps15
   go_wp2_with (first | ((with_reducible refine gate_dst (N := 1) rfl ?_); (try (refine gate_guard (by rfl) ?_; dsimp only)); refine box_event ?hg (N := 1) ?hd (cs := #[.int .i64 a0_0, .int .u32 a0_1, .int .u32 a0_2, .int .i64 a0_3, .slice A0_4 l0_4.length c0_4, .slice A0_5 l0_5.length c0_5, .int .u32 a0_6, .string a0_7]) (t := 30) ?hr ?_; (case hd => rfl); (case hg => rfl); (case hr => first | (go_simp; done) | (go_simp; rfl)); intro gb165 hg w53 hbox hb; have n0_ := Aside0.mk (below_step (by repeat (first | (with_reducible first | exact HB.out | apply below_alloc | apply pw_below_drewN | apply below_drew1) | exact HB.out)) hb); have n1_ := Aside0.mk (hbox); have n2_ := Aside0.mk ((by rw [hg]; exact (below_size (by repeat (first | (with_reducible first | exact HB.out | apply below_alloc | apply pw_below_drewN | apply below_drew1) | exact HB.out))) : w.heap.size ≤ gb165)); have n3_ := Aside0.mk ((by rw [hg]; exact (below_size (by repeat (first | (with_reducible first | exact HB.out | apply below_alloc | apply pw_below_drewN | apply below_drew1) | exact HB.out))) : w.heap.size ≤ gb165)); clear HB; have HB := n0_; have BK165 := n1_; have GW165 := n2_; have GE165 := n3_; clear n0_ n1_ n2_ n3_; clear hb hbox hg; have hcz54_0 : w53.cell? ⟨gb165, 0, none⟩ = some (.int .i64 a0_0) := (blk_cell BK165.out 0).trans rfl; have hcz54_1 : w53.cell? ⟨gb165, 1, none⟩ = some (.int .u32 a0_1) := (blk_cell BK165.out 1).trans rfl; have hcz54_2 : w53.cell? ⟨gb165, 2, none⟩ = some (.int .u32 a0_2) := (blk_cell BK165.out 2).trans rfl; have hcz54_3 : w53.cell? ⟨gb165, 3, none⟩ = some (.int .i64 a0_3) := (blk_cell BK165.out 3).trans rfl; have hcz54_4 : w53.cell? ⟨gb165, 4, none⟩ = some (.slice A0_4 l0_4.length c0_4) := (blk_cell BK165.out 4).trans rfl; have hcz54_5 : w53.cell? ⟨gb165, 5, none⟩ = some (.slice A0_5 l0_5.length c0_5) := (blk_cell BK165.out 5).trans rfl; have hcz54_6 : w53.cell? ⟨gb165, 6, none⟩ = some (.int .u32 a0_6) := (blk_cell BK165.out 6).trans rfl; have hcz54_7 : w53.cell? ⟨gb165, 7, none⟩ = some (.string a0_7) := (blk_cell BK165.out 7).trans rfl; have hfz54_0 := blk_frozen BK165.out 0; have hfz54_1 := blk_frozen BK165.out 1; have hfz54_2 := blk_frozen BK165.out 2; have hfz54_3 := blk_frozen BK165.out 3; have hfz54_4 := blk_frozen BK165.out 4; have hfz54_5 := blk_frozen BK165.out 5; have hfz54_6 := blk_frozen BK165.out 6; have hfz54_7 := blk_frozen BK165.out 7) | ((with_reducible refine gate_callee (f := 26) rfl ?_); refine goesL_ (some 12) rfl rfl Try.func26 (by kernel_rfl) rfl #[.slice A0_4 l0_4.length c0_4] rfl (by (try simp only [List.map_toArray, List.map_cons, List.map_nil]); first | done | rfl | (simp only [List.length_drop, List.length_take]; rfl)) ?_; (with_reducible refine (sphragisref09_Right.calls k _ _ l0_4 t166 _ ?side1 ?side2 A3.out).mono ?_); (case side1 => repeat (first | exact (Kd.C_below HR0_4.out HB.out) | (with_reducible refine Kd.C_alloc ?_ _) | (with_reducible refine Kd.C_drewN ?_ _) | (with_reducible refine Kd.C_drew ?_))); (case side2 => exact HC0_4.out); rintro e w55 ⟨rfl, hb⟩; refine ⟨_, rfl, ?_⟩; have n0_ := Aside0.mk (blk_below (g := gb165) (o := .cells #[.int .i64 a0_0, .int .u32 a0_1, .int .u32 a0_2, .int .i64 a0_3, .slice A0_4 l0_4.length c0_4, .slice A0_5 l0_5.length c0_5, .int .u32 a0_6, .string a0_7] 30 (0, 0)) (by (with_reducible repeat (first | refine blk_drewN ?_ _ | refine blk_drew ?_ | refine blk_alloc ?_ _)); exact BK165.out) hb); have n1_ := Aside0.mk (below_step (by repeat (first | (with_reducible first | exact HB.out | apply below_alloc | apply pw_below_drewN | apply below_drew1 | refine below_set ?_ GE165.out) | exact HB.out)) hb); clear BK165; clear HB; have BK165 := n0_; have HB := n1_; clear n0_ n1_; (try clear hb); (try clear hb2); (try clear hk); (try clear hi); have hcz56_0 : w55.cell? ⟨gb165, 0, none⟩ = some (.int .i64 a0_0) := (blk_cell BK165.out 0).trans rfl; have hcz56_1 : w55.cell? ⟨gb165, 1, none⟩ = some (.int .u32 a0_1) := (blk_cell BK165.out 1).trans rfl; have hcz56_2 : w55.cell? ⟨gb165, 2, none⟩ = some (.int .u32 a0_2) := (blk_cell BK165.out 2).trans rfl; have hcz56_3 : w55.cell? ⟨gb165, 3, none⟩ = some (.int .i64 a0_3) := (blk_cell BK165.out 3).trans rfl; have hcz56_4 : w55.cell? ⟨gb165, 4, none⟩ = some (.slice A0_4 l0_4.length c0_4) := (blk_cell BK165.out 4).trans rfl; have hcz56_5 : w55.cell? ⟨gb165, 5, none⟩ = some (.slice A0_5 l0_5.length c0_5) := (blk_cell BK165.out 5).trans rfl; have hcz56_6 : w55.cell? ⟨gb165, 6, none⟩ = some (.int .u32 a0_6) := (blk_cell BK165.out 6).trans rfl; have hcz56_7 : w55.cell? ⟨gb165, 7, none⟩ = some (.string a0_7) := (blk_cell BK165.out 7).trans rfl; have hfz56_0 := blk_frozen BK165.out 0; have hfz56_1 := blk_frozen BK165.out 1; have hfz56_2 := blk_frozen BK165.out 2; have hfz56_3 := blk_frozen BK165.out 3; have hfz56_4 := blk_frozen BK165.out 4; have hfz56_5 := blk_frozen BK165.out 5; have hfz56_6 := blk_frozen BK165.out 6; have hfz56_7 := blk_frozen BK165.out 7) | ((with_reducible refine gate_callee (f := 12) rfl ?_); refine goesL_ (some 15) rfl rfl Try.func12 (by kernel_rfl) rfl #[.agg #[.int .u32 a0_6, .string a0_7]] rfl (by (try simp only [List.map_toArray, List.map_cons, List.map_nil]); first | done | rfl | (simp only [List.length_drop, List.length_take]; rfl)) ?_; (with_reducible refine (sphragisref10_RightRef.calls a0_6 a0_7 t167 _ A4.out).mono ?_); rintro e w57 ⟨rfl, hb⟩; refine ⟨_, rfl, ?_⟩; have n0_ := Aside0.mk (blk_below (g := gb165) (o := .cells #[.int .i64 a0_0, .int .u32 a0_1, .int .u32 a0_2, .int .i64 a0_3, .slice A0_4 l0_4.length c0_4, .slice A0_5 l0_5.length c0_5, .int .u32 a0_6, .string a0_7] 30 (0, 0)) (by (with_reducible repeat (first | refine blk_drewN ?_ _ | refine blk_drew ?_ | refine blk_alloc ?_ _)); exact BK165.out) hb); have n1_ := Aside0.mk (below_step (by repeat (first | (with_reducible first | exact HB.out | apply below_alloc | apply pw_below_drewN | apply below_drew1 | refine below_set ?_ GE165.out) | exact HB.out)) hb); clear BK165; clear HB; have BK165 := n0_; have HB := n1_; clear n0_ n1_; (try clear hb); (try clear hb2); (try clear hk); (try clear hi); have hcz58_0 : w57.cell? ⟨gb165, 0, none⟩ = some (.int .i64 a0_0) := (blk_cell BK165.out 0).trans rfl; have hcz58_1 : w57.cell? ⟨gb165, 1, none⟩ = some (.int .u32 a0_1) := (blk_cell BK165.out 1).trans rfl; have hcz58_2 : w57.cell? ⟨gb165, 2, none⟩ = some (.int .u32 a0_2) := (blk_cell BK165.out 2).trans rfl; have hcz58_3 : w57.cell? ⟨gb165, 3, none⟩ = some (.int .i64 a0_3) := (blk_cell BK165.out 3).trans rfl; have hcz58_4 : w57.cell? ⟨gb165, 4, none⟩ = some (.slice A0_4 l0_4.length c0_4) := (blk_cell BK165.out 4).trans rfl; have hcz58_5 : w57.cell? ⟨gb165, 5, none⟩ = some (.slice A0_5 l0_5.length c0_5) := (blk_cell BK165.out 5).trans rfl; have hcz58_6 : w57.cell? ⟨gb165, 6, none⟩ = some (.int .u32 a0_6) := (blk_cell BK165.out 6).trans rfl; have hcz58_7 : w57.cell? ⟨gb165, 7, none⟩ = some (.string a0_7) := (blk_cell BK165.out 7).trans rfl; have hfz58_0 := blk_frozen BK165.out 0; have hfz58_1 := blk_frozen BK165.out 1; have hfz58_2 := blk_frozen BK165.out 2; have hfz58_3 := blk_frozen BK165.out 3; have hfz58_4 := blk_frozen BK165.out 4; have hfz58_5 := blk_frozen BK165.out 5; have hfz58_6 := blk_frozen BK165.out 6; have hfz58_7 := blk_frozen BK165.out 7))
   go_ret
   exact ⟨by first | rfl | (simp [errW_none, errW_some] <;> rfl) | (simp [*, errW_none, errW_some] <;> rfl), by repeat (first | (with_reducible first | exact HB.out | apply below_alloc | apply pw_below_drewN | apply below_drew1 | refine below_set ?_ GE165.out) | exact HB.out)⟩
 ·rw [if_neg c2] at H
  have c2b0 : (a0_0 == 1) = false := beq_eq_false_iff_ne.mpr c2
  have c2b1 : (a0_0 != 1) = true := bne_iff_ne.mpr c2
  have HC59 := Aside0.mk H
  clear H
  go_enter Try.func15, Try.ntmps15
  go_upto_region 5 with (first | ((with_reducible refine gate_dst (N := 1) rfl ?_); (try (refine gate_guard (by rfl) ?_; dsimp only)); refine box_event ?hg (N := 1) ?hd (cs := #[.int .i64 a0_0, .int .u32 a0_1, .int .u32 a0_2, .int .i64 a0_3, .slice A0_4 l0_4.length c0_4, .slice A0_5 l0_5.length c0_5, .int .u32 a0_6, .string a0_7]) (t := 30) ?hr ?_; (case hd => rfl); (case hg => rfl); (case hr => first | (go_simp; done) | (go_simp; rfl)); intro gb165 hg w60 hbox hb; have n0_ := Aside0.mk (below_step (by repeat (first | (with_reducible first | exact HB.out | apply below_alloc | apply pw_below_drewN | apply below_drew1) | exact HB.out)) hb); have n1_ := Aside0.mk (hbox); have n2_ := Aside0.mk ((by rw [hg]; exact (below_size (by repeat (first | (with_reducible first | exact HB.out | apply below_alloc | apply pw_below_drewN | apply below_drew1) | exact HB.out))) : w.heap.size ≤ gb165)); have n3_ := Aside0.mk ((by rw [hg]; exact (below_size (by repeat (first | (with_reducible first | exact HB.out | apply below_alloc | apply pw_below_drewN | apply below_drew1) | exact HB.out))) : w.heap.size ≤ gb165)); clear HB; have HB := n0_; have BK165 := n1_; have GW165 := n2_; have GE165 := n3_; clear n0_ n1_ n2_ n3_; clear hb hbox hg; have hcz61_0 : w60.cell? ⟨gb165, 0, none⟩ = some (.int .i64 a0_0) := (blk_cell BK165.out 0).trans rfl; have hcz61_1 : w60.cell? ⟨gb165, 1, none⟩ = some (.int .u32 a0_1) := (blk_cell BK165.out 1).trans rfl; have hcz61_2 : w60.cell? ⟨gb165, 2, none⟩ = some (.int .u32 a0_2) := (blk_cell BK165.out 2).trans rfl; have hcz61_3 : w60.cell? ⟨gb165, 3, none⟩ = some (.int .i64 a0_3) := (blk_cell BK165.out 3).trans rfl; have hcz61_4 : w60.cell? ⟨gb165, 4, none⟩ = some (.slice A0_4 l0_4.length c0_4) := (blk_cell BK165.out 4).trans rfl; have hcz61_5 : w60.cell? ⟨gb165, 5, none⟩ = some (.slice A0_5 l0_5.length c0_5) := (blk_cell BK165.out 5).trans rfl; have hcz61_6 : w60.cell? ⟨gb165, 6, none⟩ = some (.int .u32 a0_6) := (blk_cell BK165.out 6).trans rfl; have hcz61_7 : w60.cell? ⟨gb165, 7, none⟩ = some (.string a0_7) := (blk_cell BK165.out 7).trans rfl; have hfz61_0 := blk_frozen BK165.out 0; have hfz61_1 := blk_frozen BK165.out 1; have hfz61_2 := blk_frozen BK165.out 2; have hfz61_3 := blk_frozen BK165.out 3; have hfz61_4 := blk_frozen BK165.out 4; have hfz61_5 := blk_frozen BK165.out 5; have hfz61_6 := blk_frozen BK165.out 6; have hfz61_7 := blk_frozen BK165.out 7))
  (try simp only [Act.put, List.setIfInBounds_toArray, List.set_cons_zero, List.set_cons_succ])
  go_cut [75] (fun v75 wc => ∃ (kq : Nat) (x75_58 : Bool), v75 = .bool x75_58 ∧ Aside0 (sphragisref10_Right.j0 kq x75_58 a0_0 a0_1 a0_2 a0_3 l0_4 l0_5 a0_6 a0_7 = some r) ∧ Aside0 (kq ≤ k) ∧ Aside0 (wc.heap[gb165]? = some (.cells #[.int .i64 a0_0, .int .u32 a0_1, .int .u32 a0_2, .int .i64 a0_3, (.slice A0_4 l0_4.length c0_4), (.slice A0_5 l0_5.length c0_5), .int .u32 a0_6, .string a0_7] 30 (0, 0))) ∧ Aside0 (Below w.heap.size w wc))
  case first =>
   have H := HC59.out
   clear HC59
   by_cases c62 : a0_0 = 2
   ·rw [if_pos c62] at H
    have c62b0 : (a0_0 == 2) = true := beq_iff_eq.mpr c62
    have c62b1 : (a0_0 != 2) = false := bne_eq_false_iff_eq.mpr c62
    clear c62
    (first | rw [c62b0] | (simp only [i64_w, i32_w]; rw [c62b0]) | skip)
    by_cases c63 : (l0_4.length : Int) > 0
    ·rw [if_pos c63] at H
     have c63b0 : decide (0 < (l0_4.length : Int)) = true := decide_eq_true c63
     have c63b1 : decide (0 < l0_4.length) = true := decide_eq_true (by omega)
     clear c63
     have H' := Aside0.mk H
     clear H
     have hcz64_0 : w60.cell? ⟨gb165, 0, none⟩ = some (.int .i64 a0_0) := (blk_cell BK165.out 0).trans rfl
     have hcz64_1 : w60.cell? ⟨gb165, 1, none⟩ = some (.int .u32 a0_1) := (blk_cell BK165.out 1).trans rfl
     have hcz64_2 : w60.cell? ⟨gb165, 2, none⟩ = some (.int .u32 a0_2) := (blk_cell BK165.out 2).trans rfl
     have hcz64_3 : w60.cell? ⟨gb165, 3, none⟩ = some (.int .i64 a0_3) := (blk_cell BK165.out 3).trans rfl
     have hcz64_4 : w60.cell? ⟨gb165, 4, none⟩ = some (.slice A0_4 l0_4.length c0_4) := (blk_cell BK165.out 4).trans rfl
     have hcz64_5 : w60.cell? ⟨gb165, 5, none⟩ = some (.slice A0_5 l0_5.length c0_5) := (blk_cell BK165.out 5).trans rfl
     have hcz64_6 : w60.cell? ⟨gb165, 6, none⟩ = some (.int .u32 a0_6) := (blk_cell BK165.out 6).trans rfl
     have hcz64_7 : w60.cell? ⟨gb165, 7, none⟩ = some (.string a0_7) := (blk_cell BK165.out 7).trans rfl
     have hfz64_0 := blk_frozen BK165.out 0
     have hfz64_1 := blk_frozen BK165.out 1
     have hfz64_2 := blk_frozen BK165.out 2
     have hfz64_3 := blk_frozen BK165.out 3
     have hfz64_4 := blk_frozen BK165.out 4
     have hfz64_5 := blk_frozen BK165.out 5
     have hfz64_6 := blk_frozen BK165.out 6
     have hfz64_7 := blk_frozen BK165.out 7
     go_wp2
     go_meet
     case rel => exact ⟨_, (true), (by first | rfl | (simp; done) | (simp [*]; done)), H', ⟨by first | omega | exact Nat.le_refl _⟩, ⟨by (with_reducible repeat (first | refine blk_drewN ?_ _ | refine blk_drew ?_ | refine blk_alloc ?_ _)); exact BK165.out⟩, ⟨by repeat (first | (with_reducible first | exact HB.out | apply below_alloc | apply pw_below_drewN | apply below_drew1 | refine below_set ?_ GE165.out) | exact HB.out)⟩⟩
    ·rw [if_neg c63] at H
     have c63b0 : decide (0 < (l0_4.length : Int)) = false := decide_eq_false c63
     have c63b1 : decide (0 < l0_4.length) = false := decide_eq_false (by omega)
     clear c63
     replace H := Option.bind_eq_some_iff.mp H
     obtain ⟨t169, A650, H⟩ := H
     replace H : (if t169 = true then (if (l0_5.length : Int) < 2 then (sphragisref10_Right.j0 k true a0_0 a0_1 a0_2 a0_3 l0_4 l0_5 a0_6 a0_7) else (if (l0_5.length : Int) > 4 then (sphragisref10_Right.j0 k true a0_0 a0_1 a0_2 a0_3 l0_4 l0_5 a0_6 a0_7) else (sphragisref10_Right.j0 k (decide (a0_3 < 1)) a0_0 a0_1 a0_2 a0_3 l0_4 l0_5 a0_6 a0_7))) else (sphragisref10_Right.j0 k true a0_0 a0_1 a0_2 a0_3 l0_4 l0_5 a0_6 a0_7)) = some r := H
     have A65 := Aside0.mk A650
     clear A650
     by_cases c66 : t169 = true
     ·subst c66
      have H1 : (if (l0_5.length : Int) < 2 then (sphragisref10_Right.j0 k true a0_0 a0_1 a0_2 a0_3 l0_4 l0_5 a0_6 a0_7) else (if (l0_5.length : Int) > 4 then (sphragisref10_Right.j0 k true a0_0 a0_1 a0_2 a0_3 l0_4 l0_5 a0_6 a0_7) else (sphragisref10_Right.j0 k (decide (a0_3 < 1)) a0_0 a0_1 a0_2 a0_3 l0_4 l0_5 a0_6 a0_7))) = some r := by rw [if_pos rfl] at H; exact H
      clear H
      have H := H1
      clear H1
      by_cases c67 : (l0_5.length : Int) < 2
      ·rw [if_pos c67] at H
       have c67b0 : decide ((l0_5.length : Int) < 2) = true := decide_eq_true c67
       have c67b1 : decide (l0_5.length < 2) = true := decide_eq_true (by omega)
       clear c67
       have H' := Aside0.mk H
       clear H
       have hcz68_0 : w60.cell? ⟨gb165, 0, none⟩ = some (.int .i64 a0_0) := (blk_cell BK165.out 0).trans rfl
       have hcz68_1 : w60.cell? ⟨gb165, 1, none⟩ = some (.int .u32 a0_1) := (blk_cell BK165.out 1).trans rfl
       have hcz68_2 : w60.cell? ⟨gb165, 2, none⟩ = some (.int .u32 a0_2) := (blk_cell BK165.out 2).trans rfl
       have hcz68_3 : w60.cell? ⟨gb165, 3, none⟩ = some (.int .i64 a0_3) := (blk_cell BK165.out 3).trans rfl
       have hcz68_4 : w60.cell? ⟨gb165, 4, none⟩ = some (.slice A0_4 l0_4.length c0_4) := (blk_cell BK165.out 4).trans rfl
       have hcz68_5 : w60.cell? ⟨gb165, 5, none⟩ = some (.slice A0_5 l0_5.length c0_5) := (blk_cell BK165.out 5).trans rfl
       have hcz68_6 : w60.cell? ⟨gb165, 6, none⟩ = some (.int .u32 a0_6) := (blk_cell BK165.out 6).trans rfl
       have hcz68_7 : w60.cell? ⟨gb165, 7, none⟩ = some (.string a0_7) := (blk_cell BK165.out 7).trans rfl
       have hfz68_0 := blk_frozen BK165.out 0
       have hfz68_1 := blk_frozen BK165.out 1
       have hfz68_2 := blk_frozen BK165.out 2
       have hfz68_3 := blk_frozen BK165.out 3
       have hfz68_4 := blk_frozen BK165.out 4
       have hfz68_5 := blk_frozen BK165.out 5
       have hfz68_6 := blk_frozen BK165.out 6
       have hfz68_7 := blk_frozen BK165.out 7
       go_wp2_with (first | (go_at_call 27; (with_reducible refine (sphragisref10_none.calls a0_6 a0_7 true _ A65.out).mono ?_); rintro e w69 ⟨rfl, hb⟩; have n0_ := Aside0.mk (blk_below (g := gb165) (o := .cells #[.int .i64 a0_0, .int .u32 a0_1, .int .u32 a0_2, .int .i64 a0_3, .slice A0_4 l0_4.length c0_4, .slice A0_5 l0_5.length c0_5, .int .u32 a0_6, .string a0_7] 30 (0, 0)) (by (with_reducible repeat (first | refine blk_drewN ?_ _ | refine blk_drew ?_ | refine blk_alloc ?_ _)); exact BK165.out) hb); have n1_ := Aside0.mk (below_step (by repeat (first | (with_reducible first | exact HB.out | apply below_alloc | apply pw_below_drewN | apply below_drew1 | refine below_set ?_ GE165.out) | exact HB.out)) hb); clear BK165; clear HB; have BK165 := n0_; have HB := n1_; clear n0_ n1_; (try clear hb); (try clear hb2); (try clear hk); (try clear hi); have hcz70_0 : w69.cell? ⟨gb165, 0, none⟩ = some (.int .i64 a0_0) := (blk_cell BK165.out 0).trans rfl; have hcz70_1 : w69.cell? ⟨gb165, 1, none⟩ = some (.int .u32 a0_1) := (blk_cell BK165.out 1).trans rfl; have hcz70_2 : w69.cell? ⟨gb165, 2, none⟩ = some (.int .u32 a0_2) := (blk_cell BK165.out 2).trans rfl; have hcz70_3 : w69.cell? ⟨gb165, 3, none⟩ = some (.int .i64 a0_3) := (blk_cell BK165.out 3).trans rfl; have hcz70_4 : w69.cell? ⟨gb165, 4, none⟩ = some (.slice A0_4 l0_4.length c0_4) := (blk_cell BK165.out 4).trans rfl; have hcz70_5 : w69.cell? ⟨gb165, 5, none⟩ = some (.slice A0_5 l0_5.length c0_5) := (blk_cell BK165.out 5).trans rfl; have hcz70_6 : w69.cell? ⟨gb165, 6, none⟩ = some (.int .u32 a0_6) := (blk_cell BK165.out 6).trans rfl; have hcz70_7 : w69.cell? ⟨gb165, 7, none⟩ = some (.string a0_7) := (blk_cell BK165.out 7).trans rfl; have hfz70_0 := blk_frozen BK165.out 0; have hfz70_1 := blk_frozen BK165.out 1; have hfz70_2 := blk_frozen BK165.out 2; have hfz70_3 := blk_frozen BK165.out 3; have hfz70_4 := blk_frozen BK165.out 4; have hfz70_5 := blk_frozen BK165.out 5; have hfz70_6 := blk_frozen BK165.out 6; have hfz70_7 := blk_frozen BK165.out 7))
       go_meet
       case rel => exact ⟨_, (true), (by first | rfl | (simp; done) | (simp [*]; done)), H', ⟨by first | omega | exact Nat.le_refl _⟩, ⟨by (with_reducible repeat (first | refine blk_drewN ?_ _ | refine blk_drew ?_ | refine blk_alloc ?_ _)); exact BK165.out⟩, ⟨by repeat (first | (with_reducible first | exact HB.out | apply below_alloc | apply pw_below_drewN | apply below_drew1 | refine below_set ?_ GE165.out) | exact HB.out)⟩⟩
      ·rw [if_neg c67] at H
       have c67b0 : decide ((l0_5.length : Int) < 2) = false := decide_eq_false c67
       have c67b1 : decide (l0_5.length < 2) = false := decide_eq_false (by omega)
       clear c67
       by_cases c71 : (l0_5.length : Int) > 4
       ·rw [if_pos c71] at H
        have c71b0 : decide (4 < (l0_5.length : Int)) = true := decide_eq_true c71
        have c71b1 : decide (4 < l0_5.length) = true := decide_eq_true (by omega)
        clear c71
        have H' := Aside0.mk H
        clear H
        have hcz72_0 : w60.cell? ⟨gb165, 0, none⟩ = some (.int .i64 a0_0) := (blk_cell BK165.out 0).trans rfl
        have hcz72_1 : w60.cell? ⟨gb165, 1, none⟩ = some (.int .u32 a0_1) := (blk_cell BK165.out 1).trans rfl
        have hcz72_2 : w60.cell? ⟨gb165, 2, none⟩ = some (.int .u32 a0_2) := (blk_cell BK165.out 2).trans rfl
        have hcz72_3 : w60.cell? ⟨gb165, 3, none⟩ = some (.int .i64 a0_3) := (blk_cell BK165.out 3).trans rfl
        have hcz72_4 : w60.cell? ⟨gb165, 4, none⟩ = some (.slice A0_4 l0_4.length c0_4) := (blk_cell BK165.out 4).trans rfl
        have hcz72_5 : w60.cell? ⟨gb165, 5, none⟩ = some (.slice A0_5 l0_5.length c0_5) := (blk_cell BK165.out 5).trans rfl
        have hcz72_6 : w60.cell? ⟨gb165, 6, none⟩ = some (.int .u32 a0_6) := (blk_cell BK165.out 6).trans rfl
        have hcz72_7 : w60.cell? ⟨gb165, 7, none⟩ = some (.string a0_7) := (blk_cell BK165.out 7).trans rfl
        have hfz72_0 := blk_frozen BK165.out 0
        have hfz72_1 := blk_frozen BK165.out 1
        have hfz72_2 := blk_frozen BK165.out 2
        have hfz72_3 := blk_frozen BK165.out 3
        have hfz72_4 := blk_frozen BK165.out 4
        have hfz72_5 := blk_frozen BK165.out 5
        have hfz72_6 := blk_frozen BK165.out 6
        have hfz72_7 := blk_frozen BK165.out 7
        go_wp2_with (first | (go_at_call 27; (with_reducible refine (sphragisref10_none.calls a0_6 a0_7 true _ A65.out).mono ?_); rintro e w73 ⟨rfl, hb⟩; have n0_ := Aside0.mk (blk_below (g := gb165) (o := .cells #[.int .i64 a0_0, .int .u32 a0_1, .int .u32 a0_2, .int .i64 a0_3, .slice A0_4 l0_4.length c0_4, .slice A0_5 l0_5.length c0_5, .int .u32 a0_6, .string a0_7] 30 (0, 0)) (by (with_reducible repeat (first | refine blk_drewN ?_ _ | refine blk_drew ?_ | refine blk_alloc ?_ _)); exact BK165.out) hb); have n1_ := Aside0.mk (below_step (by repeat (first | (with_reducible first | exact HB.out | apply below_alloc | apply pw_below_drewN | apply below_drew1 | refine below_set ?_ GE165.out) | exact HB.out)) hb); clear BK165; clear HB; have BK165 := n0_; have HB := n1_; clear n0_ n1_; (try clear hb); (try clear hb2); (try clear hk); (try clear hi); have hcz74_0 : w73.cell? ⟨gb165, 0, none⟩ = some (.int .i64 a0_0) := (blk_cell BK165.out 0).trans rfl; have hcz74_1 : w73.cell? ⟨gb165, 1, none⟩ = some (.int .u32 a0_1) := (blk_cell BK165.out 1).trans rfl; have hcz74_2 : w73.cell? ⟨gb165, 2, none⟩ = some (.int .u32 a0_2) := (blk_cell BK165.out 2).trans rfl; have hcz74_3 : w73.cell? ⟨gb165, 3, none⟩ = some (.int .i64 a0_3) := (blk_cell BK165.out 3).trans rfl; have hcz74_4 : w73.cell? ⟨gb165, 4, none⟩ = some (.slice A0_4 l0_4.length c0_4) := (blk_cell BK165.out 4).trans rfl; have hcz74_5 : w73.cell? ⟨gb165, 5, none⟩ = some (.slice A0_5 l0_5.length c0_5) := (blk_cell BK165.out 5).trans rfl; have hcz74_6 : w73.cell? ⟨gb165, 6, none⟩ = some (.int .u32 a0_6) := (blk_cell BK165.out 6).trans rfl; have hcz74_7 : w73.cell? ⟨gb165, 7, none⟩ = some (.string a0_7) := (blk_cell BK165.out 7).trans rfl; have hfz74_0 := blk_frozen BK165.out 0; have hfz74_1 := blk_frozen BK165.out 1; have hfz74_2 := blk_frozen BK165.out 2; have hfz74_3 := blk_frozen BK165.out 3; have hfz74_4 := blk_frozen BK165.out 4; have hfz74_5 := blk_frozen BK165.out 5; have hfz74_6 := blk_frozen BK165.out 6; have hfz74_7 := blk_frozen BK165.out 7))
        go_meet
        case rel => exact ⟨_, (true), (by first | rfl | (simp; done) | (simp [*]; done)), H', ⟨by first | omega | exact Nat.le_refl _⟩, ⟨by (with_reducible repeat (first | refine blk_drewN ?_ _ | refine blk_drew ?_ | refine blk_alloc ?_ _)); exact BK165.out⟩, ⟨by repeat (first | (with_reducible first | exact HB.out | apply below_alloc | apply pw_below_drewN | apply below_drew1 | refine below_set ?_ GE165.out) | exact HB.out)⟩⟩
       ·rw [if_neg c71] at H
        have c71b0 : decide (4 < (l0_5.length : Int)) = false := decide_eq_false c71
        have c71b1 : decide (4 < l0_5.length) = false := decide_eq_false (by omega)
        clear c71
        have H' := Aside0.mk H
        clear H
        have hcz75_0 : w60.cell? ⟨gb165, 0, none⟩ = some (.int .i64 a0_0) := (blk_cell BK165.out 0).trans rfl
        have hcz75_1 : w60.cell? ⟨gb165, 1, none⟩ = some (.int .u32 a0_1) := (blk_cell BK165.out 1).trans rfl
        have hcz75_2 : w60.cell? ⟨gb165, 2, none⟩ = some (.int .u32 a0_2) := (blk_cell BK165.out 2).trans rfl
        have hcz75_3 : w60.cell? ⟨gb165, 3, none⟩ = some (.int .i64 a0_3) := (blk_cell BK165.out 3).trans rfl
        have hcz75_4 : w60.cell? ⟨gb165, 4, none⟩ = some (.slice A0_4 l0_4.length c0_4) := (blk_cell BK165.out 4).trans rfl
        have hcz75_5 : w60.cell? ⟨gb165, 5, none⟩ = some (.slice A0_5 l0_5.length c0_5) := (blk_cell BK165.out 5).trans rfl
        have hcz75_6 : w60.cell? ⟨gb165, 6, none⟩ = some (.int .u32 a0_6) := (blk_cell BK165.out 6).trans rfl
        have hcz75_7 : w60.cell? ⟨gb165, 7, none⟩ = some (.string a0_7) := (blk_cell BK165.out 7).trans rfl
        have hfz75_0 := blk_frozen BK165.out 0
        have hfz75_1 := blk_frozen BK165.out 1
        have hfz75_2 := blk_frozen BK165.out 2
        have hfz75_3 := blk_frozen BK165.out 3
        have hfz75_4 := blk_frozen BK165.out 4
        have hfz75_5 := blk_frozen BK165.out 5
        have hfz75_6 := blk_frozen BK165.out 6
        have hfz75_7 := blk_frozen BK165.out 7
        go_wp2_with (first | (go_at_call 27; (with_reducible refine (sphragisref10_none.calls a0_6 a0_7 true _ A65.out).mono ?_); rintro e w76 ⟨rfl, hb⟩; have n0_ := Aside0.mk (blk_below (g := gb165) (o := .cells #[.int .i64 a0_0, .int .u32 a0_1, .int .u32 a0_2, .int .i64 a0_3, .slice A0_4 l0_4.length c0_4, .slice A0_5 l0_5.length c0_5, .int .u32 a0_6, .string a0_7] 30 (0, 0)) (by (with_reducible repeat (first | refine blk_drewN ?_ _ | refine blk_drew ?_ | refine blk_alloc ?_ _)); exact BK165.out) hb); have n1_ := Aside0.mk (below_step (by repeat (first | (with_reducible first | exact HB.out | apply below_alloc | apply pw_below_drewN | apply below_drew1 | refine below_set ?_ GE165.out) | exact HB.out)) hb); clear BK165; clear HB; have BK165 := n0_; have HB := n1_; clear n0_ n1_; (try clear hb); (try clear hb2); (try clear hk); (try clear hi); have hcz77_0 : w76.cell? ⟨gb165, 0, none⟩ = some (.int .i64 a0_0) := (blk_cell BK165.out 0).trans rfl; have hcz77_1 : w76.cell? ⟨gb165, 1, none⟩ = some (.int .u32 a0_1) := (blk_cell BK165.out 1).trans rfl; have hcz77_2 : w76.cell? ⟨gb165, 2, none⟩ = some (.int .u32 a0_2) := (blk_cell BK165.out 2).trans rfl; have hcz77_3 : w76.cell? ⟨gb165, 3, none⟩ = some (.int .i64 a0_3) := (blk_cell BK165.out 3).trans rfl; have hcz77_4 : w76.cell? ⟨gb165, 4, none⟩ = some (.slice A0_4 l0_4.length c0_4) := (blk_cell BK165.out 4).trans rfl; have hcz77_5 : w76.cell? ⟨gb165, 5, none⟩ = some (.slice A0_5 l0_5.length c0_5) := (blk_cell BK165.out 5).trans rfl; have hcz77_6 : w76.cell? ⟨gb165, 6, none⟩ = some (.int .u32 a0_6) := (blk_cell BK165.out 6).trans rfl; have hcz77_7 : w76.cell? ⟨gb165, 7, none⟩ = some (.string a0_7) := (blk_cell BK165.out 7).trans rfl; have hfz77_0 := blk_frozen BK165.out 0; have hfz77_1 := blk_frozen BK165.out 1; have hfz77_2 := blk_frozen BK165.out 2; have hfz77_3 := blk_frozen BK165.out 3; have hfz77_4 := blk_frozen BK165.out 4; have hfz77_5 := blk_frozen BK165.out 5; have hfz77_6 := blk_frozen BK165.out 6; have hfz77_7 := blk_frozen BK165.out 7))
        go_meet
        case rel => exact ⟨_, (decide (a0_3 < 1)), (by first | rfl | (simp; done) | (simp [*]; done)), H', ⟨by first | omega | exact Nat.le_refl _⟩, ⟨by (with_reducible repeat (first | refine blk_drewN ?_ _ | refine blk_drew ?_ | refine blk_alloc ?_ _)); exact BK165.out⟩, ⟨by repeat (first | (with_reducible first | exact HB.out | apply below_alloc | apply pw_below_drewN | apply below_drew1 | refine below_set ?_ GE165.out) | exact HB.out)⟩⟩
     ·replace c66 := Bool.eq_false_iff.mpr c66
      subst c66
      have H1 : (sphragisref10_Right.j0 k true a0_0 a0_1 a0_2 a0_3 l0_4 l0_5 a0_6 a0_7) = some r := by rw [if_neg (show ¬ (false = true) by decide)] at H; exact H
      clear H
      have H := H1
      clear H1
      have H' := Aside0.mk H
      clear H
      have hcz78_0 : w60.cell? ⟨gb165, 0, none⟩ = some (.int .i64 a0_0) := (blk_cell BK165.out 0).trans rfl
      have hcz78_1 : w60.cell? ⟨gb165, 1, none⟩ = some (.int .u32 a0_1) := (blk_cell BK165.out 1).trans rfl
      have hcz78_2 : w60.cell? ⟨gb165, 2, none⟩ = some (.int .u32 a0_2) := (blk_cell BK165.out 2).trans rfl
      have hcz78_3 : w60.cell? ⟨gb165, 3, none⟩ = some (.int .i64 a0_3) := (blk_cell BK165.out 3).trans rfl
      have hcz78_4 : w60.cell? ⟨gb165, 4, none⟩ = some (.slice A0_4 l0_4.length c0_4) := (blk_cell BK165.out 4).trans rfl
      have hcz78_5 : w60.cell? ⟨gb165, 5, none⟩ = some (.slice A0_5 l0_5.length c0_5) := (blk_cell BK165.out 5).trans rfl
      have hcz78_6 : w60.cell? ⟨gb165, 6, none⟩ = some (.int .u32 a0_6) := (blk_cell BK165.out 6).trans rfl
      have hcz78_7 : w60.cell? ⟨gb165, 7, none⟩ = some (.string a0_7) := (blk_cell BK165.out 7).trans rfl
      have hfz78_0 := blk_frozen BK165.out 0
      have hfz78_1 := blk_frozen BK165.out 1
      have hfz78_2 := blk_frozen BK165.out 2
      have hfz78_3 := blk_frozen BK165.out 3
      have hfz78_4 := blk_frozen BK165.out 4
      have hfz78_5 := blk_frozen BK165.out 5
      have hfz78_6 := blk_frozen BK165.out 6
      have hfz78_7 := blk_frozen BK165.out 7
      go_wp2_with (first | (go_at_call 27; (with_reducible refine (sphragisref10_none.calls a0_6 a0_7 false _ A65.out).mono ?_); rintro e w79 ⟨rfl, hb⟩; have n0_ := Aside0.mk (blk_below (g := gb165) (o := .cells #[.int .i64 a0_0, .int .u32 a0_1, .int .u32 a0_2, .int .i64 a0_3, .slice A0_4 l0_4.length c0_4, .slice A0_5 l0_5.length c0_5, .int .u32 a0_6, .string a0_7] 30 (0, 0)) (by (with_reducible repeat (first | refine blk_drewN ?_ _ | refine blk_drew ?_ | refine blk_alloc ?_ _)); exact BK165.out) hb); have n1_ := Aside0.mk (below_step (by repeat (first | (with_reducible first | exact HB.out | apply below_alloc | apply pw_below_drewN | apply below_drew1 | refine below_set ?_ GE165.out) | exact HB.out)) hb); clear BK165; clear HB; have BK165 := n0_; have HB := n1_; clear n0_ n1_; (try clear hb); (try clear hb2); (try clear hk); (try clear hi)))
      go_meet
      case rel => exact ⟨_, (true), (by first | rfl | (simp; done) | (simp [*]; done)), H', ⟨by first | omega | exact Nat.le_refl _⟩, ⟨by (with_reducible repeat (first | refine blk_drewN ?_ _ | refine blk_drew ?_ | refine blk_alloc ?_ _)); exact BK165.out⟩, ⟨by repeat (first | (with_reducible first | exact HB.out | apply below_alloc | apply pw_below_drewN | apply below_drew1 | refine below_set ?_ GE165.out) | exact HB.out)⟩⟩
   ·rw [if_neg c62] at H
    have c62b0 : (a0_0 == 2) = false := beq_eq_false_iff_ne.mpr c62
    have c62b1 : (a0_0 != 2) = true := bne_iff_ne.mpr c62
    (first | rw [c62b0] | (simp only [i64_w, i32_w]; rw [c62b0]) | skip)
    have H' := Aside0.mk H
    clear H
    have hcz80_0 : w60.cell? ⟨gb165, 0, none⟩ = some (.int .i64 a0_0) := (blk_cell BK165.out 0).trans rfl
    have hcz80_1 : w60.cell? ⟨gb165, 1, none⟩ = some (.int .u32 a0_1) := (blk_cell BK165.out 1).trans rfl
    have hcz80_2 : w60.cell? ⟨gb165, 2, none⟩ = some (.int .u32 a0_2) := (blk_cell BK165.out 2).trans rfl
    have hcz80_3 : w60.cell? ⟨gb165, 3, none⟩ = some (.int .i64 a0_3) := (blk_cell BK165.out 3).trans rfl
    have hcz80_4 : w60.cell? ⟨gb165, 4, none⟩ = some (.slice A0_4 l0_4.length c0_4) := (blk_cell BK165.out 4).trans rfl
    have hcz80_5 : w60.cell? ⟨gb165, 5, none⟩ = some (.slice A0_5 l0_5.length c0_5) := (blk_cell BK165.out 5).trans rfl
    have hcz80_6 : w60.cell? ⟨gb165, 6, none⟩ = some (.int .u32 a0_6) := (blk_cell BK165.out 6).trans rfl
    have hcz80_7 : w60.cell? ⟨gb165, 7, none⟩ = some (.string a0_7) := (blk_cell BK165.out 7).trans rfl
    have hfz80_0 := blk_frozen BK165.out 0
    have hfz80_1 := blk_frozen BK165.out 1
    have hfz80_2 := blk_frozen BK165.out 2
    have hfz80_3 := blk_frozen BK165.out 3
    have hfz80_4 := blk_frozen BK165.out 4
    have hfz80_5 := blk_frozen BK165.out 5
    have hfz80_6 := blk_frozen BK165.out 6
    have hfz80_7 := blk_frozen BK165.out 7
    go_wp2
    go_meet
    case rel => exact ⟨_, (true), (by first | rfl | (simp; done) | (simp [*]; done)), H', ⟨by first | omega | exact Nat.le_refl _⟩, ⟨by (with_reducible repeat (first | refine blk_drewN ?_ _ | refine blk_drew ?_ | refine blk_alloc ?_ _)); exact BK165.out⟩, ⟨by repeat (first | (with_reducible first | exact HB.out | apply below_alloc | apply pw_below_drewN | apply below_drew1 | refine below_set ?_ GE165.out) | exact HB.out)⟩⟩
  case rest =>
   clear HC59
   try clear c1
   try clear c2
   try clear c2b0
   try clear c2b1
   try clear p2
   try clear c5
   try clear c5b0
   try clear c5b1
   try clear c6
   try clear c7
   try clear c8
   try clear c8b0
   try clear c8b1
   try clear c8b2
   try clear c12
   try clear c15
   try clear c22
   try clear c23
   try clear c23b0
   try clear c23b1
   try clear c23b2
   try clear c26
   try clear c62
   try clear c62b0
   try clear c62b1
   try clear c63
   try clear c63b0
   try clear c63b1
   try clear c66
   try clear c67
   try clear c67b0
   try clear c67b1
   try clear c71
   try clear c71b0
   try clear c71b1
   try clear hcz10_0
   try clear hcz10_1
   try clear hcz10_2
   try clear hcz10_3
   try clear hcz10_4
   try clear hcz10_5
   try clear hcz10_6
   try clear hcz10_7
   try clear hcz12_0
   try clear hcz12_1
   try clear hcz12_2
   try clear hcz12_3
   try clear hcz12_4
   try clear hcz12_5
   try clear hcz12_6
   try clear hcz12_7
   try clear hcz14_0
   try clear hcz14_1
   try clear hcz14_2
   try clear hcz14_3
   try clear hcz14_4
   try clear hcz14_5
   try clear hcz14_6
   try clear hcz14_7
   try clear hcz16_0
   try clear hcz16_1
   try clear hcz16_2
   try clear hcz16_3
   try clear hcz16_4
   try clear hcz16_5
   try clear hcz16_6
   try clear hcz16_7
   try clear hcz18_0
   try clear hcz18_1
   try clear hcz18_2
   try clear hcz18_3
   try clear hcz18_4
   try clear hcz18_5
   try clear hcz18_6
   try clear hcz18_7
   try clear hcz20_0
   try clear hcz20_1
   try clear hcz20_2
   try clear hcz20_3
   try clear hcz20_4
   try clear hcz20_5
   try clear hcz20_6
   try clear hcz20_7
   try clear hcz25_0
   try clear hcz25_1
   try clear hcz25_2
   try clear hcz25_3
   try clear hcz25_4
   try clear hcz25_5
   try clear hcz25_6
   try clear hcz25_7
   try clear hcz27_0
   try clear hcz27_1
   try clear hcz27_2
   try clear hcz27_3
   try clear hcz27_4
   try clear hcz27_5
   try clear hcz27_6
   try clear hcz27_7
   try clear hcz29_0
   try clear hcz29_1
   try clear hcz29_2
   try clear hcz29_3
   try clear hcz29_4
   try clear hcz29_5
   try clear hcz29_6
   try clear hcz29_7
   try clear hcz31_0
   try clear hcz31_1
   try clear hcz31_2
   try clear hcz31_3
   try clear hcz31_4
   try clear hcz31_5
   try clear hcz31_6
   try clear hcz31_7
   try clear hcz33_0
   try clear hcz33_1
   try clear hcz33_2
   try clear hcz33_3
   try clear hcz33_4
   try clear hcz33_5
   try clear hcz33_6
   try clear hcz33_7
   try clear hcz35_0
   try clear hcz35_1
   try clear hcz35_2
   try clear hcz35_3
   try clear hcz35_4
   try clear hcz35_5
   try clear hcz35_6
   try clear hcz35_7
   try clear hcz37_0
   try clear hcz37_1
   try clear hcz37_2
   try clear hcz37_3
   try clear hcz37_4
   try clear hcz37_5
   try clear hcz37_6
   try clear hcz37_7
   try clear hcz39_0
   try clear hcz39_1
   try clear hcz39_2
   try clear hcz39_3
   try clear hcz39_4
   try clear hcz39_5
   try clear hcz39_6
   try clear hcz39_7
   try clear hcz41_0
   try clear hcz41_1
   try clear hcz41_2
   try clear hcz41_3
   try clear hcz41_4
   try clear hcz41_5
   try clear hcz41_6
   try clear hcz41_7
   try clear hcz43_0
   try clear hcz43_1
   try clear hcz43_2
   try clear hcz43_3
   try clear hcz43_4
   try clear hcz43_5
   try clear hcz43_6
   try clear hcz43_7
   try clear hcz45_0
   try clear hcz45_1
   try clear hcz45_2
   try clear hcz45_3
   try clear hcz45_4
   try clear hcz45_5
   try clear hcz45_6
   try clear hcz45_7
   try clear hcz48_0
   try clear hcz48_1
   try clear hcz48_2
   try clear hcz48_3
   try clear hcz48_4
   try clear hcz48_5
   try clear hcz48_6
   try clear hcz48_7
   try clear hcz50_0
   try clear hcz50_1
   try clear hcz50_2
   try clear hcz50_3
   try clear hcz50_4
   try clear hcz50_5
   try clear hcz50_6
   try clear hcz50_7
   try clear hcz52_0
   try clear hcz52_1
   try clear hcz52_2
   try clear hcz52_3
   try clear hcz52_4
   try clear hcz52_5
   try clear hcz52_6
   try clear hcz52_7
   try clear hcz54_0
   try clear hcz54_1
   try clear hcz54_2
   try clear hcz54_3
   try clear hcz54_4
   try clear hcz54_5
   try clear hcz54_6
   try clear hcz54_7
   try clear hcz56_0
   try clear hcz56_1
   try clear hcz56_2
   try clear hcz56_3
   try clear hcz56_4
   try clear hcz56_5
   try clear hcz56_6
   try clear hcz56_7
   try clear hcz58_0
   try clear hcz58_1
   try clear hcz58_2
   try clear hcz58_3
   try clear hcz58_4
   try clear hcz58_5
   try clear hcz58_6
   try clear hcz58_7
   try clear hcz61_0
   try clear hcz61_1
   try clear hcz61_2
   try clear hcz61_3
   try clear hcz61_4
   try clear hcz61_5
   try clear hcz61_6
   try clear hcz61_7
   try clear hcz64_0
   try clear hcz64_1
   try clear hcz64_2
   try clear hcz64_3
   try clear hcz64_4
   try clear hcz64_5
   try clear hcz64_6
   try clear hcz64_7
   try clear hcz68_0
   try clear hcz68_1
   try clear hcz68_2
   try clear hcz68_3
   try clear hcz68_4
   try clear hcz68_5
   try clear hcz68_6
   try clear hcz68_7
   try clear hcz70_0
   try clear hcz70_1
   try clear hcz70_2
   try clear hcz70_3
   try clear hcz70_4
   try clear hcz70_5
   try clear hcz70_6
   try clear hcz70_7
   try clear hcz72_0
   try clear hcz72_1
   try clear hcz72_2
   try clear hcz72_3
   try clear hcz72_4
   try clear hcz72_5
   try clear hcz72_6
   try clear hcz72_7
   try clear hcz74_0
   try clear hcz74_1
   try clear hcz74_2
   try clear hcz74_3
   try clear hcz74_4
   try clear hcz74_5
   try clear hcz74_6
   try clear hcz74_7
   try clear hcz75_0
   try clear hcz75_1
   try clear hcz75_2
   try clear hcz75_3
   try clear hcz75_4
   try clear hcz75_5
   try clear hcz75_6
   try clear hcz75_7
   try clear hcz77_0
   try clear hcz77_1
   try clear hcz77_2
   try clear hcz77_3
   try clear hcz77_4
   try clear hcz77_5
   try clear hcz77_6
   try clear hcz77_7
   try clear hcz78_0
   try clear hcz78_1
   try clear hcz78_2
   try clear hcz78_3
   try clear hcz78_4
   try clear hcz78_5
   try clear hcz78_6
   try clear hcz78_7
   try clear hcz80_0
   try clear hcz80_1
   try clear hcz80_2
   try clear hcz80_3
   try clear hcz80_4
   try clear hcz80_5
   try clear hcz80_6
   try clear hcz80_7
   try clear hfz10_0
   try clear hfz10_1
   try clear hfz10_2
   try clear hfz10_3
   try clear hfz10_4
   try clear hfz10_5
   try clear hfz10_6
   try clear hfz10_7
   try clear hfz12_0
   try clear hfz12_1
   try clear hfz12_2
   try clear hfz12_3
   try clear hfz12_4
   try clear hfz12_5
   try clear hfz12_6
   try clear hfz12_7
   try clear hfz14_0
   try clear hfz14_1
   try clear hfz14_2
   try clear hfz14_3
   try clear hfz14_4
   try clear hfz14_5
   try clear hfz14_6
   try clear hfz14_7
   try clear hfz16_0
   try clear hfz16_1
   try clear hfz16_2
   try clear hfz16_3
   try clear hfz16_4
   try clear hfz16_5
   try clear hfz16_6
   try clear hfz16_7
   try clear hfz18_0
   try clear hfz18_1
   try clear hfz18_2
   try clear hfz18_3
   try clear hfz18_4
   try clear hfz18_5
   try clear hfz18_6
   try clear hfz18_7
   try clear hfz20_0
   try clear hfz20_1
   try clear hfz20_2
   try clear hfz20_3
   try clear hfz20_4
   try clear hfz20_5
   try clear hfz20_6
   try clear hfz20_7
   try clear hfz25_0
   try clear hfz25_1
   try clear hfz25_2
   try clear hfz25_3
   try clear hfz25_4
   try clear hfz25_5
   try clear hfz25_6
   try clear hfz25_7
   try clear hfz27_0
   try clear hfz27_1
   try clear hfz27_2
   try clear hfz27_3
   try clear hfz27_4
   try clear hfz27_5
   try clear hfz27_6
   try clear hfz27_7
   try clear hfz29_0
   try clear hfz29_1
   try clear hfz29_2
   try clear hfz29_3
   try clear hfz29_4
   try clear hfz29_5
   try clear hfz29_6
   try clear hfz29_7
   try clear hfz31_0
   try clear hfz31_1
   try clear hfz31_2
   try clear hfz31_3
   try clear hfz31_4
   try clear hfz31_5
   try clear hfz31_6
   try clear hfz31_7
   try clear hfz33_0
   try clear hfz33_1
   try clear hfz33_2
   try clear hfz33_3
   try clear hfz33_4
   try clear hfz33_5
   try clear hfz33_6
   try clear hfz33_7
   try clear hfz35_0
   try clear hfz35_1
   try clear hfz35_2
   try clear hfz35_3
   try clear hfz35_4
   try clear hfz35_5
   try clear hfz35_6
   try clear hfz35_7
   try clear hfz37_0
   try clear hfz37_1
   try clear hfz37_2
   try clear hfz37_3
   try clear hfz37_4
   try clear hfz37_5
   try clear hfz37_6
   try clear hfz37_7
   try clear hfz39_0
   try clear hfz39_1
   try clear hfz39_2
   try clear hfz39_3
   try clear hfz39_4
   try clear hfz39_5
   try clear hfz39_6
   try clear hfz39_7
   try clear hfz41_0
   try clear hfz41_1
   try clear hfz41_2
   try clear hfz41_3
   try clear hfz41_4
   try clear hfz41_5
   try clear hfz41_6
   try clear hfz41_7
   try clear hfz43_0
   try clear hfz43_1
   try clear hfz43_2
   try clear hfz43_3
   try clear hfz43_4
   try clear hfz43_5
   try clear hfz43_6
   try clear hfz43_7
   try clear hfz45_0
   try clear hfz45_1
   try clear hfz45_2
   try clear hfz45_3
   try clear hfz45_4
   try clear hfz45_5
   try clear hfz45_6
   try clear hfz45_7
   try clear hfz48_0
   try clear hfz48_1
   try clear hfz48_2
   try clear hfz48_3
   try clear hfz48_4
   try clear hfz48_5
   try clear hfz48_6
   try clear hfz48_7
   try clear hfz50_0
   try clear hfz50_1
   try clear hfz50_2
   try clear hfz50_3
   try clear hfz50_4
   try clear hfz50_5
   try clear hfz50_6
   try clear hfz50_7
   try clear hfz52_0
   try clear hfz52_1
   try clear hfz52_2
   try clear hfz52_3
   try clear hfz52_4
   try clear hfz52_5
   try clear hfz52_6
   try clear hfz52_7
   try clear hfz54_0
   try clear hfz54_1
   try clear hfz54_2
   try clear hfz54_3
   try clear hfz54_4
   try clear hfz54_5
   try clear hfz54_6
   try clear hfz54_7
   try clear hfz56_0
   try clear hfz56_1
   try clear hfz56_2
   try clear hfz56_3
   try clear hfz56_4
   try clear hfz56_5
   try clear hfz56_6
   try clear hfz56_7
   try clear hfz58_0
   try clear hfz58_1
   try clear hfz58_2
   try clear hfz58_3
   try clear hfz58_4
   try clear hfz58_5
   try clear hfz58_6
   try clear hfz58_7
   try clear hfz61_0
   try clear hfz61_1
   try clear hfz61_2
   try clear hfz61_3
   try clear hfz61_4
   try clear hfz61_5
   try clear hfz61_6
   try clear hfz61_7
   try clear hfz64_0
   try clear hfz64_1
   try clear hfz64_2
   try clear hfz64_3
   try clear hfz64_4
   try clear hfz64_5
   try clear hfz64_6
   try clear hfz64_7
   try clear hfz68_0
   try clear hfz68_1
   try clear hfz68_2
   try clear hfz68_3
   try clear hfz68_4
   try clear hfz68_5
   try clear hfz68_6
   try clear hfz68_7
   try clear hfz70_0
   try clear hfz70_1
   try clear hfz70_2
   try clear hfz70_3
   try clear hfz70_4
   try clear hfz70_5
   try clear hfz70_6
   try clear hfz70_7
   try clear hfz72_0
   try clear hfz72_1
   try clear hfz72_2
   try clear hfz72_3
   try clear hfz72_4
   try clear hfz72_5
   try clear hfz72_6
   try clear hfz72_7
   try clear hfz74_0
   try clear hfz74_1
   try clear hfz74_2
   try clear hfz74_3
   try clear hfz74_4
   try clear hfz74_5
   try clear hfz74_6
   try clear hfz74_7
   try clear hfz75_0
   try clear hfz75_1
   try clear hfz75_2
   try clear hfz75_3
   try clear hfz75_4
   try clear hfz75_5
   try clear hfz75_6
   try clear hfz75_7
   try clear hfz77_0
   try clear hfz77_1
   try clear hfz77_2
   try clear hfz77_3
   try clear hfz77_4
   try clear hfz77_5
   try clear hfz77_6
   try clear hfz77_7
   try clear hfz78_0
   try clear hfz78_1
   try clear hfz78_2
   try clear hfz78_3
   try clear hfz78_4
   try clear hfz78_5
   try clear hfz78_6
   try clear hfz78_7
   try clear hfz80_0
   try clear hfz80_1
   try clear hfz80_2
   try clear hfz80_3
   try clear hfz80_4
   try clear hfz80_5
   try clear hfz80_6
   try clear hfz80_7
   obtain ⟨kq, x75_58, rfl, HA, HJ58, BK165, HB⟩ := hcut
   cases kq with
   | zero => exact absurd HA.out (by simp [sphragisref10_Right.j0])
   | succ kj58 =>
    have H := HA.out
    clear HA
    simp only [sphragisref10_Right.j0] at H
    by_cases c81 : x75_58 = true
    ·subst c81
     have H1 : (some false) = some r := by rw [if_pos rfl] at H; exact H
     clear H
     have H := H1
     clear H1
     obtain rfl := Option.some.inj H
     go_wp2
     go_ret
     exact ⟨by first | rfl | (simp [errW_none, errW_some] <;> rfl) | (simp [*, errW_none, errW_some] <;> rfl), by repeat (first | (with_reducible first | exact HB.out | apply below_alloc | apply pw_below_drewN | apply below_drew1 | refine below_set ?_ GE165.out) | exact HB.out)⟩
    ·replace c81 := Bool.eq_false_iff.mpr c81
     subst c81
     have H1 : (sphragisref10_Right.l0 kj58 0 a0_0 a0_1 a0_2 a0_3 l0_4 l0_5 a0_6 a0_7) = some r := by rw [if_neg (show ¬ (false = true) by decide)] at H; exact H
     clear H
     have H := H1
     clear H1
     have H' := Aside0.mk H
     clear H
     go_wp2
     go_loopg [5] kj58 (fun kq v5 w' => ∃ (x5_2 : Int), v5 = .int .i64 x5_2 ∧ Aside0 (sphragisref10_Right.l0 kq x5_2 a0_0 a0_1 a0_2 a0_3 l0_4 l0_5 a0_6 a0_7 = some r) ∧ Aside0 (kq ≤ kj58) ∧ Aside0 (w'.heap[gb165]? = some (.cells #[.int .i64 a0_0, .int .u32 a0_1, .int .u32 a0_2, .int .i64 a0_3, (.slice A0_4 l0_4.length c0_4), (.slice A0_5 l0_5.length c0_5), .int .u32 a0_6, .string a0_7] 30 (0, 0))) ∧ Aside0 (Below w.heap.size w w'))
     case atStart => exact ⟨(0), (by first | rfl | (simp; done) | (simp [*]; done)), H', ⟨Nat.le_refl _⟩, ⟨by (with_reducible repeat (first | refine blk_drewN ?_ _ | refine blk_drew ?_ | refine blk_alloc ?_ _)); exact BK165.out⟩, ⟨by repeat (first | (with_reducible first | exact HB.out | apply below_alloc | apply pw_below_drewN | apply below_drew1 | refine below_set ?_ GE165.out) | exact HB.out)⟩⟩
     case round =>
      clear H'
      try clear c1
      try clear c2
      try clear c2b0
      try clear c2b1
      try clear p2
      try clear c5
      try clear c5b0
      try clear c5b1
      try clear c6
      try clear c7
      try clear c8
      try clear c8b0
      try clear c8b1
      try clear c8b2
      try clear c12
      try clear c15
      try clear c22
      try clear c23
      try clear c23b0
      try clear c23b1
      try clear c23b2
      try clear c26
      try clear c62
      try clear c62b0
      try clear c62b1
      try clear c63
      try clear c63b0
      try clear c63b1
      try clear c66
      try clear c67
      try clear c67b0
      try clear c67b1
      try clear c71
      try clear c71b0
      try clear c71b1
      try clear c81
      try clear hcz10_0
      try clear hcz10_1
      try clear hcz10_2
      try clear hcz10_3
      try clear hcz10_4
      try clear hcz10_5
      try clear hcz10_6
      try clear hcz10_7
      try clear hcz12_0
      try clear hcz12_1
      try clear hcz12_2
      try clear hcz12_3
      try clear hcz12_4
      try clear hcz12_5
      try clear hcz12_6
      try clear hcz12_7
      try clear hcz14_0
      try clear hcz14_1
      try clear hcz14_2
      try clear hcz14_3
      try clear hcz14_4
      try clear hcz14_5
      try clear hcz14_6
      try clear hcz14_7
      try clear hcz16_0
      try clear hcz16_1
      try clear hcz16_2
      try clear hcz16_3
      try clear hcz16_4
      try clear hcz16_5
      try clear hcz16_6
      try clear hcz16_7
      try clear hcz18_0
      try clear hcz18_1
      try clear hcz18_2
      try clear hcz18_3
      try clear hcz18_4
      try clear hcz18_5
      try clear hcz18_6
      try clear hcz18_7
      try clear hcz20_0
      try clear hcz20_1
      try clear hcz20_2
      try clear hcz20_3
      try clear hcz20_4
      try clear hcz20_5
      try clear hcz20_6
      try clear hcz20_7
      try clear hcz25_0
      try clear hcz25_1
      try clear hcz25_2
      try clear hcz25_3
      try clear hcz25_4
      try clear hcz25_5
      try clear hcz25_6
      try clear hcz25_7
      try clear hcz27_0
      try clear hcz27_1
      try clear hcz27_2
      try clear hcz27_3
      try clear hcz27_4
      try clear hcz27_5
      try clear hcz27_6
      try clear hcz27_7
      try clear hcz29_0
      try clear hcz29_1
      try clear hcz29_2
      try clear hcz29_3
      try clear hcz29_4
      try clear hcz29_5
      try clear hcz29_6
      try clear hcz29_7
      try clear hcz31_0
      try clear hcz31_1
      try clear hcz31_2
      try clear hcz31_3
      try clear hcz31_4
      try clear hcz31_5
      try clear hcz31_6
      try clear hcz31_7
      try clear hcz33_0
      try clear hcz33_1
      try clear hcz33_2
      try clear hcz33_3
      try clear hcz33_4
      try clear hcz33_5
      try clear hcz33_6
      try clear hcz33_7
      try clear hcz35_0
      try clear hcz35_1
      try clear hcz35_2
      try clear hcz35_3
      try clear hcz35_4
      try clear hcz35_5
      try clear hcz35_6
      try clear hcz35_7
      try clear hcz37_0
      try clear hcz37_1
      try clear hcz37_2
      try clear hcz37_3
      try clear hcz37_4
      try clear hcz37_5
      try clear hcz37_6
      try clear hcz37_7
      try clear hcz39_0
      try clear hcz39_1
      try clear hcz39_2
      try clear hcz39_3
      try clear hcz39_4
      try clear hcz39_5
      try clear hcz39_6
      try clear hcz39_7
      try clear hcz41_0
      try clear hcz41_1
      try clear hcz41_2
      try clear hcz41_3
      try clear hcz41_4
      try clear hcz41_5
      try clear hcz41_6
      try clear hcz41_7
      try clear hcz43_0
      try clear hcz43_1
      try clear hcz43_2
      try clear hcz43_3
      try clear hcz43_4
      try clear hcz43_5
      try clear hcz43_6
      try clear hcz43_7
      try clear hcz45_0
      try clear hcz45_1
      try clear hcz45_2
      try clear hcz45_3
      try clear hcz45_4
      try clear hcz45_5
      try clear hcz45_6
      try clear hcz45_7
      try clear hcz48_0
      try clear hcz48_1
      try clear hcz48_2
      try clear hcz48_3
      try clear hcz48_4
      try clear hcz48_5
      try clear hcz48_6
      try clear hcz48_7
      try clear hcz50_0
      try clear hcz50_1
      try clear hcz50_2
      try clear hcz50_3
      try clear hcz50_4
      try clear hcz50_5
      try clear hcz50_6
      try clear hcz50_7
      try clear hcz52_0
      try clear hcz52_1
      try clear hcz52_2
      try clear hcz52_3
      try clear hcz52_4
      try clear hcz52_5
      try clear hcz52_6
      try clear hcz52_7
      try clear hcz54_0
      try clear hcz54_1
      try clear hcz54_2
      try clear hcz54_3
      try clear hcz54_4
      try clear hcz54_5
      try clear hcz54_6
      try clear hcz54_7
      try clear hcz56_0
      try clear hcz56_1
      try clear hcz56_2
      try clear hcz56_3
      try clear hcz56_4
      try clear hcz56_5
      try clear hcz56_6
      try clear hcz56_7
      try clear hcz58_0
      try clear hcz58_1
      try clear hcz58_2
      try clear hcz58_3
      try clear hcz58_4
      try clear hcz58_5
      try clear hcz58_6
      try clear hcz58_7
      try clear hcz61_0
      try clear hcz61_1
      try clear hcz61_2
      try clear hcz61_3
      try clear hcz61_4
      try clear hcz61_5
      try clear hcz61_6
      try clear hcz61_7
      try clear hcz64_0
      try clear hcz64_1
      try clear hcz64_2
      try clear hcz64_3
      try clear hcz64_4
      try clear hcz64_5
      try clear hcz64_6
      try clear hcz64_7
      try clear hcz68_0
      try clear hcz68_1
      try clear hcz68_2
      try clear hcz68_3
      try clear hcz68_4
      try clear hcz68_5
      try clear hcz68_6
      try clear hcz68_7
      try clear hcz70_0
      try clear hcz70_1
      try clear hcz70_2
      try clear hcz70_3
      try clear hcz70_4
      try clear hcz70_5
      try clear hcz70_6
      try clear hcz70_7
      try clear hcz72_0
      try clear hcz72_1
      try clear hcz72_2
      try clear hcz72_3
      try clear hcz72_4
      try clear hcz72_5
      try clear hcz72_6
      try clear hcz72_7
      try clear hcz74_0
      try clear hcz74_1
      try clear hcz74_2
      try clear hcz74_3
      try clear hcz74_4
      try clear hcz74_5
      try clear hcz74_6
      try clear hcz74_7
      try clear hcz75_0
      try clear hcz75_1
      try clear hcz75_2
      try clear hcz75_3
      try clear hcz75_4
      try clear hcz75_5
      try clear hcz75_6
      try clear hcz75_7
      try clear hcz77_0
      try clear hcz77_1
      try clear hcz77_2
      try clear hcz77_3
      try clear hcz77_4
      try clear hcz77_5
      try clear hcz77_6
      try clear hcz77_7
      try clear hcz78_0
      try clear hcz78_1
      try clear hcz78_2
      try clear hcz78_3
      try clear hcz78_4
      try clear hcz78_5
      try clear hcz78_6
      try clear hcz78_7
      try clear hcz80_0
      try clear hcz80_1
      try clear hcz80_2
      try clear hcz80_3
      try clear hcz80_4
      try clear hcz80_5
      try clear hcz80_6
      try clear hcz80_7
      try clear hfz10_0
      try clear hfz10_1
      try clear hfz10_2
      try clear hfz10_3
      try clear hfz10_4
      try clear hfz10_5
      try clear hfz10_6
      try clear hfz10_7
      try clear hfz12_0
      try clear hfz12_1
      try clear hfz12_2
      try clear hfz12_3
      try clear hfz12_4
      try clear hfz12_5
      try clear hfz12_6
      try clear hfz12_7
      try clear hfz14_0
      try clear hfz14_1
      try clear hfz14_2
      try clear hfz14_3
      try clear hfz14_4
      try clear hfz14_5
      try clear hfz14_6
      try clear hfz14_7
      try clear hfz16_0
      try clear hfz16_1
      try clear hfz16_2
      try clear hfz16_3
      try clear hfz16_4
      try clear hfz16_5
      try clear hfz16_6
      try clear hfz16_7
      try clear hfz18_0
      try clear hfz18_1
      try clear hfz18_2
      try clear hfz18_3
      try clear hfz18_4
      try clear hfz18_5
      try clear hfz18_6
      try clear hfz18_7
      try clear hfz20_0
      try clear hfz20_1
      try clear hfz20_2
      try clear hfz20_3
      try clear hfz20_4
      try clear hfz20_5
      try clear hfz20_6
      try clear hfz20_7
      try clear hfz25_0
      try clear hfz25_1
      try clear hfz25_2
      try clear hfz25_3
      try clear hfz25_4
      try clear hfz25_5
      try clear hfz25_6
      try clear hfz25_7
      try clear hfz27_0
      try clear hfz27_1
      try clear hfz27_2
      try clear hfz27_3
      try clear hfz27_4
      try clear hfz27_5
      try clear hfz27_6
      try clear hfz27_7
      try clear hfz29_0
      try clear hfz29_1
      try clear hfz29_2
      try clear hfz29_3
      try clear hfz29_4
      try clear hfz29_5
      try clear hfz29_6
      try clear hfz29_7
      try clear hfz31_0
      try clear hfz31_1
      try clear hfz31_2
      try clear hfz31_3
      try clear hfz31_4
      try clear hfz31_5
      try clear hfz31_6
      try clear hfz31_7
      try clear hfz33_0
      try clear hfz33_1
      try clear hfz33_2
      try clear hfz33_3
      try clear hfz33_4
      try clear hfz33_5
      try clear hfz33_6
      try clear hfz33_7
      try clear hfz35_0
      try clear hfz35_1
      try clear hfz35_2
      try clear hfz35_3
      try clear hfz35_4
      try clear hfz35_5
      try clear hfz35_6
      try clear hfz35_7
      try clear hfz37_0
      try clear hfz37_1
      try clear hfz37_2
      try clear hfz37_3
      try clear hfz37_4
      try clear hfz37_5
      try clear hfz37_6
      try clear hfz37_7
      try clear hfz39_0
      try clear hfz39_1
      try clear hfz39_2
      try clear hfz39_3
      try clear hfz39_4
      try clear hfz39_5
      try clear hfz39_6
      try clear hfz39_7
      try clear hfz41_0
      try clear hfz41_1
      try clear hfz41_2
      try clear hfz41_3
      try clear hfz41_4
      try clear hfz41_5
      try clear hfz41_6
      try clear hfz41_7
      try clear hfz43_0
      try clear hfz43_1
      try clear hfz43_2
      try clear hfz43_3
      try clear hfz43_4
      try clear hfz43_5
      try clear hfz43_6
      try clear hfz43_7
      try clear hfz45_0
      try clear hfz45_1
      try clear hfz45_2
      try clear hfz45_3
      try clear hfz45_4
      try clear hfz45_5
      try clear hfz45_6
      try clear hfz45_7
      try clear hfz48_0
      try clear hfz48_1
      try clear hfz48_2
      try clear hfz48_3
      try clear hfz48_4
      try clear hfz48_5
      try clear hfz48_6
      try clear hfz48_7
      try clear hfz50_0
      try clear hfz50_1
      try clear hfz50_2
      try clear hfz50_3
      try clear hfz50_4
      try clear hfz50_5
      try clear hfz50_6
      try clear hfz50_7
      try clear hfz52_0
      try clear hfz52_1
      try clear hfz52_2
      try clear hfz52_3
      try clear hfz52_4
      try clear hfz52_5
      try clear hfz52_6
      try clear hfz52_7
      try clear hfz54_0
      try clear hfz54_1
      try clear hfz54_2
      try clear hfz54_3
      try clear hfz54_4
      try clear hfz54_5
      try clear hfz54_6
      try clear hfz54_7
      try clear hfz56_0
      try clear hfz56_1
      try clear hfz56_2
      try clear hfz56_3
      try clear hfz56_4
      try clear hfz56_5
      try clear hfz56_6
      try clear hfz56_7
      try clear hfz58_0
      try clear hfz58_1
      try clear hfz58_2
      try clear hfz58_3
      try clear hfz58_4
      try clear hfz58_5
      try clear hfz58_6
      try clear hfz58_7
      try clear hfz61_0
      try clear hfz61_1
      try clear hfz61_2
      try clear hfz61_3
      try clear hfz61_4
      try clear hfz61_5
      try clear hfz61_6
      try clear hfz61_7
      try clear hfz64_0
      try clear hfz64_1
      try clear hfz64_2
      try clear hfz64_3
      try clear hfz64_4
      try clear hfz64_5
      try clear hfz64_6
      try clear hfz64_7
      try clear hfz68_0
      try clear hfz68_1
      try clear hfz68_2
      try clear hfz68_3
      try clear hfz68_4
      try clear hfz68_5
      try clear hfz68_6
      try clear hfz68_7
      try clear hfz70_0
      try clear hfz70_1
      try clear hfz70_2
      try clear hfz70_3
      try clear hfz70_4
      try clear hfz70_5
      try clear hfz70_6
      try clear hfz70_7
      try clear hfz72_0
      try clear hfz72_1
      try clear hfz72_2
      try clear hfz72_3
      try clear hfz72_4
      try clear hfz72_5
      try clear hfz72_6
      try clear hfz72_7
      try clear hfz74_0
      try clear hfz74_1
      try clear hfz74_2
      try clear hfz74_3
      try clear hfz74_4
      try clear hfz74_5
      try clear hfz74_6
      try clear hfz74_7
      try clear hfz75_0
      try clear hfz75_1
      try clear hfz75_2
      try clear hfz75_3
      try clear hfz75_4
      try clear hfz75_5
      try clear hfz75_6
      try clear hfz75_7
      try clear hfz77_0
      try clear hfz77_1
      try clear hfz77_2
      try clear hfz77_3
      try clear hfz77_4
      try clear hfz77_5
      try clear hfz77_6
      try clear hfz77_7
      try clear hfz78_0
      try clear hfz78_1
      try clear hfz78_2
      try clear hfz78_3
      try clear hfz78_4
      try clear hfz78_5
      try clear hfz78_6
      try clear hfz78_7
      try clear hfz80_0
      try clear hfz80_1
      try clear hfz80_2
      try clear hfz80_3
      try clear hfz80_4
      try clear hfz80_5
      try clear hfz80_6
      try clear hfz80_7
      try clear p2
      obtain ⟨x5_2, rfl, HA, HK2, BK165, HB⟩ := hrel
      cases gk with
      | zero => exact absurd HA.out (by simp [sphragisref10_Right.l0])
      | succ k2 =>
       have H := HA.out
       clear HA
       simp only [sphragisref10_Right.l0] at H
       by_cases c82 : x5_2 < (l0_5.length : Int)
       ·rw [if_pos c82] at H
        have c82b0 : decide (x5_2 < (l0_5.length : Int)) = true := decide_eq_true c82
        clear c82
        by_cases c83 : 0 ≤ x5_2
        ·rw [if_pos c83] at H
         have c83b0 : decide (0 ≤ x5_2) = true := decide_eq_true c83
         clear c83
         replace H := Option.bind_eq_some_iff.mp H
         obtain ⟨t171, A840, H⟩ := H
         replace H : (if t171 = true then (sphragisref10_Right.l0 k2 (wrap64 (x5_2 + 1)) a0_0 a0_1 a0_2 a0_3 l0_4 l0_5 a0_6 a0_7) else (some false)) = some r := H
         have A84 := Aside0.mk A840
         clear A840
         by_cases c85 : t171 = true
         ·subst c85
          have H1 : (sphragisref10_Right.l0 k2 (wrap64 (x5_2 + 1)) a0_0 a0_1 a0_2 a0_3 l0_4 l0_5 a0_6 a0_7) = some r := by rw [if_pos rfl] at H; exact H
          clear H
          have H := H1
          clear H1
          have H' := Aside0.mk H
          clear H
          have hcz86_0 : wr.cell? ⟨gb165, 0, none⟩ = some (.int .i64 a0_0) := (blk_cell BK165.out 0).trans rfl
          have hcz86_1 : wr.cell? ⟨gb165, 1, none⟩ = some (.int .u32 a0_1) := (blk_cell BK165.out 1).trans rfl
          have hcz86_2 : wr.cell? ⟨gb165, 2, none⟩ = some (.int .u32 a0_2) := (blk_cell BK165.out 2).trans rfl
          have hcz86_3 : wr.cell? ⟨gb165, 3, none⟩ = some (.int .i64 a0_3) := (blk_cell BK165.out 3).trans rfl
          have hcz86_4 : wr.cell? ⟨gb165, 4, none⟩ = some (.slice A0_4 l0_4.length c0_4) := (blk_cell BK165.out 4).trans rfl
          have hcz86_5 : wr.cell? ⟨gb165, 5, none⟩ = some (.slice A0_5 l0_5.length c0_5) := (blk_cell BK165.out 5).trans rfl
          have hcz86_6 : wr.cell? ⟨gb165, 6, none⟩ = some (.int .u32 a0_6) := (blk_cell BK165.out 6).trans rfl
          have hcz86_7 : wr.cell? ⟨gb165, 7, none⟩ = some (.string a0_7) := (blk_cell BK165.out 7).trans rfl
          have hfz86_0 := blk_frozen BK165.out 0
          have hfz86_1 := blk_frozen BK165.out 1
          have hfz86_2 := blk_frozen BK165.out 2
          have hfz86_3 := blk_frozen BK165.out 3
          have hfz86_4 := blk_frozen BK165.out 4
          have hfz86_5 := blk_frozen BK165.out 5
          have hfz86_6 := blk_frozen BK165.out 6
          have hfz86_7 := blk_frozen BK165.out 7
          have p170 : 0 ≤ (x5_2 : Int) := of_decide_eq_true (by first | (with_reducible assumption) | assumption)
          have q170 : x5_2 < (l0_5.length : Int) := of_decide_eq_true (by first | (with_reducible assumption) | assumption)
          obtain ⟨ad170, e170, hx170_0, hx170_1⟩ := at_T28 HR0_5.out x5_2 p170 q170
          cases e170
          replace hx170_0 := (HB.out.cell (World.block_lt_of_cell? w _ hx170_0)).trans hx170_0
          replace hx170_1 := (HB.out.cell (World.block_lt_of_cell? w _ hx170_1)).trans hx170_1
          replace p170 := eq_true p170
          replace q170 := eq_true q170
          go_wp2_with (first | ((with_reducible refine gate_callee (f := 12) rfl ?_); refine goesL_ (some 88) rfl rfl Try.func12 (by kernel_rfl) rfl #[.agg #[.int .u32 ((rd_T28 l0_5 x5_2).f0), .string ((rd_T28 l0_5 x5_2).f1)]] rfl (by (try simp only [List.map_toArray, List.map_cons, List.map_nil]); first | done | rfl | (simp only [List.length_drop, List.length_take]; rfl)) ?_; (with_reducible refine (sphragisref10_RightRef.calls ((rd_T28 l0_5 x5_2).f0) ((rd_T28 l0_5 x5_2).f1) true _ A84.out).mono ?_); rintro e w87 ⟨rfl, hb⟩; refine ⟨_, rfl, ?_⟩; have n0_ := Aside0.mk (blk_below (g := gb165) (o := .cells #[.int .i64 a0_0, .int .u32 a0_1, .int .u32 a0_2, .int .i64 a0_3, .slice A0_4 l0_4.length c0_4, .slice (some ad170) l0_5.length c0_5, .int .u32 a0_6, .string a0_7] 30 (0, 0)) (by (with_reducible repeat (first | refine blk_drewN ?_ _ | refine blk_drew ?_ | refine blk_alloc ?_ _)); exact BK165.out) hb); have n1_ := Aside0.mk (below_step (by repeat (first | (with_reducible first | exact HB.out | apply below_alloc | apply pw_below_drewN | apply below_drew1 | refine below_set ?_ GE165.out) | exact HB.out)) hb); clear BK165; clear HB; have BK165 := n0_; have HB := n1_; clear n0_ n1_; (try clear hb); (try clear hb2); (try clear hk); (try clear hi)))
          go_roundg k2
          case measure => have := HJ58.out; have := HK2.out; omega
          case rel => exact ⟨(wrap64 (x5_2 + 1)), (by first | rfl | (simp; done) | (simp [*]; done)), H', ⟨by have := HJ58.out; have := HK2.out; omega⟩, ⟨by (with_reducible repeat (first | refine blk_drewN ?_ _ | refine blk_drew ?_ | refine blk_alloc ?_ _)); exact BK165.out⟩, ⟨by repeat (first | (with_reducible first | exact HB.out | apply below_alloc | apply pw_below_drewN | apply below_drew1 | refine below_set ?_ GE165.out) | exact HB.out)⟩⟩
         ·replace c85 := Bool.eq_false_iff.mpr c85
          subst c85
          have H1 : (some false) = some r := by rw [if_neg (show ¬ (false = true) by decide)] at H; exact H
          clear H
          have H := H1
          clear H1
          obtain rfl := Option.some.inj H
          have hcz88_0 : wr.cell? ⟨gb165, 0, none⟩ = some (.int .i64 a0_0) := (blk_cell BK165.out 0).trans rfl
          have hcz88_1 : wr.cell? ⟨gb165, 1, none⟩ = some (.int .u32 a0_1) := (blk_cell BK165.out 1).trans rfl
          have hcz88_2 : wr.cell? ⟨gb165, 2, none⟩ = some (.int .u32 a0_2) := (blk_cell BK165.out 2).trans rfl
          have hcz88_3 : wr.cell? ⟨gb165, 3, none⟩ = some (.int .i64 a0_3) := (blk_cell BK165.out 3).trans rfl
          have hcz88_4 : wr.cell? ⟨gb165, 4, none⟩ = some (.slice A0_4 l0_4.length c0_4) := (blk_cell BK165.out 4).trans rfl
          have hcz88_5 : wr.cell? ⟨gb165, 5, none⟩ = some (.slice A0_5 l0_5.length c0_5) := (blk_cell BK165.out 5).trans rfl
          have hcz88_6 : wr.cell? ⟨gb165, 6, none⟩ = some (.int .u32 a0_6) := (blk_cell BK165.out 6).trans rfl
          have hcz88_7 : wr.cell? ⟨gb165, 7, none⟩ = some (.string a0_7) := (blk_cell BK165.out 7).trans rfl
          have hfz88_0 := blk_frozen BK165.out 0
          have hfz88_1 := blk_frozen BK165.out 1
          have hfz88_2 := blk_frozen BK165.out 2
          have hfz88_3 := blk_frozen BK165.out 3
          have hfz88_4 := blk_frozen BK165.out 4
          have hfz88_5 := blk_frozen BK165.out 5
          have hfz88_6 := blk_frozen BK165.out 6
          have hfz88_7 := blk_frozen BK165.out 7
          have p170 : 0 ≤ (x5_2 : Int) := of_decide_eq_true (by first | (with_reducible assumption) | assumption)
          have q170 : x5_2 < (l0_5.length : Int) := of_decide_eq_true (by first | (with_reducible assumption) | assumption)
          obtain ⟨ad170, e170, hx170_0, hx170_1⟩ := at_T28 HR0_5.out x5_2 p170 q170
          cases e170
          replace hx170_0 := (HB.out.cell (World.block_lt_of_cell? w _ hx170_0)).trans hx170_0
          replace hx170_1 := (HB.out.cell (World.block_lt_of_cell? w _ hx170_1)).trans hx170_1
          replace p170 := eq_true p170
          replace q170 := eq_true q170
          go_wp2_with (first | ((with_reducible refine gate_callee (f := 12) rfl ?_); refine goesL_ (some 88) rfl rfl Try.func12 (by kernel_rfl) rfl #[.agg #[.int .u32 ((rd_T28 l0_5 x5_2).f0), .string ((rd_T28 l0_5 x5_2).f1)]] rfl (by (try simp only [List.map_toArray, List.map_cons, List.map_nil]); first | done | rfl | (simp only [List.length_drop, List.length_take]; rfl)) ?_; (with_reducible refine (sphragisref10_RightRef.calls ((rd_T28 l0_5 x5_2).f0) ((rd_T28 l0_5 x5_2).f1) false _ A84.out).mono ?_); rintro e w89 ⟨rfl, hb⟩; refine ⟨_, rfl, ?_⟩; have n0_ := Aside0.mk (blk_below (g := gb165) (o := .cells #[.int .i64 a0_0, .int .u32 a0_1, .int .u32 a0_2, .int .i64 a0_3, .slice A0_4 l0_4.length c0_4, .slice (some ad170) l0_5.length c0_5, .int .u32 a0_6, .string a0_7] 30 (0, 0)) (by (with_reducible repeat (first | refine blk_drewN ?_ _ | refine blk_drew ?_ | refine blk_alloc ?_ _)); exact BK165.out) hb); have n1_ := Aside0.mk (below_step (by repeat (first | (with_reducible first | exact HB.out | apply below_alloc | apply pw_below_drewN | apply below_drew1 | refine below_set ?_ GE165.out) | exact HB.out)) hb); clear BK165; clear HB; have BK165 := n0_; have HB := n1_; clear n0_ n1_; (try clear hb); (try clear hb2); (try clear hk); (try clear hi)))
          go_ret
          exact ⟨by first | rfl | (simp [errW_none, errW_some] <;> rfl) | (simp [*, errW_none, errW_some] <;> rfl), by repeat (first | (with_reducible first | exact HB.out | apply below_alloc | apply pw_below_drewN | apply below_drew1 | refine below_set ?_ GE165.out) | exact HB.out)⟩
        ·rw [if_neg c83] at H
         exact absurd H (by simp)
       ·rw [if_neg c82] at H
        have c82b0 : decide (x5_2 < (l0_5.length : Int)) = false := decide_eq_false c82
        clear c82
        replace H := Option.bind_eq_some_iff.mp H
        obtain ⟨t172, A900, H⟩ := H
        replace H : (some t172) = some r := H
        have A90 := Aside0.mk A900
        clear A900
        obtain rfl := Option.some.inj H
        have hcz91_0 : wr.cell? ⟨gb165, 0, none⟩ = some (.int .i64 a0_0) := (blk_cell BK165.out 0).trans rfl
        have hcz91_1 : wr.cell? ⟨gb165, 1, none⟩ = some (.int .u32 a0_1) := (blk_cell BK165.out 1).trans rfl
        have hcz91_2 : wr.cell? ⟨gb165, 2, none⟩ = some (.int .u32 a0_2) := (blk_cell BK165.out 2).trans rfl
        have hcz91_3 : wr.cell? ⟨gb165, 3, none⟩ = some (.int .i64 a0_3) := (blk_cell BK165.out 3).trans rfl
        have hcz91_4 : wr.cell? ⟨gb165, 4, none⟩ = some (.slice A0_4 l0_4.length c0_4) := (blk_cell BK165.out 4).trans rfl
        have hcz91_5 : wr.cell? ⟨gb165, 5, none⟩ = some (.slice A0_5 l0_5.length c0_5) := (blk_cell BK165.out 5).trans rfl
        have hcz91_6 : wr.cell? ⟨gb165, 6, none⟩ = some (.int .u32 a0_6) := (blk_cell BK165.out 6).trans rfl
        have hcz91_7 : wr.cell? ⟨gb165, 7, none⟩ = some (.string a0_7) := (blk_cell BK165.out 7).trans rfl
        have hfz91_0 := blk_frozen BK165.out 0
        have hfz91_1 := blk_frozen BK165.out 1
        have hfz91_2 := blk_frozen BK165.out 2
        have hfz91_3 := blk_frozen BK165.out 3
        have hfz91_4 := blk_frozen BK165.out 4
        have hfz91_5 := blk_frozen BK165.out 5
        have hfz91_6 := blk_frozen BK165.out 6
        have hfz91_7 := blk_frozen BK165.out 7
        go_wp2_with (first | ((with_reducible refine gate_callee (f := 28) rfl ?_); refine goesL_ (some 93) rfl rfl Try.func28 (by kernel_rfl) rfl #[.agg #[.int .u32 a0_1, .int .u32 a0_2, .int .i64 a0_3]] rfl (by (try simp only [List.map_toArray, List.map_cons, List.map_nil]); first | done | rfl | (simp only [List.length_drop, List.length_take]; rfl)) ?_; (with_reducible refine (sphragisref08_Right.calls k2 a0_1 a0_2 a0_3 t172 _ A90.out).mono ?_); rintro e w92 ⟨rfl, hb⟩; refine ⟨_, rfl, ?_⟩; have n0_ := Aside0.mk (blk_below (g := gb165) (o := .cells #[.int .i64 a0_0, .int .u32 a0_1, .int .u32 a0_2, .int .i64 a0_3, .slice A0_4 l0_4.length c0_4, .slice A0_5 l0_5.length c0_5, .int .u32 a0_6, .string a0_7] 30 (0, 0)) (by (with_reducible repeat (first | refine blk_drewN ?_ _ | refine blk_drew ?_ | refine blk_alloc ?_ _)); exact BK165.out) hb); have n1_ := Aside0.mk (below_step (by repeat (first | (with_reducible first | exact HB.out | apply below_alloc | apply pw_below_drewN | apply below_drew1 | refine below_set ?_ GE165.out) | exact HB.out)) hb); clear BK165; clear HB; have BK165 := n0_; have HB := n1_; clear n0_ n1_; (try clear hb); (try clear hb2); (try clear hk); (try clear hi)))
        go_ret
        exact ⟨by first | rfl | (simp [errW_none, errW_some] <;> rfl) | (simp [*, errW_none, errW_some] <;> rfl), by repeat (first | (with_reducible first | exact HB.out | apply below_alloc | apply pw_below_drewN | apply below_drew1 | refine below_set ?_ GE165.out) | exact HB.out)⟩

end Go.Proofs.Ytmeaiancebgkoaa.H
