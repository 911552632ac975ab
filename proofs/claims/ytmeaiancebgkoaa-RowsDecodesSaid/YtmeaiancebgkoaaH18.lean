-- Written by a program of this session (hyb.py), which drives the print over functions some of which are proved by hand.
import Derived.Test.YtmeaiancebgkoaaH0
import Derived.Test.YtmeaiancebgkoaaH16
namespace Go.Proofs.Ytmeaiancebgkoaa.H
open Go.RowKit Go.Proofs.YtmeaiancebgkoaaW.PrintWords Go.Proofs.YtmeaiancebgkoaaW.PrintLast Go.Proofs.YtmeaiancebgkoaaW.PrintMore
attribute [local go_sem] max2_int min2_int max_two min_two max_three min_three max_four min_four   -- for this text's walks alone
set_option linter.unusedVariables false
set_option linter.unusedSimpArgs false

/-! ### sphragisref10_inner: function 36 -/
mutual
def sphragisref10_inner.j0 : Nat → ByteArray → Bool → Int → Int → Int → Int → Int → ByteArray → Option (Int × Int × Int × Int × (List (S47)) × (List (S28)) × Int × ByteArray × Bool)
 | 0, _, _, _, _, _, _, _, _ => none
 | k + 1, x0, x19, x210000, x210001, x210002, x210003, x210006, x210007 => if x19 = true then (some (x210000, x210001, x210002, x210003, ([] : List (S47)), ([] : List (S28)), x210006, x210007, false)) else (if 3 ≤ 7 then (if 7 ≤ (x0.size : Int) then ((sphragisref10_get.f k (x0.extract 3 7)).bind fun t210 => (if 7 ≤ 11 then (if 11 ≤ (x0.size : Int) then ((sphragisref10_get.f k (x0.extract 7 11)).bind fun t211 => (if 2 < (x0.size : Int) then (sphragisref10_inner.l0 k x0 11 x210000 ((t210) % 4294967296) ((t211) % 4294967296) (wrap64 (bt x0 2)) ([] : List (S28)) x210006 x210007) else (none))) else (none)) else (none))) else (none)) else (none))
def sphragisref10_inner.l0 : Nat → ByteArray → Int → Int → Int → Int → Int → List (S28) → Int → ByteArray → Option (Int × Int × Int × Int × (List (S47)) × (List (S28)) × Int × ByteArray × Bool)
 | 0, _, _, _, _, _, _, _, _, _ => none
 | k + 1, x0, x5, x210000, x210001, x210002, x210003, x210005, x210006, x210007 => if x5 < (x0.size : Int) then (if 0 ≤ x5 then (if x5 ≤ (wrap64 (x5 + 4)) then (if (wrap64 (x5 + 4)) ≤ (x0.size : Int) then ((sphragisref10_get.f k (x0.extract (x5 : Int).toNat ((wrap64 (x5 + 4)) : Int).toNat)).bind fun t212 => (if 0 ≤ (wrap64 (x5 + 4)) then (if (wrap64 (x5 + 4)) ≤ (wrap64 (x5 + 36)) then (if (wrap64 (x5 + 36)) ≤ (x0.size : Int) then (if x210005.length < 5864062014805 then (sphragisref10_inner.l0 k x0 (wrap64 (x5 + 36)) x210000 x210001 x210002 x210003 (x210005 ++ [(⟨(t212) % 4294967296, x0.extract ((wrap64 (x5 + 4)) : Int).toNat ((wrap64 (x5 + 36)) : Int).toNat⟩ : S28)]) x210006 x210007) else (none)) else (none)) else (none)) else (none))) else (none)) else (none)) else (none)) else (some (x210000, x210001, x210002, x210003, ([] : List (S47)), x210005, x210006, x210007, true))
end
def sphragisref10_inner.f (k : Nat) (a0 : ByteArray) : Option (Int × Int × Int × Int × (List (S47)) × (List (S28)) × Int × ByteArray × Bool) := if (a0.size : Int) < 11 then (sphragisref10_inner.j0 k a0 true 2 0 0 0 0 (⟨#[]⟩ : ByteArray)) else (if 1 < (a0.size : Int) then (sphragisref10_inner.j0 k a0 ((a0.size : Int) != (wrap64 (11 + (wrap64 (36 * (wrap64 (bt a0 1))))))) 2 0 0 0 0 (⟨#[]⟩ : ByteArray)) else (none))
theorem sphragisref10_inner.mono_l : ∀ k, (∀ y0 y1 y2 y3 y4 y5 y6 y7, LeO (sphragisref10_inner.j0 k y0 y1 y2 y3 y4 y5 y6 y7) (sphragisref10_inner.j0 (k + 1) y0 y1 y2 y3 y4 y5 y6 y7)) ∧ (∀ y0 y1 y2 y3 y4 y5 y6 y7 y8, LeO (sphragisref10_inner.l0 k y0 y1 y2 y3 y4 y5 y6 y7 y8) (sphragisref10_inner.l0 (k + 1) y0 y1 y2 y3 y4 y5 y6 y7 y8))
 | 0 => ⟨fun _ _ _ _ _ _ _ _ r h => by simp [sphragisref10_inner.j0] at h, fun _ _ _ _ _ _ _ _ _ r h => by simp [sphragisref10_inner.l0] at h⟩
 | k + 1 => by
  obtain ⟨ih0, ih1⟩ := sphragisref10_inner.mono_l k
  refine ⟨?_, ?_⟩
  ·intro y0 y1 y2 y3 y4 y5 y6 y7
   unfold sphragisref10_inner.j0
   repeat' first
   | (with_reducible exact ih0 _ _ _ _ _ _ _ _)
   | (with_reducible exact ih1 _ _ _ _ _ _ _ _ _)
   | (with_reducible exact sphragisref10_get.mono _ _)
   | (with_reducible exact LeO.refl _)
   | (with_reducible exact LeO.none _)
   | (with_reducible refine LeO.ite ?_ ?_)
   | (with_reducible refine LeO.bind ?_ (fun _ => ?_))
   | exact ih0 _ _ _ _ _ _ _ _
   | exact ih1 _ _ _ _ _ _ _ _ _
   | exact sphragisref10_get.mono _ _
   | exact LeO.none _
   | refine LeO.ite ?_ ?_
   | refine LeO.bind ?_ (fun _ => ?_)
  ·intro y0 y1 y2 y3 y4 y5 y6 y7 y8
   unfold sphragisref10_inner.l0
   repeat' first
   | (with_reducible exact ih0 _ _ _ _ _ _ _ _)
   | (with_reducible exact ih1 _ _ _ _ _ _ _ _ _)
   | (with_reducible exact sphragisref10_get.mono _ _)
   | (with_reducible exact LeO.refl _)
   | (with_reducible exact LeO.none _)
   | (with_reducible refine LeO.ite ?_ ?_)
   | (with_reducible refine LeO.bind ?_ (fun _ => ?_))
   | exact ih0 _ _ _ _ _ _ _ _
   | exact ih1 _ _ _ _ _ _ _ _ _
   | exact sphragisref10_get.mono _ _
   | exact LeO.none _
   | refine LeO.ite ?_ ?_
   | refine LeO.bind ?_ (fun _ => ?_)
theorem sphragisref10_inner.mono : ∀ a0 k, LeO (sphragisref10_inner.f k a0) (sphragisref10_inner.f (k + 1) a0) := by
 intro a0 k
 obtain ⟨ih0, ih1⟩ := sphragisref10_inner.mono_l k
 unfold sphragisref10_inner.f
 repeat' first
   | (with_reducible exact ih0 _ _ _ _ _ _ _ _)
   | (with_reducible exact ih1 _ _ _ _ _ _ _ _ _)
   | (with_reducible exact sphragisref10_get.mono _ _)
   | (with_reducible exact LeO.refl _)
   | (with_reducible exact LeO.none _)
   | (with_reducible refine LeO.ite ?_ ?_)
   | (with_reducible refine LeO.bind ?_ (fun _ => ?_))
   | exact ih0 _ _ _ _ _ _ _ _
   | exact ih1 _ _ _ _ _ _ _ _ _
   | exact sphragisref10_get.mono _ _
   | exact LeO.none _
   | refine LeO.ite ?_ ?_
   | refine LeO.bind ?_ (fun _ => ?_)
def sphragisref10_inner.T4 : Bool × List (List Nat × List Nat) := (true, [([], []), ([0], [0]), ([1], [1]), ([2], [2]), ([], []), ([4], [4]), ([5, 2], [5]), ([6], [6]), ([], []), ([8], [8]), ([9], [9]), ([3, 7, 10], [3, 7, 10]), ([0, 1, 2, 3, 4, 5, 6, 7, 8, 9, 10, 11], []), ([12, 11, 6, 0, 1, 2, 3, 4, 5, 6, 7, 8, 9, 10, 11], [11, 12])])
def sphragisref10_inner.B4 : List Nat := [0, 1, 3, 7, 0, 16, 55, 119, 0, 256, 768, 2047, 4095, 8191]
theorem sphragisref10_inner.tab4 : rtab .any (opsOf Try.f36 4) = sphragisref10_inner.T4 := by kernel_rfl
theorem sphragisref10_inner.bits4 : waitsOk sphragisref10_inner.T4.2 sphragisref10_inner.B4 = true := by kernel_rfl
def sphragisref10_inner.T8 : Bool × List (List Nat × List Nat) := (true, [([], []), ([0], [0]), ([], []), ([], []), ([], []), ([4], [4]), ([2, 3, 5], [2, 3, 5]), ([6], [6]), ([7], [7]), ([], []), ([], []), ([10], [10]), ([], []), ([12], [12]), ([9, 11, 13], [9, 11, 13]), ([8, 14], [8, 14]), ([15], [15]), ([1, 16, 7], [1, 16]), ([0, 1, 2, 3, 4, 5, 6, 7, 8, 9, 10, 11, 12, 13, 14, 15, 16, 17], []), ([18, 17, 17, 0, 1, 2, 3, 4, 5, 6, 7, 8, 9, 10, 11, 12, 13, 14, 15, 16, 17], [17, 18])])
def sphragisref10_inner.B8 : List Nat := [0, 1, 0, 0, 0, 16, 60, 124, 252, 0, 0, 1024, 0, 4096, 15872, 32764, 65532, 131071, 262143, 524287]
theorem sphragisref10_inner.tab8 : rtab .any (opsOf Try.f36 8) = sphragisref10_inner.T8 := by kernel_rfl
theorem sphragisref10_inner.bits8 : waitsOk sphragisref10_inner.T8.2 sphragisref10_inner.B8 = true := by kernel_rfl
set_option maxHeartbeats 8000000 in
set_option maxRecDepth 100000 in
theorem sphragisref10_inner.calls (k : Nat) (a0 : ByteArray) (r1 : Int) (r2 : Int) (r3 : Int) (r4 : Int) (r5 : List (S47)) (r6 : List (S28)) (r7 : Int) (r8 : ByteArray) (r9 : Bool) (w : World) (h : sphragisref10_inner.f k a0 = some (r1, r2, r3, r4, r5, r6, r7, r8, r9)) :
  Calls Try.prog 36 #[.string a0] w fun e w' => ∃ v4_ v5_ : Value, e = .returned (.tuple #[.agg #[.int .i64 r1, .int .u32 r2, .int .u32 r3, .int .i64 r4, v4_, v5_, .int .u32 r7, .string r8], .bool r9]) ∧ Kd.R k47 47 w' w.heap.size (fun _ => True) v4_ r5 ∧ Kd.R k28 28 w' w.heap.size (fun _ => True) v5_ r6 ∧ Below w.heap.size w w' := by
 have hu30 := Try.underlying30
 have hu24 := Try.underlying24
 have hu28 := Try.underlying28
 have HB := Aside0.mk (Below.refl w.heap.size w)
 have H : (if (a0.size : Int) < 11 then (sphragisref10_inner.j0 k a0 true 2 0 0 0 0 (⟨#[]⟩ : ByteArray)) else (if 1 < (a0.size : Int) then (sphragisref10_inner.j0 k a0 ((a0.size : Int) != (wrap64 (11 + (wrap64 (36 * (wrap64 (bt a0 1))))))) 2 0 0 0 0 (⟨#[]⟩ : ByteArray)) else (none))) = some (r1, r2, r3, r4, r5, r6, r7, r8, r9) := h
 clear h
 have HC2 := Aside0.mk H
 clear H
 go_enter Try.func36, Try.ntmps36
 go_upto_region 2 with (first | ((with_reducible refine gate_dst (N := 2) rfl ?_); (try (refine gate_guard (by rfl) ?_; dsimp only)); refine box_event ?hg (N := 2) ?hd (cs := #[.int .i64 0, .int .u32 0, .int .u32 0, .int .i64 0, .slice none 0 0, .slice none 0 0, .int .u32 0, .string (⟨#[]⟩ : ByteArray)]) (t := 30) ?hr ?_; (case hd => rfl); (case hg => rfl); (case hr => first | (go_simp; done) | (go_simp; rfl)); intro gb208 hg w3 hbox hb; have n0_ := Aside0.mk (below_step (by repeat (first | (with_reducible first | exact HB.out | apply below_alloc | apply pw_below_drewN | apply below_drew1) | exact HB.out)) hb); have n1_ := Aside0.mk (hbox); have n2_ := Aside0.mk ((by rw [hg]; exact (below_size (by repeat (first | (with_reducible first | exact HB.out | apply below_alloc | apply pw_below_drewN | apply below_drew1) | exact HB.out))) : w.heap.size ≤ gb208)); have n3_ := Aside0.mk ((by rw [hg]; exact (below_size (by repeat (first | (with_reducible first | exact HB.out | apply below_alloc | apply pw_below_drewN | apply below_drew1) | exact HB.out))) : w.heap.size ≤ gb208)); clear HB; have HB := n0_; have BK208 := n1_; have GW208 := n2_; have GE208 := n3_; clear n0_ n1_ n2_ n3_; clear hb hbox hg) | ((with_reducible refine gate_dst (N := 4) rfl ?_); (try (refine gate_guard (by rfl) ?_; dsimp only)); refine box_event ?hg (N := 4) ?hd (cs := #[.int .i64 0, .int .u32 0, .int .u32 0, .int .i64 0, .slice none 0 0, .slice none 0 0, .int .u32 0, .string (⟨#[]⟩ : ByteArray)]) (t := 30) ?hr ?_; (case hd => rfl); (case hg => rfl); (case hr => first | (go_simp; done) | (go_simp; rfl)); intro gb209 hg w4 hbox hb; have n0_ := Aside0.mk (blk_below (g := gb208) (o := .cells #[.int .i64 0, .int .u32 0, .int .u32 0, .int .i64 0, .slice none 0 0, .slice none 0 0, .int .u32 0, .string (⟨#[]⟩ : ByteArray)] 30 (0, 0)) (by (with_reducible repeat (first | refine blk_drewN ?_ _ | refine blk_drew ?_ | refine blk_alloc ?_ _)); exact BK208.out) hb); have n1_ := Aside0.mk (below_step (by repeat (first | (with_reducible first | exact HB.out | apply below_alloc | apply pw_below_drewN | apply below_drew1 | refine below_set ?_ GE208.out) | exact HB.out)) hb); have n2_ := Aside0.mk (hbox); have n3_ := Aside0.mk ((by rw [hg]; exact (below_size (by repeat (first | (with_reducible first | exact HB.out | apply below_alloc | apply pw_below_drewN | apply below_drew1 | refine below_set ?_ GE208.out) | exact HB.out))) : w.heap.size ≤ gb209)); have n4_ := Aside0.mk ((by rw [hg]; exact (below_size (by repeat (first | (with_reducible first | exact HB.out | apply below_alloc | apply pw_below_drewN | apply below_drew1 | refine below_set ?_ GE208.out) | exact HB.out))) : w.heap.size ≤ gb209)); have n5_ := Aside0.mk ((by rw [hg]; exact Nat.ne_of_lt (blk_lt (g := gb208) (o := .cells #[.int .i64 0, .int .u32 0, .int .u32 0, .int .i64 0, .slice none 0 0, .slice none 0 0, .int .u32 0, .string (⟨#[]⟩ : ByteArray)] 30 (0, 0)) (by (with_reducible repeat (first | refine blk_drewN ?_ _ | refine blk_drew ?_ | refine blk_alloc ?_ _)); exact BK208.out)) : gb208 ≠ gb209)); have n6_ := Aside0.mk ((by rw [hg]; exact Nat.ne_of_gt (blk_lt (g := gb208) (o := .cells #[.int .i64 0, .int .u32 0, .int .u32 0, .int .i64 0, .slice none 0 0, .slice none 0 0, .int .u32 0, .string (⟨#[]⟩ : ByteArray)] 30 (0, 0)) (by (with_reducible repeat (first | refine blk_drewN ?_ _ | refine blk_drew ?_ | refine blk_alloc ?_ _)); exact BK208.out)) : gb209 ≠ gb208)); clear BK208; clear HB; have BK208 := n0_; have HB := n1_; have BK209 := n2_; have GW209 := n3_; have GE209 := n4_; have NB208_209 := n5_; have NB209_208 := n6_; clear n0_ n1_ n2_ n3_ n4_ n5_ n6_; clear hb hbox hg; have hnb5 := NB209_208.out; have hnc5 := NB208_209.out; have hcz6_0 : w4.cell? ⟨gb209, 0, none⟩ = some (.int .i64 0) := (blk_cell BK209.out 0).trans rfl; have hcz6_1 : w4.cell? ⟨gb209, 1, none⟩ = some (.int .u32 0) := (blk_cell BK209.out 1).trans rfl; have hcz6_2 : w4.cell? ⟨gb209, 2, none⟩ = some (.int .u32 0) := (blk_cell BK209.out 2).trans rfl; have hcz6_3 : w4.cell? ⟨gb209, 3, none⟩ = some (.int .i64 0) := (blk_cell BK209.out 3).trans rfl; have hcz6_4 : w4.cell? ⟨gb209, 4, none⟩ = some (.slice none 0 0) := (blk_cell BK209.out 4).trans rfl; have hcz6_5 : w4.cell? ⟨gb209, 5, none⟩ = some (.slice none 0 0) := (blk_cell BK209.out 5).trans rfl; have hcz6_6 : w4.cell? ⟨gb209, 6, none⟩ = some (.int .u32 0) := (blk_cell BK209.out 6).trans rfl; have hcz6_7 : w4.cell? ⟨gb209, 7, none⟩ = some (.string (⟨#[]⟩ : ByteArray)) := (blk_cell BK209.out 7).trans rfl; have hfz6_0 := blk_frozen BK209.out 0; have hfz6_1 := blk_frozen BK209.out 1; have hfz6_2 := blk_frozen BK209.out 2; have hfz6_3 := blk_frozen BK209.out 3; have hfz6_4 := blk_frozen BK209.out 4; have hfz6_5 := blk_frozen BK209.out 5; have hfz6_6 := blk_frozen BK209.out 6; have hfz6_7 := blk_frozen BK209.out 7))
 (try simp only [Act.put, List.setIfInBounds_toArray, List.set_cons_zero, List.set_cons_succ])
 go_cut [19] (fun v19 wc => ∃ (kq : Nat) (x19_1 : Bool), v19 = .bool x19_1 ∧ Aside0 (sphragisref10_inner.j0 kq a0 x19_1 2 0 0 0 0 (⟨#[]⟩ : ByteArray) = some (r1, r2, r3, r4, r5, r6, r7, r8, r9)) ∧ Aside0 (kq ≤ k) ∧ Aside0 (wc.heap[gb208]? = some (.cells #[.int .i64 0, .int .u32 0, .int .u32 0, .int .i64 0, (.slice none 0 0), (.slice none 0 0), .int .u32 0, .string (⟨#[]⟩ : ByteArray)] 30 (0, 0))) ∧ Aside0 (wc.heap[gb209]? = some (.cells #[.int .i64 2, .int .u32 0, .int .u32 0, .int .i64 0, (.slice none 0 0), (.slice none 0 0), .int .u32 0, .string (⟨#[]⟩ : ByteArray)] 30 (0, 0))) ∧ Aside0 (Below w.heap.size w wc))
 case first =>
  have H := HC2.out
  clear HC2
  by_cases c7 : (a0.size : Int) < 11
  ·rw [if_pos c7] at H
   have c7b0 : decide ((a0.size : Int) < 11) = true := decide_eq_true c7
   have c7b1 : decide (a0.size < 11) = true := decide_eq_true (by omega)
   clear c7
   (first | rw [c7b0] | (simp only [i64_w, i32_w]; rw [c7b0]) | skip)
   have H' := Aside0.mk H
   clear H
   go_wp2
   go_meet
   case rel => exact ⟨_, (true), (by first | rfl | (simp; done) | (simp [*]; done)), H', ⟨by first | omega | exact Nat.le_refl _⟩, ⟨by (with_reducible repeat (first | refine blk_drewN ?_ _ | refine blk_drew ?_ | refine blk_alloc ?_ _)); refine blk_far ?_ NB208_209.out _; (with_reducible repeat (first | refine blk_drewN ?_ _ | refine blk_drew ?_ | refine blk_alloc ?_ _)); refine blk_far ?_ NB208_209.out _; (with_reducible repeat (first | refine blk_drewN ?_ _ | refine blk_drew ?_ | refine blk_alloc ?_ _)); refine blk_far ?_ NB208_209.out _; (with_reducible repeat (first | refine blk_drewN ?_ _ | refine blk_drew ?_ | refine blk_alloc ?_ _)); refine blk_far ?_ NB208_209.out _; (with_reducible repeat (first | refine blk_drewN ?_ _ | refine blk_drew ?_ | refine blk_alloc ?_ _)); refine blk_far ?_ NB208_209.out _; (with_reducible repeat (first | refine blk_drewN ?_ _ | refine blk_drew ?_ | refine blk_alloc ?_ _)); refine blk_far ?_ NB208_209.out _; (with_reducible repeat (first | refine blk_drewN ?_ _ | refine blk_drew ?_ | refine blk_alloc ?_ _)); refine blk_far ?_ NB208_209.out _; (with_reducible repeat (first | refine blk_drewN ?_ _ | refine blk_drew ?_ | refine blk_alloc ?_ _)); refine blk_far ?_ NB208_209.out _; (with_reducible repeat (first | refine blk_drewN ?_ _ | refine blk_drew ?_ | refine blk_alloc ?_ _)); exact BK208.out⟩, ⟨by (with_reducible repeat (first | refine blk_drewN ?_ _ | refine blk_drew ?_ | refine blk_alloc ?_ _)); refine blk_put (cs := #[.int .i64 2, .int .u32 0, .int .u32 0, .int .i64 0, .slice none 0 0, .slice none 0 0, .int .u32 0, .string (⟨#[]⟩ : ByteArray)]) ?_ 7 _ rfl; (with_reducible repeat (first | refine blk_drewN ?_ _ | refine blk_drew ?_ | refine blk_alloc ?_ _)); refine blk_put (cs := #[.int .i64 2, .int .u32 0, .int .u32 0, .int .i64 0, .slice none 0 0, .slice none 0 0, .int .u32 0, .string (⟨#[]⟩ : ByteArray)]) ?_ 6 _ rfl; (with_reducible repeat (first | refine blk_drewN ?_ _ | refine blk_drew ?_ | refine blk_alloc ?_ _)); refine blk_put (cs := #[.int .i64 2, .int .u32 0, .int .u32 0, .int .i64 0, .slice none 0 0, .slice none 0 0, .int .u32 0, .string (⟨#[]⟩ : ByteArray)]) ?_ 5 _ rfl; (with_reducible repeat (first | refine blk_drewN ?_ _ | refine blk_drew ?_ | refine blk_alloc ?_ _)); refine blk_put (cs := #[.int .i64 2, .int .u32 0, .int .u32 0, .int .i64 0, .slice none 0 0, .slice none 0 0, .int .u32 0, .string (⟨#[]⟩ : ByteArray)]) ?_ 4 _ rfl; (with_reducible repeat (first | refine blk_drewN ?_ _ | refine blk_drew ?_ | refine blk_alloc ?_ _)); refine blk_put (cs := #[.int .i64 2, .int .u32 0, .int .u32 0, .int .i64 0, .slice none 0 0, .slice none 0 0, .int .u32 0, .string (⟨#[]⟩ : ByteArray)]) ?_ 3 _ rfl; (with_reducible repeat (first | refine blk_drewN ?_ _ | refine blk_drew ?_ | refine blk_alloc ?_ _)); refine blk_put (cs := #[.int .i64 2, .int .u32 0, .int .u32 0, .int .i64 0, .slice none 0 0, .slice none 0 0, .int .u32 0, .string (⟨#[]⟩ : ByteArray)]) ?_ 2 _ rfl; (with_reducible repeat (first | refine blk_drewN ?_ _ | refine blk_drew ?_ | refine blk_alloc ?_ _)); refine blk_put (cs := #[.int .i64 2, .int .u32 0, .int .u32 0, .int .i64 0, .slice none 0 0, .slice none 0 0, .int .u32 0, .string (⟨#[]⟩ : ByteArray)]) ?_ 1 _ rfl; (with_reducible repeat (first | refine blk_drewN ?_ _ | refine blk_drew ?_ | refine blk_alloc ?_ _)); refine blk_put (cs := #[.int .i64 0, .int .u32 0, .int .u32 0, .int .i64 0, .slice none 0 0, .slice none 0 0, .int .u32 0, .string (⟨#[]⟩ : ByteArray)]) ?_ 0 _ rfl; (with_reducible repeat (first | refine blk_drewN ?_ _ | refine blk_drew ?_ | refine blk_alloc ?_ _)); exact BK209.out⟩, ⟨by repeat (first | (with_reducible first | exact HB.out | apply below_alloc | apply pw_below_drewN | apply below_drew1 | refine below_set ?_ GE208.out | refine below_set ?_ GE209.out) | exact HB.out)⟩⟩
  ·rw [if_neg c7] at H
   have c7b0 : decide ((a0.size : Int) < 11) = false := decide_eq_false c7
   have c7b1 : decide (a0.size < 11) = false := decide_eq_false (by omega)
   clear c7
   (first | rw [c7b0] | (simp only [i64_w, i32_w]; rw [c7b0]) | skip)
   by_cases c8 : 1 < (a0.size : Int)
   ·rw [if_pos c8] at H
    have c8b0 : decide (1 < (a0.size : Int)) = true := decide_eq_true c8
    have c8b1 : decide (1 < a0.size) = true := decide_eq_true (by omega)
    clear c8
    have H' := Aside0.mk H
    clear H
    have p9 : 0 ≤ (1 : Int) := (by omega)
    have q9 : 1 < a0.size := (by have : (1 : Int) < (a0.size : Int) := of_decide_eq_true (by first | (with_reducible assumption) | assumption); omega)
    have hx9 : ∀ h : 1 < a0.size, ((a0[1]'h).toNat : Int) = bt a0 1 := bt_at a0 1
    clear p9
    have qi9 : (1 < (a0.size : Int)) = True := eq_true (of_decide_eq_true (by first | (with_reducible assumption) | assumption))
    replace q9 := eq_true q9
    go_wp2
    go_meet
    case rel => exact ⟨_, (((a0.size : Int) != (wrap64 (11 + (wrap64 (36 * (wrap64 (bt a0 1)))))))), (by first | rfl | (simp; done) | (simp [*]; done)), H', ⟨by first | omega | exact Nat.le_refl _⟩, ⟨by (with_reducible repeat (first | refine blk_drewN ?_ _ | refine blk_drew ?_ | refine blk_alloc ?_ _)); refine blk_far ?_ NB208_209.out _; (with_reducible repeat (first | refine blk_drewN ?_ _ | refine blk_drew ?_ | refine blk_alloc ?_ _)); refine blk_far ?_ NB208_209.out _; (with_reducible repeat (first | refine blk_drewN ?_ _ | refine blk_drew ?_ | refine blk_alloc ?_ _)); refine blk_far ?_ NB208_209.out _; (with_reducible repeat (first | refine blk_drewN ?_ _ | refine blk_drew ?_ | refine blk_alloc ?_ _)); refine blk_far ?_ NB208_209.out _; (with_reducible repeat (first | refine blk_drewN ?_ _ | refine blk_drew ?_ | refine blk_alloc ?_ _)); refine blk_far ?_ NB208_209.out _; (with_reducible repeat (first | refine blk_drewN ?_ _ | refine blk_drew ?_ | refine blk_alloc ?_ _)); refine blk_far ?_ NB208_209.out _; (with_reducible repeat (first | refine blk_drewN ?_ _ | refine blk_drew ?_ | refine blk_alloc ?_ _)); refine blk_far ?_ NB208_209.out _; (with_reducible repeat (first | refine blk_drewN ?_ _ | refine blk_drew ?_ | refine blk_alloc ?_ _)); refine blk_far ?_ NB208_209.out _; (with_reducible repeat (first | refine blk_drewN ?_ _ | refine blk_drew ?_ | refine blk_alloc ?_ _)); exact BK208.out⟩, ⟨by (with_reducible repeat (first | refine blk_drewN ?_ _ | refine blk_drew ?_ | refine blk_alloc ?_ _)); refine blk_put (cs := #[.int .i64 2, .int .u32 0, .int .u32 0, .int .i64 0, .slice none 0 0, .slice none 0 0, .int .u32 0, .string (⟨#[]⟩ : ByteArray)]) ?_ 7 _ rfl; (with_reducible repeat (first | refine blk_drewN ?_ _ | refine blk_drew ?_ | refine blk_alloc ?_ _)); refine blk_put (cs := #[.int .i64 2, .int .u32 0, .int .u32 0, .int .i64 0, .slice none 0 0, .slice none 0 0, .int .u32 0, .string (⟨#[]⟩ : ByteArray)]) ?_ 6 _ rfl; (with_reducible repeat (first | refine blk_drewN ?_ _ | refine blk_drew ?_ | refine blk_alloc ?_ _)); refine blk_put (cs := #[.int .i64 2, .int .u32 0, .int .u32 0, .int .i64 0, .slice none 0 0, .slice none 0 0, .int .u32 0, .string (⟨#[]⟩ : ByteArray)]) ?_ 5 _ rfl; (with_reducible repeat (first | refine blk_drewN ?_ _ | refine blk_drew ?_ | refine blk_alloc ?_ _)); refine blk_put (cs := #[.int .i64 2, .int .u32 0, .int .u32 0, .int .i64 0, .slice none 0 0, .slice none 0 0, .int .u32 0, .string (⟨#[]⟩ : ByteArray)]) ?_ 4 _ rfl; (with_reducible repeat (first | refine blk_drewN ?_ _ | refine blk_drew ?_ | refine blk_alloc ?_ _)); refine blk_put (cs := #[.int .i64 2, .int .u32 0, .int .u32 0, .int .i64 0, .slice none 0 0, .slice none 0 0, .int .u32 0, .string (⟨#[]⟩ : ByteArray)]) ?_ 3 _ rfl; (with_reducible repeat (first | refine blk_drewN ?_ _ | refine blk_drew ?_ | refine blk_alloc ?_ _)); refine blk_put (cs := #[.int .i64 2, .int .u32 0, .int .u32 0, .int .i64 0, .slice none 0 0, .slice none 0 0, .int .u32 0, .string (⟨#[]⟩ : ByteArray)]) ?_ 2 _ rfl; (with_reducible repeat (first | refine blk_drewN ?_ _ | refine blk_drew ?_ | refine blk_alloc ?_ _)); refine blk_put (cs := #[.int .i64 2, .int .u32 0, .int .u32 0, .int .i64 0, .slice none 0 0, .slice none 0 0, .int .u32 0, .string (⟨#[]⟩ : ByteArray)]) ?_ 1 _ rfl; (with_reducible repeat (first | refine blk_drewN ?_ _ | refine blk_drew ?_ | refine blk_alloc ?_ _)); refine blk_put (cs := #[.int .i64 0, .int .u32 0, .int .u32 0, .int .i64 0, .slice none 0 0, .slice none 0 0, .int .u32 0, .string (⟨#[]⟩ : ByteArray)]) ?_ 0 _ rfl; (with_reducible repeat (first | refine blk_drewN ?_ _ | refine blk_drew ?_ | refine blk_alloc ?_ _)); exact BK209.out⟩, ⟨by repeat (first | (with_reducible first | exact HB.out | apply below_alloc | apply pw_below_drewN | apply below_drew1 | refine below_set ?_ GE208.out | refine below_set ?_ GE209.out) | exact HB.out)⟩⟩
   ·rw [if_neg c8] at H
    exact absurd H (by simp)
 case rest =>
  clear HC2
  try clear p2
  try clear c3
  try clear c5
  try clear p6
  try clear c7
  try clear c7b0
  try clear c7b1
  try clear c8
  try clear c8b0
  try clear c8b1
  try clear p9
  try clear q9
  try clear hx9
  try clear qi9
  try clear hcz6_0
  try clear hcz6_1
  try clear hcz6_2
  try clear hcz6_3
  try clear hcz6_4
  try clear hcz6_5
  try clear hcz6_6
  try clear hcz6_7
  try clear hfz6_0
  try clear hfz6_1
  try clear hfz6_2
  try clear hfz6_3
  try clear hfz6_4
  try clear hfz6_5
  try clear hfz6_6
  try clear hfz6_7
  try clear p9
  try clear q9
  obtain ⟨kq, x19_1, rfl, HA, HJ1, BK208, BK209, HB⟩ := hcut
  cases kq with
  | zero => exact absurd HA.out (by simp [sphragisref10_inner.j0])
  | succ kj1 =>
   have H := HA.out
   clear HA
   simp only [sphragisref10_inner.j0] at H
   by_cases c10 : x19_1 = true
   ·subst c10
    have H1 : (some (2, 0, 0, 0, ([] : List (S47)), ([] : List (S28)), 0, (⟨#[]⟩ : ByteArray), false)) = some (r1, r2, r3, r4, r5, r6, r7, r8, r9) := by rw [if_pos rfl] at H; exact H
    clear H
    have H := H1
    clear H1
    simp only [Option.some.injEq, Prod.mk.injEq] at H
    obtain ⟨rfl, rfl, rfl, rfl, rfl, rfl, rfl, rfl, rfl⟩ := H
    have hnb11 := NB209_208.out
    have hnc11 := NB208_209.out
    have hcz12_0 : wc.cell? ⟨gb209, 0, none⟩ = some (.int .i64 2) := (blk_cell BK209.out 0).trans rfl
    have hcz12_1 : wc.cell? ⟨gb209, 1, none⟩ = some (.int .u32 0) := (blk_cell BK209.out 1).trans rfl
    have hcz12_2 : wc.cell? ⟨gb209, 2, none⟩ = some (.int .u32 0) := (blk_cell BK209.out 2).trans rfl
    have hcz12_3 : wc.cell? ⟨gb209, 3, none⟩ = some (.int .i64 0) := (blk_cell BK209.out 3).trans rfl
    have hcz12_4 : wc.cell? ⟨gb209, 4, none⟩ = some (.slice none 0 0) := (blk_cell BK209.out 4).trans rfl
    have hcz12_5 : wc.cell? ⟨gb209, 5, none⟩ = some (.slice none 0 0) := (blk_cell BK209.out 5).trans rfl
    have hcz12_6 : wc.cell? ⟨gb209, 6, none⟩ = some (.int .u32 0) := (blk_cell BK209.out 6).trans rfl
    have hcz12_7 : wc.cell? ⟨gb209, 7, none⟩ = some (.string (⟨#[]⟩ : ByteArray)) := (blk_cell BK209.out 7).trans rfl
    have hfz12_0 := blk_frozen BK209.out 0
    have hfz12_1 := blk_frozen BK209.out 1
    have hfz12_2 := blk_frozen BK209.out 2
    have hfz12_3 := blk_frozen BK209.out 3
    have hfz12_4 := blk_frozen BK209.out 4
    have hfz12_5 := blk_frozen BK209.out 5
    have hfz12_6 := blk_frozen BK209.out 6
    have hfz12_7 := blk_frozen BK209.out 7
    have hcz13_0 : wc.cell? ⟨gb208, 0, none⟩ = some (.int .i64 0) := (blk_cell BK208.out 0).trans rfl
    have hcz13_1 : wc.cell? ⟨gb208, 1, none⟩ = some (.int .u32 0) := (blk_cell BK208.out 1).trans rfl
    have hcz13_2 : wc.cell? ⟨gb208, 2, none⟩ = some (.int .u32 0) := (blk_cell BK208.out 2).trans rfl
    have hcz13_3 : wc.cell? ⟨gb208, 3, none⟩ = some (.int .i64 0) := (blk_cell BK208.out 3).trans rfl
    have hcz13_4 : wc.cell? ⟨gb208, 4, none⟩ = some (.slice none 0 0) := (blk_cell BK208.out 4).trans rfl
    have hcz13_5 : wc.cell? ⟨gb208, 5, none⟩ = some (.slice none 0 0) := (blk_cell BK208.out 5).trans rfl
    have hcz13_6 : wc.cell? ⟨gb208, 6, none⟩ = some (.int .u32 0) := (blk_cell BK208.out 6).trans rfl
    have hcz13_7 : wc.cell? ⟨gb208, 7, none⟩ = some (.string (⟨#[]⟩ : ByteArray)) := (blk_cell BK208.out 7).trans rfl
    have hfz13_0 := blk_frozen BK208.out 0
    have hfz13_1 := blk_frozen BK208.out 1
    have hfz13_2 := blk_frozen BK208.out 2
    have hfz13_3 := blk_frozen BK208.out 3
    have hfz13_4 := blk_frozen BK208.out 4
    have hfz13_5 := blk_frozen BK208.out 5
    have hfz13_6 := blk_frozen BK208.out 6
    have hfz13_7 := blk_frozen BK208.out 7
    go_wp2
    refine bodyPost_ret (results_ct rfl _ _ gb208 30 #[.int .i64 2, .int .u32 0, .int .u32 0, .int .i64 0, .slice none 0 0, .slice none 0 0, .int .u32 0, .string (⟨#[]⟩ : ByteArray)] (0, 0) _ rfl (by (with_reducible repeat (first | refine blk_drewN ?_ _ | refine blk_drew ?_ | refine blk_alloc ?_ _)); refine blk_put (cs := #[.int .i64 2, .int .u32 0, .int .u32 0, .int .i64 0, .slice none 0 0, .slice none 0 0, .int .u32 0, .string (⟨#[]⟩ : ByteArray)]) ?_ 7 _ rfl; (with_reducible repeat (first | refine blk_drewN ?_ _ | refine blk_drew ?_ | refine blk_alloc ?_ _)); refine blk_put (cs := #[.int .i64 2, .int .u32 0, .int .u32 0, .int .i64 0, .slice none 0 0, .slice none 0 0, .int .u32 0, .string (⟨#[]⟩ : ByteArray)]) ?_ 6 _ rfl; (with_reducible repeat (first | refine blk_drewN ?_ _ | refine blk_drew ?_ | refine blk_alloc ?_ _)); refine blk_put (cs := #[.int .i64 2, .int .u32 0, .int .u32 0, .int .i64 0, .slice none 0 0, .slice none 0 0, .int .u32 0, .string (⟨#[]⟩ : ByteArray)]) ?_ 5 _ rfl; (with_reducible repeat (first | refine blk_drewN ?_ _ | refine blk_drew ?_ | refine blk_alloc ?_ _)); refine blk_put (cs := #[.int .i64 2, .int .u32 0, .int .u32 0, .int .i64 0, .slice none 0 0, .slice none 0 0, .int .u32 0, .string (⟨#[]⟩ : ByteArray)]) ?_ 4 _ rfl; (with_reducible repeat (first | refine blk_drewN ?_ _ | refine blk_drew ?_ | refine blk_alloc ?_ _)); refine blk_put (cs := #[.int .i64 2, .int .u32 0, .int .u32 0, .int .i64 0, .slice none 0 0, .slice none 0 0, .int .u32 0, .string (⟨#[]⟩ : ByteArray)]) ?_ 3 _ rfl; (with_reducible repeat (first | refine blk_drewN ?_ _ | refine blk_drew ?_ | refine blk_alloc ?_ _)); refine blk_put (cs := #[.int .i64 2, .int .u32 0, .int .u32 0, .int .i64 0, .slice none 0 0, .slice none 0 0, .int .u32 0, .string (⟨#[]⟩ : ByteArray)]) ?_ 2 _ rfl; (with_reducible repeat (first | refine blk_drewN ?_ _ | refine blk_drew ?_ | refine blk_alloc ?_ _)); refine blk_put (cs := #[.int .i64 2, .int .u32 0, .int .u32 0, .int .i64 0, .slice none 0 0, .slice none 0 0, .int .u32 0, .string (⟨#[]⟩ : ByteArray)]) ?_ 1 _ rfl; (with_reducible repeat (first | refine blk_drewN ?_ _ | refine blk_drew ?_ | refine blk_alloc ?_ _)); refine blk_put (cs := #[.int .i64 0, .int .u32 0, .int .u32 0, .int .i64 0, .slice none 0 0, .slice none 0 0, .int .u32 0, .string (⟨#[]⟩ : ByteArray)]) ?_ 0 _ rfl; (with_reducible repeat (first | refine blk_drewN ?_ _ | refine blk_drew ?_ | refine blk_alloc ?_ _)); exact BK208.out) Try.underlying30 rfl (by kernel_rfl)) rfl ?_
    exact ⟨_, _, by first | rfl | (simp [errW_none, errW_some] <;> rfl) | (simp [*, errW_none, errW_some] <;> rfl), by first | exact Kd.R_nil _ _ _ _ _ | exact Kd.N_nil _ _ _ _ _ | exact Kd.V_nil _ _ _ _ _ | exact Kd.Q_nil _ _ _ _ _ | exact Kd.S_nil _ _ _ _ _, by first | exact Kd.R_nil _ _ _ _ _ | exact Kd.N_nil _ _ _ _ _ | exact Kd.V_nil _ _ _ _ _ | exact Kd.Q_nil _ _ _ _ _ | exact Kd.S_nil _ _ _ _ _, by repeat (first | (with_reducible first | exact HB.out | apply below_alloc | apply pw_below_drewN | apply below_drew1 | refine below_set ?_ GE208.out | refine below_set ?_ GE209.out) | exact HB.out)⟩
   ·replace c10 := Bool.eq_false_iff.mpr c10
    subst c10
    have H1 : (if 3 ≤ 7 then (if 7 ≤ (a0.size : Int) then ((sphragisref10_get.f kj1 (a0.extract 3 7)).bind fun t210 => (if 7 ≤ 11 then (if 11 ≤ (a0.size : Int) then ((sphragisref10_get.f kj1 (a0.extract 7 11)).bind fun t211 => (if 2 < (a0.size : Int) then (sphragisref10_inner.l0 kj1 a0 11 2 ((t210) % 4294967296) ((t211) % 4294967296) (wrap64 (bt a0 2)) ([] : List (S28)) 0 (⟨#[]⟩ : ByteArray)) else (none))) else (none)) else (none))) else (none)) else (none)) = some (r1, r2, r3, r4, r5, r6, r7, r8, r9) := by rw [if_neg (show ¬ (false = true) by decide)] at H; exact H
    clear H
    have H := H1
    clear H1
    by_cases c14 : 3 ≤ 7
    ·rw [if_pos c14] at H
     have c14b0 := eq_true c14
     have c14b1 : decide (3 ≤ 7) = true := decide_eq_true c14
     clear c14
     by_cases c15 : 7 ≤ (a0.size : Int)
     ·rw [if_pos c15] at H
      have c15b0 := eq_true c15
      have c15b1 : decide (7 ≤ (a0.size : Int)) = true := decide_eq_true c15
      clear c15
      replace H := Option.bind_eq_some_iff.mp H
      obtain ⟨t210, A160, H⟩ := H
      replace H : (if 7 ≤ 11 then (if 11 ≤ (a0.size : Int) then ((sphragisref10_get.f kj1 (a0.extract 7 11)).bind fun t211 => (if 2 < (a0.size : Int) then (sphragisref10_inner.l0 kj1 a0 11 2 ((t210) % 4294967296) ((t211) % 4294967296) (wrap64 (bt a0 2)) ([] : List (S28)) 0 (⟨#[]⟩ : ByteArray)) else (none))) else (none)) else (none)) = some (r1, r2, r3, r4, r5, r6, r7, r8, r9) := H
      have A16 := Aside0.mk A160
      clear A160
      by_cases c17 : 7 ≤ 11
      ·rw [if_pos c17] at H
       have c17b0 := eq_true c17
       have c17b1 : decide (7 ≤ 11) = true := decide_eq_true c17
       clear c17
       by_cases c18 : 11 ≤ (a0.size : Int)
       ·rw [if_pos c18] at H
        have c18b0 := eq_true c18
        have c18b1 : decide (11 ≤ (a0.size : Int)) = true := decide_eq_true c18
        clear c18
        replace H := Option.bind_eq_some_iff.mp H
        obtain ⟨t211, A190, H⟩ := H
        replace H : (if 2 < (a0.size : Int) then (sphragisref10_inner.l0 kj1 a0 11 2 ((t210) % 4294967296) ((t211) % 4294967296) (wrap64 (bt a0 2)) ([] : List (S28)) 0 (⟨#[]⟩ : ByteArray)) else (none)) = some (r1, r2, r3, r4, r5, r6, r7, r8, r9) := H
        have A19 := Aside0.mk A190
        clear A190
        by_cases c20 : 2 < (a0.size : Int)
        ·rw [if_pos c20] at H
         have c20b0 : decide (2 < (a0.size : Int)) = true := decide_eq_true c20
         have c20b1 : decide (2 < a0.size) = true := decide_eq_true (by omega)
         clear c20
         have H' := Aside0.mk H
         clear H
         try go_wp2
         have n0_ := Aside0.mk (blk_drew BK208.out)
         have n1_ := Aside0.mk (blk_drew BK209.out)
         have n2_ := Aside0.mk (below_drew1 HB.out)
         clear BK208
         clear BK209
         clear HB
         have BK208 := n0_
         have BK209 := n1_
         have HB := n2_
         clear n0_ n1_ n2_
         have p21 : 0 ≤ (2 : Int) := (by omega)
         have q21 : 2 < a0.size := (by have : (2 : Int) < (a0.size : Int) := of_decide_eq_true (by first | (with_reducible assumption) | assumption); omega)
         have hx21 : ∀ h : 2 < a0.size, ((a0[2]'h).toNat : Int) = bt a0 2 := bt_at a0 2
         clear p21
         have qi21 : (2 < (a0.size : Int)) = True := eq_true (of_decide_eq_true (by first | (with_reducible assumption) | assumption))
         replace q21 := eq_true q21
         refine start_ (n := 14) (S := fun w' => True) (ds := []) #[false, false, false, false, false, false, false, false, false, false, false, false, false, false] (by kernel_rfl) rfl rfl trivial (fun hHeld => ?_); refine with_tabW sphragisref10_inner.tab4 sphragisref10_inner.bits4 (fun HT_ HW_ => ?_)
         generalize wc.drew = w22 at BK208 BK209 HB hHeld ⊢
         refine pure_ (i := 0) (N := some 21) (v := ?_) (a' := ?_) #[true, false, false, false, false, false, false, false, false, false, false, false, false, false] rfl rfl (any_of HT_.out (by kernel_rfl)) (fun _ _ _ h => h) (Or.inl ⟨by rfl, ?_⟩) ?_ ?_
         rotate_left
         ·intro w'
          go_simp
          with_reducible rfl
         rotate_left
         ·simp only [Act.put, List.setIfInBounds_toArray, List.set_cons_zero, List.set_cons_succ, i64_w, i32_w]
          rfl
         refine pure_ (i := 1) (N := some 22) (v := ?_) (a' := ?_) #[true, true, false, false, false, false, false, false, false, false, false, false, false, false] rfl rfl (any_of HT_.out (by kernel_rfl)) (fun _ _ _ h => h) (Or.inl ⟨by rfl, ?_⟩) ?_ ?_
         rotate_left
         ·intro w'
          go_simp
          with_reducible rfl
         rotate_left
         ·simp only [Act.put, List.setIfInBounds_toArray, List.set_cons_zero, List.set_cons_succ, i64_w, i32_w]
          rfl
         refine pure_ (i := 4) (N := some 25) (v := ?_) (a' := ?_) #[true, true, false, false, true, false, false, false, false, false, false, false, false, false] rfl rfl (any_of HT_.out (by kernel_rfl)) (fun _ _ _ h => h) (Or.inl ⟨by rfl, ?_⟩) ?_ ?_
         rotate_left
         ·intro w'
          go_simp
          with_reducible rfl
         rotate_left
         ·simp only [Act.put, List.setIfInBounds_toArray, List.set_cons_zero, List.set_cons_succ, i64_w, i32_w]
          rfl
         refine pure_ (i := 5) (N := some 26) (v := ?_) (a' := ?_) #[true, true, false, false, true, true, false, false, false, false, false, false, false, false] rfl rfl (any_of HT_.out (by kernel_rfl)) (fun _ _ _ h => h) (Or.inl ⟨by rfl, ?_⟩) ?_ ?_
         rotate_left
         ·intro w'
          go_simp
          with_reducible rfl
         rotate_left
         ·simp only [Act.put, List.setIfInBounds_toArray, List.set_cons_zero, List.set_cons_succ, i64_w, i32_w]
          rfl
         refine pure_ (i := 8) (N := some 29) (v := ?_) (a' := ?_) #[true, true, false, false, true, true, false, false, true, false, false, false, false, false] rfl rfl (any_of HT_.out (by kernel_rfl)) (fun _ _ _ h => h) (Or.inl ⟨by rfl, ?_⟩) ?_ ?_
         rotate_left
         ·intro w'
          go_simp
          with_reducible rfl
         rotate_left
         ·simp only [Act.put, List.setIfInBounds_toArray, List.set_cons_zero, List.set_cons_succ, i64_w, i32_w]
          rfl
         refine take_ (i := 9) (N := some 30) (v := ?_) (a' := ?_) #[true, true, false, false, true, true, false, false, true, true, false, false, false, false] rfl rfl (take_ofW HT_.out HW_.out (by kernel_rfl)) (fun _ _ _ h => h) (Or.inl ⟨by rfl, ?_⟩) hHeld ?_ ?_
         rotate_left
         ·intro w' _
          go_simp
          with_reducible rfl
         rotate_left
         ·simp only [Act.put, List.setIfInBounds_toArray, List.set_cons_zero, List.set_cons_succ, i64_w, i32_w]
          rfl
         refine pure_ (i := 10) (N := some 31) (v := ?_) (a' := ?_) #[true, true, false, false, true, true, false, false, true, true, true, false, false, false] rfl rfl (any_of HT_.out (by kernel_rfl)) (fun _ _ _ h => h) (Or.inl ⟨by rfl, ?_⟩) ?_ ?_
         rotate_left
         ·intro w'
          go_simp
          with_reducible rfl
         rotate_left
         ·simp only [Act.put, List.setIfInBounds_toArray, List.set_cons_zero, List.set_cons_succ, i64_w, i32_w]
          rfl
         refine one_ (i := 2) (N := some 23) #[true, true, true, false, true, true, false, false, true, true, true, false, false, false] rfl rfl (one_of HT_.out (by kernel_rfl)) (by decide) (fun K hK => ?_)
         refine goes_ Try.func49 (by kernel_rfl) rfl #[.string (a0.extract 3 7)] (by rfl) rfl rfl (by (try simp only [List.map_toArray, List.map_cons, List.map_nil]); first | done | rfl | (simp only [List.length_drop, List.length_take]; rfl)) ?_
         with_reducible refine (sphragisref10_get.calls kj1 (a0.extract 3 7) t210 _ A16.out).mono ?_
         rintro e w' ⟨rfl, ⟨nd, rfl⟩⟩
         refine ⟨_, rfl, ?_⟩
         refine hK.out _ _ trivial (fun hHeld => ?_)
         clear hK K
         refine norm_ (a' := ?_) ?_ ?_
         rotate_left
         ·show Act.put _ (some 23) _ = _
          simp only [Act.put, List.setIfInBounds_toArray, List.set_cons_zero, List.set_cons_succ, i64_w, i32_w]
          rfl
         refine pure_ (i := 3) (N := some 24) (v := ?_) (a' := ?_) #[true, true, true, true, true, true, false, false, true, true, true, false, false, false] rfl rfl (any_of HT_.out (by kernel_rfl)) (fun _ _ _ h => h) (Or.inl ⟨by rfl, ?_⟩) ?_ ?_
         rotate_left
         ·intro w'
          go_simp
          with_reducible rfl
         rotate_left
         ·simp only [Act.put, List.setIfInBounds_toArray, List.set_cons_zero, List.set_cons_succ, i64_w, i32_w]
          rfl
         refine one_ (i := 6) (N := some 27) #[true, true, true, true, true, true, true, false, true, true, true, false, false, false] rfl rfl (one_of HT_.out (by kernel_rfl)) (by decide) (fun K hK => ?_)
         refine goes_ Try.func49 (by kernel_rfl) rfl #[.string (a0.extract 7 11)] (by rfl) rfl rfl (by (try simp only [List.map_toArray, List.map_cons, List.map_nil]); first | done | rfl | (simp only [List.length_drop, List.length_take]; rfl)) ?_
         with_reducible refine (sphragisref10_get.calls kj1 (a0.extract 7 11) t211 _ A19.out).mono ?_
         rintro e w' ⟨rfl, ⟨nd, rfl⟩⟩
         refine ⟨_, rfl, ?_⟩
         refine hK.out _ _ trivial (fun hHeld => ?_)
         clear hK K
         refine norm_ (a' := ?_) ?_ ?_
         rotate_left
         ·show Act.put _ (some 27) _ = _
          simp only [Act.put, List.setIfInBounds_toArray, List.set_cons_zero, List.set_cons_succ, i64_w, i32_w]
          rfl
         refine pure_ (i := 7) (N := some 28) (v := ?_) (a' := ?_) #[true, true, true, true, true, true, true, true, true, true, true, false, false, false] rfl rfl (any_of HT_.out (by kernel_rfl)) (fun _ _ _ h => h) (Or.inl ⟨by rfl, ?_⟩) ?_ ?_
         rotate_left
         ·intro w'
          go_simp
          with_reducible rfl
         rotate_left
         ·simp only [Act.put, List.setIfInBounds_toArray, List.set_cons_zero, List.set_cons_succ, i64_w, i32_w]
          rfl
         refine pure_ (i := 11) (N := some 32) (v := ?_) (a' := ?_) #[true, true, true, true, true, true, true, true, true, true, true, true, false, false] rfl rfl (any_of HT_.out (by kernel_rfl)) (fun _ _ _ h => h) (Or.inl ⟨by rfl, ?_⟩) ?_ ?_
         rotate_left
         ·intro w'
          go_simp
          with_reducible rfl
         rotate_left
         ·simp only [Act.put, List.setIfInBounds_toArray, List.set_cons_zero, List.set_cons_succ, i64_w, i32_w]
          rfl
         refine pure_ (i := 12) (N := some 33) (v := ?_) (a' := ?_) #[true, true, true, true, true, true, true, true, true, true, true, true, true, false] rfl rfl (any_of HT_.out (by kernel_rfl)) (fun _ _ _ h => h) (Or.inl ⟨by rfl, ?_⟩) ?_ ?_
         rotate_left
         ·intro w'
          go_simp
          with_reducible rfl
         rotate_left
         ·simp only [Act.put, List.setIfInBounds_toArray, List.set_cons_zero, List.set_cons_succ, i64_w, i32_w]
          rfl
         refine one_ (i := 13) (N := none) #[true, true, true, true, true, true, true, true, true, true, true, true, true, true] rfl rfl (one_of HT_.out (by kernel_rfl)) (by decide) (fun K hK => ?_)
         have hs23 : w22.cell? ⟨gb209, 1, none⟩ = some (.int .u32 0) := (blk_cell BK209.out 1).trans rfl
         have hfs23 := blk_frozen BK209.out 1
         have hns23_0 := NB208_209.out
         have hms23_0 := NB209_208.out
         have hs24 : w22.cell? ⟨gb209, 2, none⟩ = some (.int .u32 0) := (blk_cell BK209.out 2).trans rfl
         have hfs24 := blk_frozen BK209.out 2
         have hns24_0 := NB208_209.out
         have hms24_0 := NB209_208.out
         have hs25 : w22.cell? ⟨gb209, 3, none⟩ = some (.int .i64 0) := (blk_cell BK209.out 3).trans rfl
         have hfs25 := blk_frozen BK209.out 3
         have hns25_0 := NB208_209.out
         have hms25_0 := NB209_208.out
         refine skip_ (w1 := ?_) (by rfl) rfl ?_ ?_
         rotate_left
         ·go_simp
          rfl
         refine hK.out _ _ trivial (fun hHeld => ?_)
         clear hK K
         refine done_ (done_of HT_.out (by kernel_rfl)) ?_
         try go_wp2
         go_loopg [5] kj1 (fun kq v5 w' => ∃ (x5_2 : Int) (x210005_2 : List (S28)) (u210005 : Value), v5 = .int .i64 x5_2 ∧ Aside0 (sphragisref10_inner.l0 kq a0 x5_2 2 ((t210) % 4294967296) ((t211) % 4294967296) (wrap64 (bt a0 2)) x210005_2 0 (⟨#[]⟩ : ByteArray) = some (r1, r2, r3, r4, r5, r6, r7, r8, r9)) ∧ Aside0 (kq ≤ kj1) ∧ Aside0 (Kd.R k28 28 w' w.heap.size (fun _ => True) u210005 x210005_2) ∧ Aside0 (w'.heap[gb208]? = some (.cells #[.int .i64 0, .int .u32 0, .int .u32 0, .int .i64 0, (.slice none 0 0), (.slice none 0 0), .int .u32 0, .string (⟨#[]⟩ : ByteArray)] 30 (0, 0))) ∧ Aside0 (w'.heap[gb209]? = some (.cells #[.int .i64 2, .int .u32 ((t210) % 4294967296), .int .u32 ((t211) % 4294967296), .int .i64 (wrap64 (bt a0 2)), (.slice none 0 0), u210005, .int .u32 0, .string (⟨#[]⟩ : ByteArray)] 30 (0, 0))) ∧ Aside0 (Below w.heap.size w w'))
         case atStart => exact ⟨(11), (([] : List (S28))), (.slice none 0 0), (by first | rfl | (simp; done) | (simp [*]; done)), H', ⟨Nat.le_refl _⟩, ⟨by first | exact Kd.R_nil _ _ _ _ _ | exact Kd.N_nil _ _ _ _ _ | exact Kd.V_nil _ _ _ _ _ | exact Kd.Q_nil _ _ _ _ _ | exact Kd.S_nil _ _ _ _ _⟩, ⟨by (with_reducible repeat (first | refine blk_drewN ?_ _ | refine blk_drew ?_ | refine blk_alloc ?_ _)); refine blk_far ?_ NB208_209.out _; (with_reducible repeat (first | refine blk_drewN ?_ _ | refine blk_drew ?_ | refine blk_alloc ?_ _)); refine blk_far ?_ NB208_209.out _; (with_reducible repeat (first | refine blk_drewN ?_ _ | refine blk_drew ?_ | refine blk_alloc ?_ _)); refine blk_far ?_ NB208_209.out _; (with_reducible repeat (first | refine blk_drewN ?_ _ | refine blk_drew ?_ | refine blk_alloc ?_ _)); exact BK208.out⟩, ⟨by (with_reducible repeat (first | refine blk_drewN ?_ _ | refine blk_drew ?_ | refine blk_alloc ?_ _)); refine blk_put (cs := #[.int .i64 2, .int .u32 ((t210) % 4294967296), .int .u32 ((t211) % 4294967296), .int .i64 0, .slice none 0 0, .slice none 0 0, .int .u32 0, .string (⟨#[]⟩ : ByteArray)]) ?_ 3 _ rfl; (with_reducible repeat (first | refine blk_drewN ?_ _ | refine blk_drew ?_ | refine blk_alloc ?_ _)); refine blk_put (cs := #[.int .i64 2, .int .u32 ((t210) % 4294967296), .int .u32 0, .int .i64 0, .slice none 0 0, .slice none 0 0, .int .u32 0, .string (⟨#[]⟩ : ByteArray)]) ?_ 2 _ rfl; (with_reducible repeat (first | refine blk_drewN ?_ _ | refine blk_drew ?_ | refine blk_alloc ?_ _)); refine blk_put (cs := #[.int .i64 2, .int .u32 0, .int .u32 0, .int .i64 0, .slice none 0 0, .slice none 0 0, .int .u32 0, .string (⟨#[]⟩ : ByteArray)]) ?_ 1 _ rfl; (with_reducible repeat (first | refine blk_drewN ?_ _ | refine blk_drew ?_ | refine blk_alloc ?_ _)); exact BK209.out⟩, ⟨by repeat (first | (with_reducible first | exact HB.out | apply below_alloc | apply pw_below_drewN | apply below_drew1 | refine below_set ?_ GE208.out | refine below_set ?_ GE209.out) | exact HB.out)⟩⟩
         case round =>
          clear H'
          try clear c1
          try clear c2
          try clear p2
          try clear q2
          try clear hx2
          try clear qi2
          try clear c3
          try clear c4
          try clear c5
          try clear p6
          try clear c7
          try clear c7b0
          try clear c7b1
          try clear c8
          try clear c8b0
          try clear c8b1
          try clear p9
          try clear q9
          try clear hx9
          try clear qi9
          try clear c10
          try clear c11
          try clear c14
          try clear c14b0
          try clear c14b1
          try clear c15
          try clear c15b0
          try clear c15b1
          try clear c17
          try clear c17b0
          try clear c17b1
          try clear c18
          try clear c18b0
          try clear c18b1
          try clear c20
          try clear c20b0
          try clear c20b1
          try clear p21
          try clear q21
          try clear hx21
          try clear qi21
          try clear hcz12_0
          try clear hcz12_1
          try clear hcz12_2
          try clear hcz12_3
          try clear hcz12_4
          try clear hcz12_5
          try clear hcz12_6
          try clear hcz12_7
          try clear hcz13_0
          try clear hcz13_1
          try clear hcz13_2
          try clear hcz13_3
          try clear hcz13_4
          try clear hcz13_5
          try clear hcz13_6
          try clear hcz13_7
          try clear hcz6_0
          try clear hcz6_1
          try clear hcz6_2
          try clear hcz6_3
          try clear hcz6_4
          try clear hcz6_5
          try clear hcz6_6
          try clear hcz6_7
          try clear hfz12_0
          try clear hfz12_1
          try clear hfz12_2
          try clear hfz12_3
          try clear hfz12_4
          try clear hfz12_5
          try clear hfz12_6
          try clear hfz12_7
          try clear hfz13_0
          try clear hfz13_1
          try clear hfz13_2
          try clear hfz13_3
          try clear hfz13_4
          try clear hfz13_5
          try clear hfz13_6
          try clear hfz13_7
          try clear hfz6_0
          try clear hfz6_1
          try clear hfz6_2
          try clear hfz6_3
          try clear hfz6_4
          try clear hfz6_5
          try clear hfz6_6
          try clear hfz6_7
          try clear p2
          try clear p21
          try clear p6
          try clear p9
          try clear q21
          try clear q9
          obtain ⟨x5_2, x210005_2, u210005, rfl, HA, HK2, HO_210005, BK208, BK209, HB⟩ := hrel
          cases gk with
          | zero => exact absurd HA.out (by simp [sphragisref10_inner.l0])
          | succ k2 =>
           have H := HA.out
           clear HA
           simp only [sphragisref10_inner.l0] at H
           by_cases c26 : x5_2 < (a0.size : Int)
           ·rw [if_pos c26] at H
            have c26b0 : decide (x5_2 < (a0.size : Int)) = true := decide_eq_true c26
            clear c26
            by_cases c27 : 0 ≤ x5_2
            ·rw [if_pos c27] at H
             have c27b0 := eq_true c27
             have c27b1 : decide (0 ≤ x5_2) = true := decide_eq_true c27
             clear c27
             by_cases c28 : x5_2 ≤ (wrap64 (x5_2 + 4))
             ·rw [if_pos c28] at H
              have c28b0 := eq_true c28
              have c28b1 : decide (x5_2 ≤ (wrap64 (x5_2 + 4))) = true := decide_eq_true c28
              by_cases c29 : (wrap64 (x5_2 + 4)) ≤ (a0.size : Int)
              ·rw [if_pos c29] at H
               have c29b0 := eq_true c29
               have c29b1 : decide ((wrap64 (x5_2 + 4)) ≤ (a0.size : Int)) = true := decide_eq_true c29
               replace H := Option.bind_eq_some_iff.mp H
               obtain ⟨t212, A300, H⟩ := H
               replace H : (if 0 ≤ (wrap64 (x5_2 + 4)) then (if (wrap64 (x5_2 + 4)) ≤ (wrap64 (x5_2 + 36)) then (if (wrap64 (x5_2 + 36)) ≤ (a0.size : Int) then (if x210005_2.length < 5864062014805 then (sphragisref10_inner.l0 k2 a0 (wrap64 (x5_2 + 36)) 2 ((t210) % 4294967296) ((t211) % 4294967296) (wrap64 (bt a0 2)) (x210005_2 ++ [(⟨(t212) % 4294967296, a0.extract ((wrap64 (x5_2 + 4)) : Int).toNat ((wrap64 (x5_2 + 36)) : Int).toNat⟩ : S28)]) 0 (⟨#[]⟩ : ByteArray)) else (none)) else (none)) else (none)) else (none)) = some (r1, r2, r3, r4, r5, r6, r7, r8, r9) := H
               have A30 := Aside0.mk A300
               clear A300
               obtain ⟨ji31, hji31⟩ : ∃ j_ : Int, (wrap64 (x5_2 + 4)) = j_ := ⟨_, rfl⟩
               replace H : (if 0 ≤ (ji31) then (if (ji31) ≤ (wrap64 (x5_2 + 36)) then (if (wrap64 (x5_2 + 36)) ≤ (a0.size : Int) then (if x210005_2.length < 5864062014805 then (sphragisref10_inner.l0 k2 a0 (wrap64 (x5_2 + 36)) 2 ((t210) % 4294967296) ((t211) % 4294967296) (wrap64 (bt a0 2)) (x210005_2 ++ [(⟨(t212) % 4294967296, a0.extract ((ji31) : Int).toNat ((wrap64 (x5_2 + 36)) : Int).toNat⟩ : S28)]) 0 (⟨#[]⟩ : ByteArray)) else (none)) else (none)) else (none)) else (none)) = some (r1, r2, r3, r4, r5, r6, r7, r8, r9) := by first | (rw [hji31] at H; exact H) | (simp only [hji31] at H ⊢; exact H)
               (try rw [hji31] at c28b0)
               (try rw [hji31] at c28b1)
               (try rw [hji31] at c28)
               (try rw [hji31] at c29b0)
               (try rw [hji31] at c29b1)
               (try rw [hji31] at c29)
               (try rw [hji31] at A30)
               have hji31w : (IntKind.i64.wrap (x5_2 + 4)) = ji31 := (i64_w _).trans hji31
               by_cases c32 : 0 ≤ (ji31)
               ·rw [if_pos c32] at H
                have c32b0 := eq_true c32
                have c32b1 : decide (0 ≤ (ji31)) = true := decide_eq_true c32
                clear c32
                by_cases c33 : (ji31) ≤ (wrap64 (x5_2 + 36))
                ·rw [if_pos c33] at H
                 have c33b0 := eq_true c33
                 have c33b1 : decide ((ji31) ≤ (wrap64 (x5_2 + 36))) = true := decide_eq_true c33
                 by_cases c34 : (wrap64 (x5_2 + 36)) ≤ (a0.size : Int)
                 ·rw [if_pos c34] at H
                  have c34b0 := eq_true c34
                  have c34b1 : decide ((wrap64 (x5_2 + 36)) ≤ (a0.size : Int)) = true := decide_eq_true c34
                  by_cases c35 : x210005_2.length < 5864062014805
                  ·rw [if_pos c35] at H
                   have LMc35 := Aside0.mk c35
                   clear c35
                   obtain ⟨y213, hy213⟩ : ∃ y_ : List (S28), y_ = (x210005_2 ++ [(⟨(t212) % 4294967296, a0.extract ((ji31) : Int).toNat ((wrap64 (x5_2 + 36)) : Int).toNat⟩ : S28)]) := ⟨_, rfl⟩
                   replace H : (sphragisref10_inner.l0 k2 a0 (wrap64 (x5_2 + 36)) 2 ((t210) % 4294967296) ((t211) % 4294967296) (wrap64 (bt a0 2)) y213 0 (⟨#[]⟩ : ByteArray)) = some (r1, r2, r3, r4, r5, r6, r7, r8, r9) := by first | (rw [hy213]; with_reducible exact H) | (have H2_ := (Option.bind_some _ _).symm.trans H; rw [hy213]; with_reducible exact H2_) | (have H2_ := (Option.bind_some _ _).symm.trans H; with_reducible exact H2_) | with_reducible exact H | (rw [hy213]; exact H) | exact H
                   have Ny213 := Aside0.mk hy213
                   clear hy213
                   have H' := Aside0.mk H
                   clear H
                   try go_wp2
                   have n0_ := Aside0.mk (Kd.R_drew HO_210005.out)
                   have n1_ := Aside0.mk (blk_drew BK208.out)
                   have n2_ := Aside0.mk (blk_drew BK209.out)
                   have n3_ := Aside0.mk (below_drew1 HB.out)
                   clear HO_210005
                   clear BK208
                   clear BK209
                   clear HB
                   have HO_210005 := n0_
                   have BK208 := n1_
                   have BK209 := n2_
                   have HB := n3_
                   clear n0_ n1_ n2_ n3_
                   refine start_ (n := 20) (S := fun w' => w'.cell? ⟨gb209, 0, none⟩ = some (.int .i64 2) ∧ w'.cell? ⟨gb209, 1, none⟩ = some (.int .u32 ((t210) % 4294967296)) ∧ w'.cell? ⟨gb209, 2, none⟩ = some (.int .u32 ((t211) % 4294967296)) ∧ w'.cell? ⟨gb209, 3, none⟩ = some (.int .i64 (wrap64 (bt a0 2))) ∧ w'.cell? ⟨gb209, 4, none⟩ = some (.slice none 0 0) ∧ w'.cell? ⟨gb209, 5, none⟩ = some (u210005) ∧ w'.cell? ⟨gb209, 6, none⟩ = some (.int .u32 0) ∧ w'.cell? ⟨gb209, 7, none⟩ = some (.string (⟨#[]⟩ : ByteArray))) (ds := [19]) #[false, false, false, false, false, false, false, false, false, false, false, false, false, false, false, false, false, false, false, false] (by kernel_rfl) rfl rfl ⟨(blk_cell BK209.out 0).trans rfl, (blk_cell BK209.out 1).trans rfl, (blk_cell BK209.out 2).trans rfl, (blk_cell BK209.out 3).trans rfl, (blk_cell BK209.out 4).trans rfl, (blk_cell BK209.out 5).trans rfl, (blk_cell BK209.out 6).trans rfl, (blk_cell BK209.out 7).trans rfl⟩ (fun hHeld => ?_); refine with_tabW sphragisref10_inner.tab8 sphragisref10_inner.bits8 (fun HT_ HW_ => ?_)
                   generalize wr.drew = w36 at HO_210005 BK208 BK209 HB hHeld ⊢
                   refine pure_ (i := 0) (N := some 40) (v := ?_) (a' := ?_) #[true, false, false, false, false, false, false, false, false, false, false, false, false, false, false, false, false, false, false, false] rfl rfl (any_of HT_.out (by kernel_rfl)) (fun _ _ _ h => h) (Or.inl ⟨by rfl, ?_⟩) ?_ ?_
                   rotate_left
                   ·intro w'
                    go_simp
                    with_reducible rfl
                   rotate_left
                   ·simp only [Act.put, List.setIfInBounds_toArray, List.set_cons_zero, List.set_cons_succ, i64_w, i32_w]
                    rfl
                   refine pure_ (i := 2) (N := some 42) (v := ?_) (a' := ?_) #[true, false, true, false, false, false, false, false, false, false, false, false, false, false, false, false, false, false, false, false] rfl rfl (any_of HT_.out (by kernel_rfl)) (fun _ _ _ h => h) (Or.inl ⟨by rfl, ?_⟩) ?_ ?_
                   rotate_left
                   ·intro w'
                    go_simp
                    with_reducible rfl
                   rotate_left
                   ·simp only [Act.put, List.setIfInBounds_toArray, List.set_cons_zero, List.set_cons_succ, i64_w, i32_w]
                    rfl
                   refine pure_ (i := 3) (N := some 43) (v := ?_) (a' := ?_) #[true, false, true, true, false, false, false, false, false, false, false, false, false, false, false, false, false, false, false, false] rfl rfl (any_of HT_.out (by kernel_rfl)) (fun _ _ _ h => h) (Or.inl ⟨by rfl, ?_⟩) ?_ ?_
                   rotate_left
                   ·intro w'
                    go_simp
                    with_reducible rfl
                   rotate_left
                   ·simp only [Act.put, List.setIfInBounds_toArray, List.set_cons_zero, List.set_cons_succ, i64_w, i32_w]
                    rfl
                   refine pure_ (i := 4) (N := some 44) (v := ?_) (a' := ?_) #[true, false, true, true, true, false, false, false, false, false, false, false, false, false, false, false, false, false, false, false] rfl rfl (any_of HT_.out (by kernel_rfl)) (fun _ _ _ h => h) (Or.inl ⟨by rfl, ?_⟩) ?_ ?_
                   rotate_left
                   ·intro w'
                    go_simp
                    with_reducible rfl
                   rotate_left
                   ·simp only [Act.put, List.setIfInBounds_toArray, List.set_cons_zero, List.set_cons_succ, i64_w, i32_w]
                    rfl
                   refine pure_ (i := 5) (N := some 45) (v := ?_) (a' := ?_) #[true, false, true, true, true, true, false, false, false, false, false, false, false, false, false, false, false, false, false, false] rfl rfl (any_of HT_.out (by kernel_rfl)) (fun _ _ _ h => h) (Or.inl ⟨by rfl, ?_⟩) ?_ ?_
                   rotate_left
                   ·intro w'
                    go_simp
                    with_reducible rfl
                   rotate_left
                   ·simp only [Act.put, List.setIfInBounds_toArray, List.set_cons_zero, List.set_cons_succ, i64_w, i32_w]
                    rfl
                   refine pure_ (i := 6) (N := some 46) (v := ?_) (a' := ?_) #[true, false, true, true, true, true, true, false, false, false, false, false, false, false, false, false, false, false, false, false] rfl rfl (any_of HT_.out (by kernel_rfl)) (fun _ _ _ h => h) (Or.inl ⟨by rfl, ?_⟩) ?_ ?_
                   rotate_left
                   ·intro w'
                    go_simp
                    with_reducible rfl
                   rotate_left
                   ·simp only [Act.put, List.setIfInBounds_toArray, List.set_cons_zero, List.set_cons_succ, i64_w, i32_w]
                    rfl
                   refine pure_ (i := 9) (N := some 49) (v := ?_) (a' := ?_) #[true, false, true, true, true, true, true, false, false, true, false, false, false, false, false, false, false, false, false, false] rfl rfl (any_of HT_.out (by kernel_rfl)) (fun _ _ _ h => h) (Or.inl ⟨by rfl, ?_⟩) ?_ ?_
                   rotate_left
                   ·intro w'
                    go_simp
                    with_reducible rfl
                   rotate_left
                   ·simp only [Act.put, List.setIfInBounds_toArray, List.set_cons_zero, List.set_cons_succ, i64_w, i32_w]
                    rfl
                   refine pure_ (i := 10) (N := some 50) (v := ?_) (a' := ?_) #[true, false, true, true, true, true, true, false, false, true, true, false, false, false, false, false, false, false, false, false] rfl rfl (any_of HT_.out (by kernel_rfl)) (fun _ _ _ h => h) (Or.inl ⟨by rfl, ?_⟩) ?_ ?_
                   rotate_left
                   ·intro w'
                    go_simp
                    with_reducible rfl
                   rotate_left
                   ·simp only [Act.put, List.setIfInBounds_toArray, List.set_cons_zero, List.set_cons_succ, i64_w, i32_w]
                    rfl
                   refine pure_ (i := 11) (N := some 51) (v := ?_) (a' := ?_) #[true, false, true, true, true, true, true, false, false, true, true, true, false, false, false, false, false, false, false, false] rfl rfl (any_of HT_.out (by kernel_rfl)) (fun _ _ _ h => h) (Or.inl ⟨by rfl, ?_⟩) ?_ ?_
                   rotate_left
                   ·intro w'
                    go_simp
                    with_reducible rfl
                   rotate_left
                   ·simp only [Act.put, List.setIfInBounds_toArray, List.set_cons_zero, List.set_cons_succ, i64_w, i32_w]
                    rfl
                   refine pure_ (i := 12) (N := some 52) (v := ?_) (a' := ?_) #[true, false, true, true, true, true, true, false, false, true, true, true, true, false, false, false, false, false, false, false] rfl rfl (any_of HT_.out (by kernel_rfl)) (fun _ _ _ h => h) (Or.inl ⟨by rfl, ?_⟩) ?_ ?_
                   rotate_left
                   ·intro w'
                    go_simp
                    with_reducible rfl
                   rotate_left
                   ·simp only [Act.put, List.setIfInBounds_toArray, List.set_cons_zero, List.set_cons_succ, i64_w, i32_w]
                    rfl
                   refine pure_ (i := 13) (N := some 53) (v := ?_) (a' := ?_) #[true, false, true, true, true, true, true, false, false, true, true, true, true, true, false, false, false, false, false, false] rfl rfl (any_of HT_.out (by kernel_rfl)) (fun _ _ _ h => h) (Or.inl ⟨by rfl, ?_⟩) ?_ ?_
                   rotate_left
                   ·intro w'
                    go_simp
                    with_reducible rfl
                   rotate_left
                   ·simp only [Act.put, List.setIfInBounds_toArray, List.set_cons_zero, List.set_cons_succ, i64_w, i32_w]
                    rfl
                   refine pure_ (i := 14) (N := some 54) (v := ?_) (a' := ?_) #[true, false, true, true, true, true, true, false, false, true, true, true, true, true, true, false, false, false, false, false] rfl rfl (any_of HT_.out (by kernel_rfl)) (fun _ _ _ h => h) (Or.inl ⟨by rfl, ?_⟩) ?_ ?_
                   rotate_left
                   ·intro w'
                    go_simp
                    with_reducible rfl
                   rotate_left
                   ·simp only [Act.put, List.setIfInBounds_toArray, List.set_cons_zero, List.set_cons_succ, i64_w, i32_w]
                    rfl
                   refine take_ (i := 1) (N := some 41) (v := ?_) (a' := ?_) #[true, true, true, true, true, true, true, false, false, true, true, true, true, true, true, false, false, false, false, false] rfl rfl (take_ofW HT_.out HW_.out (by kernel_rfl)) (fun _ _ _ h => h) (Or.inl ⟨by rfl, ?_⟩) hHeld ?_ ?_
                   rotate_left
                   ·rintro w' ⟨s0, s1, s2, s3, s4, s5, s6, s7⟩
                    go_simp
                    with_reducible rfl
                   rotate_left
                   ·simp only [Act.put, List.setIfInBounds_toArray, List.set_cons_zero, List.set_cons_succ, i64_w, i32_w]
                    rfl
                   refine one_ (i := 7) (N := some 47) #[true, true, true, true, true, true, true, true, false, true, true, true, true, true, true, false, false, false, false, false] rfl rfl (one_of HT_.out (by kernel_rfl)) (by decide) (fun K hK => ?_)
                   refine goes_ Try.func49 (by kernel_rfl) rfl #[.string (a0.extract (x5_2 : Int).toNat ((ji31) : Int).toNat)] (by rfl) rfl rfl (by (try simp only [List.map_toArray, List.map_cons, List.map_nil]); first | done | (simp only [hji31]; rfl) | rfl | (simp only [List.length_drop, List.length_take]; rfl)) ?_
                   with_reducible refine (sphragisref10_get.calls k2 (a0.extract (x5_2 : Int).toNat ((ji31) : Int).toNat) t212 _ A30.out).mono ?_
                   rintro e w' ⟨rfl, ⟨nd, rfl⟩⟩
                   refine ⟨_, rfl, ?_⟩
                   refine hK.out _ _ ⟨(blk_cell BK209.out 0).trans rfl, (blk_cell BK209.out 1).trans rfl, (blk_cell BK209.out 2).trans rfl, (blk_cell BK209.out 3).trans rfl, (blk_cell BK209.out 4).trans rfl, (blk_cell BK209.out 5).trans rfl, (blk_cell BK209.out 6).trans rfl, (blk_cell BK209.out 7).trans rfl⟩ (fun hHeld => ?_)
                   clear hK K
                   refine norm_ (a' := ?_) ?_ ?_
                   rotate_left
                   ·show Act.put _ (some 47) _ = _
                    simp only [Act.put, List.setIfInBounds_toArray, List.set_cons_zero, List.set_cons_succ, i64_w, i32_w]
                    rfl
                   refine pure_ (i := 8) (N := some 48) (v := ?_) (a' := ?_) #[true, true, true, true, true, true, true, true, true, true, true, true, true, true, true, false, false, false, false, false] rfl rfl (any_of HT_.out (by kernel_rfl)) (fun _ _ _ h => h) (Or.inl ⟨by rfl, ?_⟩) ?_ ?_
                   rotate_left
                   ·intro w'
                    go_simp
                    with_reducible rfl
                   rotate_left
                   ·simp only [Act.put, List.setIfInBounds_toArray, List.set_cons_zero, List.set_cons_succ, i64_w, i32_w]
                    rfl
                   refine pure_ (i := 15) (N := some 55) (v := ?_) (a' := ?_) #[true, true, true, true, true, true, true, true, true, true, true, true, true, true, true, true, false, false, false, false] rfl rfl (any_of HT_.out (by kernel_rfl)) (fun _ _ _ h => h) (Or.inl ⟨by rfl, ?_⟩) ?_ ?_
                   rotate_left
                   ·intro w'
                    go_simp
                    with_reducible rfl
                   rotate_left
                   ·simp only [Act.put, List.setIfInBounds_toArray, List.set_cons_zero, List.set_cons_succ, i64_w, i32_w]
                    rfl
                   refine one_ (i := 16) (N := some 56) #[true, true, true, true, true, true, true, true, true, true, true, true, true, true, true, true, true, false, false, false] rfl rfl (one_of HT_.out (by kernel_rfl)) (by decide) (fun K hK => ?_)
                   refine value_ (w1 := ?_) (v := ?_) (by rfl) rfl ?_ ?_
                   rotate_left 2
                   ·go_simp
                    constructor
                    ·rfl
                    ·rfl
                   refine hK.out _ _ ⟨(blk_cell (blk_alloc BK209.out _) 0).trans rfl, (blk_cell (blk_alloc BK209.out _) 1).trans rfl, (blk_cell (blk_alloc BK209.out _) 2).trans rfl, (blk_cell (blk_alloc BK209.out _) 3).trans rfl, (blk_cell (blk_alloc BK209.out _) 4).trans rfl, (blk_cell (blk_alloc BK209.out _) 5).trans rfl, (blk_cell (blk_alloc BK209.out _) 6).trans rfl, (blk_cell (blk_alloc BK209.out _) 7).trans rfl⟩ (fun hHeld => ?_)
                   clear hK K
                   refine norm_ (a' := ?_) ?_ ?_
                   rotate_left
                   ·show Act.put _ (some 56) _ = _
                    simp only [Act.put, List.setIfInBounds_toArray, List.set_cons_zero, List.set_cons_succ, i64_w, i32_w]
                    rfl
                   refine one_ (i := 17) (N := some 57) #[true, true, true, true, true, true, true, true, true, true, true, true, true, true, true, true, true, true, false, false] rfl rfl (one_of HT_.out (by kernel_rfl)) (by decide) (fun K hK => ?_)
                   refine Kd.R_append_step k28 (w0 := w) w.heap.size (by rfl) (.tmp 41) (.tmp 56) 26 28 (.agg #[(.int .u32 0), (.string ⟨#[]⟩)]) 24 rfl Try.underlying26 info28 rfl (by decide) (by omega) u210005 x210005_2 (⟨(t212) % 4294967296, a0.extract ((ji31) : Int).toNat ((wrap64 (x5_2 + 36)) : Int).toNat⟩ : S28) [.int .u32 ((t212) % 4294967296), .string (a0.extract ((ji31) : Int).toNat ((wrap64 (x5_2 + 36)) : Int).toNat)] (fun _ => True) (fun _ => False) rfl rfl ?aP (fun _ hk => hk.elim) ?aF ?aO ?aB ?aS ?aL ?_
                   (case aP => exact k28_mkM _ _ _ (⟨(t212) % 4294967296, a0.extract ((ji31) : Int).toNat ((wrap64 (x5_2 + 36)) : Int).toNat⟩ : S28))
                   (case aB => exact (by repeat (first | (with_reducible first | exact HB.out | apply below_alloc | apply pw_below_drewN | apply below_drew1 | refine below_set ?_ GE208.out | refine below_set ?_ GE209.out) | exact HB.out)))
                   (case aF => exact (fun _ _ => trivial))
                   (case aO => exact (by (with_reducible repeat (first | apply Kd.R_alloc | apply Kd.R_drewN | apply Kd.R_drew)); exact HO_210005.out))
                   (case aS => exact (below_size (by repeat (first | (with_reducible first | exact HB.out | apply below_alloc | apply pw_below_drewN | apply below_drew1 | refine below_set ?_ GE208.out | refine below_set ?_ GE209.out) | exact HB.out))))
                   (case aL => have := LMc35.out; omega)
                   intro v214 w37 ho hb hg hat
                   rw [← Ny213.out] at ho
                   have n0_ := Aside0.mk (blk_grown (g := gb208) (o := .cells #[.int .i64 0, .int .u32 0, .int .u32 0, .int .i64 0, .slice none 0 0, .slice none 0 0, .int .u32 0, .string (⟨#[]⟩ : ByteArray)] 30 (0, 0)) (by (with_reducible repeat (first | refine blk_drewN ?_ _ | refine blk_drew ?_ | refine blk_alloc ?_ _)); exact BK208.out) hg (Kd.R_ne HO_210005.out BK208.out (by decide)))
                   have n1_ := Aside0.mk (blk_grown (g := gb209) (o := .cells #[.int .i64 2, .int .u32 ((t210) % 4294967296), .int .u32 ((t211) % 4294967296), .int .i64 (wrap64 (bt a0 2)), .slice none 0 0, u210005, .int .u32 0, .string (⟨#[]⟩ : ByteArray)] 30 (0, 0)) (by (with_reducible repeat (first | refine blk_drewN ?_ _ | refine blk_drew ?_ | refine blk_alloc ?_ _)); exact BK209.out) hg (Kd.R_ne HO_210005.out BK209.out (by decide)))
                   have n2_ := Aside0.mk (hb)
                   have n3_ := Aside0.mk (ho)
                   clear BK208
                   clear BK209
                   clear HB
                   clear HO_210005
                   have BK208 := n0_
                   have BK209 := n1_
                   have HB := n2_
                   have HO215 := n3_
                   clear n0_ n1_ n2_ n3_
                   clear ho hb hg hat
                   obtain ⟨Ao38, co38, eo38⟩ := Kd.R_slice HO215.out
                   (first | subst eo38 | (injection eo38 with f1_ f2_ f3_; have f4_ := f1_.symm; have f5_ := f3_.symm; clear f1_ f2_ f3_; subst f4_; subst f5_))
                   refine hK.out _ _ ⟨(blk_cell BK209.out 0).trans rfl, (blk_cell BK209.out 1).trans rfl, (blk_cell BK209.out 2).trans rfl, (blk_cell BK209.out 3).trans rfl, (blk_cell BK209.out 4).trans rfl, (blk_cell BK209.out 5).trans rfl, (blk_cell BK209.out 6).trans rfl, (blk_cell BK209.out 7).trans rfl⟩ (fun hHeld => ?_)
                   clear hK K
                   refine norm_ (a' := ?_) ?_ ?_
                   rotate_left
                   ·show Act.put _ (some 57) _ = _
                    simp only [Act.put, List.setIfInBounds_toArray, List.set_cons_zero, List.set_cons_succ, i64_w, i32_w]
                    rfl
                   refine pure_ (i := 18) (N := some 58) (v := ?_) (a' := ?_) #[true, true, true, true, true, true, true, true, true, true, true, true, true, true, true, true, true, true, true, false] rfl rfl (any_of HT_.out (by kernel_rfl)) (fun _ _ _ h => h) (Or.inl ⟨by rfl, ?_⟩) ?_ ?_
                   rotate_left
                   ·intro w'
                    go_simp
                    with_reducible rfl
                   rotate_left
                   ·simp only [Act.put, List.setIfInBounds_toArray, List.set_cons_zero, List.set_cons_succ, i64_w, i32_w]
                    rfl
                   refine last_ (i := 19) (N := none) #[true, true, true, true, true, true, true, true, true, true, true, true, true, true, true, true, true, true, true, true] rfl rfl (one_of HT_.out (by kernel_rfl)) (by decide) (fun K hK => ?_)
                   have hs39 : w37.cell? ⟨gb209, 5, none⟩ = some (u210005) := (blk_cell BK209.out 5).trans rfl
                   have hfs39 := blk_frozen BK209.out 5
                   have hns39_0 := NB208_209.out
                   have hms39_0 := NB209_208.out
                   refine skip_ (w1 := ?_) (by rfl) rfl ?_ ?_
                   rotate_left
                   ·go_simp
                    rfl
                   refine hK.out _ _ ?_
                   clear hK K
                   refine done_ (done_of HT_.out (by kernel_rfl)) ?_
                   try go_wp2
                   go_roundg k2
                   case measure => have := HJ1.out; have := HK2.out; omega
                   case rel => exact ⟨(wrap64 (x5_2 + 36)), (y213), (.slice Ao38 y213.length co38), (by first | rfl | (simp; done) | (simp [*]; done)), H', ⟨by have := HJ1.out; have := HK2.out; omega⟩, ⟨by (with_reducible repeat (first | apply Kd.R_alloc | apply Kd.R_drewN | apply Kd.R_drew)); exact Kd.R_mono (Kd.R_far (p := ⟨gb209, 5, none⟩) (Kd.R_types HO215.out BK209.out (by decide)) (fun _ hk => hk.2) (.slice Ao38 y213.length co38)) (fun _ hk => trivial)⟩, ⟨by (with_reducible repeat (first | refine blk_drewN ?_ _ | refine blk_drew ?_ | refine blk_alloc ?_ _)); refine blk_far ?_ NB208_209.out _; (with_reducible repeat (first | refine blk_drewN ?_ _ | refine blk_drew ?_ | refine blk_alloc ?_ _)); exact BK208.out⟩, ⟨by (with_reducible repeat (first | refine blk_drewN ?_ _ | refine blk_drew ?_ | refine blk_alloc ?_ _)); refine blk_put (cs := #[.int .i64 2, .int .u32 ((t210) % 4294967296), .int .u32 ((t211) % 4294967296), .int .i64 (wrap64 (bt a0 2)), .slice none 0 0, u210005, .int .u32 0, .string (⟨#[]⟩ : ByteArray)]) ?_ 5 _ rfl; (with_reducible repeat (first | refine blk_drewN ?_ _ | refine blk_drew ?_ | refine blk_alloc ?_ _)); exact BK209.out⟩, ⟨by repeat (first | (with_reducible first | exact HB.out | apply below_alloc | apply pw_below_drewN | apply below_drew1 | refine below_set ?_ GE208.out | refine below_set ?_ GE209.out) | exact HB.out)⟩⟩
                  ·rw [if_neg c35] at H
                   exact absurd H (by simp)
                 ·rw [if_neg c34] at H
                  exact absurd H (by simp)
                ·rw [if_neg c33] at H
                 exact absurd H (by simp)
               ·rw [if_neg c32] at H
                exact absurd H (by simp)
              ·rw [if_neg c29] at H
               exact absurd H (by simp)
             ·rw [if_neg c28] at H
              exact absurd H (by simp)
            ·rw [if_neg c27] at H
             exact absurd H (by simp)
           ·rw [if_neg c26] at H
            have c26b0 : decide (x5_2 < (a0.size : Int)) = false := decide_eq_false c26
            clear c26
            simp only [Option.some.injEq, Prod.mk.injEq] at H
            obtain ⟨rfl, rfl, rfl, rfl, rfl, rfl, rfl, rfl, rfl⟩ := H
            have hnb40 := NB209_208.out
            have hnc40 := NB208_209.out
            have hcz41_0 : wr.cell? ⟨gb209, 0, none⟩ = some (.int .i64 2) := (blk_cell BK209.out 0).trans rfl
            have hcz41_1 : wr.cell? ⟨gb209, 1, none⟩ = some (.int .u32 ((t210) % 4294967296)) := (blk_cell BK209.out 1).trans rfl
            have hcz41_2 : wr.cell? ⟨gb209, 2, none⟩ = some (.int .u32 ((t211) % 4294967296)) := (blk_cell BK209.out 2).trans rfl
            have hcz41_3 : wr.cell? ⟨gb209, 3, none⟩ = some (.int .i64 (wrap64 (bt a0 2))) := (blk_cell BK209.out 3).trans rfl
            have hcz41_4 : wr.cell? ⟨gb209, 4, none⟩ = some (.slice none 0 0) := (blk_cell BK209.out 4).trans rfl
            have hcz41_5 : wr.cell? ⟨gb209, 5, none⟩ = some (u210005) := (blk_cell BK209.out 5).trans rfl
            have hcz41_6 : wr.cell? ⟨gb209, 6, none⟩ = some (.int .u32 0) := (blk_cell BK209.out 6).trans rfl
            have hcz41_7 : wr.cell? ⟨gb209, 7, none⟩ = some (.string (⟨#[]⟩ : ByteArray)) := (blk_cell BK209.out 7).trans rfl
            have hfz41_0 := blk_frozen BK209.out 0
            have hfz41_1 := blk_frozen BK209.out 1
            have hfz41_2 := blk_frozen BK209.out 2
            have hfz41_3 := blk_frozen BK209.out 3
            have hfz41_4 := blk_frozen BK209.out 4
            have hfz41_5 := blk_frozen BK209.out 5
            have hfz41_6 := blk_frozen BK209.out 6
            have hfz41_7 := blk_frozen BK209.out 7
            have hcz42_0 : wr.cell? ⟨gb208, 0, none⟩ = some (.int .i64 0) := (blk_cell BK208.out 0).trans rfl
            have hcz42_1 : wr.cell? ⟨gb208, 1, none⟩ = some (.int .u32 0) := (blk_cell BK208.out 1).trans rfl
            have hcz42_2 : wr.cell? ⟨gb208, 2, none⟩ = some (.int .u32 0) := (blk_cell BK208.out 2).trans rfl
            have hcz42_3 : wr.cell? ⟨gb208, 3, none⟩ = some (.int .i64 0) := (blk_cell BK208.out 3).trans rfl
            have hcz42_4 : wr.cell? ⟨gb208, 4, none⟩ = some (.slice none 0 0) := (blk_cell BK208.out 4).trans rfl
            have hcz42_5 : wr.cell? ⟨gb208, 5, none⟩ = some (.slice none 0 0) := (blk_cell BK208.out 5).trans rfl
            have hcz42_6 : wr.cell? ⟨gb208, 6, none⟩ = some (.int .u32 0) := (blk_cell BK208.out 6).trans rfl
            have hcz42_7 : wr.cell? ⟨gb208, 7, none⟩ = some (.string (⟨#[]⟩ : ByteArray)) := (blk_cell BK208.out 7).trans rfl
            have hfz42_0 := blk_frozen BK208.out 0
            have hfz42_1 := blk_frozen BK208.out 1
            have hfz42_2 := blk_frozen BK208.out 2
            have hfz42_3 := blk_frozen BK208.out 3
            have hfz42_4 := blk_frozen BK208.out 4
            have hfz42_5 := blk_frozen BK208.out 5
            have hfz42_6 := blk_frozen BK208.out 6
            have hfz42_7 := blk_frozen BK208.out 7
            obtain ⟨Ao43, co43, eo43⟩ := Kd.R_slice HO_210005.out
            subst eo43
            go_wp2
            refine bodyPost_ret (results_ct rfl _ _ gb208 30 #[.int .i64 2, .int .u32 ((t210) % 4294967296), .int .u32 ((t211) % 4294967296), .int .i64 (wrap64 (bt a0 2)), .slice none 0 0, .slice Ao43 x210005_2.length co43, .int .u32 0, .string (⟨#[]⟩ : ByteArray)] (0, 0) _ rfl (by (with_reducible repeat (first | refine blk_drewN ?_ _ | refine blk_drew ?_ | refine blk_alloc ?_ _)); refine blk_put (cs := #[.int .i64 2, .int .u32 ((t210) % 4294967296), .int .u32 ((t211) % 4294967296), .int .i64 (wrap64 (bt a0 2)), .slice none 0 0, .slice Ao43 x210005_2.length co43, .int .u32 0, .string (⟨#[]⟩ : ByteArray)]) ?_ 7 _ rfl; (with_reducible repeat (first | refine blk_drewN ?_ _ | refine blk_drew ?_ | refine blk_alloc ?_ _)); refine blk_put (cs := #[.int .i64 2, .int .u32 ((t210) % 4294967296), .int .u32 ((t211) % 4294967296), .int .i64 (wrap64 (bt a0 2)), .slice none 0 0, .slice Ao43 x210005_2.length co43, .int .u32 0, .string (⟨#[]⟩ : ByteArray)]) ?_ 6 _ rfl; (with_reducible repeat (first | refine blk_drewN ?_ _ | refine blk_drew ?_ | refine blk_alloc ?_ _)); refine blk_put (cs := #[.int .i64 2, .int .u32 ((t210) % 4294967296), .int .u32 ((t211) % 4294967296), .int .i64 (wrap64 (bt a0 2)), .slice none 0 0, .slice none 0 0, .int .u32 0, .string (⟨#[]⟩ : ByteArray)]) ?_ 5 _ rfl; (with_reducible repeat (first | refine blk_drewN ?_ _ | refine blk_drew ?_ | refine blk_alloc ?_ _)); refine blk_put (cs := #[.int .i64 2, .int .u32 ((t210) % 4294967296), .int .u32 ((t211) % 4294967296), .int .i64 (wrap64 (bt a0 2)), .slice none 0 0, .slice none 0 0, .int .u32 0, .string (⟨#[]⟩ : ByteArray)]) ?_ 4 _ rfl; (with_reducible repeat (first | refine blk_drewN ?_ _ | refine blk_drew ?_ | refine blk_alloc ?_ _)); refine blk_put (cs := #[.int .i64 2, .int .u32 ((t210) % 4294967296), .int .u32 ((t211) % 4294967296), .int .i64 0, .slice none 0 0, .slice none 0 0, .int .u32 0, .string (⟨#[]⟩ : ByteArray)]) ?_ 3 _ rfl; (with_reducible repeat (first | refine blk_drewN ?_ _ | refine blk_drew ?_ | refine blk_alloc ?_ _)); refine blk_put (cs := #[.int .i64 2, .int .u32 ((t210) % 4294967296), .int .u32 0, .int .i64 0, .slice none 0 0, .slice none 0 0, .int .u32 0, .string (⟨#[]⟩ : ByteArray)]) ?_ 2 _ rfl; (with_reducible repeat (first | refine blk_drewN ?_ _ | refine blk_drew ?_ | refine blk_alloc ?_ _)); refine blk_put (cs := #[.int .i64 2, .int .u32 0, .int .u32 0, .int .i64 0, .slice none 0 0, .slice none 0 0, .int .u32 0, .string (⟨#[]⟩ : ByteArray)]) ?_ 1 _ rfl; (with_reducible repeat (first | refine blk_drewN ?_ _ | refine blk_drew ?_ | refine blk_alloc ?_ _)); refine blk_put (cs := #[.int .i64 0, .int .u32 0, .int .u32 0, .int .i64 0, .slice none 0 0, .slice none 0 0, .int .u32 0, .string (⟨#[]⟩ : ByteArray)]) ?_ 0 _ rfl; (with_reducible repeat (first | refine blk_drewN ?_ _ | refine blk_drew ?_ | refine blk_alloc ?_ _)); exact BK208.out) Try.underlying30 rfl (by kernel_rfl)) rfl ?_
            exact ⟨_, _, by first | rfl | (simp [errW_none, errW_some] <;> rfl) | (simp [*, errW_none, errW_some] <;> rfl), by first | exact Kd.R_nil _ _ _ _ _ | exact Kd.N_nil _ _ _ _ _ | exact Kd.V_nil _ _ _ _ _ | exact Kd.Q_nil _ _ _ _ _ | exact Kd.S_nil _ _ _ _ _, by (with_reducible repeat (first | apply Kd.R_alloc | apply Kd.R_drewN | apply Kd.R_drew)); exact Kd.R_mono (Kd.R_far (p := ⟨gb208, 7, none⟩) (Kd.R_far (p := ⟨gb208, 6, none⟩) (Kd.R_far (p := ⟨gb208, 5, none⟩) (Kd.R_far (p := ⟨gb208, 4, none⟩) (Kd.R_far (p := ⟨gb208, 3, none⟩) (Kd.R_far (p := ⟨gb208, 2, none⟩) (Kd.R_far (p := ⟨gb208, 1, none⟩) (Kd.R_far (p := ⟨gb208, 0, none⟩) (Kd.R_types HO_210005.out BK208.out (by decide)) (fun _ hk => hk.2) (.int .i64 2)) (fun _ hk => hk.2) (.int .u32 ((t210) % 4294967296))) (fun _ hk => hk.2) (.int .u32 ((t211) % 4294967296))) (fun _ hk => hk.2) (.int .i64 (wrap64 (bt a0 2)))) (fun _ hk => hk.2) (.slice none 0 0)) (fun _ hk => hk.2) (.slice Ao43 x210005_2.length co43)) (fun _ hk => hk.2) (.int .u32 0)) (fun _ hk => hk.2) (.string (⟨#[]⟩ : ByteArray))) (fun _ hk => trivial), by repeat (first | (with_reducible first | exact HB.out | apply below_alloc | apply pw_below_drewN | apply below_drew1 | refine below_set ?_ GE208.out | refine below_set ?_ GE209.out) | exact HB.out)⟩
        ·rw [if_neg c20] at H
         exact absurd H (by simp)
       ·rw [if_neg c18] at H
        exact absurd H (by simp)
      ·rw [if_neg c17] at H
       exact absurd H (by simp)
     ·rw [if_neg c15] at H
      exact absurd H (by simp)
    ·rw [if_neg c14] at H
     exact absurd H (by simp)

end Go.Proofs.Ytmeaiancebgkoaa.H
