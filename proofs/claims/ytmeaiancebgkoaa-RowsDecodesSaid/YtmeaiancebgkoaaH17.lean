-- Written by a program of this session (hyb.py), which drives the print over functions some of which are proved by hand.
import Derived.Test.YtmeaiancebgkoaaH0
import Derived.Test.YtmeaiancebgkoaaH16
namespace Go.Proofs.Ytmeaiancebgkoaa.H
open Go.RowKit Go.Proofs.YtmeaiancebgkoaaW.PrintWords Go.Proofs.YtmeaiancebgkoaaW.PrintLast Go.Proofs.YtmeaiancebgkoaaW.PrintMore
attribute [local go_sem] max2_int min2_int max_two min_two max_three min_three max_four min_four   -- for this text's walks alone
set_option linter.unusedVariables false
set_option linter.unusedSimpArgs false

/-! ### sphragisref10_leaf: function 35 -/
mutual
def sphragisref10_leaf.j0 : Nat → ByteArray → Bool → Int → Int → Int → Int → Int → ByteArray → Option (Int × Int × Int × Int × (List (S47)) × (List (S28)) × Int × ByteArray × Bool)
 | 0, _, _, _, _, _, _, _, _ => none
 | k + 1, x0, x32, x198000, x198001, x198002, x198003, x198006, x198007 => if x32 = true then (sphragisref10_leaf.j1 k x0 x198000 x198001 x198002 x198003 x198006 (⟨#[]⟩ : ByteArray)) else (sphragisref10_leaf.j1 k x0 x198000 x198001 x198002 x198003 x198006 x198007)
def sphragisref10_leaf.j1 : Nat → ByteArray → Int → Int → Int → Int → Int → ByteArray → Option (Int × Int × Int × Int × (List (S47)) × (List (S28)) × Int × ByteArray × Bool)
 | 0, _, _, _, _, _, _, _ => none
 | k + 1, x0, x198000, x198001, x198002, x198003, x198006, x198007 => sphragisref10_leaf.l0 k x0 38 0 x198000 x198001 x198002 x198003 ([] : List (S47)) x198006 x198007
def sphragisref10_leaf.l0 : Nat → ByteArray → Int → Int → Int → Int → Int → Int → List (S47) → Int → ByteArray → Option (Int × Int × Int × Int × (List (S47)) × (List (S28)) × Int × ByteArray × Bool)
 | 0, _, _, _, _, _, _, _, _, _, _ => none
 | k + 1, x0, x5, x6, x198000, x198001, x198002, x198003, x198004, x198006, x198007 => if 1 < (x0.size : Int) then (if x6 < (wrap64 (bt x0 1)) then (if (x0.size : Int) < (wrap64 (x5 + 17)) then (some (x198000, x198001, x198002, x198003, x198004, ([] : List (S28)), x198006, x198007, false)) else (if 0 ≤ (wrap64 (x5 + 16)) then (if (wrap64 (x5 + 16)) < (x0.size : Int) then (if (x0.size : Int) < (wrap64 ((wrap64 (x5 + 17)) + (wrap64 (bt x0 (wrap64 (x5 + 16)))))) then (some (x198000, x198001, x198002, x198003, x198004, ([] : List (S28)), x198006, x198007, false)) else (if 0 ≤ x5 then (if x5 ≤ (wrap64 (x5 + 8)) then (if (wrap64 (x5 + 8)) ≤ (x0.size : Int) then ((sphragisref10_get.f k (x0.extract (x5 : Int).toNat ((wrap64 (x5 + 8)) : Int).toNat)).bind fun t202 => (if 0 ≤ (wrap64 (x5 + 8)) then (if (wrap64 (x5 + 8)) ≤ (wrap64 (x5 + 12)) then (if (wrap64 (x5 + 12)) ≤ (x0.size : Int) then ((sphragisref10_get.f k (x0.extract ((wrap64 (x5 + 8)) : Int).toNat ((wrap64 (x5 + 12)) : Int).toNat)).bind fun t203 => (if 0 ≤ (wrap64 (x5 + 12)) then (if (wrap64 (x5 + 12)) ≤ (wrap64 (x5 + 16)) then (if (wrap64 (x5 + 16)) ≤ (x0.size : Int) then ((sphragisref10_get.f k (x0.extract ((wrap64 (x5 + 12)) : Int).toNat ((wrap64 (x5 + 16)) : Int).toNat)).bind fun t204 => (if 0 ≤ (wrap64 (x5 + 17)) then (if (wrap64 (x5 + 17)) ≤ (wrap64 ((wrap64 (x5 + 17)) + (wrap64 (bt x0 (wrap64 (x5 + 16)))))) then (if (wrap64 ((wrap64 (x5 + 17)) + (wrap64 (bt x0 (wrap64 (x5 + 16)))))) ≤ (x0.size : Int) then (if x198004.length < 4398046511104 then (sphragisref10_leaf.l0 k x0 (wrap64 ((wrap64 (x5 + 17)) + (wrap64 (bt x0 (wrap64 (x5 + 16)))))) (wrap64 (x6 + 1)) x198000 x198001 x198002 x198003 (x198004 ++ [(⟨t202, (t203) % 4294967296, (t204) % 4294967296, x0.extract ((wrap64 (x5 + 17)) : Int).toNat ((wrap64 ((wrap64 (x5 + 17)) + (wrap64 (bt x0 (wrap64 (x5 + 16)))))) : Int).toNat⟩ : S47)]) x198006 x198007) else (none)) else (none)) else (none)) else (none))) else (none)) else (none)) else (none))) else (none)) else (none)) else (none))) else (none)) else (none)) else (none))) else (none)) else (none))) else (some (x198000, x198001, x198002, x198003, x198004, ([] : List (S28)), x198006, x198007, (x5 == (x0.size : Int))))) else (none)
end
def sphragisref10_leaf.f (k : Nat) (a0 : ByteArray) : Option (Int × Int × Int × Int × (List (S47)) × (List (S28)) × Int × ByteArray × Bool) := if (a0.size : Int) < 38 then (some (1, 0, 0, 0, ([] : List (S47)), ([] : List (S28)), 0, (⟨#[]⟩ : ByteArray), false)) else (if 2 ≤ 6 then (if 6 ≤ (a0.size : Int) then ((sphragisref10_get.f k (a0.extract 2 6)).bind fun t198 => (if 6 ≤ 38 then (if 38 ≤ (a0.size : Int) then (if ((t198) % 4294967296) = 0 then (if 32 ≤ 281474976710656 then (sphragisref10_leaf.j0 k a0 ((a0.extract 6 38).toList == (strOfNums (List.replicate 32 0)).toList) 1 0 0 0 ((t198) % 4294967296) (a0.extract 6 38)) else (none)) else (sphragisref10_leaf.j0 k a0 false 1 0 0 0 ((t198) % 4294967296) (a0.extract 6 38))) else (none)) else (none))) else (none)) else (none))
theorem sphragisref10_leaf.mono_l : ∀ k, (∀ y0 y1 y2 y3 y4 y5 y6 y7, LeO (sphragisref10_leaf.j0 k y0 y1 y2 y3 y4 y5 y6 y7) (sphragisref10_leaf.j0 (k + 1) y0 y1 y2 y3 y4 y5 y6 y7)) ∧ (∀ y0 y1 y2 y3 y4 y5 y6, LeO (sphragisref10_leaf.j1 k y0 y1 y2 y3 y4 y5 y6) (sphragisref10_leaf.j1 (k + 1) y0 y1 y2 y3 y4 y5 y6)) ∧ (∀ y0 y1 y2 y3 y4 y5 y6 y7 y8 y9, LeO (sphragisref10_leaf.l0 k y0 y1 y2 y3 y4 y5 y6 y7 y8 y9) (sphragisref10_leaf.l0 (k + 1) y0 y1 y2 y3 y4 y5 y6 y7 y8 y9))
 | 0 => ⟨fun _ _ _ _ _ _ _ _ r h => by simp [sphragisref10_leaf.j0] at h, fun _ _ _ _ _ _ _ r h => by simp [sphragisref10_leaf.j1] at h, fun _ _ _ _ _ _ _ _ _ _ r h => by simp [sphragisref10_leaf.l0] at h⟩
 | k + 1 => by
  obtain ⟨ih0, ih1, ih2⟩ := sphragisref10_leaf.mono_l k
  refine ⟨?_, ?_, ?_⟩
  ·intro y0 y1 y2 y3 y4 y5 y6 y7
   unfold sphragisref10_leaf.j0
   repeat' first
   | (with_reducible exact ih0 _ _ _ _ _ _ _ _)
   | (with_reducible exact ih1 _ _ _ _ _ _ _)
   | (with_reducible exact ih2 _ _ _ _ _ _ _ _ _ _)
   | (with_reducible exact sphragisref10_get.mono _ _)
   | (with_reducible exact LeO.refl _)
   | (with_reducible exact LeO.none _)
   | (with_reducible refine LeO.ite ?_ ?_)
   | (with_reducible refine LeO.bind ?_ (fun _ => ?_))
   | exact ih0 _ _ _ _ _ _ _ _
   | exact ih1 _ _ _ _ _ _ _
   | exact ih2 _ _ _ _ _ _ _ _ _ _
   | exact sphragisref10_get.mono _ _
   | exact LeO.none _
   | refine LeO.ite ?_ ?_
   | refine LeO.bind ?_ (fun _ => ?_)
  ·intro y0 y1 y2 y3 y4 y5 y6
   unfold sphragisref10_leaf.j1
   repeat' first
   | (with_reducible exact ih0 _ _ _ _ _ _ _ _)
   | (with_reducible exact ih1 _ _ _ _ _ _ _)
   | (with_reducible exact ih2 _ _ _ _ _ _ _ _ _ _)
   | (with_reducible exact sphragisref10_get.mono _ _)
   | (with_reducible exact LeO.refl _)
   | (with_reducible exact LeO.none _)
   | (with_reducible refine LeO.ite ?_ ?_)
   | (with_reducible refine LeO.bind ?_ (fun _ => ?_))
   | exact ih0 _ _ _ _ _ _ _ _
   | exact ih1 _ _ _ _ _ _ _
   | exact ih2 _ _ _ _ _ _ _ _ _ _
   | exact sphragisref10_get.mono _ _
   | exact LeO.none _
   | refine LeO.ite ?_ ?_
   | refine LeO.bind ?_ (fun _ => ?_)
  ·intro y0 y1 y2 y3 y4 y5 y6 y7 y8 y9
   unfold sphragisref10_leaf.l0
   repeat' first
   | (with_reducible exact ih0 _ _ _ _ _ _ _ _)
   | (with_reducible exact ih1 _ _ _ _ _ _ _)
   | (with_reducible exact ih2 _ _ _ _ _ _ _ _ _ _)
   | (with_reducible exact sphragisref10_get.mono _ _)
   | (with_reducible exact LeO.refl _)
   | (with_reducible exact LeO.none _)
   | (with_reducible refine LeO.ite ?_ ?_)
   | (with_reducible refine LeO.bind ?_ (fun _ => ?_))
   | exact ih0 _ _ _ _ _ _ _ _
   | exact ih1 _ _ _ _ _ _ _
   | exact ih2 _ _ _ _ _ _ _ _ _ _
   | exact sphragisref10_get.mono _ _
   | exact LeO.none _
   | refine LeO.ite ?_ ?_
   | refine LeO.bind ?_ (fun _ => ?_)
theorem sphragisref10_leaf.mono : ∀ a0 k, LeO (sphragisref10_leaf.f k a0) (sphragisref10_leaf.f (k + 1) a0) := by
 intro a0 k
 obtain ⟨ih0, ih1, ih2⟩ := sphragisref10_leaf.mono_l k
 unfold sphragisref10_leaf.f
 repeat' first
   | (with_reducible exact ih0 _ _ _ _ _ _ _ _)
   | (with_reducible exact ih1 _ _ _ _ _ _ _)
   | (with_reducible exact ih2 _ _ _ _ _ _ _ _ _ _)
   | (with_reducible exact sphragisref10_get.mono _ _)
   | (with_reducible exact LeO.refl _)
   | (with_reducible exact LeO.none _)
   | (with_reducible refine LeO.ite ?_ ?_)
   | (with_reducible refine LeO.bind ?_ (fun _ => ?_))
   | exact ih0 _ _ _ _ _ _ _ _
   | exact ih1 _ _ _ _ _ _ _
   | exact ih2 _ _ _ _ _ _ _ _ _ _
   | exact sphragisref10_get.mono _ _
   | exact LeO.none _
   | refine LeO.ite ?_ ?_
   | refine LeO.bind ?_ (fun _ => ?_)
def sphragisref10_leaf.T4 : Bool × List (List Nat × List Nat) := (true, [([], []), ([0], [0]), ([1], [1]), ([2], [2]), ([], []), ([4], [4]), ([3, 5], [3, 5]), ([0, 1, 2, 3, 4, 5, 6], []), ([7, 6, 2, 0, 1, 2, 3, 4, 5, 6], [6, 7])])
def sphragisref10_leaf.B4 : List Nat := [0, 1, 3, 7, 0, 16, 63, 127, 255]
theorem sphragisref10_leaf.tab4 : rtab .any (opsOf Try.f35 4) = sphragisref10_leaf.T4 := by kernel_rfl
theorem sphragisref10_leaf.bits4 : waitsOk sphragisref10_leaf.T4.2 sphragisref10_leaf.B4 = true := by kernel_rfl
def sphragisref10_leaf.T5 : Bool × List (List Nat × List Nat) := (true, [([], []), ([0], [0]), ([1], [1]), ([2], [2]), ([3], [3]), ([4], [4]), ([5, 4], [4, 5]), ([6, 4], [4, 6]), ([4], [4]), ([8, 4], [4, 8]), ([7, 9, 4], [4, 7, 9]), ([4, 10], [4, 10])])
def sphragisref10_leaf.B5 : List Nat := [0, 1, 3, 7, 15, 31, 63, 127, 31, 287, 1023, 2047]
theorem sphragisref10_leaf.tab5 : rtab .any (opsOf Try.f35 5) = sphragisref10_leaf.T5 := by kernel_rfl
theorem sphragisref10_leaf.bits5 : waitsOk sphragisref10_leaf.T5.2 sphragisref10_leaf.B5 = true := by kernel_rfl
def sphragisref10_leaf.T16 : Bool × List (List Nat × List Nat) := (true, [([], []), ([0], [0]), ([], []), ([], []), ([], []), ([4], [4]), ([2, 3, 5], [2, 3, 5]), ([6], [6]), ([], []), ([], []), ([9], [9]), ([], []), ([11], [11]), ([8, 10, 12], [8, 10, 12]), ([13, 7], [13]), ([14], [14]), ([], []), ([], []), ([17], [17]), ([], []), ([19], [19]), ([16, 18, 20], [16, 18, 20]), ([21, 14], [21]), ([22], [22]), ([], []), ([], []), ([25], [25]), ([], []), ([27], [27]), ([], []), ([28, 29], [28, 29]), ([24, 26, 30], [24, 26, 30]), ([7, 15, 23, 31], [7, 15, 23, 31]), ([32], [32]), ([1, 33, 22], [1, 33]), ([0, 1, 2, 3, 4, 5, 6, 7, 8, 9, 10, 11, 12, 13, 14, 15, 16, 17, 18, 19, 20, 21, 22, 23, 24, 25, 26, 27, 28, 29, 30, 31, 32, 33, 34], []), ([35, 34, 34, 0, 1, 2, 3, 4, 5, 6, 7, 8, 9, 10, 11, 12, 13, 14, 15, 16, 17, 18, 19, 20, 21, 22, 23, 24, 25, 26, 27, 28, 29, 30, 31, 32, 33, 34], [34, 35])])
def sphragisref10_leaf.B16 : List Nat := [0, 1, 0, 0, 0, 16, 60, 124, 0, 0, 512, 0, 2048, 7936, 16380, 32764, 0, 0, 131072, 0, 524288, 2031616, 4161532, 8355836, 0, 0, 33554432, 0, 134217728, 0, 939524096, 2130706432, 4294967292, 8589934588, 17179869183, 34359738367, 68719476735]
theorem sphragisref10_leaf.tab16 : rtab .any (opsOf Try.f35 16) = sphragisref10_leaf.T16 := by kernel_rfl
theorem sphragisref10_leaf.bits16 : waitsOk sphragisref10_leaf.T16.2 sphragisref10_leaf.B16 = true := by kernel_rfl
set_option maxHeartbeats 8000000 in
set_option maxRecDepth 100000 in
theorem sphragisref10_leaf.calls (k : Nat) (a0 : ByteArray) (r1 : Int) (r2 : Int) (r3 : Int) (r4 : Int) (r5 : List (S47)) (r6 : List (S28)) (r7 : Int) (r8 : ByteArray) (r9 : Bool) (w : World) (h : sphragisref10_leaf.f k a0 = some (r1, r2, r3, r4, r5, r6, r7, r8, r9)) :
  Calls Try.prog 35 #[.string a0] w fun e w' => ∃ v4_ v5_ : Value, e = .returned (.tuple #[.agg #[.int .i64 r1, .int .u32 r2, .int .u32 r3, .int .i64 r4, v4_, v5_, .int .u32 r7, .string r8], .bool r9]) ∧ Kd.R k47 47 w' w.heap.size (fun _ => True) v4_ r5 ∧ Kd.R k28 28 w' w.heap.size (fun _ => True) v5_ r6 ∧ Below w.heap.size w w' := by
 have hu30 := Try.underlying30
 have hu28 := Try.underlying28
 have hu47 := Try.underlying47
 have HB := Aside0.mk (Below.refl w.heap.size w)
 have H : (if (a0.size : Int) < 38 then (some (1, 0, 0, 0, ([] : List (S47)), ([] : List (S28)), 0, (⟨#[]⟩ : ByteArray), false)) else (if 2 ≤ 6 then (if 6 ≤ (a0.size : Int) then ((sphragisref10_get.f k (a0.extract 2 6)).bind fun t198 => (if 6 ≤ 38 then (if 38 ≤ (a0.size : Int) then (if ((t198) % 4294967296) = 0 then (if 32 ≤ 281474976710656 then (sphragisref10_leaf.j0 k a0 ((a0.extract 6 38).toList == (strOfNums (List.replicate 32 0)).toList) 1 0 0 0 ((t198) % 4294967296) (a0.extract 6 38)) else (none)) else (sphragisref10_leaf.j0 k a0 false 1 0 0 0 ((t198) % 4294967296) (a0.extract 6 38))) else (none)) else (none))) else (none)) else (none))) = some (r1, r2, r3, r4, r5, r6, r7, r8, r9) := h
 clear h
 by_cases c2 : (a0.size : Int) < 38
 ·rw [if_pos c2] at H
  have c2b0 : decide ((a0.size : Int) < 38) = true := decide_eq_true c2
  have c2b1 : decide (a0.size < 38) = true := decide_eq_true (by omega)
  clear c2
  simp only [Option.some.injEq, Prod.mk.injEq] at H
  obtain ⟨rfl, rfl, rfl, rfl, rfl, rfl, rfl, rfl, rfl⟩ := H
  go_enter Try.func35, Try.ntmps35
  go_wp2_with (first | ((with_reducible refine gate_dst (N := 2) rfl ?_); (try (refine gate_guard (by rfl) ?_; dsimp only)); refine box_event ?hg (N := 2) ?hd (cs := #[.int .i64 0, .int .u32 0, .int .u32 0, .int .i64 0, .slice none 0 0, .slice none 0 0, .int .u32 0, .string (⟨#[]⟩ : ByteArray)]) (t := 30) ?hr ?_; (case hd => rfl); (case hg => rfl); (case hr => first | (go_simp; done) | (go_simp; rfl)); intro gb196 hg w3 hbox hb; have n0_ := Aside0.mk (below_step (by repeat (first | (with_reducible first | exact HB.out | apply below_alloc | apply pw_below_drewN | apply below_drew1) | exact HB.out)) hb); have n1_ := Aside0.mk (hbox); have n2_ := Aside0.mk ((by rw [hg]; exact (below_size (by repeat (first | (with_reducible first | exact HB.out | apply below_alloc | apply pw_below_drewN | apply below_drew1) | exact HB.out))) : w.heap.size ≤ gb196)); have n3_ := Aside0.mk ((by rw [hg]; exact (below_size (by repeat (first | (with_reducible first | exact HB.out | apply below_alloc | apply pw_below_drewN | apply below_drew1) | exact HB.out))) : w.heap.size ≤ gb196)); clear HB; have HB := n0_; have BK196 := n1_; have GW196 := n2_; have GE196 := n3_; clear n0_ n1_ n2_ n3_; clear hb hbox hg) | ((with_reducible refine gate_dst (N := 4) rfl ?_); (try (refine gate_guard (by rfl) ?_; dsimp only)); refine box_event ?hg (N := 4) ?hd (cs := #[.int .i64 0, .int .u32 0, .int .u32 0, .int .i64 0, .slice none 0 0, .slice none 0 0, .int .u32 0, .string (⟨#[]⟩ : ByteArray)]) (t := 30) ?hr ?_; (case hd => rfl); (case hg => rfl); (case hr => first | (go_simp; done) | (go_simp; rfl)); intro gb197 hg w4 hbox hb; have n0_ := Aside0.mk (blk_below (g := gb196) (o := .cells #[.int .i64 0, .int .u32 0, .int .u32 0, .int .i64 0, .slice none 0 0, .slice none 0 0, .int .u32 0, .string (⟨#[]⟩ : ByteArray)] 30 (0, 0)) (by (with_reducible repeat (first | refine blk_drewN ?_ _ | refine blk_drew ?_ | refine blk_alloc ?_ _)); exact BK196.out) hb); have n1_ := Aside0.mk (below_step (by repeat (first | (with_reducible first | exact HB.out | apply below_alloc | apply pw_below_drewN | apply below_drew1 | refine below_set ?_ GE196.out) | exact HB.out)) hb); have n2_ := Aside0.mk (hbox); have n3_ := Aside0.mk ((by rw [hg]; exact (below_size (by repeat (first | (with_reducible first | exact HB.out | apply below_alloc | apply pw_below_drewN | apply below_drew1 | refine below_set ?_ GE196.out) | exact HB.out))) : w.heap.size ≤ gb197)); have n4_ := Aside0.mk ((by rw [hg]; exact (below_size (by repeat (first | (with_reducible first | exact HB.out | apply below_alloc | apply pw_below_drewN | apply below_drew1 | refine below_set ?_ GE196.out) | exact HB.out))) : w.heap.size ≤ gb197)); have n5_ := Aside0.mk ((by rw [hg]; exact Nat.ne_of_lt (blk_lt (g := gb196) (o := .cells #[.int .i64 0, .int .u32 0, .int .u32 0, .int .i64 0, .slice none 0 0, .slice none 0 0, .int .u32 0, .string (⟨#[]⟩ : ByteArray)] 30 (0, 0)) (by (with_reducible repeat (first | refine blk_drewN ?_ _ | refine blk_drew ?_ | refine blk_alloc ?_ _)); exact BK196.out)) : gb196 ≠ gb197)); have n6_ := Aside0.mk ((by rw [hg]; exact Nat.ne_of_gt (blk_lt (g := gb196) (o := .cells #[.int .i64 0, .int .u32 0, .int .u32 0, .int .i64 0, .slice none 0 0, .slice none 0 0, .int .u32 0, .string (⟨#[]⟩ : ByteArray)] 30 (0, 0)) (by (with_reducible repeat (first | refine blk_drewN ?_ _ | refine blk_drew ?_ | refine blk_alloc ?_ _)); exact BK196.out)) : gb197 ≠ gb196)); clear BK196; clear HB; have BK196 := n0_; have HB := n1_; have BK197 := n2_; have GW197 := n3_; have GE197 := n4_; have NB196_197 := n5_; have NB197_196 := n6_; clear n0_ n1_ n2_ n3_ n4_ n5_ n6_; clear hb hbox hg; have hnb5 := NB197_196.out; have hnc5 := NB196_197.out; have hcz6_0 : w4.cell? ⟨gb197, 0, none⟩ = some (.int .i64 0) := (blk_cell BK197.out 0).trans rfl; have hcz6_1 : w4.cell? ⟨gb197, 1, none⟩ = some (.int .u32 0) := (blk_cell BK197.out 1).trans rfl; have hcz6_2 : w4.cell? ⟨gb197, 2, none⟩ = some (.int .u32 0) := (blk_cell BK197.out 2).trans rfl; have hcz6_3 : w4.cell? ⟨gb197, 3, none⟩ = some (.int .i64 0) := (blk_cell BK197.out 3).trans rfl; have hcz6_4 : w4.cell? ⟨gb197, 4, none⟩ = some (.slice none 0 0) := (blk_cell BK197.out 4).trans rfl; have hcz6_5 : w4.cell? ⟨gb197, 5, none⟩ = some (.slice none 0 0) := (blk_cell BK197.out 5).trans rfl; have hcz6_6 : w4.cell? ⟨gb197, 6, none⟩ = some (.int .u32 0) := (blk_cell BK197.out 6).trans rfl; have hcz6_7 : w4.cell? ⟨gb197, 7, none⟩ = some (.string (⟨#[]⟩ : ByteArray)) := (blk_cell BK197.out 7).trans rfl; have hfz6_0 := blk_frozen BK197.out 0; have hfz6_1 := blk_frozen BK197.out 1; have hfz6_2 := blk_frozen BK197.out 2; have hfz6_3 := blk_frozen BK197.out 3; have hfz6_4 := blk_frozen BK197.out 4; have hfz6_5 := blk_frozen BK197.out 5; have hfz6_6 := blk_frozen BK197.out 6; have hfz6_7 := blk_frozen BK197.out 7; have hcz7_0 : w4.cell? ⟨gb196, 0, none⟩ = some (.int .i64 0) := (blk_cell BK196.out 0).trans rfl; have hcz7_1 : w4.cell? ⟨gb196, 1, none⟩ = some (.int .u32 0) := (blk_cell BK196.out 1).trans rfl; have hcz7_2 : w4.cell? ⟨gb196, 2, none⟩ = some (.int .u32 0) := (blk_cell BK196.out 2).trans rfl; have hcz7_3 : w4.cell? ⟨gb196, 3, none⟩ = some (.int .i64 0) := (blk_cell BK196.out 3).trans rfl; have hcz7_4 : w4.cell? ⟨gb196, 4, none⟩ = some (.slice none 0 0) := (blk_cell BK196.out 4).trans rfl; have hcz7_5 : w4.cell? ⟨gb196, 5, none⟩ = some (.slice none 0 0) := (blk_cell BK196.out 5).trans rfl; have hcz7_6 : w4.cell? ⟨gb196, 6, none⟩ = some (.int .u32 0) := (blk_cell BK196.out 6).trans rfl; have hcz7_7 : w4.cell? ⟨gb196, 7, none⟩ = some (.string (⟨#[]⟩ : ByteArray)) := (blk_cell BK196.out 7).trans rfl; have hfz7_0 := blk_frozen BK196.out 0; have hfz7_1 := blk_frozen BK196.out 1; have hfz7_2 := blk_frozen BK196.out 2; have hfz7_3 := blk_frozen BK196.out 3; have hfz7_4 := blk_frozen BK196.out 4; have hfz7_5 := blk_frozen BK196.out 5; have hfz7_6 := blk_frozen BK196.out 6; have hfz7_7 := blk_frozen BK196.out 7))
  refine bodyPost_ret (results_ct rfl _ _ gb196 30 #[.int .i64 1, .int .u32 0, .int .u32 0, .int .i64 0, .slice none 0 0, .slice none 0 0, .int .u32 0, .string (⟨#[]⟩ : ByteArray)] (0, 0) _ rfl (by (with_reducible repeat (first | refine blk_drewN ?_ _ | refine blk_drew ?_ | refine blk_alloc ?_ _)); refine blk_put (cs := #[.int .i64 1, .int .u32 0, .int .u32 0, .int .i64 0, .slice none 0 0, .slice none 0 0, .int .u32 0, .string (⟨#[]⟩ : ByteArray)]) ?_ 7 _ rfl; (with_reducible repeat (first | refine blk_drewN ?_ _ | refine blk_drew ?_ | refine blk_alloc ?_ _)); refine blk_put (cs := #[.int .i64 1, .int .u32 0, .int .u32 0, .int .i64 0, .slice none 0 0, .slice none 0 0, .int .u32 0, .string (⟨#[]⟩ : ByteArray)]) ?_ 6 _ rfl; (with_reducible repeat (first | refine blk_drewN ?_ _ | refine blk_drew ?_ | refine blk_alloc ?_ _)); refine blk_put (cs := #[.int .i64 1, .int .u32 0, .int .u32 0, .int .i64 0, .slice none 0 0, .slice none 0 0, .int .u32 0, .string (⟨#[]⟩ : ByteArray)]) ?_ 5 _ rfl; (with_reducible repeat (first | refine blk_drewN ?_ _ | refine blk_drew ?_ | refine blk_alloc ?_ _)); refine blk_put (cs := #[.int .i64 1, .int .u32 0, .int .u32 0, .int .i64 0, .slice none 0 0, .slice none 0 0, .int .u32 0, .string (⟨#[]⟩ : ByteArray)]) ?_ 4 _ rfl; (with_reducible repeat (first | refine blk_drewN ?_ _ | refine blk_drew ?_ | refine blk_alloc ?_ _)); refine blk_put (cs := #[.int .i64 1, .int .u32 0, .int .u32 0, .int .i64 0, .slice none 0 0, .slice none 0 0, .int .u32 0, .string (⟨#[]⟩ : ByteArray)]) ?_ 3 _ rfl; (with_reducible repeat (first | refine blk_drewN ?_ _ | refine blk_drew ?_ | refine blk_alloc ?_ _)); refine blk_put (cs := #[.int .i64 1, .int .u32 0, .int .u32 0, .int .i64 0, .slice none 0 0, .slice none 0 0, .int .u32 0, .string (⟨#[]⟩ : ByteArray)]) ?_ 2 _ rfl; (with_reducible repeat (first | refine blk_drewN ?_ _ | refine blk_drew ?_ | refine blk_alloc ?_ _)); refine blk_put (cs := #[.int .i64 1, .int .u32 0, .int .u32 0, .int .i64 0, .slice none 0 0, .slice none 0 0, .int .u32 0, .string (⟨#[]⟩ : ByteArray)]) ?_ 1 _ rfl; (with_reducible repeat (first | refine blk_drewN ?_ _ | refine blk_drew ?_ | refine blk_alloc ?_ _)); refine blk_put (cs := #[.int .i64 0, .int .u32 0, .int .u32 0, .int .i64 0, .slice none 0 0, .slice none 0 0, .int .u32 0, .string (⟨#[]⟩ : ByteArray)]) ?_ 0 _ rfl; (with_reducible repeat (first | refine blk_drewN ?_ _ | refine blk_drew ?_ | refine blk_alloc ?_ _)); refine blk_far ?_ NB196_197.out _; (with_reducible repeat (first | refine blk_drewN ?_ _ | refine blk_drew ?_ | refine blk_alloc ?_ _)); refine blk_far ?_ NB196_197.out _; (with_reducible repeat (first | refine blk_drewN ?_ _ | refine blk_drew ?_ | refine blk_alloc ?_ _)); refine blk_far ?_ NB196_197.out _; (with_reducible repeat (first | refine blk_drewN ?_ _ | refine blk_drew ?_ | refine blk_alloc ?_ _)); refine blk_far ?_ NB196_197.out _; (with_reducible repeat (first | refine blk_drewN ?_ _ | refine blk_drew ?_ | refine blk_alloc ?_ _)); refine blk_far ?_ NB196_197.out _; (with_reducible repeat (first | refine blk_drewN ?_ _ | refine blk_drew ?_ | refine blk_alloc ?_ _)); refine blk_far ?_ NB196_197.out _; (with_reducible repeat (first | refine blk_drewN ?_ _ | refine blk_drew ?_ | refine blk_alloc ?_ _)); refine blk_far ?_ NB196_197.out _; (with_reducible repeat (first | refine blk_drewN ?_ _ | refine blk_drew ?_ | refine blk_alloc ?_ _)); refine blk_far ?_ NB196_197.out _; (with_reducible repeat (first | refine blk_drewN ?_ _ | refine blk_drew ?_ | refine blk_alloc ?_ _)); exact BK196.out) Try.underlying30 rfl (by kernel_rfl)) rfl ?_
  exact ⟨_, _, by first | rfl | (simp [errW_none, errW_some] <;> rfl) | (simp [*, errW_none, errW_some] <;> rfl), by first | exact Kd.R_nil _ _ _ _ _ | exact Kd.N_nil _ _ _ _ _ | exact Kd.V_nil _ _ _ _ _ | exact Kd.Q_nil _ _ _ _ _ | exact Kd.S_nil _ _ _ _ _, by first | exact Kd.R_nil _ _ _ _ _ | exact Kd.N_nil _ _ _ _ _ | exact Kd.V_nil _ _ _ _ _ | exact Kd.Q_nil _ _ _ _ _ | exact Kd.S_nil _ _ _ _ _, by repeat (first | (with_reducible first | exact HB.out | apply below_alloc | apply pw_below_drewN | apply below_drew1 | refine below_set ?_ GE196.out | refine below_set ?_ GE197.out) | exact HB.out)⟩
 ·rw [if_neg c2] at H
  have c2b0 : decide ((a0.size : Int) < 38) = false := decide_eq_false c2
  have c2b1 : decide (a0.size < 38) = false := decide_eq_false (by omega)
  clear c2
  by_cases c8 : 2 ≤ 6
  ·rw [if_pos c8] at H
   have c8b0 := eq_true c8
   have c8b1 : decide (2 ≤ 6) = true := decide_eq_true c8
   clear c8
   by_cases c9 : 6 ≤ (a0.size : Int)
   ·rw [if_pos c9] at H
    have c9b0 := eq_true c9
    have c9b1 : decide (6 ≤ (a0.size : Int)) = true := decide_eq_true c9
    clear c9
    replace H := Option.bind_eq_some_iff.mp H
    obtain ⟨t198, A100, H⟩ := H
    replace H : (if 6 ≤ 38 then (if 38 ≤ (a0.size : Int) then (if ((t198) % 4294967296) = 0 then (if 32 ≤ 281474976710656 then (sphragisref10_leaf.j0 k a0 ((a0.extract 6 38).toList == (strOfNums (List.replicate 32 0)).toList) 1 0 0 0 ((t198) % 4294967296) (a0.extract 6 38)) else (none)) else (sphragisref10_leaf.j0 k a0 false 1 0 0 0 ((t198) % 4294967296) (a0.extract 6 38))) else (none)) else (none)) = some (r1, r2, r3, r4, r5, r6, r7, r8, r9) := H
    have A10 := Aside0.mk A100
    clear A100
    by_cases c11 : 6 ≤ 38
    ·rw [if_pos c11] at H
     have c11b0 := eq_true c11
     have c11b1 : decide (6 ≤ 38) = true := decide_eq_true c11
     clear c11
     by_cases c12 : 38 ≤ (a0.size : Int)
     ·rw [if_pos c12] at H
      have c12b0 := eq_true c12
      have c12b1 : decide (38 ≤ (a0.size : Int)) = true := decide_eq_true c12
      clear c12
      have HC13 := Aside0.mk H
      clear H
      go_enter Try.func35, Try.ntmps35
      try go_wp2_with (first | ((with_reducible refine gate_dst (N := 2) rfl ?_); (try (refine gate_guard (by rfl) ?_; dsimp only)); refine box_event ?hg (N := 2) ?hd (cs := #[.int .i64 0, .int .u32 0, .int .u32 0, .int .i64 0, .slice none 0 0, .slice none 0 0, .int .u32 0, .string (⟨#[]⟩ : ByteArray)]) (t := 30) ?hr ?_; (case hd => rfl); (case hg => rfl); (case hr => first | (go_simp; done) | (go_simp; rfl)); intro gb196 hg w14 hbox hb; have n0_ := Aside0.mk (below_step (by repeat (first | (with_reducible first | exact HB.out | apply below_alloc | apply pw_below_drewN | apply below_drew1) | exact HB.out)) hb); have n1_ := Aside0.mk (hbox); have n2_ := Aside0.mk ((by rw [hg]; exact (below_size (by repeat (first | (with_reducible first | exact HB.out | apply below_alloc | apply pw_below_drewN | apply below_drew1) | exact HB.out))) : w.heap.size ≤ gb196)); have n3_ := Aside0.mk ((by rw [hg]; exact (below_size (by repeat (first | (with_reducible first | exact HB.out | apply below_alloc | apply pw_below_drewN | apply below_drew1) | exact HB.out))) : w.heap.size ≤ gb196)); clear HB; have HB := n0_; have BK196 := n1_; have GW196 := n2_; have GE196 := n3_; clear n0_ n1_ n2_ n3_; clear hb hbox hg) | ((with_reducible refine gate_dst (N := 4) rfl ?_); (try (refine gate_guard (by rfl) ?_; dsimp only)); refine box_event ?hg (N := 4) ?hd (cs := #[.int .i64 0, .int .u32 0, .int .u32 0, .int .i64 0, .slice none 0 0, .slice none 0 0, .int .u32 0, .string (⟨#[]⟩ : ByteArray)]) (t := 30) ?hr ?_; (case hd => rfl); (case hg => rfl); (case hr => first | (go_simp; done) | (go_simp; rfl)); intro gb197 hg w15 hbox hb; have n0_ := Aside0.mk (blk_below (g := gb196) (o := .cells #[.int .i64 0, .int .u32 0, .int .u32 0, .int .i64 0, .slice none 0 0, .slice none 0 0, .int .u32 0, .string (⟨#[]⟩ : ByteArray)] 30 (0, 0)) (by (with_reducible repeat (first | refine blk_drewN ?_ _ | refine blk_drew ?_ | refine blk_alloc ?_ _)); exact BK196.out) hb); have n1_ := Aside0.mk (below_step (by repeat (first | (with_reducible first | exact HB.out | apply below_alloc | apply pw_below_drewN | apply below_drew1 | refine below_set ?_ GE196.out) | exact HB.out)) hb); have n2_ := Aside0.mk (hbox); have n3_ := Aside0.mk ((by rw [hg]; exact (below_size (by repeat (first | (with_reducible first | exact HB.out | apply below_alloc | apply pw_below_drewN | apply below_drew1 | refine below_set ?_ GE196.out) | exact HB.out))) : w.heap.size ≤ gb197)); have n4_ := Aside0.mk ((by rw [hg]; exact (below_size (by repeat (first | (with_reducible first | exact HB.out | apply below_alloc | apply pw_below_drewN | apply below_drew1 | refine below_set ?_ GE196.out) | exact HB.out))) : w.heap.size ≤ gb197)); have n5_ := Aside0.mk ((by rw [hg]; exact Nat.ne_of_lt (blk_lt (g := gb196) (o := .cells #[.int .i64 0, .int .u32 0, .int .u32 0, .int .i64 0, .slice none 0 0, .slice none 0 0, .int .u32 0, .string (⟨#[]⟩ : ByteArray)] 30 (0, 0)) (by (with_reducible repeat (first | refine blk_drewN ?_ _ | refine blk_drew ?_ | refine blk_alloc ?_ _)); exact BK196.out)) : gb196 ≠ gb197)); have n6_ := Aside0.mk ((by rw [hg]; exact Nat.ne_of_gt (blk_lt (g := gb196) (o := .cells #[.int .i64 0, .int .u32 0, .int .u32 0, .int .i64 0, .slice none 0 0, .slice none 0 0, .int .u32 0, .string (⟨#[]⟩ : ByteArray)] 30 (0, 0)) (by (with_reducible repeat (first | refine blk_drewN ?_ _ | refine blk_drew ?_ | refine blk_alloc ?_ _)); exact BK196.out)) : gb197 ≠ gb196)); clear BK196; clear HB; have BK196 := n0_; have HB := n1_; have BK197 := n2_; have GW197 := n3_; have GE197 := n4_; have NB196_197 := n5_; have NB197_196 := n6_; clear n0_ n1_ n2_ n3_ n4_ n5_ n6_; clear hb hbox hg; have hnb16 := NB197_196.out; have hnc16 := NB196_197.out; have hcz17_0 : w15.cell? ⟨gb197, 0, none⟩ = some (.int .i64 0) := (blk_cell BK197.out 0).trans rfl; have hcz17_1 : w15.cell? ⟨gb197, 1, none⟩ = some (.int .u32 0) := (blk_cell BK197.out 1).trans rfl; have hcz17_2 : w15.cell? ⟨gb197, 2, none⟩ = some (.int .u32 0) := (blk_cell BK197.out 2).trans rfl; have hcz17_3 : w15.cell? ⟨gb197, 3, none⟩ = some (.int .i64 0) := (blk_cell BK197.out 3).trans rfl; have hcz17_4 : w15.cell? ⟨gb197, 4, none⟩ = some (.slice none 0 0) := (blk_cell BK197.out 4).trans rfl; have hcz17_5 : w15.cell? ⟨gb197, 5, none⟩ = some (.slice none 0 0) := (blk_cell BK197.out 5).trans rfl; have hcz17_6 : w15.cell? ⟨gb197, 6, none⟩ = some (.int .u32 0) := (blk_cell BK197.out 6).trans rfl; have hcz17_7 : w15.cell? ⟨gb197, 7, none⟩ = some (.string (⟨#[]⟩ : ByteArray)) := (blk_cell BK197.out 7).trans rfl; have hfz17_0 := blk_frozen BK197.out 0; have hfz17_1 := blk_frozen BK197.out 1; have hfz17_2 := blk_frozen BK197.out 2; have hfz17_3 := blk_frozen BK197.out 3; have hfz17_4 := blk_frozen BK197.out 4; have hfz17_5 := blk_frozen BK197.out 5; have hfz17_6 := blk_frozen BK197.out 6; have hfz17_7 := blk_frozen BK197.out 7))
      have n0_ : Aside0 (((((((((w15.setCell ⟨gb197, 0, none⟩ (.int .i64 1)).setCell ⟨gb197, 1, none⟩ (.int .u32 0)).setCell ⟨gb197, 2, none⟩ (.int .u32 0)).setCell ⟨gb197, 3, none⟩ (.int .i64 0)).setCell ⟨gb197, 4, none⟩ (.slice none 0 0)).setCell ⟨gb197, 5, none⟩ (.slice none 0 0)).setCell ⟨gb197, 6, none⟩ (.int .u32 0)).setCell ⟨gb197, 7, none⟩ (.string (⟨#[]⟩ : ByteArray))).heap[gb196]? = some (.cells #[.int .i64 0, .int .u32 0, .int .u32 0, .int .i64 0, .slice none 0 0, .slice none 0 0, .int .u32 0, .string (⟨#[]⟩ : ByteArray)] 30 (0, 0))) := ⟨by (with_reducible repeat (first | refine blk_drewN ?_ _ | refine blk_drew ?_ | refine blk_alloc ?_ _)); refine blk_far ?_ NB196_197.out _; (with_reducible repeat (first | refine blk_drewN ?_ _ | refine blk_drew ?_ | refine blk_alloc ?_ _)); refine blk_far ?_ NB196_197.out _; (with_reducible repeat (first | refine blk_drewN ?_ _ | refine blk_drew ?_ | refine blk_alloc ?_ _)); refine blk_far ?_ NB196_197.out _; (with_reducible repeat (first | refine blk_drewN ?_ _ | refine blk_drew ?_ | refine blk_alloc ?_ _)); refine blk_far ?_ NB196_197.out _; (with_reducible repeat (first | refine blk_drewN ?_ _ | refine blk_drew ?_ | refine blk_alloc ?_ _)); refine blk_far ?_ NB196_197.out _; (with_reducible repeat (first | refine blk_drewN ?_ _ | refine blk_drew ?_ | refine blk_alloc ?_ _)); refine blk_far ?_ NB196_197.out _; (with_reducible repeat (first | refine blk_drewN ?_ _ | refine blk_drew ?_ | refine blk_alloc ?_ _)); refine blk_far ?_ NB196_197.out _; (with_reducible repeat (first | refine blk_drewN ?_ _ | refine blk_drew ?_ | refine blk_alloc ?_ _)); refine blk_far ?_ NB196_197.out _; (with_reducible repeat (first | refine blk_drewN ?_ _ | refine blk_drew ?_ | refine blk_alloc ?_ _)); exact BK196.out⟩
      have n1_ : Aside0 (((((((((w15.setCell ⟨gb197, 0, none⟩ (.int .i64 1)).setCell ⟨gb197, 1, none⟩ (.int .u32 0)).setCell ⟨gb197, 2, none⟩ (.int .u32 0)).setCell ⟨gb197, 3, none⟩ (.int .i64 0)).setCell ⟨gb197, 4, none⟩ (.slice none 0 0)).setCell ⟨gb197, 5, none⟩ (.slice none 0 0)).setCell ⟨gb197, 6, none⟩ (.int .u32 0)).setCell ⟨gb197, 7, none⟩ (.string (⟨#[]⟩ : ByteArray))).heap[gb197]? = some (.cells #[.int .i64 1, .int .u32 0, .int .u32 0, .int .i64 0, .slice none 0 0, .slice none 0 0, .int .u32 0, .string (⟨#[]⟩ : ByteArray)] 30 (0, 0))) := ⟨by (with_reducible repeat (first | refine blk_drewN ?_ _ | refine blk_drew ?_ | refine blk_alloc ?_ _)); refine blk_put (cs := #[.int .i64 1, .int .u32 0, .int .u32 0, .int .i64 0, .slice none 0 0, .slice none 0 0, .int .u32 0, .string (⟨#[]⟩ : ByteArray)]) ?_ 7 _ rfl; (with_reducible repeat (first | refine blk_drewN ?_ _ | refine blk_drew ?_ | refine blk_alloc ?_ _)); refine blk_put (cs := #[.int .i64 1, .int .u32 0, .int .u32 0, .int .i64 0, .slice none 0 0, .slice none 0 0, .int .u32 0, .string (⟨#[]⟩ : ByteArray)]) ?_ 6 _ rfl; (with_reducible repeat (first | refine blk_drewN ?_ _ | refine blk_drew ?_ | refine blk_alloc ?_ _)); refine blk_put (cs := #[.int .i64 1, .int .u32 0, .int .u32 0, .int .i64 0, .slice none 0 0, .slice none 0 0, .int .u32 0, .string (⟨#[]⟩ : ByteArray)]) ?_ 5 _ rfl; (with_reducible repeat (first | refine blk_drewN ?_ _ | refine blk_drew ?_ | refine blk_alloc ?_ _)); refine blk_put (cs := #[.int .i64 1, .int .u32 0, .int .u32 0, .int .i64 0, .slice none 0 0, .slice none 0 0, .int .u32 0, .string (⟨#[]⟩ : ByteArray)]) ?_ 4 _ rfl; (with_reducible repeat (first | refine blk_drewN ?_ _ | refine blk_drew ?_ | refine blk_alloc ?_ _)); refine blk_put (cs := #[.int .i64 1, .int .u32 0, .int .u32 0, .int .i64 0, .slice none 0 0, .slice none 0 0, .int .u32 0, .string (⟨#[]⟩ : ByteArray)]) ?_ 3 _ rfl; (with_reducible repeat (first | refine blk_drewN ?_ _ | refine blk_drew ?_ | refine blk_alloc ?_ _)); refine blk_put (cs := #[.int .i64 1, .int .u32 0, .int .u32 0, .int .i64 0, .slice none 0 0, .slice none 0 0, .int .u32 0, .string (⟨#[]⟩ : ByteArray)]) ?_ 2 _ rfl; (with_reducible repeat (first | refine blk_drewN ?_ _ | refine blk_drew ?_ | refine blk_alloc ?_ _)); refine blk_put (cs := #[.int .i64 1, .int .u32 0, .int .u32 0, .int .i64 0, .slice none 0 0, .slice none 0 0, .int .u32 0, .string (⟨#[]⟩ : ByteArray)]) ?_ 1 _ rfl; (with_reducible repeat (first | refine blk_drewN ?_ _ | refine blk_drew ?_ | refine blk_alloc ?_ _)); refine blk_put (cs := #[.int .i64 0, .int .u32 0, .int .u32 0, .int .i64 0, .slice none 0 0, .slice none 0 0, .int .u32 0, .string (⟨#[]⟩ : ByteArray)]) ?_ 0 _ rfl; (with_reducible repeat (first | refine blk_drewN ?_ _ | refine blk_drew ?_ | refine blk_alloc ?_ _)); exact BK197.out⟩
      have n2_ : Aside0 (Below w.heap.size w ((((((((w15.setCell ⟨gb197, 0, none⟩ (.int .i64 1)).setCell ⟨gb197, 1, none⟩ (.int .u32 0)).setCell ⟨gb197, 2, none⟩ (.int .u32 0)).setCell ⟨gb197, 3, none⟩ (.int .i64 0)).setCell ⟨gb197, 4, none⟩ (.slice none 0 0)).setCell ⟨gb197, 5, none⟩ (.slice none 0 0)).setCell ⟨gb197, 6, none⟩ (.int .u32 0)).setCell ⟨gb197, 7, none⟩ (.string (⟨#[]⟩ : ByteArray)))) := ⟨by repeat (first | (with_reducible first | exact HB.out | apply below_alloc | apply pw_below_drewN | apply below_drew1 | refine below_set ?_ GE196.out | refine below_set ?_ GE197.out) | exact HB.out)⟩
      (try clear BK196)
      (try clear BK197)
      (try clear HB)
      generalize ((((((((w15.setCell ⟨gb197, 0, none⟩ (.int .i64 1)).setCell ⟨gb197, 1, none⟩ (.int .u32 0)).setCell ⟨gb197, 2, none⟩ (.int .u32 0)).setCell ⟨gb197, 3, none⟩ (.int .i64 0)).setCell ⟨gb197, 4, none⟩ (.slice none 0 0)).setCell ⟨gb197, 5, none⟩ (.slice none 0 0)).setCell ⟨gb197, 6, none⟩ (.int .u32 0)).setCell ⟨gb197, 7, none⟩ (.string (⟨#[]⟩ : ByteArray))) = w18 at n0_ n1_ n2_ ⊢
      have BK196 := n0_
      have BK197 := n1_
      have HB := n2_
      clear n0_ n1_ n2_
      have n0_ := Aside0.mk (blk_drew BK196.out)
      have n1_ := Aside0.mk (blk_drew BK197.out)
      have n2_ := Aside0.mk (below_drew1 HB.out)
      clear BK196
      clear BK197
      clear HB
      have BK196 := n0_
      have BK197 := n1_
      have HB := n2_
      clear n0_ n1_ n2_
      refine start_ (n := 9) (S := fun w' => True) (ds := []) #[false, false, false, false, false, false, false, false, false] (by kernel_rfl) rfl rfl trivial (fun hHeld => ?_); refine with_tabW sphragisref10_leaf.tab4 sphragisref10_leaf.bits4 (fun HT_ HW_ => ?_)
      generalize w18.drew = w19 at BK196 BK197 HB hHeld ⊢
      refine pure_ (i := 0) (N := some 13) (v := ?_) (a' := ?_) #[true, false, false, false, false, false, false, false, false] rfl rfl (any_of HT_.out (by kernel_rfl)) (fun _ _ _ h => h) (Or.inl ⟨by rfl, ?_⟩) ?_ ?_
      rotate_left
      ·intro w'
       go_simp
       with_reducible rfl
      rotate_left
      ·simp only [Act.put, List.setIfInBounds_toArray, List.set_cons_zero, List.set_cons_succ, i64_w, i32_w]
       rfl
      refine pure_ (i := 1) (N := some 14) (v := ?_) (a' := ?_) #[true, true, false, false, false, false, false, false, false] rfl rfl (any_of HT_.out (by kernel_rfl)) (fun _ _ _ h => h) (Or.inl ⟨by rfl, ?_⟩) ?_ ?_
      rotate_left
      ·intro w'
       go_simp
       with_reducible rfl
      rotate_left
      ·simp only [Act.put, List.setIfInBounds_toArray, List.set_cons_zero, List.set_cons_succ, i64_w, i32_w]
       rfl
      refine pure_ (i := 4) (N := some 17) (v := ?_) (a' := ?_) #[true, true, false, false, true, false, false, false, false] rfl rfl (any_of HT_.out (by kernel_rfl)) (fun _ _ _ h => h) (Or.inl ⟨by rfl, ?_⟩) ?_ ?_
      rotate_left
      ·intro w'
       go_simp
       with_reducible rfl
      rotate_left
      ·simp only [Act.put, List.setIfInBounds_toArray, List.set_cons_zero, List.set_cons_succ, i64_w, i32_w]
       rfl
      refine pure_ (i := 5) (N := some 18) (v := ?_) (a' := ?_) #[true, true, false, false, true, true, false, false, false] rfl rfl (any_of HT_.out (by kernel_rfl)) (fun _ _ _ h => h) (Or.inl ⟨by rfl, ?_⟩) ?_ ?_
      rotate_left
      ·intro w'
       go_simp
       with_reducible rfl
      rotate_left
      ·simp only [Act.put, List.setIfInBounds_toArray, List.set_cons_zero, List.set_cons_succ, i64_w, i32_w]
       rfl
      refine one_ (i := 2) (N := some 15) #[true, true, true, false, true, true, false, false, false] rfl rfl (one_of HT_.out (by kernel_rfl)) (by decide) (fun K hK => ?_)
      refine goes_ Try.func49 (by kernel_rfl) rfl #[.string (a0.extract 2 6)] (by rfl) rfl rfl (by (try simp only [List.map_toArray, List.map_cons, List.map_nil]); first | done | rfl | (simp only [List.length_drop, List.length_take]; rfl)) ?_
      with_reducible refine (sphragisref10_get.calls k (a0.extract 2 6) t198 _ A10.out).mono ?_
      rintro e w' ⟨rfl, ⟨nd, rfl⟩⟩
      refine ⟨_, rfl, ?_⟩
      refine hK.out _ _ trivial (fun hHeld_ => ?_)
      clear hK K
      have n0_ := Aside0.mk (blk_drewN BK196.out nd)
      have n1_ := Aside0.mk (blk_drewN BK197.out nd)
      have n2_ : Aside0 (Below w.heap.size w (w19.drewN nd)) := ⟨by apply pw_below_drewN; exact HB.out⟩
      clear BK196 BK197 HB hHeld
      have BK196 := n0_
      have BK197 := n1_
      have HB := n2_
      have hHeld := hHeld_
      clear n0_ n1_ n2_ hHeld_
      generalize w19.drewN nd = w19 at BK196 BK197 HB hHeld ⊢
      refine norm_ (a' := ?_) ?_ ?_
      rotate_left
      ·show Act.put _ (some 15) _ = _
       simp only [Act.put, List.setIfInBounds_toArray, List.set_cons_zero, List.set_cons_succ, i64_w, i32_w]
       rfl
      refine pure_ (i := 3) (N := some 16) (v := ?_) (a' := ?_) #[true, true, true, true, true, true, false, false, false] rfl rfl (any_of HT_.out (by kernel_rfl)) (fun _ _ _ h => h) (Or.inl ⟨by rfl, ?_⟩) ?_ ?_
      rotate_left
      ·intro w'
       go_simp
       with_reducible rfl
      rotate_left
      ·simp only [Act.put, List.setIfInBounds_toArray, List.set_cons_zero, List.set_cons_succ, i64_w, i32_w]
       rfl
      refine pure_ (i := 6) (N := some 19) (v := ?_) (a' := ?_) #[true, true, true, true, true, true, true, false, false] rfl rfl (any_of HT_.out (by kernel_rfl)) (fun _ _ _ h => h) (Or.inl ⟨by rfl, ?_⟩) ?_ ?_
      rotate_left
      ·intro w'
       go_simp
       with_reducible rfl
      rotate_left
      ·simp only [Act.put, List.setIfInBounds_toArray, List.set_cons_zero, List.set_cons_succ, i64_w, i32_w]
       rfl
      refine pure_ (i := 7) (N := some 20) (v := ?_) (a' := ?_) #[true, true, true, true, true, true, true, true, false] rfl rfl (any_of HT_.out (by kernel_rfl)) (fun _ _ _ h => h) (Or.inl ⟨by rfl, ?_⟩) ?_ ?_
      rotate_left
      ·intro w'
       go_simp
       with_reducible rfl
      rotate_left
      ·simp only [Act.put, List.setIfInBounds_toArray, List.set_cons_zero, List.set_cons_succ, i64_w, i32_w]
       rfl
      refine one_ (i := 8) (N := none) #[true, true, true, true, true, true, true, true, true] rfl rfl (one_of HT_.out (by kernel_rfl)) (by decide) (fun K hK => ?_)
      have hs20 : w19.cell? ⟨gb197, 6, none⟩ = some (.int .u32 0) := (blk_cell BK197.out 6).trans rfl
      have hfs20 := blk_frozen BK197.out 6
      have hns20_0 := NB196_197.out
      have hms20_0 := NB197_196.out
      have hs21 : w19.cell? ⟨gb197, 7, none⟩ = some (.string (⟨#[]⟩ : ByteArray)) := (blk_cell BK197.out 7).trans rfl
      have hfs21 := blk_frozen BK197.out 7
      have hns21_0 := NB196_197.out
      have hms21_0 := NB197_196.out
      refine skip_ (w1 := ?_) (by rfl) rfl ?_ ?_
      rotate_left
      ·go_simp
       rfl
      refine hK.out _ _ trivial (fun hHeld => ?_)
      clear hK K
      refine done_ (done_of HT_.out (by kernel_rfl)) ?_
      rw [IntKind.wrap_u32]
      go_upto_region 5 with (fail)
      go_cut [32] (fun v32 wc => ∃ (kq : Nat) (x32_12 : Bool), v32 = .bool x32_12 ∧ Aside0 (sphragisref10_leaf.j0 kq a0 x32_12 1 0 0 0 ((t198) % 4294967296) (a0.extract 6 38) = some (r1, r2, r3, r4, r5, r6, r7, r8, r9)) ∧ Aside0 (kq ≤ k) ∧ Aside0 (wc.heap[gb196]? = some (.cells #[.int .i64 0, .int .u32 0, .int .u32 0, .int .i64 0, (.slice none 0 0), (.slice none 0 0), .int .u32 0, .string (⟨#[]⟩ : ByteArray)] 30 (0, 0))) ∧ Aside0 (wc.heap[gb197]? = some (.cells #[.int .i64 1, .int .u32 0, .int .u32 0, .int .i64 0, (.slice none 0 0), (.slice none 0 0), .int .u32 ((t198) % 4294967296), .string (a0.extract 6 38)] 30 (0, 0))) ∧ Aside0 (Below w.heap.size w wc))
      case first =>
       have H := HC13.out
       clear HC13
       by_cases c22 : ((t198) % 4294967296) = 0
       ·rw [if_pos c22] at H
        have c22b0 : (((t198) % 4294967296) == 0) = true := beq_iff_eq.mpr c22
        have c22b1 : (((t198) % 4294967296) != 0) = false := bne_eq_false_iff_eq.mpr c22
        clear c22
        (first | rw [c22b0] | (simp only [i64_w, i32_w]; rw [c22b0]) | skip)
        by_cases c23 : 32 ≤ 281474976710656
        ·rw [if_pos c23] at H
         have c23b0 := eq_true c23
         have c23b1 : decide (32 ≤ 281474976710656) = true := decide_eq_true c23
         clear c23
         obtain ⟨y199, hy199⟩ : ∃ y_ : List Int, y_ = (List.replicate 32 0) := ⟨_, rfl⟩
         replace H : (sphragisref10_leaf.j0 k a0 ((a0.extract 6 38).toList == (strOfNums y199).toList) 1 0 0 0 ((t198) % 4294967296) (a0.extract 6 38)) = some (r1, r2, r3, r4, r5, r6, r7, r8, r9) := by first | (rw [hy199]; with_reducible exact H) | (have H2_ := (Option.bind_some _ _).symm.trans H; rw [hy199]; with_reducible exact H2_) | (have H2_ := (Option.bind_some _ _).symm.trans H; with_reducible exact H2_) | with_reducible exact H | (rw [hy199]; exact H) | exact H
         have Ny199 := Aside0.mk hy199
         clear hy199
         have H' := Aside0.mk H
         clear H
         try go_wp2
         have n0_ : Aside0 (((w19.setCell ⟨gb197, 6, none⟩ (.int .u32 ((t198) % 4294967296))).setCell ⟨gb197, 7, none⟩ (.string (a0.extract 6 38))).heap[gb196]? = some (.cells #[.int .i64 0, .int .u32 0, .int .u32 0, .int .i64 0, .slice none 0 0, .slice none 0 0, .int .u32 0, .string (⟨#[]⟩ : ByteArray)] 30 (0, 0))) := ⟨by (with_reducible repeat (first | refine blk_drewN ?_ _ | refine blk_drew ?_ | refine blk_alloc ?_ _)); refine blk_far ?_ NB196_197.out _; (with_reducible repeat (first | refine blk_drewN ?_ _ | refine blk_drew ?_ | refine blk_alloc ?_ _)); refine blk_far ?_ NB196_197.out _; (with_reducible repeat (first | refine blk_drewN ?_ _ | refine blk_drew ?_ | refine blk_alloc ?_ _)); exact BK196.out⟩
         have n1_ : Aside0 (((w19.setCell ⟨gb197, 6, none⟩ (.int .u32 ((t198) % 4294967296))).setCell ⟨gb197, 7, none⟩ (.string (a0.extract 6 38))).heap[gb197]? = some (.cells #[.int .i64 1, .int .u32 0, .int .u32 0, .int .i64 0, .slice none 0 0, .slice none 0 0, .int .u32 ((t198) % 4294967296), .string (a0.extract 6 38)] 30 (0, 0))) := ⟨by (with_reducible repeat (first | refine blk_drewN ?_ _ | refine blk_drew ?_ | refine blk_alloc ?_ _)); refine blk_put (cs := #[.int .i64 1, .int .u32 0, .int .u32 0, .int .i64 0, .slice none 0 0, .slice none 0 0, .int .u32 ((t198) % 4294967296), .string (⟨#[]⟩ : ByteArray)]) ?_ 7 _ rfl; (with_reducible repeat (first | refine blk_drewN ?_ _ | refine blk_drew ?_ | refine blk_alloc ?_ _)); refine blk_put (cs := #[.int .i64 1, .int .u32 0, .int .u32 0, .int .i64 0, .slice none 0 0, .slice none 0 0, .int .u32 0, .string (⟨#[]⟩ : ByteArray)]) ?_ 6 _ rfl; (with_reducible repeat (first | refine blk_drewN ?_ _ | refine blk_drew ?_ | refine blk_alloc ?_ _)); exact BK197.out⟩
         have n2_ : Aside0 (Below w.heap.size w ((w19.setCell ⟨gb197, 6, none⟩ (.int .u32 ((t198) % 4294967296))).setCell ⟨gb197, 7, none⟩ (.string (a0.extract 6 38)))) := ⟨by repeat (first | (with_reducible first | exact HB.out | apply below_alloc | apply pw_below_drewN | apply below_drew1 | refine below_set ?_ GE196.out | refine below_set ?_ GE197.out) | exact HB.out)⟩
         (try clear BK196)
         (try clear BK197)
         (try clear HB)
         generalize ((w19.setCell ⟨gb197, 6, none⟩ (.int .u32 ((t198) % 4294967296))).setCell ⟨gb197, 7, none⟩ (.string (a0.extract 6 38))) = w24 at n0_ n1_ n2_ ⊢
         have BK196 := n0_
         have BK197 := n1_
         have HB := n2_
         clear n0_ n1_ n2_
         have n0_ := Aside0.mk (blk_drew BK196.out)
         have n1_ := Aside0.mk (blk_drew BK197.out)
         have n2_ := Aside0.mk (below_drew1 HB.out)
         clear BK196
         clear BK197
         clear HB
         have BK196 := n0_
         have BK197 := n1_
         have HB := n2_
         clear n0_ n1_ n2_
         refine start_ (n := 12) (S := fun w' => w'.cell? ⟨gb197, 0, none⟩ = some (.int .i64 1) ∧ w'.cell? ⟨gb197, 1, none⟩ = some (.int .u32 0) ∧ w'.cell? ⟨gb197, 2, none⟩ = some (.int .u32 0) ∧ w'.cell? ⟨gb197, 3, none⟩ = some (.int .i64 0) ∧ w'.cell? ⟨gb197, 4, none⟩ = some (.slice none 0 0) ∧ w'.cell? ⟨gb197, 5, none⟩ = some (.slice none 0 0) ∧ w'.cell? ⟨gb197, 6, none⟩ = some (.int .u32 ((t198) % 4294967296)) ∧ w'.cell? ⟨gb197, 7, none⟩ = some (.string (a0.extract 6 38))) (ds := []) #[false, false, false, false, false, false, false, false, false, false, false, false] (by kernel_rfl) rfl rfl ⟨(blk_cell BK197.out 0).trans rfl, (blk_cell BK197.out 1).trans rfl, (blk_cell BK197.out 2).trans rfl, (blk_cell BK197.out 3).trans rfl, (blk_cell BK197.out 4).trans rfl, (blk_cell BK197.out 5).trans rfl, (blk_cell BK197.out 6).trans rfl, (blk_cell BK197.out 7).trans rfl⟩ (fun hHeld => ?_); refine with_tabW sphragisref10_leaf.tab5 sphragisref10_leaf.bits5 (fun HT_ HW_ => ?_)
         generalize w24.drew = w25 at BK196 BK197 HB hHeld ⊢
         refine pure_ (i := 0) (N := some 21) (v := ?_) (a' := ?_) #[true, false, false, false, false, false, false, false, false, false, false, false] rfl rfl (any_of HT_.out (by kernel_rfl)) (fun _ _ _ h => h) (Or.inl ⟨by rfl, ?_⟩) ?_ ?_
         rotate_left
         ·intro w'
          go_simp
          with_reducible rfl
         rotate_left
         ·simp only [Act.put, List.setIfInBounds_toArray, List.set_cons_zero, List.set_cons_succ, i64_w, i32_w]
          rfl
         refine pure_ (i := 1) (N := some 22) (v := ?_) (a' := ?_) #[true, true, false, false, false, false, false, false, false, false, false, false] rfl rfl (any_of HT_.out (by kernel_rfl)) (fun _ _ _ h => h) (Or.inl ⟨by rfl, ?_⟩) ?_ ?_
         rotate_left
         ·intro w'
          go_simp
          with_reducible rfl
         rotate_left
         ·simp only [Act.put, List.setIfInBounds_toArray, List.set_cons_zero, List.set_cons_succ, i64_w, i32_w]
          rfl
         refine take_ (i := 2) (N := some 23) (v := ?_) (a' := ?_) #[true, true, true, false, false, false, false, false, false, false, false, false] rfl rfl (take_ofW HT_.out HW_.out (by kernel_rfl)) (fun _ _ _ h => h) (Or.inl ⟨by rfl, ?_⟩) hHeld ?_ ?_
         rotate_left
         ·rintro w' ⟨s0, s1, s2, s3, s4, s5, s6, s7⟩
          go_simp
          with_reducible rfl
         rotate_left
         ·simp only [Act.put, List.setIfInBounds_toArray, List.set_cons_zero, List.set_cons_succ, i64_w, i32_w]
          rfl
         refine pure_ (i := 3) (N := some 24) (v := ?_) (a' := ?_) #[true, true, true, true, false, false, false, false, false, false, false, false] rfl rfl (any_of HT_.out (by kernel_rfl)) (fun _ _ _ h => h) (Or.inl ⟨by rfl, ?_⟩) ?_ ?_
         rotate_left
         ·intro w'
          go_simp
          with_reducible rfl
         rotate_left
         ·simp only [Act.put, List.setIfInBounds_toArray, List.set_cons_zero, List.set_cons_succ, i64_w, i32_w]
          rfl
         refine pure_ (i := 4) (N := some 25) (v := ?_) (a' := ?_) #[true, true, true, true, true, false, false, false, false, false, false, false] rfl rfl (any_of HT_.out (by kernel_rfl)) (fun _ _ _ h => h) (Or.inl ⟨by rfl, ?_⟩) ?_ ?_
         rotate_left
         ·intro w'
          go_simp
          with_reducible rfl
         rotate_left
         ·simp only [Act.put, List.setIfInBounds_toArray, List.set_cons_zero, List.set_cons_succ, i64_w, i32_w]
          rfl
         refine pure_ (i := 5) (N := some 26) (v := ?_) (a' := ?_) #[true, true, true, true, true, true, false, false, false, false, false, false] rfl rfl (any_of HT_.out (by kernel_rfl)) (fun _ _ _ h => h) (Or.inl ⟨by rfl, ?_⟩) ?_ ?_
         rotate_left
         ·intro w'
          go_simp
          with_reducible rfl
         rotate_left
         ·simp only [Act.put, List.setIfInBounds_toArray, List.set_cons_zero, List.set_cons_succ, i64_w, i32_w]
          rfl
         refine pure_ (i := 6) (N := some 27) (v := ?_) (a' := ?_) #[true, true, true, true, true, true, true, false, false, false, false, false] rfl rfl (any_of HT_.out (by kernel_rfl)) (fun _ _ _ h => h) (Or.inl ⟨by rfl, ?_⟩) ?_ ?_
         rotate_left
         ·intro w'
          go_simp
          with_reducible rfl
         rotate_left
         ·simp only [Act.put, List.setIfInBounds_toArray, List.set_cons_zero, List.set_cons_succ, i64_w, i32_w]
          rfl
         refine take_ (i := 7) (N := some 28) (v := ?_) (a' := ?_) #[true, true, true, true, true, true, true, true, false, false, false, false] rfl rfl (take_ofW HT_.out HW_.out (by kernel_rfl)) (fun _ _ _ h => h) (Or.inl ⟨by rfl, ?_⟩) hHeld ?_ ?_
         rotate_left
         ·rintro w' ⟨s0, s1, s2, s3, s4, s5, s6, s7⟩
          go_simp
          with_reducible rfl
         rotate_left
         ·simp only [Act.put, List.setIfInBounds_toArray, List.set_cons_zero, List.set_cons_succ, i64_w, i32_w]
          rfl
         refine one_ (i := 8) (N := some 29) #[true, true, true, true, true, true, true, true, true, false, false, false] rfl rfl (one_of HT_.out (by kernel_rfl)) (by decide) (fun K hK => ?_)
         refine Kd.R_make_step (Kd.int .u8) _ 5 (by rfl) (N := 29) rfl 43 _ _ rfl 32 rfl rfl Try.underlying43 (.int .u8 0) 1 info5 rfl (by decide) (by omega) 0 (ok := fun _ => True) (okp := fun _ => True) rfl (fun _ hk => hk) trivial (by omega) (by omega) (Below.refl _ _) (Nat.le_refl _) ?_
         intro v200 w26 ho27 hb hg_ hnew_
         clear hg_ hnew_
         (first | rw [← Ny199.out] at ho27 | (simp only [Int.reduceToNat] at ho27; rw [← Ny199.out] at ho27))
         have n0_ := Aside0.mk (Kd.R_lower ho27 (below_size (by repeat (first | (with_reducible first | exact HB.out | apply below_alloc | apply pw_below_drewN | apply below_drew1 | refine below_set ?_ GE196.out | refine below_set ?_ GE197.out) | exact HB.out))))
         have n1_ := Aside0.mk (blk_below (g := gb196) (o := .cells #[.int .i64 0, .int .u32 0, .int .u32 0, .int .i64 0, .slice none 0 0, .slice none 0 0, .int .u32 0, .string (⟨#[]⟩ : ByteArray)] 30 (0, 0)) (by (with_reducible repeat (first | refine blk_drewN ?_ _ | refine blk_drew ?_ | refine blk_alloc ?_ _)); exact BK196.out) hb)
         have n2_ := Aside0.mk (blk_below (g := gb197) (o := .cells #[.int .i64 1, .int .u32 0, .int .u32 0, .int .i64 0, .slice none 0 0, .slice none 0 0, .int .u32 ((t198) % 4294967296), .string (a0.extract 6 38)] 30 (0, 0)) (by (with_reducible repeat (first | refine blk_drewN ?_ _ | refine blk_drew ?_ | refine blk_alloc ?_ _)); exact BK197.out) hb)
         have n3_ := Aside0.mk (below_step (by repeat (first | (with_reducible first | exact HB.out | apply below_alloc | apply pw_below_drewN | apply below_drew1 | refine below_set ?_ GE196.out | refine below_set ?_ GE197.out) | exact HB.out)) hb)
         clear BK196
         clear BK197
         clear HB
         have HO201 := n0_
         have BK196 := n1_
         have BK197 := n2_
         have HB := n3_
         clear n0_ n1_ n2_ n3_
         clear hb ho27
         refine hK.out _ _ ⟨(blk_cell BK197.out 0).trans rfl, (blk_cell BK197.out 1).trans rfl, (blk_cell BK197.out 2).trans rfl, (blk_cell BK197.out 3).trans rfl, (blk_cell BK197.out 4).trans rfl, (blk_cell BK197.out 5).trans rfl, (blk_cell BK197.out 6).trans rfl, (blk_cell BK197.out 7).trans rfl⟩ (fun hHeld => ?_)
         clear hK K
         refine norm_ (a' := ?_) ?_ ?_
         rotate_left
         ·show Act.put _ (some 29) _ = _
          simp only [Act.put, List.setIfInBounds_toArray, List.set_cons_zero, List.set_cons_succ, i64_w, i32_w]
          rfl
         refine one_ (i := 9) (N := some 30) #[true, true, true, true, true, true, true, true, true, true, false, false] rfl rfl (one_of HT_.out (by kernel_rfl)) (by decide) (fun K hK => ?_)
         have hcv28 := own_string (P := Try.prog) Try.underlying43 Try.underlying5 Try.underlying9 (Kd.own_of_R HO201.out)
         refine value_ (w1 := ?_) (v := ?_) (by rfl) rfl ?_ ?_
         rotate_left 2
         ·go_simp
          constructor
          ·rfl
          ·rfl
         clear hcv28
         refine hK.out _ _ ⟨(blk_cell BK197.out 0).trans rfl, (blk_cell BK197.out 1).trans rfl, (blk_cell BK197.out 2).trans rfl, (blk_cell BK197.out 3).trans rfl, (blk_cell BK197.out 4).trans rfl, (blk_cell BK197.out 5).trans rfl, (blk_cell BK197.out 6).trans rfl, (blk_cell BK197.out 7).trans rfl⟩ (fun hHeld => ?_)
         clear hK K
         refine norm_ (a' := ?_) ?_ ?_
         rotate_left
         ·show Act.put _ (some 30) _ = _
          simp only [Act.put, List.setIfInBounds_toArray, List.set_cons_zero, List.set_cons_succ, i64_w, i32_w]
          rfl
         refine pure_ (i := 10) (N := some 31) (v := ?_) (a' := ?_) #[true, true, true, true, true, true, true, true, true, true, true, false] rfl rfl (any_of HT_.out (by kernel_rfl)) (fun _ _ _ h => h) (Or.inl ⟨by rfl, ?_⟩) ?_ ?_
         rotate_left
         ·intro w'
          go_simp
          with_reducible rfl
         rotate_left
         ·simp only [Act.put, List.setIfInBounds_toArray, List.set_cons_zero, List.set_cons_succ, i64_w, i32_w]
          rfl
         refine pure_ (i := 11) (N := some 32) (v := ?_) (a' := ?_) #[true, true, true, true, true, true, true, true, true, true, true, true] rfl rfl (any_of HT_.out (by kernel_rfl)) (fun _ _ _ h => h) (Or.inl ⟨by rfl, ?_⟩) ?_ ?_
         rotate_left
         ·intro w'
          go_simp
          with_reducible rfl
         rotate_left
         ·simp only [Act.put, List.setIfInBounds_toArray, List.set_cons_zero, List.set_cons_succ, i64_w, i32_w]
          rfl
         refine done_ (done_of HT_.out (by kernel_rfl)) ?_
         try go_wp2
         go_meet
         case rel => exact ⟨_, (((a0.extract 6 38).toList == (strOfNums y199).toList)), (by first | rfl | (simp; done) | (simp [*]; done)), H', ⟨by first | omega | exact Nat.le_refl _⟩, ⟨by (with_reducible repeat (first | refine blk_drewN ?_ _ | refine blk_drew ?_ | refine blk_alloc ?_ _)); exact BK196.out⟩, ⟨by (with_reducible repeat (first | refine blk_drewN ?_ _ | refine blk_drew ?_ | refine blk_alloc ?_ _)); exact BK197.out⟩, ⟨by repeat (first | (with_reducible first | exact HB.out | apply below_alloc | apply pw_below_drewN | apply below_drew1 | refine below_set ?_ GE196.out | refine below_set ?_ GE197.out) | exact HB.out)⟩⟩
        ·rw [if_neg c23] at H
         exact absurd H (by simp)
       ·rw [if_neg c22] at H
        have c22b0 : (((t198) % 4294967296) == 0) = false := beq_eq_false_iff_ne.mpr c22
        have c22b1 : (((t198) % 4294967296) != 0) = true := bne_iff_ne.mpr c22
        (first | rw [c22b0] | (simp only [i64_w, i32_w]; rw [c22b0]) | skip)
        have H' := Aside0.mk H
        clear H
        try go_wp2
        have n0_ : Aside0 (((w19.setCell ⟨gb197, 6, none⟩ (.int .u32 ((t198) % 4294967296))).setCell ⟨gb197, 7, none⟩ (.string (a0.extract 6 38))).heap[gb196]? = some (.cells #[.int .i64 0, .int .u32 0, .int .u32 0, .int .i64 0, .slice none 0 0, .slice none 0 0, .int .u32 0, .string (⟨#[]⟩ : ByteArray)] 30 (0, 0))) := ⟨by (with_reducible repeat (first | refine blk_drewN ?_ _ | refine blk_drew ?_ | refine blk_alloc ?_ _)); refine blk_far ?_ NB196_197.out _; (with_reducible repeat (first | refine blk_drewN ?_ _ | refine blk_drew ?_ | refine blk_alloc ?_ _)); refine blk_far ?_ NB196_197.out _; (with_reducible repeat (first | refine blk_drewN ?_ _ | refine blk_drew ?_ | refine blk_alloc ?_ _)); exact BK196.out⟩
        have n1_ : Aside0 (((w19.setCell ⟨gb197, 6, none⟩ (.int .u32 ((t198) % 4294967296))).setCell ⟨gb197, 7, none⟩ (.string (a0.extract 6 38))).heap[gb197]? = some (.cells #[.int .i64 1, .int .u32 0, .int .u32 0, .int .i64 0, .slice none 0 0, .slice none 0 0, .int .u32 ((t198) % 4294967296), .string (a0.extract 6 38)] 30 (0, 0))) := ⟨by (with_reducible repeat (first | refine blk_drewN ?_ _ | refine blk_drew ?_ | refine blk_alloc ?_ _)); refine blk_put (cs := #[.int .i64 1, .int .u32 0, .int .u32 0, .int .i64 0, .slice none 0 0, .slice none 0 0, .int .u32 ((t198) % 4294967296), .string (⟨#[]⟩ : ByteArray)]) ?_ 7 _ rfl; (with_reducible repeat (first | refine blk_drewN ?_ _ | refine blk_drew ?_ | refine blk_alloc ?_ _)); refine blk_put (cs := #[.int .i64 1, .int .u32 0, .int .u32 0, .int .i64 0, .slice none 0 0, .slice none 0 0, .int .u32 0, .string (⟨#[]⟩ : ByteArray)]) ?_ 6 _ rfl; (with_reducible repeat (first | refine blk_drewN ?_ _ | refine blk_drew ?_ | refine blk_alloc ?_ _)); exact BK197.out⟩
        have n2_ : Aside0 (Below w.heap.size w ((w19.setCell ⟨gb197, 6, none⟩ (.int .u32 ((t198) % 4294967296))).setCell ⟨gb197, 7, none⟩ (.string (a0.extract 6 38)))) := ⟨by repeat (first | (with_reducible first | exact HB.out | apply below_alloc | apply pw_below_drewN | apply below_drew1 | refine below_set ?_ GE196.out | refine below_set ?_ GE197.out) | exact HB.out)⟩
        (try clear BK196)
        (try clear BK197)
        (try clear HB)
        generalize ((w19.setCell ⟨gb197, 6, none⟩ (.int .u32 ((t198) % 4294967296))).setCell ⟨gb197, 7, none⟩ (.string (a0.extract 6 38))) = w29 at n0_ n1_ n2_ ⊢
        have BK196 := n0_
        have BK197 := n1_
        have HB := n2_
        clear n0_ n1_ n2_
        have n0_ := Aside0.mk (blk_drew BK196.out)
        have n1_ := Aside0.mk (blk_drew BK197.out)
        have n2_ := Aside0.mk (below_drew1 HB.out)
        clear BK196
        clear BK197
        clear HB
        have BK196 := n0_
        have BK197 := n1_
        have HB := n2_
        clear n0_ n1_ n2_
        refine start_ (n := 12) (S := fun w' => w'.cell? ⟨gb197, 0, none⟩ = some (.int .i64 1) ∧ w'.cell? ⟨gb197, 1, none⟩ = some (.int .u32 0) ∧ w'.cell? ⟨gb197, 2, none⟩ = some (.int .u32 0) ∧ w'.cell? ⟨gb197, 3, none⟩ = some (.int .i64 0) ∧ w'.cell? ⟨gb197, 4, none⟩ = some (.slice none 0 0) ∧ w'.cell? ⟨gb197, 5, none⟩ = some (.slice none 0 0) ∧ w'.cell? ⟨gb197, 6, none⟩ = some (.int .u32 ((t198) % 4294967296)) ∧ w'.cell? ⟨gb197, 7, none⟩ = some (.string (a0.extract 6 38))) (ds := []) #[false, false, false, false, false, false, false, false, false, false, false, false] (by kernel_rfl) rfl rfl ⟨(blk_cell BK197.out 0).trans rfl, (blk_cell BK197.out 1).trans rfl, (blk_cell BK197.out 2).trans rfl, (blk_cell BK197.out 3).trans rfl, (blk_cell BK197.out 4).trans rfl, (blk_cell BK197.out 5).trans rfl, (blk_cell BK197.out 6).trans rfl, (blk_cell BK197.out 7).trans rfl⟩ (fun hHeld => ?_); refine with_tabW sphragisref10_leaf.tab5 sphragisref10_leaf.bits5 (fun HT_ HW_ => ?_)
        generalize w29.drew = w30 at BK196 BK197 HB hHeld ⊢
        refine pure_ (i := 0) (N := some 21) (v := ?_) (a' := ?_) #[true, false, false, false, false, false, false, false, false, false, false, false] rfl rfl (any_of HT_.out (by kernel_rfl)) (fun _ _ _ h => h) (Or.inl ⟨by rfl, ?_⟩) ?_ ?_
        rotate_left
        ·intro w'
         go_simp
         with_reducible rfl
        rotate_left
        ·simp only [Act.put, List.setIfInBounds_toArray, List.set_cons_zero, List.set_cons_succ, i64_w, i32_w]
         rfl
        refine pure_ (i := 1) (N := some 22) (v := ?_) (a' := ?_) #[true, true, false, false, false, false, false, false, false, false, false, false] rfl rfl (any_of HT_.out (by kernel_rfl)) (fun _ _ _ h => h) (Or.inl ⟨by rfl, ?_⟩) ?_ ?_
        rotate_left
        ·intro w'
         go_simp
         with_reducible rfl
        rotate_left
        ·simp only [Act.put, List.setIfInBounds_toArray, List.set_cons_zero, List.set_cons_succ, i64_w, i32_w]
         rfl
        refine take_ (i := 2) (N := some 23) (v := ?_) (a' := ?_) #[true, true, true, false, false, false, false, false, false, false, false, false] rfl rfl (take_ofW HT_.out HW_.out (by kernel_rfl)) (fun _ _ _ h => h) (Or.inl ⟨by rfl, ?_⟩) hHeld ?_ ?_
        rotate_left
        ·rintro w' ⟨s0, s1, s2, s3, s4, s5, s6, s7⟩
         go_simp
         with_reducible rfl
        rotate_left
        ·simp only [Act.put, List.setIfInBounds_toArray, List.set_cons_zero, List.set_cons_succ, i64_w, i32_w]
         rfl
        refine pure_ (i := 3) (N := some 24) (v := ?_) (a' := ?_) #[true, true, true, true, false, false, false, false, false, false, false, false] rfl rfl (any_of HT_.out (by kernel_rfl)) (fun _ _ _ h => h) (Or.inl ⟨by rfl, ?_⟩) ?_ ?_
        rotate_left
        ·intro w'
         go_simp
         with_reducible rfl
        rotate_left
        ·simp only [Act.put, List.setIfInBounds_toArray, List.set_cons_zero, List.set_cons_succ, i64_w, i32_w]
         rfl
        refine pure_ (i := 4) (N := some 25) (v := ?_) (a' := ?_) #[true, true, true, true, true, false, false, false, false, false, false, false] rfl rfl (any_of HT_.out (by kernel_rfl)) (fun _ _ _ h => h) (Or.inl ⟨by rfl, ?_⟩) ?_ ?_
        rotate_left
        ·intro w'
         go_simp
         with_reducible rfl
        rotate_left
        ·simp only [Act.put, List.setIfInBounds_toArray, List.set_cons_zero, List.set_cons_succ, i64_w, i32_w]
         rfl
        refine pure_ (i := 5) (N := some 26) (v := undef) (a' := ?_) #[true, true, true, true, true, true, false, false, false, false, false, false] rfl rfl (any_of HT_.out (by kernel_rfl)) (fun _ _ _ h => h) (Or.inr ⟨by rfl, rfl⟩) ?_ ?_
        rotate_left
        ·simp only [Act.put, List.setIfInBounds_toArray, List.set_cons_zero, List.set_cons_succ, i64_w, i32_w]
         rfl
        refine pure_ (i := 6) (N := some 27) (v := undef) (a' := ?_) #[true, true, true, true, true, true, true, false, false, false, false, false] rfl rfl (any_of HT_.out (by kernel_rfl)) (fun _ _ _ h => h) (Or.inr ⟨by rfl, rfl⟩) ?_ ?_
        rotate_left
        ·simp only [Act.put, List.setIfInBounds_toArray, List.set_cons_zero, List.set_cons_succ, i64_w, i32_w]
         rfl
        refine pure_ (i := 7) (N := some 28) (v := undef) (a' := ?_) #[true, true, true, true, true, true, true, true, false, false, false, false] rfl rfl (any_of HT_.out (by kernel_rfl)) (fun _ _ _ h => h) (Or.inr ⟨by rfl, rfl⟩) ?_ ?_
        rotate_left
        ·simp only [Act.put, List.setIfInBounds_toArray, List.set_cons_zero, List.set_cons_succ, i64_w, i32_w]
         rfl
        refine pure_ (i := 8) (N := some 29) (v := undef) (a' := ?_) #[true, true, true, true, true, true, true, true, true, false, false, false] rfl rfl (any_of HT_.out (by kernel_rfl)) (fun _ _ _ h => h) (Or.inr ⟨by rfl, rfl⟩) ?_ ?_
        rotate_left
        ·simp only [Act.put, List.setIfInBounds_toArray, List.set_cons_zero, List.set_cons_succ, i64_w, i32_w]
         rfl
        refine pure_ (i := 9) (N := some 30) (v := undef) (a' := ?_) #[true, true, true, true, true, true, true, true, true, true, false, false] rfl rfl (any_of HT_.out (by kernel_rfl)) (fun _ _ _ h => h) (Or.inr ⟨by rfl, rfl⟩) ?_ ?_
        rotate_left
        ·simp only [Act.put, List.setIfInBounds_toArray, List.set_cons_zero, List.set_cons_succ, i64_w, i32_w]
         rfl
        refine pure_ (i := 10) (N := some 31) (v := undef) (a' := ?_) #[true, true, true, true, true, true, true, true, true, true, true, false] rfl rfl (any_of HT_.out (by kernel_rfl)) (fun _ _ _ h => h) (Or.inr ⟨by rfl, rfl⟩) ?_ ?_
        rotate_left
        ·simp only [Act.put, List.setIfInBounds_toArray, List.set_cons_zero, List.set_cons_succ, i64_w, i32_w]
         rfl
        refine pure_ (i := 11) (N := some 32) (v := ?_) (a' := ?_) #[true, true, true, true, true, true, true, true, true, true, true, true] rfl rfl (any_of HT_.out (by kernel_rfl)) (fun _ _ _ h => h) (Or.inl ⟨by rfl, ?_⟩) ?_ ?_
        rotate_left
        ·intro w'
         go_simp
         with_reducible rfl
        rotate_left
        ·simp only [Act.put, List.setIfInBounds_toArray, List.set_cons_zero, List.set_cons_succ, i64_w, i32_w]
         rfl
        refine done_ (done_of HT_.out (by kernel_rfl)) ?_
        try go_wp2
        go_meet
        case rel => exact ⟨_, (false), (by first | rfl | (simp; done) | (simp [*]; done)), H', ⟨by first | omega | exact Nat.le_refl _⟩, ⟨by (with_reducible repeat (first | refine blk_drewN ?_ _ | refine blk_drew ?_ | refine blk_alloc ?_ _)); exact BK196.out⟩, ⟨by (with_reducible repeat (first | refine blk_drewN ?_ _ | refine blk_drew ?_ | refine blk_alloc ?_ _)); exact BK197.out⟩, ⟨by repeat (first | (with_reducible first | exact HB.out | apply below_alloc | apply pw_below_drewN | apply below_drew1 | refine below_set ?_ GE196.out | refine below_set ?_ GE197.out) | exact HB.out)⟩⟩
      case rest =>
       clear HC13
       try clear c1
       try clear c2
       try clear c2b0
       try clear c2b1
       try clear p2
       try clear hcv2
       try clear c3
       try clear c4
       try clear c5
       try clear c8
       try clear c8b0
       try clear c8b1
       try clear c9
       try clear c9b0
       try clear c9b1
       try clear c11
       try clear c11b0
       try clear c11b1
       try clear c12
       try clear c12b0
       try clear c12b1
       try clear c16
       try clear c22
       try clear c22b0
       try clear c22b1
       try clear c23
       try clear c23b0
       try clear c23b1
       try clear hcv28
       try clear hcz17_0
       try clear hcz17_1
       try clear hcz17_2
       try clear hcz17_3
       try clear hcz17_4
       try clear hcz17_5
       try clear hcz17_6
       try clear hcz17_7
       try clear hcz6_0
       try clear hcz6_1
       try clear hcz6_2
       try clear hcz6_3
       try clear hcz6_4
       try clear hcz6_5
       try clear hcz6_6
       try clear hcz6_7
       try clear hcz7_0
       try clear hcz7_1
       try clear hcz7_2
       try clear hcz7_3
       try clear hcz7_4
       try clear hcz7_5
       try clear hcz7_6
       try clear hcz7_7
       try clear hfz17_0
       try clear hfz17_1
       try clear hfz17_2
       try clear hfz17_3
       try clear hfz17_4
       try clear hfz17_5
       try clear hfz17_6
       try clear hfz17_7
       try clear hfz6_0
       try clear hfz6_1
       try clear hfz6_2
       try clear hfz6_3
       try clear hfz6_4
       try clear hfz6_5
       try clear hfz6_6
       try clear hfz6_7
       try clear hfz7_0
       try clear hfz7_1
       try clear hfz7_2
       try clear hfz7_3
       try clear hfz7_4
       try clear hfz7_5
       try clear hfz7_6
       try clear hfz7_7
       obtain ⟨kq, x32_12, rfl, HA, HJ12, BK196, BK197, HB⟩ := hcut
       cases kq with
       | zero => exact absurd HA.out (by simp [sphragisref10_leaf.j0])
       | succ kj12 =>
        have H := HA.out
        clear HA
        simp only [sphragisref10_leaf.j0] at H
        have HC31 := Aside0.mk H
        clear H
        go_upto_if 32 with (fail)
        go_cut [] (fun wc => ∃ (kq : Nat) (x198007_30 : ByteArray), Aside0 (sphragisref10_leaf.j1 kq a0 1 0 0 0 ((t198) % 4294967296) x198007_30 = some (r1, r2, r3, r4, r5, r6, r7, r8, r9)) ∧ Aside0 (kq ≤ kj12) ∧ Aside0 (wc.heap[gb196]? = some (.cells #[.int .i64 0, .int .u32 0, .int .u32 0, .int .i64 0, (.slice none 0 0), (.slice none 0 0), .int .u32 0, .string (⟨#[]⟩ : ByteArray)] 30 (0, 0))) ∧ Aside0 (wc.heap[gb197]? = some (.cells #[.int .i64 1, .int .u32 0, .int .u32 0, .int .i64 0, (.slice none 0 0), (.slice none 0 0), .int .u32 ((t198) % 4294967296), .string x198007_30] 30 (0, 0))) ∧ Aside0 (Below w.heap.size w wc))
        case first =>
         have H := HC31.out
         clear HC31
         by_cases c32 : x32_12 = true
         ·subst c32
          have H1 : (sphragisref10_leaf.j1 kj12 a0 1 0 0 0 ((t198) % 4294967296) (⟨#[]⟩ : ByteArray)) = some (r1, r2, r3, r4, r5, r6, r7, r8, r9) := by rw [if_pos rfl] at H; exact H
          clear H
          have H := H1
          clear H1
          have H' := Aside0.mk H
          clear H
          have hnb33 := NB197_196.out
          have hnc33 := NB196_197.out
          have hcz34_0 : wc.cell? ⟨gb197, 0, none⟩ = some (.int .i64 1) := (blk_cell BK197.out 0).trans rfl
          have hcz34_1 : wc.cell? ⟨gb197, 1, none⟩ = some (.int .u32 0) := (blk_cell BK197.out 1).trans rfl
          have hcz34_2 : wc.cell? ⟨gb197, 2, none⟩ = some (.int .u32 0) := (blk_cell BK197.out 2).trans rfl
          have hcz34_3 : wc.cell? ⟨gb197, 3, none⟩ = some (.int .i64 0) := (blk_cell BK197.out 3).trans rfl
          have hcz34_4 : wc.cell? ⟨gb197, 4, none⟩ = some (.slice none 0 0) := (blk_cell BK197.out 4).trans rfl
          have hcz34_5 : wc.cell? ⟨gb197, 5, none⟩ = some (.slice none 0 0) := (blk_cell BK197.out 5).trans rfl
          have hcz34_6 : wc.cell? ⟨gb197, 6, none⟩ = some (.int .u32 ((t198) % 4294967296)) := (blk_cell BK197.out 6).trans rfl
          have hcz34_7 : wc.cell? ⟨gb197, 7, none⟩ = some (.string (a0.extract 6 38)) := (blk_cell BK197.out 7).trans rfl
          have hfz34_0 := blk_frozen BK197.out 0
          have hfz34_1 := blk_frozen BK197.out 1
          have hfz34_2 := blk_frozen BK197.out 2
          have hfz34_3 := blk_frozen BK197.out 3
          have hfz34_4 := blk_frozen BK197.out 4
          have hfz34_5 := blk_frozen BK197.out 5
          have hfz34_6 := blk_frozen BK197.out 6
          have hfz34_7 := blk_frozen BK197.out 7
          go_wp2
          go_meet
          case rel => exact ⟨_, ((⟨#[]⟩ : ByteArray)), H', ⟨by have := HJ12.out; first | omega | exact Nat.le_refl _⟩, ⟨by (with_reducible repeat (first | refine blk_drewN ?_ _ | refine blk_drew ?_ | refine blk_alloc ?_ _)); refine blk_far ?_ NB196_197.out _; (with_reducible repeat (first | refine blk_drewN ?_ _ | refine blk_drew ?_ | refine blk_alloc ?_ _)); exact BK196.out⟩, ⟨by (with_reducible repeat (first | refine blk_drewN ?_ _ | refine blk_drew ?_ | refine blk_alloc ?_ _)); refine blk_put (cs := #[.int .i64 1, .int .u32 0, .int .u32 0, .int .i64 0, .slice none 0 0, .slice none 0 0, .int .u32 ((t198) % 4294967296), .string (a0.extract 6 38)]) ?_ 7 _ rfl; (with_reducible repeat (first | refine blk_drewN ?_ _ | refine blk_drew ?_ | refine blk_alloc ?_ _)); exact BK197.out⟩, ⟨by repeat (first | (with_reducible first | exact HB.out | apply below_alloc | apply pw_below_drewN | apply below_drew1 | refine below_set ?_ GE196.out | refine below_set ?_ GE197.out) | exact HB.out)⟩⟩
         ·replace c32 := Bool.eq_false_iff.mpr c32
          subst c32
          have H1 : (sphragisref10_leaf.j1 kj12 a0 1 0 0 0 ((t198) % 4294967296) (a0.extract 6 38)) = some (r1, r2, r3, r4, r5, r6, r7, r8, r9) := by rw [if_neg (show ¬ (false = true) by decide)] at H; exact H
          clear H
          have H := H1
          clear H1
          have H' := Aside0.mk H
          clear H
          go_wp2
          go_meet
          case rel => exact ⟨_, ((a0.extract 6 38)), H', ⟨by have := HJ12.out; first | omega | exact Nat.le_refl _⟩, ⟨by (with_reducible repeat (first | refine blk_drewN ?_ _ | refine blk_drew ?_ | refine blk_alloc ?_ _)); exact BK196.out⟩, ⟨by (with_reducible repeat (first | refine blk_drewN ?_ _ | refine blk_drew ?_ | refine blk_alloc ?_ _)); exact BK197.out⟩, ⟨by repeat (first | (with_reducible first | exact HB.out | apply below_alloc | apply pw_below_drewN | apply below_drew1 | refine below_set ?_ GE196.out | refine below_set ?_ GE197.out) | exact HB.out)⟩⟩
        case rest =>
         clear HC31
         try clear c1
         try clear c2
         try clear c2b0
         try clear c2b1
         try clear p2
         try clear hcv2
         try clear c3
         try clear c4
         try clear c5
         try clear c8
         try clear c8b0
         try clear c8b1
         try clear c9
         try clear c9b0
         try clear c9b1
         try clear c11
         try clear c11b0
         try clear c11b1
         try clear c12
         try clear c12b0
         try clear c12b1
         try clear c16
         try clear c22
         try clear c22b0
         try clear c22b1
         try clear c23
         try clear c23b0
         try clear c23b1
         try clear hcv28
         try clear c32
         try clear c33
         try clear hcz17_0
         try clear hcz17_1
         try clear hcz17_2
         try clear hcz17_3
         try clear hcz17_4
         try clear hcz17_5
         try clear hcz17_6
         try clear hcz17_7
         try clear hcz34_0
         try clear hcz34_1
         try clear hcz34_2
         try clear hcz34_3
         try clear hcz34_4
         try clear hcz34_5
         try clear hcz34_6
         try clear hcz34_7
         try clear hcz6_0
         try clear hcz6_1
         try clear hcz6_2
         try clear hcz6_3
         try clear hcz6_4
         try clear hcz6_5
         try clear hcz6_6
         try clear hcz6_7
         try clear hcz7_0
         try clear hcz7_1
         try clear hcz7_2
         try clear hcz7_3
         try clear hcz7_4
         try clear hcz7_5
         try clear hcz7_6
         try clear hcz7_7
         try clear hfz17_0
         try clear hfz17_1
         try clear hfz17_2
         try clear hfz17_3
         try clear hfz17_4
         try clear hfz17_5
         try clear hfz17_6
         try clear hfz17_7
         try clear hfz34_0
         try clear hfz34_1
         try clear hfz34_2
         try clear hfz34_3
         try clear hfz34_4
         try clear hfz34_5
         try clear hfz34_6
         try clear hfz34_7
         try clear hfz6_0
         try clear hfz6_1
         try clear hfz6_2
         try clear hfz6_3
         try clear hfz6_4
         try clear hfz6_5
         try clear hfz6_6
         try clear hfz6_7
         try clear hfz7_0
         try clear hfz7_1
         try clear hfz7_2
         try clear hfz7_3
         try clear hfz7_4
         try clear hfz7_5
         try clear hfz7_6
         try clear hfz7_7
         try clear p2
         obtain ⟨kq, x198007_30, HA, HJ30, BK196, BK197, HB⟩ := hcut
         cases kq with
         | zero => exact absurd HA.out (by simp [sphragisref10_leaf.j1])
         | succ kj30 =>
          have H := HA.out
          clear HA
          simp only [sphragisref10_leaf.j1] at H
          have H' := Aside0.mk H
          clear H
          go_wp2
          go_loopg [5, 6] kj30 (fun kq v5 v6 w' => ∃ (x5_3 : Int) (x6_3 : Int) (x197000_3 : Int) (x197001_3 : Int) (x197002_3 : Int) (x197003_3 : Int) (x197006_3 : Int) (x197007_3 : ByteArray) (x198004_3 : List (S47)) (u198004 : Value), v5 = .int .i64 x5_3 ∧ v6 = .int .i64 x6_3 ∧ Aside0 (sphragisref10_leaf.l0 kq a0 x5_3 x6_3 1 0 0 0 x198004_3 ((t198) % 4294967296) x198007_30 = some (r1, r2, r3, r4, r5, r6, r7, r8, r9)) ∧ Aside0 (kq ≤ kj30) ∧ Aside0 (Kd.R k47 47 w' w.heap.size (fun _ => True) u198004 x198004_3) ∧ Aside0 (w'.heap[gb196]? = some (.cells #[.int .i64 x197000_3, .int .u32 x197001_3, .int .u32 x197002_3, .int .i64 x197003_3, (.slice none 0 0), (.slice none 0 0), .int .u32 x197006_3, .string x197007_3] 30 (0, 0))) ∧ Aside0 (w'.heap[gb197]? = some (.cells #[.int .i64 1, .int .u32 0, .int .u32 0, .int .i64 0, u198004, (.slice none 0 0), .int .u32 ((t198) % 4294967296), .string x198007_30] 30 (0, 0))) ∧ Aside0 (Below w.heap.size w w'))
          case atStart => exact ⟨(38), (0), (0), (0), (0), (0), (0), ((⟨#[]⟩ : ByteArray)), (([] : List (S47))), (.slice none 0 0), (by first | rfl | (simp; done) | (simp [*]; done)), (by first | rfl | (simp; done) | (simp [*]; done)), H', ⟨Nat.le_refl _⟩, ⟨by first | exact Kd.R_nil _ _ _ _ _ | exact Kd.N_nil _ _ _ _ _ | exact Kd.V_nil _ _ _ _ _ | exact Kd.Q_nil _ _ _ _ _ | exact Kd.S_nil _ _ _ _ _⟩, ⟨by (with_reducible repeat (first | refine blk_drewN ?_ _ | refine blk_drew ?_ | refine blk_alloc ?_ _)); exact BK196.out⟩, ⟨by (with_reducible repeat (first | refine blk_drewN ?_ _ | refine blk_drew ?_ | refine blk_alloc ?_ _)); exact BK197.out⟩, ⟨by repeat (first | (with_reducible first | exact HB.out | apply below_alloc | apply pw_below_drewN | apply below_drew1 | refine below_set ?_ GE196.out | refine below_set ?_ GE197.out) | exact HB.out)⟩⟩
          case round =>
           clear H'
           try clear c1
           try clear c2
           try clear c2b0
           try clear c2b1
           try clear p2
           try clear hcv2
           try clear c3
           try clear c4
           try clear c5
           try clear c8
           try clear c8b0
           try clear c8b1
           try clear c9
           try clear c9b0
           try clear c9b1
           try clear c11
           try clear c11b0
           try clear c11b1
           try clear c12
           try clear c12b0
           try clear c12b1
           try clear c16
           try clear c22
           try clear c22b0
           try clear c22b1
           try clear c23
           try clear c23b0
           try clear c23b1
           try clear hcv28
           try clear c32
           try clear c33
           try clear hcz17_0
           try clear hcz17_1
           try clear hcz17_2
           try clear hcz17_3
           try clear hcz17_4
           try clear hcz17_5
           try clear hcz17_6
           try clear hcz17_7
           try clear hcz34_0
           try clear hcz34_1
           try clear hcz34_2
           try clear hcz34_3
           try clear hcz34_4
           try clear hcz34_5
           try clear hcz34_6
           try clear hcz34_7
           try clear hcz6_0
           try clear hcz6_1
           try clear hcz6_2
           try clear hcz6_3
           try clear hcz6_4
           try clear hcz6_5
           try clear hcz6_6
           try clear hcz6_7
           try clear hcz7_0
           try clear hcz7_1
           try clear hcz7_2
           try clear hcz7_3
           try clear hcz7_4
           try clear hcz7_5
           try clear hcz7_6
           try clear hcz7_7
           try clear hfz17_0
           try clear hfz17_1
           try clear hfz17_2
           try clear hfz17_3
           try clear hfz17_4
           try clear hfz17_5
           try clear hfz17_6
           try clear hfz17_7
           try clear hfz34_0
           try clear hfz34_1
           try clear hfz34_2
           try clear hfz34_3
           try clear hfz34_4
           try clear hfz34_5
           try clear hfz34_6
           try clear hfz34_7
           try clear hfz6_0
           try clear hfz6_1
           try clear hfz6_2
           try clear hfz6_3
           try clear hfz6_4
           try clear hfz6_5
           try clear hfz6_6
           try clear hfz6_7
           try clear hfz7_0
           try clear hfz7_1
           try clear hfz7_2
           try clear hfz7_3
           try clear hfz7_4
           try clear hfz7_5
           try clear hfz7_6
           try clear hfz7_7
           try clear p2
           obtain ⟨x5_3, x6_3, x197000_3, x197001_3, x197002_3, x197003_3, x197006_3, x197007_3, x198004_3, u198004, rfl, rfl, HA, HK3, HO_198004, BK196, BK197, HB⟩ := hrel
           cases gk with
           | zero => exact absurd HA.out (by simp [sphragisref10_leaf.l0])
           | succ k3 =>
            have H := HA.out
            clear HA
            simp only [sphragisref10_leaf.l0] at H
            by_cases c35 : 1 < (a0.size : Int)
            ·rw [if_pos c35] at H
             have c35b0 : decide (1 < (a0.size : Int)) = true := decide_eq_true c35
             have c35b1 : decide (1 < a0.size) = true := decide_eq_true (by omega)
             clear c35
             by_cases c37 : x6_3 < (wrap64 (bt a0 1))
             ·rw [if_pos c37] at H
              have c37b0 : decide (x6_3 < (wrap64 (bt a0 1))) = true := decide_eq_true c37
              clear c37
              by_cases c38 : (a0.size : Int) < (wrap64 (x5_3 + 17))
              ·rw [if_pos c38] at H
               have c38b0 : decide ((a0.size : Int) < (wrap64 (x5_3 + 17))) = true := decide_eq_true c38
               clear c38
               simp only [Option.some.injEq, Prod.mk.injEq] at H
               obtain ⟨rfl, rfl, rfl, rfl, rfl, rfl, rfl, rfl, rfl⟩ := H
               have p36 : 0 ≤ (1 : Int) := (by omega)
               have q36 : 1 < a0.size := (by have : (1 : Int) < (a0.size : Int) := of_decide_eq_true (by first | (with_reducible assumption) | assumption); omega)
               have hx36 : ∀ h : 1 < a0.size, ((a0[1]'h).toNat : Int) = bt a0 1 := bt_at a0 1
               clear p36
               have qi36 : (1 < (a0.size : Int)) = True := eq_true (of_decide_eq_true (by first | (with_reducible assumption) | assumption))
               replace q36 := eq_true q36
               have hnb39 := NB197_196.out
               have hnc39 := NB196_197.out
               have hcz40_0 : wr.cell? ⟨gb197, 0, none⟩ = some (.int .i64 1) := (blk_cell BK197.out 0).trans rfl
               have hcz40_1 : wr.cell? ⟨gb197, 1, none⟩ = some (.int .u32 0) := (blk_cell BK197.out 1).trans rfl
               have hcz40_2 : wr.cell? ⟨gb197, 2, none⟩ = some (.int .u32 0) := (blk_cell BK197.out 2).trans rfl
               have hcz40_3 : wr.cell? ⟨gb197, 3, none⟩ = some (.int .i64 0) := (blk_cell BK197.out 3).trans rfl
               have hcz40_4 : wr.cell? ⟨gb197, 4, none⟩ = some (u198004) := (blk_cell BK197.out 4).trans rfl
               have hcz40_5 : wr.cell? ⟨gb197, 5, none⟩ = some (.slice none 0 0) := (blk_cell BK197.out 5).trans rfl
               have hcz40_6 : wr.cell? ⟨gb197, 6, none⟩ = some (.int .u32 ((t198) % 4294967296)) := (blk_cell BK197.out 6).trans rfl
               have hcz40_7 : wr.cell? ⟨gb197, 7, none⟩ = some (.string x198007_30) := (blk_cell BK197.out 7).trans rfl
               have hfz40_0 := blk_frozen BK197.out 0
               have hfz40_1 := blk_frozen BK197.out 1
               have hfz40_2 := blk_frozen BK197.out 2
               have hfz40_3 := blk_frozen BK197.out 3
               have hfz40_4 := blk_frozen BK197.out 4
               have hfz40_5 := blk_frozen BK197.out 5
               have hfz40_6 := blk_frozen BK197.out 6
               have hfz40_7 := blk_frozen BK197.out 7
               have hcz41_0 : wr.cell? ⟨gb196, 0, none⟩ = some (.int .i64 x197000_3) := (blk_cell BK196.out 0).trans rfl
               have hcz41_1 : wr.cell? ⟨gb196, 1, none⟩ = some (.int .u32 x197001_3) := (blk_cell BK196.out 1).trans rfl
               have hcz41_2 : wr.cell? ⟨gb196, 2, none⟩ = some (.int .u32 x197002_3) := (blk_cell BK196.out 2).trans rfl
               have hcz41_3 : wr.cell? ⟨gb196, 3, none⟩ = some (.int .i64 x197003_3) := (blk_cell BK196.out 3).trans rfl
               have hcz41_4 : wr.cell? ⟨gb196, 4, none⟩ = some (.slice none 0 0) := (blk_cell BK196.out 4).trans rfl
               have hcz41_5 : wr.cell? ⟨gb196, 5, none⟩ = some (.slice none 0 0) := (blk_cell BK196.out 5).trans rfl
               have hcz41_6 : wr.cell? ⟨gb196, 6, none⟩ = some (.int .u32 x197006_3) := (blk_cell BK196.out 6).trans rfl
               have hcz41_7 : wr.cell? ⟨gb196, 7, none⟩ = some (.string x197007_3) := (blk_cell BK196.out 7).trans rfl
               have hfz41_0 := blk_frozen BK196.out 0
               have hfz41_1 := blk_frozen BK196.out 1
               have hfz41_2 := blk_frozen BK196.out 2
               have hfz41_3 := blk_frozen BK196.out 3
               have hfz41_4 := blk_frozen BK196.out 4
               have hfz41_5 := blk_frozen BK196.out 5
               have hfz41_6 := blk_frozen BK196.out 6
               have hfz41_7 := blk_frozen BK196.out 7
               obtain ⟨Ao42, co42, eo42⟩ := Kd.R_slice HO_198004.out
               subst eo42
               go_wp2
               refine bodyPost_ret (results_ct rfl _ _ gb196 30 #[.int .i64 1, .int .u32 0, .int .u32 0, .int .i64 0, .slice Ao42 x198004_3.length co42, .slice none 0 0, .int .u32 ((t198) % 4294967296), .string x198007_30] (0, 0) _ rfl (by (with_reducible repeat (first | refine blk_drewN ?_ _ | refine blk_drew ?_ | refine blk_alloc ?_ _)); refine blk_put (cs := #[.int .i64 1, .int .u32 0, .int .u32 0, .int .i64 0, .slice Ao42 x198004_3.length co42, .slice none 0 0, .int .u32 ((t198) % 4294967296), .string x197007_3]) ?_ 7 _ rfl; (with_reducible repeat (first | refine blk_drewN ?_ _ | refine blk_drew ?_ | refine blk_alloc ?_ _)); refine blk_put (cs := #[.int .i64 1, .int .u32 0, .int .u32 0, .int .i64 0, .slice Ao42 x198004_3.length co42, .slice none 0 0, .int .u32 x197006_3, .string x197007_3]) ?_ 6 _ rfl; (with_reducible repeat (first | refine blk_drewN ?_ _ | refine blk_drew ?_ | refine blk_alloc ?_ _)); refine blk_put (cs := #[.int .i64 1, .int .u32 0, .int .u32 0, .int .i64 0, .slice Ao42 x198004_3.length co42, .slice none 0 0, .int .u32 x197006_3, .string x197007_3]) ?_ 5 _ rfl; (with_reducible repeat (first | refine blk_drewN ?_ _ | refine blk_drew ?_ | refine blk_alloc ?_ _)); refine blk_put (cs := #[.int .i64 1, .int .u32 0, .int .u32 0, .int .i64 0, .slice none 0 0, .slice none 0 0, .int .u32 x197006_3, .string x197007_3]) ?_ 4 _ rfl; (with_reducible repeat (first | refine blk_drewN ?_ _ | refine blk_drew ?_ | refine blk_alloc ?_ _)); refine blk_put (cs := #[.int .i64 1, .int .u32 0, .int .u32 0, .int .i64 x197003_3, .slice none 0 0, .slice none 0 0, .int .u32 x197006_3, .string x197007_3]) ?_ 3 _ rfl; (with_reducible repeat (first | refine blk_drewN ?_ _ | refine blk_drew ?_ | refine blk_alloc ?_ _)); refine blk_put (cs := #[.int .i64 1, .int .u32 0, .int .u32 x197002_3, .int .i64 x197003_3, .slice none 0 0, .slice none 0 0, .int .u32 x197006_3, .string x197007_3]) ?_ 2 _ rfl; (with_reducible repeat (first | refine blk_drewN ?_ _ | refine blk_drew ?_ | refine blk_alloc ?_ _)); refine blk_put (cs := #[.int .i64 1, .int .u32 x197001_3, .int .u32 x197002_3, .int .i64 x197003_3, .slice none 0 0, .slice none 0 0, .int .u32 x197006_3, .string x197007_3]) ?_ 1 _ rfl; (with_reducible repeat (first | refine blk_drewN ?_ _ | refine blk_drew ?_ | refine blk_alloc ?_ _)); refine blk_put (cs := #[.int .i64 x197000_3, .int .u32 x197001_3, .int .u32 x197002_3, .int .i64 x197003_3, .slice none 0 0, .slice none 0 0, .int .u32 x197006_3, .string x197007_3]) ?_ 0 _ rfl; (with_reducible repeat (first | refine blk_drewN ?_ _ | refine blk_drew ?_ | refine blk_alloc ?_ _)); exact BK196.out) Try.underlying30 rfl (by kernel_rfl)) rfl ?_
               exact ⟨_, _, by first | rfl | (simp [errW_none, errW_some] <;> rfl) | (simp [*, errW_none, errW_some] <;> rfl), by (with_reducible repeat (first | apply Kd.R_alloc | apply Kd.R_drewN | apply Kd.R_drew)); exact Kd.R_mono (Kd.R_far (p := ⟨gb196, 7, none⟩) (Kd.R_far (p := ⟨gb196, 6, none⟩) (Kd.R_far (p := ⟨gb196, 5, none⟩) (Kd.R_far (p := ⟨gb196, 4, none⟩) (Kd.R_far (p := ⟨gb196, 3, none⟩) (Kd.R_far (p := ⟨gb196, 2, none⟩) (Kd.R_far (p := ⟨gb196, 1, none⟩) (Kd.R_far (p := ⟨gb196, 0, none⟩) (Kd.R_types HO_198004.out BK196.out (by decide)) (fun _ hk => hk.2) (.int .i64 1)) (fun _ hk => hk.2) (.int .u32 0)) (fun _ hk => hk.2) (.int .u32 0)) (fun _ hk => hk.2) (.int .i64 0)) (fun _ hk => hk.2) (.slice Ao42 x198004_3.length co42)) (fun _ hk => hk.2) (.slice none 0 0)) (fun _ hk => hk.2) (.int .u32 ((t198) % 4294967296))) (fun _ hk => hk.2) (.string x198007_30)) (fun _ hk => trivial), by first | exact Kd.R_nil _ _ _ _ _ | exact Kd.N_nil _ _ _ _ _ | exact Kd.V_nil _ _ _ _ _ | exact Kd.Q_nil _ _ _ _ _ | exact Kd.S_nil _ _ _ _ _, by repeat (first | (with_reducible first | exact HB.out | apply below_alloc | apply pw_below_drewN | apply below_drew1 | refine below_set ?_ GE196.out | refine below_set ?_ GE197.out) | exact HB.out)⟩
              ·rw [if_neg c38] at H
               have c38b0 : decide ((a0.size : Int) < (wrap64 (x5_3 + 17))) = false := decide_eq_false c38
               clear c38
               obtain ⟨ji43, hji43⟩ : ∃ j_ : Int, (wrap64 (x5_3 + 16)) = j_ := ⟨_, rfl⟩
               replace H : (if 0 ≤ (ji43) then (if (ji43) < (a0.size : Int) then (if (a0.size : Int) < (wrap64 ((wrap64 (x5_3 + 17)) + (wrap64 (bt a0 (ji43))))) then (some (1, 0, 0, 0, x198004_3, ([] : List (S28)), ((t198) % 4294967296), x198007_30, false)) else (if 0 ≤ x5_3 then (if x5_3 ≤ (wrap64 (x5_3 + 8)) then (if (wrap64 (x5_3 + 8)) ≤ (a0.size : Int) then ((sphragisref10_get.f k3 (a0.extract (x5_3 : Int).toNat ((wrap64 (x5_3 + 8)) : Int).toNat)).bind fun t202 => (if 0 ≤ (wrap64 (x5_3 + 8)) then (if (wrap64 (x5_3 + 8)) ≤ (wrap64 (x5_3 + 12)) then (if (wrap64 (x5_3 + 12)) ≤ (a0.size : Int) then ((sphragisref10_get.f k3 (a0.extract ((wrap64 (x5_3 + 8)) : Int).toNat ((wrap64 (x5_3 + 12)) : Int).toNat)).bind fun t203 => (if 0 ≤ (wrap64 (x5_3 + 12)) then (if (wrap64 (x5_3 + 12)) ≤ (ji43) then (if (ji43) ≤ (a0.size : Int) then ((sphragisref10_get.f k3 (a0.extract ((wrap64 (x5_3 + 12)) : Int).toNat ((ji43) : Int).toNat)).bind fun t204 => (if 0 ≤ (wrap64 (x5_3 + 17)) then (if (wrap64 (x5_3 + 17)) ≤ (wrap64 ((wrap64 (x5_3 + 17)) + (wrap64 (bt a0 (ji43))))) then (if (wrap64 ((wrap64 (x5_3 + 17)) + (wrap64 (bt a0 (ji43))))) ≤ (a0.size : Int) then (if x198004_3.length < 4398046511104 then (sphragisref10_leaf.l0 k3 a0 (wrap64 ((wrap64 (x5_3 + 17)) + (wrap64 (bt a0 (ji43))))) (wrap64 (x6_3 + 1)) 1 0 0 0 (x198004_3 ++ [(⟨t202, (t203) % 4294967296, (t204) % 4294967296, a0.extract ((wrap64 (x5_3 + 17)) : Int).toNat ((wrap64 ((wrap64 (x5_3 + 17)) + (wrap64 (bt a0 (ji43))))) : Int).toNat⟩ : S47)]) ((t198) % 4294967296) x198007_30) else (none)) else (none)) else (none)) else (none))) else (none)) else (none)) else (none))) else (none)) else (none)) else (none))) else (none)) else (none)) else (none))) else (none)) else (none)) = some (r1, r2, r3, r4, r5, r6, r7, r8, r9) := by first | (rw [hji43] at H; exact H) | (simp only [hji43] at H ⊢; exact H)
               have hji43w : (IntKind.i64.wrap (x5_3 + 16)) = ji43 := (i64_w _).trans hji43
               by_cases c44 : 0 ≤ (ji43)
               ·rw [if_pos c44] at H
                have c44b0 : decide (0 ≤ (ji43)) = true := decide_eq_true c44
                clear c44
                by_cases c45 : (ji43) < (a0.size : Int)
                ·rw [if_pos c45] at H
                 have c45b0 : decide ((ji43) < (a0.size : Int)) = true := decide_eq_true c45
                 clear c45
                 by_cases c47 : (a0.size : Int) < (wrap64 ((wrap64 (x5_3 + 17)) + (wrap64 (bt a0 (ji43)))))
                 ·rw [if_pos c47] at H
                  have c47b0 : decide ((a0.size : Int) < (wrap64 ((wrap64 (x5_3 + 17)) + (wrap64 (bt a0 (ji43)))))) = true := decide_eq_true c47
                  clear c47
                  simp only [Option.some.injEq, Prod.mk.injEq] at H
                  obtain ⟨rfl, rfl, rfl, rfl, rfl, rfl, rfl, rfl, rfl⟩ := H
                  have p36 : 0 ≤ (1 : Int) := (by omega)
                  have q36 : 1 < a0.size := (by have : (1 : Int) < (a0.size : Int) := of_decide_eq_true (by first | (with_reducible assumption) | assumption); omega)
                  have hx36 : ∀ h : 1 < a0.size, ((a0[1]'h).toNat : Int) = bt a0 1 := bt_at a0 1
                  clear p36
                  have qi36 : (1 < (a0.size : Int)) = True := eq_true (of_decide_eq_true (by first | (with_reducible assumption) | assumption))
                  replace q36 := eq_true q36
                  have p46 : 0 ≤ ((ji43) : Int) := of_decide_eq_true (by first | (with_reducible assumption) | assumption)
                  have q46 : (ji43) < (a0.size : Int) := of_decide_eq_true (by first | (with_reducible assumption) | assumption)
                  have hx46 := bt_at a0 (ji43)
                  replace p46 := eq_true p46
                  replace q46 := eq_true q46
                  have hnb48 := NB197_196.out
                  have hnc48 := NB196_197.out
                  have hcz49_0 : wr.cell? ⟨gb197, 0, none⟩ = some (.int .i64 1) := (blk_cell BK197.out 0).trans rfl
                  have hcz49_1 : wr.cell? ⟨gb197, 1, none⟩ = some (.int .u32 0) := (blk_cell BK197.out 1).trans rfl
                  have hcz49_2 : wr.cell? ⟨gb197, 2, none⟩ = some (.int .u32 0) := (blk_cell BK197.out 2).trans rfl
                  have hcz49_3 : wr.cell? ⟨gb197, 3, none⟩ = some (.int .i64 0) := (blk_cell BK197.out 3).trans rfl
                  have hcz49_4 : wr.cell? ⟨gb197, 4, none⟩ = some (u198004) := (blk_cell BK197.out 4).trans rfl
                  have hcz49_5 : wr.cell? ⟨gb197, 5, none⟩ = some (.slice none 0 0) := (blk_cell BK197.out 5).trans rfl
                  have hcz49_6 : wr.cell? ⟨gb197, 6, none⟩ = some (.int .u32 ((t198) % 4294967296)) := (blk_cell BK197.out 6).trans rfl
                  have hcz49_7 : wr.cell? ⟨gb197, 7, none⟩ = some (.string x198007_30) := (blk_cell BK197.out 7).trans rfl
                  have hfz49_0 := blk_frozen BK197.out 0
                  have hfz49_1 := blk_frozen BK197.out 1
                  have hfz49_2 := blk_frozen BK197.out 2
                  have hfz49_3 := blk_frozen BK197.out 3
                  have hfz49_4 := blk_frozen BK197.out 4
                  have hfz49_5 := blk_frozen BK197.out 5
                  have hfz49_6 := blk_frozen BK197.out 6
                  have hfz49_7 := blk_frozen BK197.out 7
                  have hcz50_0 : wr.cell? ⟨gb196, 0, none⟩ = some (.int .i64 x197000_3) := (blk_cell BK196.out 0).trans rfl
                  have hcz50_1 : wr.cell? ⟨gb196, 1, none⟩ = some (.int .u32 x197001_3) := (blk_cell BK196.out 1).trans rfl
                  have hcz50_2 : wr.cell? ⟨gb196, 2, none⟩ = some (.int .u32 x197002_3) := (blk_cell BK196.out 2).trans rfl
                  have hcz50_3 : wr.cell? ⟨gb196, 3, none⟩ = some (.int .i64 x197003_3) := (blk_cell BK196.out 3).trans rfl
                  have hcz50_4 : wr.cell? ⟨gb196, 4, none⟩ = some (.slice none 0 0) := (blk_cell BK196.out 4).trans rfl
                  have hcz50_5 : wr.cell? ⟨gb196, 5, none⟩ = some (.slice none 0 0) := (blk_cell BK196.out 5).trans rfl
                  have hcz50_6 : wr.cell? ⟨gb196, 6, none⟩ = some (.int .u32 x197006_3) := (blk_cell BK196.out 6).trans rfl
                  have hcz50_7 : wr.cell? ⟨gb196, 7, none⟩ = some (.string x197007_3) := (blk_cell BK196.out 7).trans rfl
                  have hfz50_0 := blk_frozen BK196.out 0
                  have hfz50_1 := blk_frozen BK196.out 1
                  have hfz50_2 := blk_frozen BK196.out 2
                  have hfz50_3 := blk_frozen BK196.out 3
                  have hfz50_4 := blk_frozen BK196.out 4
                  have hfz50_5 := blk_frozen BK196.out 5
                  have hfz50_6 := blk_frozen BK196.out 6
                  have hfz50_7 := blk_frozen BK196.out 7
                  obtain ⟨Ao51, co51, eo51⟩ := Kd.R_slice HO_198004.out
                  subst eo51
                  go_wp2
                  refine bodyPost_ret (results_ct rfl _ _ gb196 30 #[.int .i64 1, .int .u32 0, .int .u32 0, .int .i64 0, .slice Ao51 x198004_3.length co51, .slice none 0 0, .int .u32 ((t198) % 4294967296), .string x198007_30] (0, 0) _ rfl (by (with_reducible repeat (first | refine blk_drewN ?_ _ | refine blk_drew ?_ | refine blk_alloc ?_ _)); refine blk_put (cs := #[.int .i64 1, .int .u32 0, .int .u32 0, .int .i64 0, .slice Ao51 x198004_3.length co51, .slice none 0 0, .int .u32 ((t198) % 4294967296), .string x197007_3]) ?_ 7 _ rfl; (with_reducible repeat (first | refine blk_drewN ?_ _ | refine blk_drew ?_ | refine blk_alloc ?_ _)); refine blk_put (cs := #[.int .i64 1, .int .u32 0, .int .u32 0, .int .i64 0, .slice Ao51 x198004_3.length co51, .slice none 0 0, .int .u32 x197006_3, .string x197007_3]) ?_ 6 _ rfl; (with_reducible repeat (first | refine blk_drewN ?_ _ | refine blk_drew ?_ | refine blk_alloc ?_ _)); refine blk_put (cs := #[.int .i64 1, .int .u32 0, .int .u32 0, .int .i64 0, .slice Ao51 x198004_3.length co51, .slice none 0 0, .int .u32 x197006_3, .string x197007_3]) ?_ 5 _ rfl; (with_reducible repeat (first | refine blk_drewN ?_ _ | refine blk_drew ?_ | refine blk_alloc ?_ _)); refine blk_put (cs := #[.int .i64 1, .int .u32 0, .int .u32 0, .int .i64 0, .slice none 0 0, .slice none 0 0, .int .u32 x197006_3, .string x197007_3]) ?_ 4 _ rfl; (with_reducible repeat (first | refine blk_drewN ?_ _ | refine blk_drew ?_ | refine blk_alloc ?_ _)); refine blk_put (cs := #[.int .i64 1, .int .u32 0, .int .u32 0, .int .i64 x197003_3, .slice none 0 0, .slice none 0 0, .int .u32 x197006_3, .string x197007_3]) ?_ 3 _ rfl; (with_reducible repeat (first | refine blk_drewN ?_ _ | refine blk_drew ?_ | refine blk_alloc ?_ _)); refine blk_put (cs := #[.int .i64 1, .int .u32 0, .int .u32 x197002_3, .int .i64 x197003_3, .slice none 0 0, .slice none 0 0, .int .u32 x197006_3, .string x197007_3]) ?_ 2 _ rfl; (with_reducible repeat (first | refine blk_drewN ?_ _ | refine blk_drew ?_ | refine blk_alloc ?_ _)); refine blk_put (cs := #[.int .i64 1, .int .u32 x197001_3, .int .u32 x197002_3, .int .i64 x197003_3, .slice none 0 0, .slice none 0 0, .int .u32 x197006_3, .string x197007_3]) ?_ 1 _ rfl; (with_reducible repeat (first | refine blk_drewN ?_ _ | refine blk_drew ?_ | refine blk_alloc ?_ _)); refine blk_put (cs := #[.int .i64 x197000_3, .int .u32 x197001_3, .int .u32 x197002_3, .int .i64 x197003_3, .slice none 0 0, .slice none 0 0, .int .u32 x197006_3, .string x197007_3]) ?_ 0 _ rfl; (with_reducible repeat (first | refine blk_drewN ?_ _ | refine blk_drew ?_ | refine blk_alloc ?_ _)); exact BK196.out) Try.underlying30 rfl (by kernel_rfl)) rfl ?_
                  exact ⟨_, _, by first | rfl | (simp [errW_none, errW_some] <;> rfl) | (simp only [← hji43]; first | rfl | (simp [errW_none, errW_some] <;> rfl)) | (simp [*, errW_none, errW_some] <;> rfl), by (with_reducible repeat (first | apply Kd.R_alloc | apply Kd.R_drewN | apply Kd.R_drew)); exact Kd.R_mono (Kd.R_far (p := ⟨gb196, 7, none⟩) (Kd.R_far (p := ⟨gb196, 6, none⟩) (Kd.R_far (p := ⟨gb196, 5, none⟩) (Kd.R_far (p := ⟨gb196, 4, none⟩) (Kd.R_far (p := ⟨gb196, 3, none⟩) (Kd.R_far (p := ⟨gb196, 2, none⟩) (Kd.R_far (p := ⟨gb196, 1, none⟩) (Kd.R_far (p := ⟨gb196, 0, none⟩) (Kd.R_types HO_198004.out BK196.out (by decide)) (fun _ hk => hk.2) (.int .i64 1)) (fun _ hk => hk.2) (.int .u32 0)) (fun _ hk => hk.2) (.int .u32 0)) (fun _ hk => hk.2) (.int .i64 0)) (fun _ hk => hk.2) (.slice Ao51 x198004_3.length co51)) (fun _ hk => hk.2) (.slice none 0 0)) (fun _ hk => hk.2) (.int .u32 ((t198) % 4294967296))) (fun _ hk => hk.2) (.string x198007_30)) (fun _ hk => trivial), by first | exact Kd.R_nil _ _ _ _ _ | exact Kd.N_nil _ _ _ _ _ | exact Kd.V_nil _ _ _ _ _ | exact Kd.Q_nil _ _ _ _ _ | exact Kd.S_nil _ _ _ _ _, by repeat (first | (with_reducible first | exact HB.out | apply below_alloc | apply pw_below_drewN | apply below_drew1 | refine below_set ?_ GE196.out | refine below_set ?_ GE197.out) | exact HB.out)⟩
                 ·rw [if_neg c47] at H
                  have c47b0 : decide ((a0.size : Int) < (wrap64 ((wrap64 (x5_3 + 17)) + (wrap64 (bt a0 (ji43)))))) = false := decide_eq_false c47
                  clear c47
                  by_cases c52 : 0 ≤ x5_3
                  ·rw [if_pos c52] at H
                   have c52b0 := eq_true c52
                   have c52b1 : decide (0 ≤ x5_3) = true := decide_eq_true c52
                   clear c52
                   by_cases c53 : x5_3 ≤ (wrap64 (x5_3 + 8))
                   ·rw [if_pos c53] at H
                    have c53b0 := eq_true c53
                    have c53b1 : decide (x5_3 ≤ (wrap64 (x5_3 + 8))) = true := decide_eq_true c53
                    by_cases c54 : (wrap64 (x5_3 + 8)) ≤ (a0.size : Int)
                    ·rw [if_pos c54] at H
                     have c54b0 := eq_true c54
                     have c54b1 : decide ((wrap64 (x5_3 + 8)) ≤ (a0.size : Int)) = true := decide_eq_true c54
                     replace H := Option.bind_eq_some_iff.mp H
                     obtain ⟨t202, A550, H⟩ := H
                     replace H : (if 0 ≤ (wrap64 (x5_3 + 8)) then (if (wrap64 (x5_3 + 8)) ≤ (wrap64 (x5_3 + 12)) then (if (wrap64 (x5_3 + 12)) ≤ (a0.size : Int) then ((sphragisref10_get.f k3 (a0.extract ((wrap64 (x5_3 + 8)) : Int).toNat ((wrap64 (x5_3 + 12)) : Int).toNat)).bind fun t203 => (if 0 ≤ (wrap64 (x5_3 + 12)) then (if (wrap64 (x5_3 + 12)) ≤ (ji43) then (if (ji43) ≤ (a0.size : Int) then ((sphragisref10_get.f k3 (a0.extract ((wrap64 (x5_3 + 12)) : Int).toNat ((ji43) : Int).toNat)).bind fun t204 => (if 0 ≤ (wrap64 (x5_3 + 17)) then (if (wrap64 (x5_3 + 17)) ≤ (wrap64 ((wrap64 (x5_3 + 17)) + (wrap64 (bt a0 (ji43))))) then (if (wrap64 ((wrap64 (x5_3 + 17)) + (wrap64 (bt a0 (ji43))))) ≤ (a0.size : Int) then (if x198004_3.length < 4398046511104 then (sphragisref10_leaf.l0 k3 a0 (wrap64 ((wrap64 (x5_3 + 17)) + (wrap64 (bt a0 (ji43))))) (wrap64 (x6_3 + 1)) 1 0 0 0 (x198004_3 ++ [(⟨t202, (t203) % 4294967296, (t204) % 4294967296, a0.extract ((wrap64 (x5_3 + 17)) : Int).toNat ((wrap64 ((wrap64 (x5_3 + 17)) + (wrap64 (bt a0 (ji43))))) : Int).toNat⟩ : S47)]) ((t198) % 4294967296) x198007_30) else (none)) else (none)) else (none)) else (none))) else (none)) else (none)) else (none))) else (none)) else (none)) else (none)) = some (r1, r2, r3, r4, r5, r6, r7, r8, r9) := H
                     have A55 := Aside0.mk A550
                     clear A550
                     obtain ⟨ji56, hji56⟩ : ∃ j_ : Int, (wrap64 (x5_3 + 8)) = j_ := ⟨_, rfl⟩
                     replace H : (if 0 ≤ (ji56) then (if (ji56) ≤ (wrap64 (x5_3 + 12)) then (if (wrap64 (x5_3 + 12)) ≤ (a0.size : Int) then ((sphragisref10_get.f k3 (a0.extract ((ji56) : Int).toNat ((wrap64 (x5_3 + 12)) : Int).toNat)).bind fun t203 => (if 0 ≤ (wrap64 (x5_3 + 12)) then (if (wrap64 (x5_3 + 12)) ≤ (ji43) then (if (ji43) ≤ (a0.size : Int) then ((sphragisref10_get.f k3 (a0.extract ((wrap64 (x5_3 + 12)) : Int).toNat ((ji43) : Int).toNat)).bind fun t204 => (if 0 ≤ (wrap64 (x5_3 + 17)) then (if (wrap64 (x5_3 + 17)) ≤ (wrap64 ((wrap64 (x5_3 + 17)) + (wrap64 (bt a0 (ji43))))) then (if (wrap64 ((wrap64 (x5_3 + 17)) + (wrap64 (bt a0 (ji43))))) ≤ (a0.size : Int) then (if x198004_3.length < 4398046511104 then (sphragisref10_leaf.l0 k3 a0 (wrap64 ((wrap64 (x5_3 + 17)) + (wrap64 (bt a0 (ji43))))) (wrap64 (x6_3 + 1)) 1 0 0 0 (x198004_3 ++ [(⟨t202, (t203) % 4294967296, (t204) % 4294967296, a0.extract ((wrap64 (x5_3 + 17)) : Int).toNat ((wrap64 ((wrap64 (x5_3 + 17)) + (wrap64 (bt a0 (ji43))))) : Int).toNat⟩ : S47)]) ((t198) % 4294967296) x198007_30) else (none)) else (none)) else (none)) else (none))) else (none)) else (none)) else (none))) else (none)) else (none)) else (none)) = some (r1, r2, r3, r4, r5, r6, r7, r8, r9) := by first | (rw [hji56] at H; exact H) | (simp only [hji56] at H ⊢; exact H)
                     (try rw [hji56] at c53b0)
                     (try rw [hji56] at c53b1)
                     (try rw [hji56] at c53)
                     (try rw [hji56] at c54b0)
                     (try rw [hji56] at c54b1)
                     (try rw [hji56] at c54)
                     (try rw [hji56] at A55)
                     have hji56w : (IntKind.i64.wrap (x5_3 + 8)) = ji56 := (i64_w _).trans hji56
                     by_cases c57 : 0 ≤ (ji56)
                     ·rw [if_pos c57] at H
                      have c57b0 := eq_true c57
                      have c57b1 : decide (0 ≤ (ji56)) = true := decide_eq_true c57
                      clear c57
                      by_cases c58 : (ji56) ≤ (wrap64 (x5_3 + 12))
                      ·rw [if_pos c58] at H
                       have c58b0 := eq_true c58
                       have c58b1 : decide ((ji56) ≤ (wrap64 (x5_3 + 12))) = true := decide_eq_true c58
                       by_cases c59 : (wrap64 (x5_3 + 12)) ≤ (a0.size : Int)
                       ·rw [if_pos c59] at H
                        have c59b0 := eq_true c59
                        have c59b1 : decide ((wrap64 (x5_3 + 12)) ≤ (a0.size : Int)) = true := decide_eq_true c59
                        replace H := Option.bind_eq_some_iff.mp H
                        obtain ⟨t203, A600, H⟩ := H
                        replace H : (if 0 ≤ (wrap64 (x5_3 + 12)) then (if (wrap64 (x5_3 + 12)) ≤ (ji43) then (if (ji43) ≤ (a0.size : Int) then ((sphragisref10_get.f k3 (a0.extract ((wrap64 (x5_3 + 12)) : Int).toNat ((ji43) : Int).toNat)).bind fun t204 => (if 0 ≤ (wrap64 (x5_3 + 17)) then (if (wrap64 (x5_3 + 17)) ≤ (wrap64 ((wrap64 (x5_3 + 17)) + (wrap64 (bt a0 (ji43))))) then (if (wrap64 ((wrap64 (x5_3 + 17)) + (wrap64 (bt a0 (ji43))))) ≤ (a0.size : Int) then (if x198004_3.length < 4398046511104 then (sphragisref10_leaf.l0 k3 a0 (wrap64 ((wrap64 (x5_3 + 17)) + (wrap64 (bt a0 (ji43))))) (wrap64 (x6_3 + 1)) 1 0 0 0 (x198004_3 ++ [(⟨t202, (t203) % 4294967296, (t204) % 4294967296, a0.extract ((wrap64 (x5_3 + 17)) : Int).toNat ((wrap64 ((wrap64 (x5_3 + 17)) + (wrap64 (bt a0 (ji43))))) : Int).toNat⟩ : S47)]) ((t198) % 4294967296) x198007_30) else (none)) else (none)) else (none)) else (none))) else (none)) else (none)) else (none)) = some (r1, r2, r3, r4, r5, r6, r7, r8, r9) := H
                        have A60 := Aside0.mk A600
                        clear A600
                        obtain ⟨ji61, hji61⟩ : ∃ j_ : Int, (wrap64 (x5_3 + 12)) = j_ := ⟨_, rfl⟩
                        replace H : (if 0 ≤ (ji61) then (if (ji61) ≤ (ji43) then (if (ji43) ≤ (a0.size : Int) then ((sphragisref10_get.f k3 (a0.extract ((ji61) : Int).toNat ((ji43) : Int).toNat)).bind fun t204 => (if 0 ≤ (wrap64 (x5_3 + 17)) then (if (wrap64 (x5_3 + 17)) ≤ (wrap64 ((wrap64 (x5_3 + 17)) + (wrap64 (bt a0 (ji43))))) then (if (wrap64 ((wrap64 (x5_3 + 17)) + (wrap64 (bt a0 (ji43))))) ≤ (a0.size : Int) then (if x198004_3.length < 4398046511104 then (sphragisref10_leaf.l0 k3 a0 (wrap64 ((wrap64 (x5_3 + 17)) + (wrap64 (bt a0 (ji43))))) (wrap64 (x6_3 + 1)) 1 0 0 0 (x198004_3 ++ [(⟨t202, (t203) % 4294967296, (t204) % 4294967296, a0.extract ((wrap64 (x5_3 + 17)) : Int).toNat ((wrap64 ((wrap64 (x5_3 + 17)) + (wrap64 (bt a0 (ji43))))) : Int).toNat⟩ : S47)]) ((t198) % 4294967296) x198007_30) else (none)) else (none)) else (none)) else (none))) else (none)) else (none)) else (none)) = some (r1, r2, r3, r4, r5, r6, r7, r8, r9) := by first | (rw [hji61] at H; exact H) | (simp only [hji61] at H ⊢; exact H)
                        (try rw [hji61] at c58b0)
                        (try rw [hji61] at c58b1)
                        (try rw [hji61] at c58)
                        (try rw [hji61] at c59b0)
                        (try rw [hji61] at c59b1)
                        (try rw [hji61] at c59)
                        (try rw [hji61] at A55)
                        (try rw [hji61] at A60)
                        have hji61w : (IntKind.i64.wrap (x5_3 + 12)) = ji61 := (i64_w _).trans hji61
                        by_cases c62 : 0 ≤ (ji61)
                        ·rw [if_pos c62] at H
                         have c62b0 := eq_true c62
                         have c62b1 : decide (0 ≤ (ji61)) = true := decide_eq_true c62
                         clear c62
                         by_cases c63 : (ji61) ≤ (ji43)
                         ·rw [if_pos c63] at H
                          have c63b0 := eq_true c63
                          have c63b1 : decide ((ji61) ≤ (ji43)) = true := decide_eq_true c63
                          clear c63
                          by_cases c64 : (ji43) ≤ (a0.size : Int)
                          ·rw [if_pos c64] at H
                           have c64b0 := eq_true c64
                           have c64b1 : decide ((ji43) ≤ (a0.size : Int)) = true := decide_eq_true c64
                           clear c64
                           replace H := Option.bind_eq_some_iff.mp H
                           obtain ⟨t204, A650, H⟩ := H
                           replace H : (if 0 ≤ (wrap64 (x5_3 + 17)) then (if (wrap64 (x5_3 + 17)) ≤ (wrap64 ((wrap64 (x5_3 + 17)) + (wrap64 (bt a0 (ji43))))) then (if (wrap64 ((wrap64 (x5_3 + 17)) + (wrap64 (bt a0 (ji43))))) ≤ (a0.size : Int) then (if x198004_3.length < 4398046511104 then (sphragisref10_leaf.l0 k3 a0 (wrap64 ((wrap64 (x5_3 + 17)) + (wrap64 (bt a0 (ji43))))) (wrap64 (x6_3 + 1)) 1 0 0 0 (x198004_3 ++ [(⟨t202, (t203) % 4294967296, (t204) % 4294967296, a0.extract ((wrap64 (x5_3 + 17)) : Int).toNat ((wrap64 ((wrap64 (x5_3 + 17)) + (wrap64 (bt a0 (ji43))))) : Int).toNat⟩ : S47)]) ((t198) % 4294967296) x198007_30) else (none)) else (none)) else (none)) else (none)) = some (r1, r2, r3, r4, r5, r6, r7, r8, r9) := H
                           have A65 := Aside0.mk A650
                           clear A650
                           obtain ⟨ji66, hji66⟩ : ∃ j_ : Int, (wrap64 (x5_3 + 17)) = j_ := ⟨_, rfl⟩
                           replace H : (if 0 ≤ (ji66) then (if (ji66) ≤ (wrap64 ((ji66) + (wrap64 (bt a0 (ji43))))) then (if (wrap64 ((ji66) + (wrap64 (bt a0 (ji43))))) ≤ (a0.size : Int) then (if x198004_3.length < 4398046511104 then (sphragisref10_leaf.l0 k3 a0 (wrap64 ((ji66) + (wrap64 (bt a0 (ji43))))) (wrap64 (x6_3 + 1)) 1 0 0 0 (x198004_3 ++ [(⟨t202, (t203) % 4294967296, (t204) % 4294967296, a0.extract ((ji66) : Int).toNat ((wrap64 ((ji66) + (wrap64 (bt a0 (ji43))))) : Int).toNat⟩ : S47)]) ((t198) % 4294967296) x198007_30) else (none)) else (none)) else (none)) else (none)) = some (r1, r2, r3, r4, r5, r6, r7, r8, r9) := by first | (rw [hji66] at H; exact H) | (simp only [hji66] at H ⊢; exact H)
                           (try rw [hji66] at c38b0)
                           (try rw [hji66] at c47b0)
                           (try rw [hji66] at A55)
                           (try rw [hji66] at A60)
                           (try rw [hji66] at A65)
                           have hji66w : (IntKind.i64.wrap (x5_3 + 17)) = ji66 := (i64_w _).trans hji66
                           by_cases c67 : 0 ≤ (ji66)
                           ·rw [if_pos c67] at H
                            have c67b0 := eq_true c67
                            have c67b1 : decide (0 ≤ (ji66)) = true := decide_eq_true c67
                            clear c67
                            by_cases c68 : (ji66) ≤ (wrap64 ((ji66) + (wrap64 (bt a0 (ji43)))))
                            ·rw [if_pos c68] at H
                             have c68b0 := eq_true c68
                             have c68b1 : decide ((ji66) ≤ (wrap64 ((ji66) + (wrap64 (bt a0 (ji43)))))) = true := decide_eq_true c68
                             by_cases c69 : (wrap64 ((ji66) + (wrap64 (bt a0 (ji43))))) ≤ (a0.size : Int)
                             ·rw [if_pos c69] at H
                              have c69b0 := eq_true c69
                              have c69b1 : decide ((wrap64 ((ji66) + (wrap64 (bt a0 (ji43))))) ≤ (a0.size : Int)) = true := decide_eq_true c69
                              by_cases c70 : x198004_3.length < 4398046511104
                              ·rw [if_pos c70] at H
                               have LMc70 := Aside0.mk c70
                               clear c70
                               obtain ⟨y205, hy205⟩ : ∃ y_ : List (S47), y_ = (x198004_3 ++ [(⟨t202, (t203) % 4294967296, (t204) % 4294967296, a0.extract ((ji66) : Int).toNat ((wrap64 ((ji66) + (wrap64 (bt a0 (ji43))))) : Int).toNat⟩ : S47)]) := ⟨_, rfl⟩
                               replace H : (sphragisref10_leaf.l0 k3 a0 (wrap64 ((ji66) + (wrap64 (bt a0 (ji43))))) (wrap64 (x6_3 + 1)) 1 0 0 0 y205 ((t198) % 4294967296) x198007_30) = some (r1, r2, r3, r4, r5, r6, r7, r8, r9) := by first | (rw [hy205]; with_reducible exact H) | (have H2_ := (Option.bind_some _ _).symm.trans H; rw [hy205]; with_reducible exact H2_) | (have H2_ := (Option.bind_some _ _).symm.trans H; with_reducible exact H2_) | with_reducible exact H | (rw [hy205]; exact H) | exact H
                               have Ny205 := Aside0.mk hy205
                               clear hy205
                               have H' := Aside0.mk H
                               clear H
                               have p36 : 0 ≤ (1 : Int) := (by omega)
                               have q36 : 1 < a0.size := (by have : (1 : Int) < (a0.size : Int) := of_decide_eq_true (by first | (with_reducible assumption) | assumption); omega)
                               have hx36 : ∀ h : 1 < a0.size, ((a0[1]'h).toNat : Int) = bt a0 1 := bt_at a0 1
                               clear p36
                               have qi36 : (1 < (a0.size : Int)) = True := eq_true (of_decide_eq_true (by first | (with_reducible assumption) | assumption))
                               replace q36 := eq_true q36
                               have p46 : 0 ≤ ((ji43) : Int) := of_decide_eq_true (by first | (with_reducible assumption) | assumption)
                               have q46 : (ji43) < (a0.size : Int) := of_decide_eq_true (by first | (with_reducible assumption) | assumption)
                               have hx46 := bt_at a0 (ji43)
                               replace p46 := eq_true p46
                               replace q46 := eq_true q46
                               try go_wp2
                               have n0_ := Aside0.mk (Kd.R_drew HO_198004.out)
                               have n1_ := Aside0.mk (blk_drew BK196.out)
                               have n2_ := Aside0.mk (blk_drew BK197.out)
                               have n3_ := Aside0.mk (below_drew1 HB.out)
                               clear HO_198004
                               clear BK196
                               clear BK197
                               clear HB
                               have HO_198004 := n0_
                               have BK196 := n1_
                               have BK197 := n2_
                               have HB := n3_
                               clear n0_ n1_ n2_ n3_
                               refine start_ (n := 37) (S := fun w' => w'.cell? ⟨gb197, 0, none⟩ = some (.int .i64 1) ∧ w'.cell? ⟨gb197, 1, none⟩ = some (.int .u32 0) ∧ w'.cell? ⟨gb197, 2, none⟩ = some (.int .u32 0) ∧ w'.cell? ⟨gb197, 3, none⟩ = some (.int .i64 0) ∧ w'.cell? ⟨gb197, 4, none⟩ = some (u198004) ∧ w'.cell? ⟨gb197, 5, none⟩ = some (.slice none 0 0) ∧ w'.cell? ⟨gb197, 6, none⟩ = some (.int .u32 ((t198) % 4294967296)) ∧ w'.cell? ⟨gb197, 7, none⟩ = some (.string x198007_30)) (ds := [36]) #[false, false, false, false, false, false, false, false, false, false, false, false, false, false, false, false, false, false, false, false, false, false, false, false, false, false, false, false, false, false, false, false, false, false, false, false, false] (by kernel_rfl) rfl rfl ⟨(blk_cell BK197.out 0).trans rfl, (blk_cell BK197.out 1).trans rfl, (blk_cell BK197.out 2).trans rfl, (blk_cell BK197.out 3).trans rfl, (blk_cell BK197.out 4).trans rfl, (blk_cell BK197.out 5).trans rfl, (blk_cell BK197.out 6).trans rfl, (blk_cell BK197.out 7).trans rfl⟩ (fun hHeld => ?_); refine with_tabW sphragisref10_leaf.tab16 sphragisref10_leaf.bits16 (fun HT_ HW_ => ?_)
                               generalize wr.drew = w71 at HO_198004 BK196 BK197 HB hHeld ⊢
                               refine pure_ (i := 0) (N := some 61) (v := ?_) (a' := ?_) #[true, false, false, false, false, false, false, false, false, false, false, false, false, false, false, false, false, false, false, false, false, false, false, false, false, false, false, false, false, false, false, false, false, false, false, false, false] rfl rfl (any_of HT_.out (by kernel_rfl)) (fun _ _ _ h => h) (Or.inl ⟨by rfl, ?_⟩) ?_ ?_
                               rotate_left
                               ·intro w'
                                go_simp
                                with_reducible rfl
                               rotate_left
                               ·simp only [Act.put, List.setIfInBounds_toArray, List.set_cons_zero, List.set_cons_succ, i64_w, i32_w]
                                rfl
                               refine pure_ (i := 2) (N := some 63) (v := ?_) (a' := ?_) #[true, false, true, false, false, false, false, false, false, false, false, false, false, false, false, false, false, false, false, false, false, false, false, false, false, false, false, false, false, false, false, false, false, false, false, false, false] rfl rfl (any_of HT_.out (by kernel_rfl)) (fun _ _ _ h => h) (Or.inl ⟨by rfl, ?_⟩) ?_ ?_
                               rotate_left
                               ·intro w'
                                go_simp
                                with_reducible rfl
                               rotate_left
                               ·simp only [Act.put, List.setIfInBounds_toArray, List.set_cons_zero, List.set_cons_succ, i64_w, i32_w]
                                rfl
                               refine pure_ (i := 3) (N := some 64) (v := ?_) (a' := ?_) #[true, false, true, true, false, false, false, false, false, false, false, false, false, false, false, false, false, false, false, false, false, false, false, false, false, false, false, false, false, false, false, false, false, false, false, false, false] rfl rfl (any_of HT_.out (by kernel_rfl)) (fun _ _ _ h => h) (Or.inl ⟨by rfl, ?_⟩) ?_ ?_
                               rotate_left
                               ·intro w'
                                go_simp
                                with_reducible rfl
                               rotate_left
                               ·simp only [Act.put, List.setIfInBounds_toArray, List.set_cons_zero, List.set_cons_succ, i64_w, i32_w]
                                rfl
                               refine pure_ (i := 4) (N := some 65) (v := ?_) (a' := ?_) #[true, false, true, true, true, false, false, false, false, false, false, false, false, false, false, false, false, false, false, false, false, false, false, false, false, false, false, false, false, false, false, false, false, false, false, false, false] rfl rfl (any_of HT_.out (by kernel_rfl)) (fun _ _ _ h => h) (Or.inl ⟨by rfl, ?_⟩) ?_ ?_
                               rotate_left
                               ·intro w'
                                go_simp
                                with_reducible rfl
                               rotate_left
                               ·simp only [Act.put, List.setIfInBounds_toArray, List.set_cons_zero, List.set_cons_succ, i64_w, i32_w]
                                rfl
                               refine pure_ (i := 5) (N := some 66) (v := ?_) (a' := ?_) #[true, false, true, true, true, true, false, false, false, false, false, false, false, false, false, false, false, false, false, false, false, false, false, false, false, false, false, false, false, false, false, false, false, false, false, false, false] rfl rfl (any_of HT_.out (by kernel_rfl)) (fun _ _ _ h => h) (Or.inl ⟨by rfl, ?_⟩) ?_ ?_
                               rotate_left
                               ·intro w'
                                go_simp
                                with_reducible rfl
                               rotate_left
                               ·simp only [Act.put, List.setIfInBounds_toArray, List.set_cons_zero, List.set_cons_succ, i64_w, i32_w]
                                rfl
                               refine pure_ (i := 6) (N := some 67) (v := ?_) (a' := ?_) #[true, false, true, true, true, true, true, false, false, false, false, false, false, false, false, false, false, false, false, false, false, false, false, false, false, false, false, false, false, false, false, false, false, false, false, false, false] rfl rfl (any_of HT_.out (by kernel_rfl)) (fun _ _ _ h => h) (Or.inl ⟨by rfl, ?_⟩) ?_ ?_
                               rotate_left
                               ·intro w'
                                go_simp
                                with_reducible rfl
                               rotate_left
                               ·simp only [Act.put, List.setIfInBounds_toArray, List.set_cons_zero, List.set_cons_succ, i64_w, i32_w]
                                rfl
                               refine pure_ (i := 8) (N := some 69) (v := ?_) (a' := ?_) #[true, false, true, true, true, true, true, false, true, false, false, false, false, false, false, false, false, false, false, false, false, false, false, false, false, false, false, false, false, false, false, false, false, false, false, false, false] rfl rfl (any_of HT_.out (by kernel_rfl)) (fun _ _ _ h => h) (Or.inl ⟨by rfl, ?_⟩) ?_ ?_
                               rotate_left
                               ·intro w'
                                go_simp
                                with_reducible rfl
                               rotate_left
                               ·simp only [Act.put, List.setIfInBounds_toArray, List.set_cons_zero, List.set_cons_succ, i64_w, i32_w]
                                rfl
                               refine pure_ (i := 9) (N := some 70) (v := ?_) (a' := ?_) #[true, false, true, true, true, true, true, false, true, true, false, false, false, false, false, false, false, false, false, false, false, false, false, false, false, false, false, false, false, false, false, false, false, false, false, false, false] rfl rfl (any_of HT_.out (by kernel_rfl)) (fun _ _ _ h => h) (Or.inl ⟨by rfl, ?_⟩) ?_ ?_
                               rotate_left
                               ·intro w'
                                go_simp
                                with_reducible rfl
                               rotate_left
                               ·simp only [Act.put, List.setIfInBounds_toArray, List.set_cons_zero, List.set_cons_succ, i64_w, i32_w]
                                rfl
                               refine pure_ (i := 10) (N := some 71) (v := ?_) (a' := ?_) #[true, false, true, true, true, true, true, false, true, true, true, false, false, false, false, false, false, false, false, false, false, false, false, false, false, false, false, false, false, false, false, false, false, false, false, false, false] rfl rfl (any_of HT_.out (by kernel_rfl)) (fun _ _ _ h => h) (Or.inl ⟨by rfl, ?_⟩) ?_ ?_
                               rotate_left
                               ·intro w'
                                go_simp
                                with_reducible rfl
                               rotate_left
                               ·simp only [Act.put, List.setIfInBounds_toArray, List.set_cons_zero, List.set_cons_succ, i64_w, i32_w]
                                rfl
                               refine pure_ (i := 11) (N := some 72) (v := ?_) (a' := ?_) #[true, false, true, true, true, true, true, false, true, true, true, true, false, false, false, false, false, false, false, false, false, false, false, false, false, false, false, false, false, false, false, false, false, false, false, false, false] rfl rfl (any_of HT_.out (by kernel_rfl)) (fun _ _ _ h => h) (Or.inl ⟨by rfl, ?_⟩) ?_ ?_
                               rotate_left
                               ·intro w'
                                go_simp
                                with_reducible rfl
                               rotate_left
                               ·simp only [Act.put, List.setIfInBounds_toArray, List.set_cons_zero, List.set_cons_succ, i64_w, i32_w]
                                rfl
                               refine pure_ (i := 12) (N := some 73) (v := ?_) (a' := ?_) #[true, false, true, true, true, true, true, false, true, true, true, true, true, false, false, false, false, false, false, false, false, false, false, false, false, false, false, false, false, false, false, false, false, false, false, false, false] rfl rfl (any_of HT_.out (by kernel_rfl)) (fun _ _ _ h => h) (Or.inl ⟨by rfl, ?_⟩) ?_ ?_
                               rotate_left
                               ·intro w'
                                go_simp
                                with_reducible rfl
                               rotate_left
                               ·simp only [Act.put, List.setIfInBounds_toArray, List.set_cons_zero, List.set_cons_succ, i64_w, i32_w]
                                rfl
                               refine pure_ (i := 13) (N := some 74) (v := ?_) (a' := ?_) #[true, false, true, true, true, true, true, false, true, true, true, true, true, true, false, false, false, false, false, false, false, false, false, false, false, false, false, false, false, false, false, false, false, false, false, false, false] rfl rfl (any_of HT_.out (by kernel_rfl)) (fun _ _ _ h => h) (Or.inl ⟨by rfl, ?_⟩) ?_ ?_
                               rotate_left
                               ·intro w'
                                go_simp
                                with_reducible rfl
                               rotate_left
                               ·simp only [Act.put, List.setIfInBounds_toArray, List.set_cons_zero, List.set_cons_succ, i64_w, i32_w]
                                rfl
                               refine pure_ (i := 16) (N := some 77) (v := ?_) (a' := ?_) #[true, false, true, true, true, true, true, false, true, true, true, true, true, true, false, false, true, false, false, false, false, false, false, false, false, false, false, false, false, false, false, false, false, false, false, false, false] rfl rfl (any_of HT_.out (by kernel_rfl)) (fun _ _ _ h => h) (Or.inl ⟨by rfl, ?_⟩) ?_ ?_
                               rotate_left
                               ·intro w'
                                go_simp
                                with_reducible rfl
                               rotate_left
                               ·simp only [Act.put, List.setIfInBounds_toArray, List.set_cons_zero, List.set_cons_succ, i64_w, i32_w]
                                rfl
                               refine pure_ (i := 17) (N := some 78) (v := ?_) (a' := ?_) #[true, false, true, true, true, true, true, false, true, true, true, true, true, true, false, false, true, true, false, false, false, false, false, false, false, false, false, false, false, false, false, false, false, false, false, false, false] rfl rfl (any_of HT_.out (by kernel_rfl)) (fun _ _ _ h => h) (Or.inl ⟨by rfl, ?_⟩) ?_ ?_
                               rotate_left
                               ·intro w'
                                go_simp
                                with_reducible rfl
                               rotate_left
                               ·simp only [Act.put, List.setIfInBounds_toArray, List.set_cons_zero, List.set_cons_succ, i64_w, i32_w]
                                rfl
                               refine pure_ (i := 18) (N := some 79) (v := ?_) (a' := ?_) #[true, false, true, true, true, true, true, false, true, true, true, true, true, true, false, false, true, true, true, false, false, false, false, false, false, false, false, false, false, false, false, false, false, false, false, false, false] rfl rfl (any_of HT_.out (by kernel_rfl)) (fun _ _ _ h => h) (Or.inl ⟨by rfl, ?_⟩) ?_ ?_
                               rotate_left
                               ·intro w'
                                go_simp
                                with_reducible rfl
                               rotate_left
                               ·simp only [Act.put, List.setIfInBounds_toArray, List.set_cons_zero, List.set_cons_succ, i64_w, i32_w]
                                rfl
                               refine pure_ (i := 19) (N := some 80) (v := ?_) (a' := ?_) #[true, false, true, true, true, true, true, false, true, true, true, true, true, true, false, false, true, true, true, true, false, false, false, false, false, false, false, false, false, false, false, false, false, false, false, false, false] rfl rfl (any_of HT_.out (by kernel_rfl)) (fun _ _ _ h => h) (Or.inl ⟨by rfl, ?_⟩) ?_ ?_
                               rotate_left
                               ·intro w'
                                go_simp
                                with_reducible rfl
                               rotate_left
                               ·simp only [Act.put, List.setIfInBounds_toArray, List.set_cons_zero, List.set_cons_succ, i64_w, i32_w]
                                rfl
                               refine pure_ (i := 20) (N := some 81) (v := ?_) (a' := ?_) #[true, false, true, true, true, true, true, false, true, true, true, true, true, true, false, false, true, true, true, true, true, false, false, false, false, false, false, false, false, false, false, false, false, false, false, false, false] rfl rfl (any_of HT_.out (by kernel_rfl)) (fun _ _ _ h => h) (Or.inl ⟨by rfl, ?_⟩) ?_ ?_
                               rotate_left
                               ·intro w'
                                go_simp
                                with_reducible rfl
                               rotate_left
                               ·simp only [Act.put, List.setIfInBounds_toArray, List.set_cons_zero, List.set_cons_succ, i64_w, i32_w]
                                rfl
                               refine pure_ (i := 21) (N := some 82) (v := ?_) (a' := ?_) #[true, false, true, true, true, true, true, false, true, true, true, true, true, true, false, false, true, true, true, true, true, true, false, false, false, false, false, false, false, false, false, false, false, false, false, false, false] rfl rfl (any_of HT_.out (by kernel_rfl)) (fun _ _ _ h => h) (Or.inl ⟨by rfl, ?_⟩) ?_ ?_
                               rotate_left
                               ·intro w'
                                go_simp
                                with_reducible rfl
                               rotate_left
                               ·simp only [Act.put, List.setIfInBounds_toArray, List.set_cons_zero, List.set_cons_succ, i64_w, i32_w]
                                rfl
                               refine pure_ (i := 24) (N := some 85) (v := ?_) (a' := ?_) #[true, false, true, true, true, true, true, false, true, true, true, true, true, true, false, false, true, true, true, true, true, true, false, false, true, false, false, false, false, false, false, false, false, false, false, false, false] rfl rfl (any_of HT_.out (by kernel_rfl)) (fun _ _ _ h => h) (Or.inl ⟨by rfl, ?_⟩) ?_ ?_
                               rotate_left
                               ·intro w'
                                go_simp
                                with_reducible rfl
                               rotate_left
                               ·simp only [Act.put, List.setIfInBounds_toArray, List.set_cons_zero, List.set_cons_succ, i64_w, i32_w]
                                rfl
                               refine pure_ (i := 25) (N := some 86) (v := ?_) (a' := ?_) #[true, false, true, true, true, true, true, false, true, true, true, true, true, true, false, false, true, true, true, true, true, true, false, false, true, true, false, false, false, false, false, false, false, false, false, false, false] rfl rfl (any_of HT_.out (by kernel_rfl)) (fun _ _ _ h => h) (Or.inl ⟨by rfl, ?_⟩) ?_ ?_
                               rotate_left
                               ·intro w'
                                go_simp
                                with_reducible rfl
                               rotate_left
                               ·simp only [Act.put, List.setIfInBounds_toArray, List.set_cons_zero, List.set_cons_succ, i64_w, i32_w]
                                rfl
                               refine pure_ (i := 26) (N := some 87) (v := ?_) (a' := ?_) #[true, false, true, true, true, true, true, false, true, true, true, true, true, true, false, false, true, true, true, true, true, true, false, false, true, true, true, false, false, false, false, false, false, false, false, false, false] rfl rfl (any_of HT_.out (by kernel_rfl)) (fun _ _ _ h => h) (Or.inl ⟨by rfl, ?_⟩) ?_ ?_
                               rotate_left
                               ·intro w'
                                go_simp
                                with_reducible rfl
                               rotate_left
                               ·simp only [Act.put, List.setIfInBounds_toArray, List.set_cons_zero, List.set_cons_succ, i64_w, i32_w]
                                rfl
                               refine pure_ (i := 27) (N := some 88) (v := ?_) (a' := ?_) #[true, false, true, true, true, true, true, false, true, true, true, true, true, true, false, false, true, true, true, true, true, true, false, false, true, true, true, true, false, false, false, false, false, false, false, false, false] rfl rfl (any_of HT_.out (by kernel_rfl)) (fun _ _ _ h => h) (Or.inl ⟨by rfl, ?_⟩) ?_ ?_
                               rotate_left
                               ·intro w'
                                go_simp
                                with_reducible rfl
                               rotate_left
                               ·simp only [Act.put, List.setIfInBounds_toArray, List.set_cons_zero, List.set_cons_succ, i64_w, i32_w]
                                rfl
                               refine pure_ (i := 28) (N := some 89) (v := ?_) (a' := ?_) #[true, false, true, true, true, true, true, false, true, true, true, true, true, true, false, false, true, true, true, true, true, true, false, false, true, true, true, true, true, false, false, false, false, false, false, false, false] rfl rfl (any_of HT_.out (by kernel_rfl)) (fun _ _ _ h => h) (Or.inl ⟨by rfl, ?_⟩) ?_ ?_
                               rotate_left
                               ·intro w'
                                go_simp
                                with_reducible rfl
                               rotate_left
                               ·simp only [Act.put, List.setIfInBounds_toArray, List.set_cons_zero, List.set_cons_succ, i64_w, i32_w]
                                rfl
                               refine pure_ (i := 29) (N := some 90) (v := ?_) (a' := ?_) #[true, false, true, true, true, true, true, false, true, true, true, true, true, true, false, false, true, true, true, true, true, true, false, false, true, true, true, true, true, true, false, false, false, false, false, false, false] rfl rfl (any_of HT_.out (by kernel_rfl)) (fun _ _ _ h => h) (Or.inl ⟨by rfl, ?_⟩) ?_ ?_
                               rotate_left
                               ·intro w'
                                go_simp
                                with_reducible rfl
                               rotate_left
                               ·simp only [Act.put, List.setIfInBounds_toArray, List.set_cons_zero, List.set_cons_succ, i64_w, i32_w]
                                rfl
                               refine pure_ (i := 30) (N := some 91) (v := ?_) (a' := ?_) #[true, false, true, true, true, true, true, false, true, true, true, true, true, true, false, false, true, true, true, true, true, true, false, false, true, true, true, true, true, true, true, false, false, false, false, false, false] rfl rfl (any_of HT_.out (by kernel_rfl)) (fun _ _ _ h => h) (Or.inl ⟨by rfl, ?_⟩) ?_ ?_
                               rotate_left
                               ·intro w'
                                go_simp
                                with_reducible rfl
                               rotate_left
                               ·simp only [Act.put, List.setIfInBounds_toArray, List.set_cons_zero, List.set_cons_succ, i64_w, i32_w]
                                rfl
                               refine pure_ (i := 31) (N := some 92) (v := ?_) (a' := ?_) #[true, false, true, true, true, true, true, false, true, true, true, true, true, true, false, false, true, true, true, true, true, true, false, false, true, true, true, true, true, true, true, true, false, false, false, false, false] rfl rfl (any_of HT_.out (by kernel_rfl)) (fun _ _ _ h => h) (Or.inl ⟨by rfl, ?_⟩) ?_ ?_
                               rotate_left
                               ·intro w'
                                go_simp
                                with_reducible rfl
                               rotate_left
                               ·simp only [Act.put, List.setIfInBounds_toArray, List.set_cons_zero, List.set_cons_succ, i64_w, i32_w]
                                rfl
                               refine take_ (i := 1) (N := some 62) (v := ?_) (a' := ?_) #[true, true, true, true, true, true, true, false, true, true, true, true, true, true, false, false, true, true, true, true, true, true, false, false, true, true, true, true, true, true, true, true, false, false, false, false, false] rfl rfl (take_ofW HT_.out HW_.out (by kernel_rfl)) (fun _ _ _ h => h) (Or.inl ⟨by rfl, ?_⟩) hHeld ?_ ?_
                               rotate_left
                               ·rintro w' ⟨s0, s1, s2, s3, s4, s5, s6, s7⟩
                                go_simp
                                with_reducible rfl
                               rotate_left
                               ·simp only [Act.put, List.setIfInBounds_toArray, List.set_cons_zero, List.set_cons_succ, i64_w, i32_w]
                                rfl
                               refine one_ (i := 7) (N := some 68) #[true, true, true, true, true, true, true, true, true, true, true, true, true, true, false, false, true, true, true, true, true, true, false, false, true, true, true, true, true, true, true, true, false, false, false, false, false] rfl rfl (one_of HT_.out (by kernel_rfl)) (by decide) (fun K hK => ?_)
                               refine goes_ Try.func49 (by kernel_rfl) rfl #[.string (a0.extract (x5_3 : Int).toNat ((ji56) : Int).toNat)] (by rfl) rfl rfl (by (try simp only [List.map_toArray, List.map_cons, List.map_nil]); first | done | (simp only [hji56]; rfl) | rfl | (simp only [List.length_drop, List.length_take]; rfl)) ?_
                               with_reducible refine (sphragisref10_get.calls k3 (a0.extract (x5_3 : Int).toNat ((ji56) : Int).toNat) t202 _ A55.out).mono ?_
                               rintro e w' ⟨rfl, ⟨nd, rfl⟩⟩
                               refine ⟨_, rfl, ?_⟩
                               refine hK.out _ _ ⟨(blk_cell BK197.out 0).trans rfl, (blk_cell BK197.out 1).trans rfl, (blk_cell BK197.out 2).trans rfl, (blk_cell BK197.out 3).trans rfl, (blk_cell BK197.out 4).trans rfl, (blk_cell BK197.out 5).trans rfl, (blk_cell BK197.out 6).trans rfl, (blk_cell BK197.out 7).trans rfl⟩ (fun hHeld => ?_)
                               clear hK K
                               refine norm_ (a' := ?_) ?_ ?_
                               rotate_left
                               ·show Act.put _ (some 68) _ = _
                                simp only [Act.put, List.setIfInBounds_toArray, List.set_cons_zero, List.set_cons_succ, i64_w, i32_w]
                                rfl
                               refine one_ (i := 14) (N := some 75) #[true, true, true, true, true, true, true, true, true, true, true, true, true, true, true, false, true, true, true, true, true, true, false, false, true, true, true, true, true, true, true, true, false, false, false, false, false] rfl rfl (one_of HT_.out (by kernel_rfl)) (by decide) (fun K hK => ?_)
                               refine goes_ Try.func49 (by kernel_rfl) rfl #[.string (a0.extract ((ji56) : Int).toNat ((ji61) : Int).toNat)] (by rfl) rfl rfl (by (try simp only [List.map_toArray, List.map_cons, List.map_nil]); first | done | (simp only [hji56, hji61]; rfl) | rfl | (simp only [List.length_drop, List.length_take]; rfl)) ?_
                               with_reducible refine (sphragisref10_get.calls k3 (a0.extract ((ji56) : Int).toNat ((ji61) : Int).toNat) t203 _ A60.out).mono ?_
                               rintro e w' ⟨rfl, ⟨nd, rfl⟩⟩
                               refine ⟨_, rfl, ?_⟩
                               refine hK.out _ _ ⟨(blk_cell BK197.out 0).trans rfl, (blk_cell BK197.out 1).trans rfl, (blk_cell BK197.out 2).trans rfl, (blk_cell BK197.out 3).trans rfl, (blk_cell BK197.out 4).trans rfl, (blk_cell BK197.out 5).trans rfl, (blk_cell BK197.out 6).trans rfl, (blk_cell BK197.out 7).trans rfl⟩ (fun hHeld => ?_)
                               clear hK K
                               refine norm_ (a' := ?_) ?_ ?_
                               rotate_left
                               ·show Act.put _ (some 75) _ = _
                                simp only [Act.put, List.setIfInBounds_toArray, List.set_cons_zero, List.set_cons_succ, i64_w, i32_w]
                                rfl
                               refine pure_ (i := 15) (N := some 76) (v := ?_) (a' := ?_) #[true, true, true, true, true, true, true, true, true, true, true, true, true, true, true, true, true, true, true, true, true, true, false, false, true, true, true, true, true, true, true, true, false, false, false, false, false] rfl rfl (any_of HT_.out (by kernel_rfl)) (fun _ _ _ h => h) (Or.inl ⟨by rfl, ?_⟩) ?_ ?_
                               rotate_left
                               ·intro w'
                                go_simp
                                with_reducible rfl
                               rotate_left
                               ·simp only [Act.put, List.setIfInBounds_toArray, List.set_cons_zero, List.set_cons_succ, i64_w, i32_w]
                                rfl
                               refine one_ (i := 22) (N := some 83) #[true, true, true, true, true, true, true, true, true, true, true, true, true, true, true, true, true, true, true, true, true, true, true, false, true, true, true, true, true, true, true, true, false, false, false, false, false] rfl rfl (one_of HT_.out (by kernel_rfl)) (by decide) (fun K hK => ?_)
                               refine goes_ Try.func49 (by kernel_rfl) rfl #[.string (a0.extract ((ji61) : Int).toNat ((ji43) : Int).toNat)] (by rfl) rfl rfl (by (try simp only [List.map_toArray, List.map_cons, List.map_nil]); first | done | (simp only [hji43, hji61]; rfl) | rfl | (simp only [List.length_drop, List.length_take]; rfl)) ?_
                               with_reducible refine (sphragisref10_get.calls k3 (a0.extract ((ji61) : Int).toNat ((ji43) : Int).toNat) t204 _ A65.out).mono ?_
                               rintro e w' ⟨rfl, ⟨nd, rfl⟩⟩
                               refine ⟨_, rfl, ?_⟩
                               refine hK.out _ _ ⟨(blk_cell BK197.out 0).trans rfl, (blk_cell BK197.out 1).trans rfl, (blk_cell BK197.out 2).trans rfl, (blk_cell BK197.out 3).trans rfl, (blk_cell BK197.out 4).trans rfl, (blk_cell BK197.out 5).trans rfl, (blk_cell BK197.out 6).trans rfl, (blk_cell BK197.out 7).trans rfl⟩ (fun hHeld => ?_)
                               clear hK K
                               refine norm_ (a' := ?_) ?_ ?_
                               rotate_left
                               ·show Act.put _ (some 83) _ = _
                                simp only [Act.put, List.setIfInBounds_toArray, List.set_cons_zero, List.set_cons_succ, i64_w, i32_w]
                                rfl
                               refine pure_ (i := 23) (N := some 84) (v := ?_) (a' := ?_) #[true, true, true, true, true, true, true, true, true, true, true, true, true, true, true, true, true, true, true, true, true, true, true, true, true, true, true, true, true, true, true, true, false, false, false, false, false] rfl rfl (any_of HT_.out (by kernel_rfl)) (fun _ _ _ h => h) (Or.inl ⟨by rfl, ?_⟩) ?_ ?_
                               rotate_left
                               ·intro w'
                                go_simp
                                with_reducible rfl
                               rotate_left
                               ·simp only [Act.put, List.setIfInBounds_toArray, List.set_cons_zero, List.set_cons_succ, i64_w, i32_w]
                                rfl
                               refine pure_ (i := 32) (N := some 93) (v := ?_) (a' := ?_) #[true, true, true, true, true, true, true, true, true, true, true, true, true, true, true, true, true, true, true, true, true, true, true, true, true, true, true, true, true, true, true, true, true, false, false, false, false] rfl rfl (any_of HT_.out (by kernel_rfl)) (fun _ _ _ h => h) (Or.inl ⟨by rfl, ?_⟩) ?_ ?_
                               rotate_left
                               ·intro w'
                                go_simp
                                with_reducible rfl
                               rotate_left
                               ·simp only [Act.put, List.setIfInBounds_toArray, List.set_cons_zero, List.set_cons_succ, i64_w, i32_w]
                                rfl
                               refine one_ (i := 33) (N := some 94) #[true, true, true, true, true, true, true, true, true, true, true, true, true, true, true, true, true, true, true, true, true, true, true, true, true, true, true, true, true, true, true, true, true, true, false, false, false] rfl rfl (one_of HT_.out (by kernel_rfl)) (by decide) (fun K hK => ?_)
                               refine value_ (w1 := ?_) (v := ?_) (by rfl) rfl ?_ ?_
                               rotate_left 2
                               ·go_simp
                                constructor
                                ·rfl
                                ·rfl
                               refine hK.out _ _ ⟨(blk_cell (blk_alloc BK197.out _) 0).trans rfl, (blk_cell (blk_alloc BK197.out _) 1).trans rfl, (blk_cell (blk_alloc BK197.out _) 2).trans rfl, (blk_cell (blk_alloc BK197.out _) 3).trans rfl, (blk_cell (blk_alloc BK197.out _) 4).trans rfl, (blk_cell (blk_alloc BK197.out _) 5).trans rfl, (blk_cell (blk_alloc BK197.out _) 6).trans rfl, (blk_cell (blk_alloc BK197.out _) 7).trans rfl⟩ (fun hHeld => ?_)
                               clear hK K
                               refine norm_ (a' := ?_) ?_ ?_
                               rotate_left
                               ·show Act.put _ (some 94) _ = _
                                simp only [Act.put, List.setIfInBounds_toArray, List.set_cons_zero, List.set_cons_succ, i64_w, i32_w]
                                rfl
                               refine one_ (i := 34) (N := some 95) #[true, true, true, true, true, true, true, true, true, true, true, true, true, true, true, true, true, true, true, true, true, true, true, true, true, true, true, true, true, true, true, true, true, true, true, false, false] rfl rfl (one_of HT_.out (by kernel_rfl)) (by decide) (fun K hK => ?_)
                               refine Kd.R_append_step k47 (w0 := w) w.heap.size (by rfl) (.tmp 62) (.tmp 94) 25 47 (.agg #[(.int .u64 0), (.int .u32 0), (.int .u32 0), (.string ⟨#[]⟩)]) 32 rfl Try.underlying25 info47 rfl (by decide) (by omega) u198004 x198004_3 (⟨t202, (t203) % 4294967296, (t204) % 4294967296, a0.extract ((ji66) : Int).toNat ((wrap64 ((ji66) + (wrap64 (bt a0 (ji43))))) : Int).toNat⟩ : S47) [.int .u64 t202, .int .u32 ((t203) % 4294967296), .int .u32 ((t204) % 4294967296), .string (a0.extract ((ji66) : Int).toNat ((wrap64 ((ji66) + (wrap64 (bt a0 (ji43))))) : Int).toNat)] (fun _ => True) (fun _ => False) rfl rfl ?aP (fun _ hk => hk.elim) ?aF ?aO ?aB ?aS ?aL ?_
                               (case aP => exact k47_mkM _ _ _ (⟨t202, (t203) % 4294967296, (t204) % 4294967296, a0.extract ((ji66) : Int).toNat ((wrap64 ((ji66) + (wrap64 (bt a0 (ji43))))) : Int).toNat⟩ : S47))
                               (case aB => exact (by repeat (first | (with_reducible first | exact HB.out | apply below_alloc | apply pw_below_drewN | apply below_drew1 | refine below_set ?_ GE196.out | refine below_set ?_ GE197.out) | exact HB.out)))
                               (case aF => exact (fun _ _ => trivial))
                               (case aO => exact (by (with_reducible repeat (first | apply Kd.R_alloc | apply Kd.R_drewN | apply Kd.R_drew)); exact HO_198004.out))
                               (case aS => exact (below_size (by repeat (first | (with_reducible first | exact HB.out | apply below_alloc | apply pw_below_drewN | apply below_drew1 | refine below_set ?_ GE196.out | refine below_set ?_ GE197.out) | exact HB.out))))
                               (case aL => have := LMc70.out; omega)
                               intro v206 w72 ho hb hg hat
                               rw [← Ny205.out] at ho
                               have n0_ := Aside0.mk (blk_grown (g := gb196) (o := .cells #[.int .i64 x197000_3, .int .u32 x197001_3, .int .u32 x197002_3, .int .i64 x197003_3, .slice none 0 0, .slice none 0 0, .int .u32 x197006_3, .string x197007_3] 30 (0, 0)) (by (with_reducible repeat (first | refine blk_drewN ?_ _ | refine blk_drew ?_ | refine blk_alloc ?_ _)); exact BK196.out) hg (Kd.R_ne HO_198004.out BK196.out (by decide)))
                               have n1_ := Aside0.mk (blk_grown (g := gb197) (o := .cells #[.int .i64 1, .int .u32 0, .int .u32 0, .int .i64 0, u198004, .slice none 0 0, .int .u32 ((t198) % 4294967296), .string x198007_30] 30 (0, 0)) (by (with_reducible repeat (first | refine blk_drewN ?_ _ | refine blk_drew ?_ | refine blk_alloc ?_ _)); exact BK197.out) hg (Kd.R_ne HO_198004.out BK197.out (by decide)))
                               have n2_ := Aside0.mk (hb)
                               have n3_ := Aside0.mk (ho)
                               clear BK196
                               clear BK197
                               clear HB
                               clear HO_198004
                               have BK196 := n0_
                               have BK197 := n1_
                               have HB := n2_
                               have HO207 := n3_
                               clear n0_ n1_ n2_ n3_
                               clear ho hb hg hat
                               obtain ⟨Ao73, co73, eo73⟩ := Kd.R_slice HO207.out
                               (first | subst eo73 | (injection eo73 with f1_ f2_ f3_; have f4_ := f1_.symm; have f5_ := f3_.symm; clear f1_ f2_ f3_; subst f4_; subst f5_))
                               refine hK.out _ _ ⟨(blk_cell BK197.out 0).trans rfl, (blk_cell BK197.out 1).trans rfl, (blk_cell BK197.out 2).trans rfl, (blk_cell BK197.out 3).trans rfl, (blk_cell BK197.out 4).trans rfl, (blk_cell BK197.out 5).trans rfl, (blk_cell BK197.out 6).trans rfl, (blk_cell BK197.out 7).trans rfl⟩ (fun hHeld => ?_)
                               clear hK K
                               refine norm_ (a' := ?_) ?_ ?_
                               rotate_left
                               ·show Act.put _ (some 95) _ = _
                                simp only [Act.put, List.setIfInBounds_toArray, List.set_cons_zero, List.set_cons_succ, i64_w, i32_w]
                                rfl
                               refine pure_ (i := 35) (N := some 96) (v := ?_) (a' := ?_) #[true, true, true, true, true, true, true, true, true, true, true, true, true, true, true, true, true, true, true, true, true, true, true, true, true, true, true, true, true, true, true, true, true, true, true, true, false] rfl rfl (any_of HT_.out (by kernel_rfl)) (fun _ _ _ h => h) (Or.inl ⟨by rfl, ?_⟩) ?_ ?_
                               rotate_left
                               ·intro w'
                                go_simp
                                with_reducible rfl
                               rotate_left
                               ·simp only [Act.put, List.setIfInBounds_toArray, List.set_cons_zero, List.set_cons_succ, i64_w, i32_w]
                                rfl
                               refine last_ (i := 36) (N := none) #[true, true, true, true, true, true, true, true, true, true, true, true, true, true, true, true, true, true, true, true, true, true, true, true, true, true, true, true, true, true, true, true, true, true, true, true, true] rfl rfl (one_of HT_.out (by kernel_rfl)) (by decide) (fun K hK => ?_)
                               have hs74 : w72.cell? ⟨gb197, 4, none⟩ = some (u198004) := (blk_cell BK197.out 4).trans rfl
                               have hfs74 := blk_frozen BK197.out 4
                               have hns74_0 := NB196_197.out
                               have hms74_0 := NB197_196.out
                               refine skip_ (w1 := ?_) (by rfl) rfl ?_ ?_
                               rotate_left
                               ·go_simp
                                rfl
                               refine hK.out _ _ ?_
                               clear hK K
                               refine done_ (done_of HT_.out (by kernel_rfl)) ?_
                               try go_wp2
                               go_roundg k3
                               case measure => have := HJ12.out; have := HJ30.out; have := HK3.out; omega
                               case rel => exact ⟨(wrap64 ((ji66) + (wrap64 (bt a0 (ji43))))), (wrap64 (x6_3 + 1)), (x197000_3), (x197001_3), (x197002_3), (x197003_3), (x197006_3), (x197007_3), (y205), (.slice Ao73 y205.length co73), (by first | rfl | (simp; done) | (simp only [← hji43, ← hji66] <;> (first | rfl | simp)) | (simp [*]; done)), (by first | rfl | (simp; done) | (simp [*]; done)), H', ⟨by have := HJ12.out; have := HJ30.out; have := HK3.out; omega⟩, ⟨by (with_reducible repeat (first | apply Kd.R_alloc | apply Kd.R_drewN | apply Kd.R_drew)); exact Kd.R_mono (Kd.R_far (p := ⟨gb197, 4, none⟩) (Kd.R_types HO207.out BK197.out (by decide)) (fun _ hk => hk.2) (.slice Ao73 y205.length co73)) (fun _ hk => trivial)⟩, ⟨by (with_reducible repeat (first | refine blk_drewN ?_ _ | refine blk_drew ?_ | refine blk_alloc ?_ _)); refine blk_far ?_ NB196_197.out _; (with_reducible repeat (first | refine blk_drewN ?_ _ | refine blk_drew ?_ | refine blk_alloc ?_ _)); exact BK196.out⟩, ⟨by (with_reducible repeat (first | refine blk_drewN ?_ _ | refine blk_drew ?_ | refine blk_alloc ?_ _)); refine blk_put (cs := #[.int .i64 1, .int .u32 0, .int .u32 0, .int .i64 0, u198004, .slice none 0 0, .int .u32 ((t198) % 4294967296), .string x198007_30]) ?_ 4 _ rfl; (with_reducible repeat (first | refine blk_drewN ?_ _ | refine blk_drew ?_ | refine blk_alloc ?_ _)); exact BK197.out⟩, ⟨by repeat (first | (with_reducible first | exact HB.out | apply below_alloc | apply pw_below_drewN | apply below_drew1 | refine below_set ?_ GE196.out | refine below_set ?_ GE197.out) | exact HB.out)⟩⟩
                              ·rw [if_neg c70] at H
                               exact absurd H (by simp)
                             ·rw [if_neg c69] at H
                              exact absurd H (by simp)
                            ·rw [if_neg c68] at H
                             exact absurd H (by simp)
                           ·rw [if_neg c67] at H
                            exact absurd H (by simp)
                          ·rw [if_neg c64] at H
                           exact absurd H (by simp)
                         ·rw [if_neg c63] at H
                          exact absurd H (by simp)
                        ·rw [if_neg c62] at H
                         exact absurd H (by simp)
                       ·rw [if_neg c59] at H
                        exact absurd H (by simp)
                      ·rw [if_neg c58] at H
                       exact absurd H (by simp)
                     ·rw [if_neg c57] at H
                      exact absurd H (by simp)
                    ·rw [if_neg c54] at H
                     exact absurd H (by simp)
                   ·rw [if_neg c53] at H
                    exact absurd H (by simp)
                  ·rw [if_neg c52] at H
                   exact absurd H (by simp)
                ·rw [if_neg c45] at H
                 exact absurd H (by simp)
               ·rw [if_neg c44] at H
                exact absurd H (by simp)
             ·rw [if_neg c37] at H
              have c37b0 : decide (x6_3 < (wrap64 (bt a0 1))) = false := decide_eq_false c37
              clear c37
              simp only [Option.some.injEq, Prod.mk.injEq] at H
              obtain ⟨rfl, rfl, rfl, rfl, rfl, rfl, rfl, rfl, rfl⟩ := H
              have p36 : 0 ≤ (1 : Int) := (by omega)
              have q36 : 1 < a0.size := (by have : (1 : Int) < (a0.size : Int) := of_decide_eq_true (by first | (with_reducible assumption) | assumption); omega)
              have hx36 : ∀ h : 1 < a0.size, ((a0[1]'h).toNat : Int) = bt a0 1 := bt_at a0 1
              clear p36
              have qi36 : (1 < (a0.size : Int)) = True := eq_true (of_decide_eq_true (by first | (with_reducible assumption) | assumption))
              replace q36 := eq_true q36
              have hnb75 := NB197_196.out
              have hnc75 := NB196_197.out
              have hcz76_0 : wr.cell? ⟨gb197, 0, none⟩ = some (.int .i64 1) := (blk_cell BK197.out 0).trans rfl
              have hcz76_1 : wr.cell? ⟨gb197, 1, none⟩ = some (.int .u32 0) := (blk_cell BK197.out 1).trans rfl
              have hcz76_2 : wr.cell? ⟨gb197, 2, none⟩ = some (.int .u32 0) := (blk_cell BK197.out 2).trans rfl
              have hcz76_3 : wr.cell? ⟨gb197, 3, none⟩ = some (.int .i64 0) := (blk_cell BK197.out 3).trans rfl
              have hcz76_4 : wr.cell? ⟨gb197, 4, none⟩ = some (u198004) := (blk_cell BK197.out 4).trans rfl
              have hcz76_5 : wr.cell? ⟨gb197, 5, none⟩ = some (.slice none 0 0) := (blk_cell BK197.out 5).trans rfl
              have hcz76_6 : wr.cell? ⟨gb197, 6, none⟩ = some (.int .u32 ((t198) % 4294967296)) := (blk_cell BK197.out 6).trans rfl
              have hcz76_7 : wr.cell? ⟨gb197, 7, none⟩ = some (.string x198007_30) := (blk_cell BK197.out 7).trans rfl
              have hfz76_0 := blk_frozen BK197.out 0
              have hfz76_1 := blk_frozen BK197.out 1
              have hfz76_2 := blk_frozen BK197.out 2
              have hfz76_3 := blk_frozen BK197.out 3
              have hfz76_4 := blk_frozen BK197.out 4
              have hfz76_5 := blk_frozen BK197.out 5
              have hfz76_6 := blk_frozen BK197.out 6
              have hfz76_7 := blk_frozen BK197.out 7
              have hcz77_0 : wr.cell? ⟨gb196, 0, none⟩ = some (.int .i64 x197000_3) := (blk_cell BK196.out 0).trans rfl
              have hcz77_1 : wr.cell? ⟨gb196, 1, none⟩ = some (.int .u32 x197001_3) := (blk_cell BK196.out 1).trans rfl
              have hcz77_2 : wr.cell? ⟨gb196, 2, none⟩ = some (.int .u32 x197002_3) := (blk_cell BK196.out 2).trans rfl
              have hcz77_3 : wr.cell? ⟨gb196, 3, none⟩ = some (.int .i64 x197003_3) := (blk_cell BK196.out 3).trans rfl
              have hcz77_4 : wr.cell? ⟨gb196, 4, none⟩ = some (.slice none 0 0) := (blk_cell BK196.out 4).trans rfl
              have hcz77_5 : wr.cell? ⟨gb196, 5, none⟩ = some (.slice none 0 0) := (blk_cell BK196.out 5).trans rfl
              have hcz77_6 : wr.cell? ⟨gb196, 6, none⟩ = some (.int .u32 x197006_3) := (blk_cell BK196.out 6).trans rfl
              have hcz77_7 : wr.cell? ⟨gb196, 7, none⟩ = some (.string x197007_3) := (blk_cell BK196.out 7).trans rfl
              have hfz77_0 := blk_frozen BK196.out 0
              have hfz77_1 := blk_frozen BK196.out 1
              have hfz77_2 := blk_frozen BK196.out 2
              have hfz77_3 := blk_frozen BK196.out 3
              have hfz77_4 := blk_frozen BK196.out 4
              have hfz77_5 := blk_frozen BK196.out 5
              have hfz77_6 := blk_frozen BK196.out 6
              have hfz77_7 := blk_frozen BK196.out 7
              obtain ⟨Ao78, co78, eo78⟩ := Kd.R_slice HO_198004.out
              subst eo78
              go_wp2
              refine bodyPost_ret (results_ct rfl _ _ gb196 30 #[.int .i64 1, .int .u32 0, .int .u32 0, .int .i64 0, .slice Ao78 x198004_3.length co78, .slice none 0 0, .int .u32 ((t198) % 4294967296), .string x198007_30] (0, 0) _ rfl (by (with_reducible repeat (first | refine blk_drewN ?_ _ | refine blk_drew ?_ | refine blk_alloc ?_ _)); refine blk_put (cs := #[.int .i64 1, .int .u32 0, .int .u32 0, .int .i64 0, .slice Ao78 x198004_3.length co78, .slice none 0 0, .int .u32 ((t198) % 4294967296), .string x197007_3]) ?_ 7 _ rfl; (with_reducible repeat (first | refine blk_drewN ?_ _ | refine blk_drew ?_ | refine blk_alloc ?_ _)); refine blk_put (cs := #[.int .i64 1, .int .u32 0, .int .u32 0, .int .i64 0, .slice Ao78 x198004_3.length co78, .slice none 0 0, .int .u32 x197006_3, .string x197007_3]) ?_ 6 _ rfl; (with_reducible repeat (first | refine blk_drewN ?_ _ | refine blk_drew ?_ | refine blk_alloc ?_ _)); refine blk_put (cs := #[.int .i64 1, .int .u32 0, .int .u32 0, .int .i64 0, .slice Ao78 x198004_3.length co78, .slice none 0 0, .int .u32 x197006_3, .string x197007_3]) ?_ 5 _ rfl; (with_reducible repeat (first | refine blk_drewN ?_ _ | refine blk_drew ?_ | refine blk_alloc ?_ _)); refine blk_put (cs := #[.int .i64 1, .int .u32 0, .int .u32 0, .int .i64 0, .slice none 0 0, .slice none 0 0, .int .u32 x197006_3, .string x197007_3]) ?_ 4 _ rfl; (with_reducible repeat (first | refine blk_drewN ?_ _ | refine blk_drew ?_ | refine blk_alloc ?_ _)); refine blk_put (cs := #[.int .i64 1, .int .u32 0, .int .u32 0, .int .i64 x197003_3, .slice none 0 0, .slice none 0 0, .int .u32 x197006_3, .string x197007_3]) ?_ 3 _ rfl; (with_reducible repeat (first | refine blk_drewN ?_ _ | refine blk_drew ?_ | refine blk_alloc ?_ _)); refine blk_put (cs := #[.int .i64 1, .int .u32 0, .int .u32 x197002_3, .int .i64 x197003_3, .slice none 0 0, .slice none 0 0, .int .u32 x197006_3, .string x197007_3]) ?_ 2 _ rfl; (with_reducible repeat (first | refine blk_drewN ?_ _ | refine blk_drew ?_ | refine blk_alloc ?_ _)); refine blk_put (cs := #[.int .i64 1, .int .u32 x197001_3, .int .u32 x197002_3, .int .i64 x197003_3, .slice none 0 0, .slice none 0 0, .int .u32 x197006_3, .string x197007_3]) ?_ 1 _ rfl; (with_reducible repeat (first | refine blk_drewN ?_ _ | refine blk_drew ?_ | refine blk_alloc ?_ _)); refine blk_put (cs := #[.int .i64 x197000_3, .int .u32 x197001_3, .int .u32 x197002_3, .int .i64 x197003_3, .slice none 0 0, .slice none 0 0, .int .u32 x197006_3, .string x197007_3]) ?_ 0 _ rfl; (with_reducible repeat (first | refine blk_drewN ?_ _ | refine blk_drew ?_ | refine blk_alloc ?_ _)); exact BK196.out) Try.underlying30 rfl (by kernel_rfl)) rfl ?_
              exact ⟨_, _, by first | rfl | (simp [errW_none, errW_some] <;> rfl) | (simp [*, errW_none, errW_some] <;> rfl), by (with_reducible repeat (first | apply Kd.R_alloc | apply Kd.R_drewN | apply Kd.R_drew)); exact Kd.R_mono (Kd.R_far (p := ⟨gb196, 7, none⟩) (Kd.R_far (p := ⟨gb196, 6, none⟩) (Kd.R_far (p := ⟨gb196, 5, none⟩) (Kd.R_far (p := ⟨gb196, 4, none⟩) (Kd.R_far (p := ⟨gb196, 3, none⟩) (Kd.R_far (p := ⟨gb196, 2, none⟩) (Kd.R_far (p := ⟨gb196, 1, none⟩) (Kd.R_far (p := ⟨gb196, 0, none⟩) (Kd.R_types HO_198004.out BK196.out (by decide)) (fun _ hk => hk.2) (.int .i64 1)) (fun _ hk => hk.2) (.int .u32 0)) (fun _ hk => hk.2) (.int .u32 0)) (fun _ hk => hk.2) (.int .i64 0)) (fun _ hk => hk.2) (.slice Ao78 x198004_3.length co78)) (fun _ hk => hk.2) (.slice none 0 0)) (fun _ hk => hk.2) (.int .u32 ((t198) % 4294967296))) (fun _ hk => hk.2) (.string x198007_30)) (fun _ hk => trivial), by first | exact Kd.R_nil _ _ _ _ _ | exact Kd.N_nil _ _ _ _ _ | exact Kd.V_nil _ _ _ _ _ | exact Kd.Q_nil _ _ _ _ _ | exact Kd.S_nil _ _ _ _ _, by repeat (first | (with_reducible first | exact HB.out | apply below_alloc | apply pw_below_drewN | apply below_drew1 | refine below_set ?_ GE196.out | refine below_set ?_ GE197.out) | exact HB.out)⟩
            ·rw [if_neg c35] at H
             exact absurd H (by simp)
     ·rw [if_neg c12] at H
      exact absurd H (by simp)
    ·rw [if_neg c11] at H
     exact absurd H (by simp)
   ·rw [if_neg c9] at H
    exact absurd H (by simp)
  ·rw [if_neg c8] at H
   exact absurd H (by simp)

end Go.Proofs.Ytmeaiancebgkoaa.H
