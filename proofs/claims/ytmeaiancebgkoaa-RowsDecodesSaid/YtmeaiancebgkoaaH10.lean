-- Written by a program of this session (hyb.py), which drives the print over functions some of which are proved by hand.
import Derived.Test.YtmeaiancebgkoaaH0
import Derived.Test.YtmeaiancebgkoaaH1
import Derived.Test.YtmeaiancebgkoaaH2
import Derived.Test.YtmeaiancebgkoaaH9
namespace Go.Proofs.Ytmeaiancebgkoaa.H
open Go.RowKit Go.Proofs.YtmeaiancebgkoaaW.PrintWords Go.Proofs.YtmeaiancebgkoaaW.PrintLast Go.Proofs.YtmeaiancebgkoaaW.PrintMore
attribute [local go_sem] max2_int min2_int max_two min_two max_three min_three max_four min_four   -- for this text's walks alone
set_option linter.unusedVariables false
set_option linter.unusedSimpArgs false

attribute [local go_sem high] eqA24 eqA28
/-! ### sphragisref10_Same: function 20 -/
mutual
def sphragisref10_Same.j0 : Nat → Bool → Int → Int → Int → Int → List (S47) → List (S28) → Int → ByteArray → Int → Int → Int → Int → List (S47) → List (S28) → Int → ByteArray → Option (Bool)
 | 0, _, _, _, _, _, _, _, _, _, _, _, _, _, _, _, _, _ => none
 | k + 1, x43, x129000, x129001, x129002, x129003, x129004, x129005, x129006, x129007, x130000, x130001, x130002, x130003, x130004, x130005, x130006, x130007 => if x43 = true then (some false) else (sphragisref10_Same.l0 k 0 x129000 x129001 x129002 x129003 x129004 x129005 x129006 x129007 x130000 x130001 x130002 x130003 x130004 x130005 x130006 x130007)
def sphragisref10_Same.l0 : Nat → Int → Int → Int → Int → Int → List (S47) → List (S28) → Int → ByteArray → Int → Int → Int → Int → List (S47) → List (S28) → Int → ByteArray → Option (Bool)
 | 0, _, _, _, _, _, _, _, _, _, _, _, _, _, _, _, _, _ => none
 | k + 1, x6, x129000, x129001, x129002, x129003, x129004, x129005, x129006, x129007, x130000, x130001, x130002, x130003, x130004, x130005, x130006, x130007 => if x6 < (x129005.length : Int) then (if 0 ≤ x6 then (if x6 < (x130005.length : Int) then (if (!(((rd_T28 x129005 x6).f0) == ((rd_T28 x130005 x6).f0)) || (!((((rd_T28 x129005 x6).f1).toList) == (((rd_T28 x130005 x6).f1).toList)))) = true then (some false) else (sphragisref10_Same.l0 k (wrap64 (x6 + 1)) x129000 x129001 x129002 x129003 x129004 x129005 x129006 x129007 x130000 x130001 x130002 x130003 x130004 x130005 x130006 x130007)) else (none)) else (none)) else (some true)
end
def sphragisref10_Same.f (k : Nat) (a0_0 : Int) (a0_1 : Int) (a0_2 : Int) (a0_3 : Int) (l0_4 : List (S47)) (l0_5 : List (S28)) (a0_6 : Int) (a0_7 : ByteArray) (a1_0 : Int) (a1_1 : Int) (a1_2 : Int) (a1_3 : Int) (l1_4 : List (S47)) (l1_5 : List (S28)) (a1_6 : Int) (a1_7 : ByteArray) : Option (Bool) := (sphragisref09_Same.f k l0_4 l1_4).bind fun t130 => (if a0_0 = a1_0 then (if (!(a0_1 == a1_1) || (!(a0_2 == a1_2) || (!(a0_3 == a1_3)))) = true then (sphragisref10_Same.j0 k true a0_0 a0_1 a0_2 a0_3 l0_4 l0_5 a0_6 a0_7 a1_0 a1_1 a1_2 a1_3 l1_4 l1_5 a1_6 a1_7) else (if t130 = true then (if (!(a0_6 == a1_6) || (!(a0_7.toList == a1_7.toList))) = true then (sphragisref10_Same.j0 k true a0_0 a0_1 a0_2 a0_3 l0_4 l0_5 a0_6 a0_7 a1_0 a1_1 a1_2 a1_3 l1_4 l1_5 a1_6 a1_7) else (sphragisref10_Same.j0 k ((l0_5.length : Int) != (l1_5.length : Int)) a0_0 a0_1 a0_2 a0_3 l0_4 l0_5 a0_6 a0_7 a1_0 a1_1 a1_2 a1_3 l1_4 l1_5 a1_6 a1_7)) else (sphragisref10_Same.j0 k true a0_0 a0_1 a0_2 a0_3 l0_4 l0_5 a0_6 a0_7 a1_0 a1_1 a1_2 a1_3 l1_4 l1_5 a1_6 a1_7))) else (sphragisref10_Same.j0 k true a0_0 a0_1 a0_2 a0_3 l0_4 l0_5 a0_6 a0_7 a1_0 a1_1 a1_2 a1_3 l1_4 l1_5 a1_6 a1_7))
theorem sphragisref10_Same.mono_l : ∀ k, (∀ y0 y1 y2 y3 y4 y5 y6 y7 y8 y9 y10 y11 y12 y13 y14 y15 y16, LeO (sphragisref10_Same.j0 k y0 y1 y2 y3 y4 y5 y6 y7 y8 y9 y10 y11 y12 y13 y14 y15 y16) (sphragisref10_Same.j0 (k + 1) y0 y1 y2 y3 y4 y5 y6 y7 y8 y9 y10 y11 y12 y13 y14 y15 y16)) ∧ (∀ y0 y1 y2 y3 y4 y5 y6 y7 y8 y9 y10 y11 y12 y13 y14 y15 y16, LeO (sphragisref10_Same.l0 k y0 y1 y2 y3 y4 y5 y6 y7 y8 y9 y10 y11 y12 y13 y14 y15 y16) (sphragisref10_Same.l0 (k + 1) y0 y1 y2 y3 y4 y5 y6 y7 y8 y9 y10 y11 y12 y13 y14 y15 y16))
 | 0 => ⟨fun _ _ _ _ _ _ _ _ _ _ _ _ _ _ _ _ _ r h => by simp [sphragisref10_Same.j0] at h, fun _ _ _ _ _ _ _ _ _ _ _ _ _ _ _ _ _ r h => by simp [sphragisref10_Same.l0] at h⟩
 | k + 1 => by
  obtain ⟨ih0, ih1⟩ := sphragisref10_Same.mono_l k
  refine ⟨?_, ?_⟩
  ·intro y0 y1 y2 y3 y4 y5 y6 y7 y8 y9 y10 y11 y12 y13 y14 y15 y16
   unfold sphragisref10_Same.j0
   repeat' first
   | (with_reducible exact ih0 _ _ _ _ _ _ _ _ _ _ _ _ _ _ _ _ _)
   | (with_reducible exact ih1 _ _ _ _ _ _ _ _ _ _ _ _ _ _ _ _ _)
   | (with_reducible exact sphragisref09_Same.mono _ _ _)
   | (with_reducible exact LeO.refl _)
   | (with_reducible exact LeO.none _)
   | (with_reducible refine LeO.ite ?_ ?_)
   | (with_reducible refine LeO.bind ?_ (fun _ => ?_))
   | exact ih0 _ _ _ _ _ _ _ _ _ _ _ _ _ _ _ _ _
   | exact ih1 _ _ _ _ _ _ _ _ _ _ _ _ _ _ _ _ _
   | exact sphragisref09_Same.mono _ _ _
   | exact LeO.none _
   | refine LeO.ite ?_ ?_
   | refine LeO.bind ?_ (fun _ => ?_)
  ·intro y0 y1 y2 y3 y4 y5 y6 y7 y8 y9 y10 y11 y12 y13 y14 y15 y16
   unfold sphragisref10_Same.l0
   repeat' first
   | (with_reducible exact ih0 _ _ _ _ _ _ _ _ _ _ _ _ _ _ _ _ _)
   | (with_reducible exact ih1 _ _ _ _ _ _ _ _ _ _ _ _ _ _ _ _ _)
   | (with_reducible exact sphragisref09_Same.mono _ _ _)
   | (with_reducible exact LeO.refl _)
   | (with_reducible exact LeO.none _)
   | (with_reducible refine LeO.ite ?_ ?_)
   | (with_reducible refine LeO.bind ?_ (fun _ => ?_))
   | exact ih0 _ _ _ _ _ _ _ _ _ _ _ _ _ _ _ _ _
   | exact ih1 _ _ _ _ _ _ _ _ _ _ _ _ _ _ _ _ _
   | exact sphragisref09_Same.mono _ _ _
   | exact LeO.none _
   | refine LeO.ite ?_ ?_
   | refine LeO.bind ?_ (fun _ => ?_)
theorem sphragisref10_Same.mono : ∀ a0 a1 a2 a3 a4 a5 a6 a7 a8 a9 a10 a11 a12 a13 a14 a15 k, LeO (sphragisref10_Same.f k a0 a1 a2 a3 a4 a5 a6 a7 a8 a9 a10 a11 a12 a13 a14 a15) (sphragisref10_Same.f (k + 1) a0 a1 a2 a3 a4 a5 a6 a7 a8 a9 a10 a11 a12 a13 a14 a15) := by
 intro a0 a1 a2 a3 a4 a5 a6 a7 a8 a9 a10 a11 a12 a13 a14 a15 k
 obtain ⟨ih0, ih1⟩ := sphragisref10_Same.mono_l k
 unfold sphragisref10_Same.f
 repeat' first
   | (with_reducible exact ih0 _ _ _ _ _ _ _ _ _ _ _ _ _ _ _ _ _)
   | (with_reducible exact ih1 _ _ _ _ _ _ _ _ _ _ _ _ _ _ _ _ _)
   | (with_reducible exact sphragisref09_Same.mono _ _ _)
   | (with_reducible exact LeO.refl _)
   | (with_reducible exact LeO.none _)
   | (with_reducible refine LeO.ite ?_ ?_)
   | (with_reducible refine LeO.bind ?_ (fun _ => ?_))
   | exact ih0 _ _ _ _ _ _ _ _ _ _ _ _ _ _ _ _ _
   | exact ih1 _ _ _ _ _ _ _ _ _ _ _ _ _ _ _ _ _
   | exact sphragisref09_Same.mono _ _ _
   | exact LeO.none _
   | refine LeO.ite ?_ ?_
   | refine LeO.bind ?_ (fun _ => ?_)
set_option maxHeartbeats 8000000 in
set_option maxRecDepth 100000 in
theorem sphragisref10_Same.calls (k : Nat) (a0_0 : Int) (a0_1 : Int) (a0_2 : Int) (a0_3 : Int) (A0_4 : Option Addr) (c0_4 : Nat) (l0_4 : List (S47)) (A0_5 : Option Addr) (c0_5 : Nat) (l0_5 : List (S28)) (a0_6 : Int) (a0_7 : ByteArray) (a1_0 : Int) (a1_1 : Int) (a1_2 : Int) (a1_3 : Int) (A1_4 : Option Addr) (c1_4 : Nat) (l1_4 : List (S47)) (A1_5 : Option Addr) (c1_5 : Nat) (l1_5 : List (S28)) (a1_6 : Int) (a1_7 : ByteArray) (r : Bool) (w : World) (hr0_4 : Kd.C k47 w A0_4 l0_4.length l0_4) (hc0_4 : l0_4.length ≤ c0_4) (hr0_5 : Kd.C k28 w A0_5 l0_5.length l0_5) (hc0_5 : l0_5.length ≤ c0_5) (hr1_4 : Kd.C k47 w A1_4 l1_4.length l1_4) (hc1_4 : l1_4.length ≤ c1_4) (hr1_5 : Kd.C k28 w A1_5 l1_5.length l1_5) (hc1_5 : l1_5.length ≤ c1_5) (h : sphragisref10_Same.f k a0_0 a0_1 a0_2 a0_3 l0_4 l0_5 a0_6 a0_7 a1_0 a1_1 a1_2 a1_3 l1_4 l1_5 a1_6 a1_7 = some r) :
  Calls Try.prog 20 #[.agg #[.int .i64 a0_0, .int .u32 a0_1, .int .u32 a0_2, .int .i64 a0_3, .slice A0_4 l0_4.length c0_4, .slice A0_5 l0_5.length c0_5, .int .u32 a0_6, .string a0_7], .agg #[.int .i64 a1_0, .int .u32 a1_1, .int .u32 a1_2, .int .i64 a1_3, .slice A1_4 l1_4.length c1_4, .slice A1_5 l1_5.length c1_5, .int .u32 a1_6, .string a1_7]] w fun e w' => e = .returned (.bool r) ∧ Below w.heap.size w w' := by
 have hu30 := Try.underlying30
 have hu24 := Try.underlying24
 have hu28 := Try.underlying28
 have HR0_4 := Aside0.mk hr0_4
 have HC0_4 := Aside0.mk hc0_4
 clear hr0_4 hc0_4
 have HR0_5 := Aside0.mk hr0_5
 have HC0_5 := Aside0.mk hc0_5
 clear hr0_5 hc0_5
 have HR1_4 := Aside0.mk hr1_4
 have HC1_4 := Aside0.mk hc1_4
 clear hr1_4 hc1_4
 have HR1_5 := Aside0.mk hr1_5
 have HC1_5 := Aside0.mk hc1_5
 clear hr1_5 hc1_5
 have HB := Aside0.mk (Below.refl w.heap.size w)
 have H : ((sphragisref09_Same.f k l0_4 l1_4).bind fun t130 => (if a0_0 = a1_0 then (if (!(a0_1 == a1_1) || (!(a0_2 == a1_2) || (!(a0_3 == a1_3)))) = true then (sphragisref10_Same.j0 k true a0_0 a0_1 a0_2 a0_3 l0_4 l0_5 a0_6 a0_7 a1_0 a1_1 a1_2 a1_3 l1_4 l1_5 a1_6 a1_7) else (if t130 = true then (if (!(a0_6 == a1_6) || (!(a0_7.toList == a1_7.toList))) = true then (sphragisref10_Same.j0 k true a0_0 a0_1 a0_2 a0_3 l0_4 l0_5 a0_6 a0_7 a1_0 a1_1 a1_2 a1_3 l1_4 l1_5 a1_6 a1_7) else (sphragisref10_Same.j0 k ((l0_5.length : Int) != (l1_5.length : Int)) a0_0 a0_1 a0_2 a0_3 l0_4 l0_5 a0_6 a0_7 a1_0 a1_1 a1_2 a1_3 l1_4 l1_5 a1_6 a1_7)) else (sphragisref10_Same.j0 k true a0_0 a0_1 a0_2 a0_3 l0_4 l0_5 a0_6 a0_7 a1_0 a1_1 a1_2 a1_3 l1_4 l1_5 a1_6 a1_7))) else (sphragisref10_Same.j0 k true a0_0 a0_1 a0_2 a0_3 l0_4 l0_5 a0_6 a0_7 a1_0 a1_1 a1_2 a1_3 l1_4 l1_5 a1_6 a1_7))) = some r := h
 clear h
 replace H := Option.bind_eq_some_iff.mp H
 obtain ⟨t130, A30, H⟩ := H
 replace H : (if a0_0 = a1_0 then (if (!(a0_1 == a1_1) || (!(a0_2 == a1_2) || (!(a0_3 == a1_3)))) = true then (sphragisref10_Same.j0 k true a0_0 a0_1 a0_2 a0_3 l0_4 l0_5 a0_6 a0_7 a1_0 a1_1 a1_2 a1_3 l1_4 l1_5 a1_6 a1_7) else (if t130 = true then (if (!(a0_6 == a1_6) || (!(a0_7.toList == a1_7.toList))) = true then (sphragisref10_Same.j0 k true a0_0 a0_1 a0_2 a0_3 l0_4 l0_5 a0_6 a0_7 a1_0 a1_1 a1_2 a1_3 l1_4 l1_5 a1_6 a1_7) else (sphragisref10_Same.j0 k ((l0_5.length : Int) != (l1_5.length : Int)) a0_0 a0_1 a0_2 a0_3 l0_4 l0_5 a0_6 a0_7 a1_0 a1_1 a1_2 a1_3 l1_4 l1_5 a1_6 a1_7)) else (sphragisref10_Same.j0 k true a0_0 a0_1 a0_2 a0_3 l0_4 l0_5 a0_6 a0_7 a1_0 a1_1 a1_2 a1_3 l1_4 l1_5 a1_6 a1_7))) else (sphragisref10_Same.j0 k true a0_0 a0_1 a0_2 a0_3 l0_4 l0_5 a0_6 a0_7 a1_0 a1_1 a1_2 a1_3 l1_4 l1_5 a1_6 a1_7)) = some r := H
 have A3 := Aside0.mk A30
 clear A30
 have HC4 := Aside0.mk H
 clear H
 go_enter Try.func20, Try.ntmps20
 go_upto_region 2 with (first | ((with_reducible refine gate_dst (N := 2) rfl ?_); (try (refine gate_guard (by rfl) ?_; dsimp only)); refine box_event ?hg (N := 2) ?hd (cs := #[.int .i64 a0_0, .int .u32 a0_1, .int .u32 a0_2, .int .i64 a0_3, .slice A0_4 l0_4.length c0_4, .slice A0_5 l0_5.length c0_5, .int .u32 a0_6, .string a0_7]) (t := 30) ?hr ?_; (case hd => rfl); (case hg => rfl); (case hr => first | (go_simp; done) | (go_simp; rfl)); intro gb128 hg w5 hbox hb; have n0_ := Aside0.mk (below_step (by repeat (first | (with_reducible first | exact HB.out | apply below_alloc | apply pw_below_drewN | apply below_drew1) | exact HB.out)) hb); have n1_ := Aside0.mk (hbox); have n2_ := Aside0.mk ((by rw [hg]; exact (below_size (by repeat (first | (with_reducible first | exact HB.out | apply below_alloc | apply pw_below_drewN | apply below_drew1) | exact HB.out))) : w.heap.size ≤ gb128)); have n3_ := Aside0.mk ((by rw [hg]; exact (below_size (by repeat (first | (with_reducible first | exact HB.out | apply below_alloc | apply pw_below_drewN | apply below_drew1) | exact HB.out))) : w.heap.size ≤ gb128)); clear HB; have HB := n0_; have BK128 := n1_; have GW128 := n2_; have GE128 := n3_; clear n0_ n1_ n2_ n3_; clear hb hbox hg) | ((with_reducible refine gate_dst (N := 3) rfl ?_); (try (refine gate_guard (by rfl) ?_; dsimp only)); refine box_event ?hg (N := 3) ?hd (cs := #[.int .i64 a1_0, .int .u32 a1_1, .int .u32 a1_2, .int .i64 a1_3, .slice A1_4 l1_4.length c1_4, .slice A1_5 l1_5.length c1_5, .int .u32 a1_6, .string a1_7]) (t := 30) ?hr ?_; (case hd => rfl); (case hg => rfl); (case hr => first | (go_simp; done) | (go_simp; rfl)); intro gb129 hg w6 hbox hb; have n0_ := Aside0.mk (blk_below (g := gb128) (o := .cells #[.int .i64 a0_0, .int .u32 a0_1, .int .u32 a0_2, .int .i64 a0_3, .slice A0_4 l0_4.length c0_4, .slice A0_5 l0_5.length c0_5, .int .u32 a0_6, .string a0_7] 30 (0, 0)) (by (with_reducible repeat (first | refine blk_drewN ?_ _ | refine blk_drew ?_ | refine blk_alloc ?_ _)); exact BK128.out) hb); have n1_ := Aside0.mk (below_step (by repeat (first | (with_reducible first | exact HB.out | apply below_alloc | apply pw_below_drewN | apply below_drew1 | refine below_set ?_ GE128.out) | exact HB.out)) hb); have n2_ := Aside0.mk (hbox); have n3_ := Aside0.mk ((by rw [hg]; exact (below_size (by repeat (first | (with_reducible first | exact HB.out | apply below_alloc | apply pw_below_drewN | apply below_drew1 | refine below_set ?_ GE128.out) | exact HB.out))) : w.heap.size ≤ gb129)); have n4_ := Aside0.mk ((by rw [hg]; exact (below_size (by repeat (first | (with_reducible first | exact HB.out | apply below_alloc | apply pw_below_drewN | apply below_drew1 | refine below_set ?_ GE128.out) | exact HB.out))) : w.heap.size ≤ gb129)); have n5_ := Aside0.mk ((by rw [hg]; exact Nat.ne_of_lt (blk_lt (g := gb128) (o := .cells #[.int .i64 a0_0, .int .u32 a0_1, .int .u32 a0_2, .int .i64 a0_3, .slice A0_4 l0_4.length c0_4, .slice A0_5 l0_5.length c0_5, .int .u32 a0_6, .string a0_7] 30 (0, 0)) (by (with_reducible repeat (first | refine blk_drewN ?_ _ | refine blk_drew ?_ | refine blk_alloc ?_ _)); exact BK128.out)) : gb128 ≠ gb129)); have n6_ := Aside0.mk ((by rw [hg]; exact Nat.ne_of_gt (blk_lt (g := gb128) (o := .cells #[.int .i64 a0_0, .int .u32 a0_1, .int .u32 a0_2, .int .i64 a0_3, .slice A0_4 l0_4.length c0_4, .slice A0_5 l0_5.length c0_5, .int .u32 a0_6, .string a0_7] 30 (0, 0)) (by (with_reducible repeat (first | refine blk_drewN ?_ _ | refine blk_drew ?_ | refine blk_alloc ?_ _)); exact BK128.out)) : gb129 ≠ gb128)); clear BK128; clear HB; have BK128 := n0_; have HB := n1_; have BK129 := n2_; have GW129 := n3_; have GE129 := n4_; have NB128_129 := n5_; have NB129_128 := n6_; clear n0_ n1_ n2_ n3_ n4_ n5_ n6_; clear hb hbox hg; have hnb7 := NB128_129.out; have hnc7 := NB129_128.out; have hcz8_0 : w6.cell? ⟨gb128, 0, none⟩ = some (.int .i64 a0_0) := (blk_cell BK128.out 0).trans rfl; have hcz8_1 : w6.cell? ⟨gb128, 1, none⟩ = some (.int .u32 a0_1) := (blk_cell BK128.out 1).trans rfl; have hcz8_2 : w6.cell? ⟨gb128, 2, none⟩ = some (.int .u32 a0_2) := (blk_cell BK128.out 2).trans rfl; have hcz8_3 : w6.cell? ⟨gb128, 3, none⟩ = some (.int .i64 a0_3) := (blk_cell BK128.out 3).trans rfl; have hcz8_4 : w6.cell? ⟨gb128, 4, none⟩ = some (.slice A0_4 l0_4.length c0_4) := (blk_cell BK128.out 4).trans rfl; have hcz8_5 : w6.cell? ⟨gb128, 5, none⟩ = some (.slice A0_5 l0_5.length c0_5) := (blk_cell BK128.out 5).trans rfl; have hcz8_6 : w6.cell? ⟨gb128, 6, none⟩ = some (.int .u32 a0_6) := (blk_cell BK128.out 6).trans rfl; have hcz8_7 : w6.cell? ⟨gb128, 7, none⟩ = some (.string a0_7) := (blk_cell BK128.out 7).trans rfl; have hfz8_0 := blk_frozen BK128.out 0; have hfz8_1 := blk_frozen BK128.out 1; have hfz8_2 := blk_frozen BK128.out 2; have hfz8_3 := blk_frozen BK128.out 3; have hfz8_4 := blk_frozen BK128.out 4; have hfz8_5 := blk_frozen BK128.out 5; have hfz8_6 := blk_frozen BK128.out 6; have hfz8_7 := blk_frozen BK128.out 7; have hcz9_0 : w6.cell? ⟨gb129, 0, none⟩ = some (.int .i64 a1_0) := (blk_cell BK129.out 0).trans rfl; have hcz9_1 : w6.cell? ⟨gb129, 1, none⟩ = some (.int .u32 a1_1) := (blk_cell BK129.out 1).trans rfl; have hcz9_2 : w6.cell? ⟨gb129, 2, none⟩ = some (.int .u32 a1_2) := (blk_cell BK129.out 2).trans rfl; have hcz9_3 : w6.cell? ⟨gb129, 3, none⟩ = some (.int .i64 a1_3) := (blk_cell BK129.out 3).trans rfl; have hcz9_4 : w6.cell? ⟨gb129, 4, none⟩ = some (.slice A1_4 l1_4.length c1_4) := (blk_cell BK129.out 4).trans rfl; have hcz9_5 : w6.cell? ⟨gb129, 5, none⟩ = some (.slice A1_5 l1_5.length c1_5) := (blk_cell BK129.out 5).trans rfl; have hcz9_6 : w6.cell? ⟨gb129, 6, none⟩ = some (.int .u32 a1_6) := (blk_cell BK129.out 6).trans rfl; have hcz9_7 : w6.cell? ⟨gb129, 7, none⟩ = some (.string a1_7) := (blk_cell BK129.out 7).trans rfl; have hfz9_0 := blk_frozen BK129.out 0; have hfz9_1 := blk_frozen BK129.out 1; have hfz9_2 := blk_frozen BK129.out 2; have hfz9_3 := blk_frozen BK129.out 3; have hfz9_4 := blk_frozen BK129.out 4; have hfz9_5 := blk_frozen BK129.out 5; have hfz9_6 := blk_frozen BK129.out 6; have hfz9_7 := blk_frozen BK129.out 7) | (go_at_call 37; (with_reducible refine (sphragisref09_Same.calls k _ _ l0_4 _ _ l1_4 t130 _ ?side1 ?side2 ?side3 ?side4 A3.out).mono ?_); (case side1 => repeat (first | exact (Kd.C_below HR0_4.out HB.out) | (with_reducible refine Kd.C_alloc ?_ _) | (with_reducible refine Kd.C_drewN ?_ _) | (with_reducible refine Kd.C_drew ?_))); (case side2 => exact HC0_4.out); (case side3 => repeat (first | exact (Kd.C_below HR1_4.out HB.out) | (with_reducible refine Kd.C_alloc ?_ _) | (with_reducible refine Kd.C_drewN ?_ _) | (with_reducible refine Kd.C_drew ?_))); (case side4 => exact HC1_4.out); rintro e w' ⟨rfl, ⟨nd, rfl⟩⟩; (try first | exact ⟨rfl, _, World.drewN_drewN _ _ _⟩ | exact ⟨rfl, _, Eq.trans (World.drewN_drewN _ _ _) (congrArg (World.drewN _) (Nat.add_assoc _ _ _))⟩)))
 repeat (go_quiet (first | ((with_reducible refine gate_dst (N := 2) rfl ?_); (try (refine gate_guard (by rfl) ?_; dsimp only)); refine box_event ?hg (N := 2) ?hd (cs := #[.int .i64 a0_0, .int .u32 a0_1, .int .u32 a0_2, .int .i64 a0_3, .slice A0_4 l0_4.length c0_4, .slice A0_5 l0_5.length c0_5, .int .u32 a0_6, .string a0_7]) (t := 30) ?hr ?_; (case hd => rfl); (case hg => rfl); (case hr => first | (go_simp; done) | (go_simp; rfl)); intro gb128 hg w5 hbox hb; have n0_ := Aside0.mk (below_step (by repeat (first | (with_reducible first | exact HB.out | apply below_alloc | apply pw_below_drewN | apply below_drew1) | exact HB.out)) hb); have n1_ := Aside0.mk (hbox); have n2_ := Aside0.mk ((by rw [hg]; exact (below_size (by repeat (first | (with_reducible first | exact HB.out | apply below_alloc | apply pw_below_drewN | apply below_drew1) | exact HB.out))) : w.heap.size ≤ gb128)); have n3_ := Aside0.mk ((by rw [hg]; exact (below_size (by repeat (first | (with_reducible first | exact HB.out | apply below_alloc | apply pw_below_drewN | apply below_drew1) | exact HB.out))) : w.heap.size ≤ gb128)); clear HB; have HB := n0_; have BK128 := n1_; have GW128 := n2_; have GE128 := n3_; clear n0_ n1_ n2_ n3_; clear hb hbox hg) | ((with_reducible refine gate_dst (N := 3) rfl ?_); (try (refine gate_guard (by rfl) ?_; dsimp only)); refine box_event ?hg (N := 3) ?hd (cs := #[.int .i64 a1_0, .int .u32 a1_1, .int .u32 a1_2, .int .i64 a1_3, .slice A1_4 l1_4.length c1_4, .slice A1_5 l1_5.length c1_5, .int .u32 a1_6, .string a1_7]) (t := 30) ?hr ?_; (case hd => rfl); (case hg => rfl); (case hr => first | (go_simp; done) | (go_simp; rfl)); intro gb129 hg w6 hbox hb; have n0_ := Aside0.mk (blk_below (g := gb128) (o := .cells #[.int .i64 a0_0, .int .u32 a0_1, .int .u32 a0_2, .int .i64 a0_3, .slice A0_4 l0_4.length c0_4, .slice A0_5 l0_5.length c0_5, .int .u32 a0_6, .string a0_7] 30 (0, 0)) (by (with_reducible repeat (first | refine blk_drewN ?_ _ | refine blk_drew ?_ | refine blk_alloc ?_ _)); exact BK128.out) hb); have n1_ := Aside0.mk (below_step (by repeat (first | (with_reducible first | exact HB.out | apply below_alloc | apply pw_below_drewN | apply below_drew1 | refine below_set ?_ GE128.out) | exact HB.out)) hb); have n2_ := Aside0.mk (hbox); have n3_ := Aside0.mk ((by rw [hg]; exact (below_size (by repeat (first | (with_reducible first | exact HB.out | apply below_alloc | apply pw_below_drewN | apply below_drew1 | refine below_set ?_ GE128.out) | exact HB.out))) : w.heap.size ≤ gb129)); have n4_ := Aside0.mk ((by rw [hg]; exact (below_size (by repeat (first | (with_reducible first | exact HB.out | apply below_alloc | apply pw_below_drewN | apply below_drew1 | refine below_set ?_ GE128.out) | exact HB.out))) : w.heap.size ≤ gb129)); have n5_ := Aside0.mk ((by rw [hg]; exact Nat.ne_of_lt (blk_lt (g := gb128) (o := .cells #[.int .i64 a0_0, .int .u32 a0_1, .int .u32 a0_2, .int .i64 a0_3, .slice A0_4 l0_4.length c0_4, .slice A0_5 l0_5.length c0_5, .int .u32 a0_6, .string a0_7] 30 (0, 0)) (by (with_reducible repeat (first | refine blk_drewN ?_ _ | refine blk_drew ?_ | refine blk_alloc ?_ _)); exact BK128.out)) : gb128 ≠ gb129)); have n6_ := Aside0.mk ((by rw [hg]; exact Nat.ne_of_gt (blk_lt (g := gb128) (o := .cells #[.int .i64 a0_0, .int .u32 a0_1, .int .u32 a0_2, .int .i64 a0_3, .slice A0_4 l0_4.length c0_4, .slice A0_5 l0_5.length c0_5, .int .u32 a0_6, .string a0_7] 30 (0, 0)) (by (with_reducible repeat (first | refine blk_drewN ?_ _ | refine blk_drew ?_ | refine blk_alloc ?_ _)); exact BK128.out)) : gb129 ≠ gb128)); clear BK128; clear HB; have BK128 := n0_; have HB := n1_; have BK129 := n2_; have GW129 := n3_; have GE129 := n4_; have NB128_129 := n5_; have NB129_128 := n6_; clear n0_ n1_ n2_ n3_ n4_ n5_ n6_; clear hb hbox hg; have hnb7 := NB128_129.out; have hnc7 := NB129_128.out; have hcz8_0 : w6.cell? ⟨gb128, 0, none⟩ = some (.int .i64 a0_0) := (blk_cell BK128.out 0).trans rfl; have hcz8_1 : w6.cell? ⟨gb128, 1, none⟩ = some (.int .u32 a0_1) := (blk_cell BK128.out 1).trans rfl; have hcz8_2 : w6.cell? ⟨gb128, 2, none⟩ = some (.int .u32 a0_2) := (blk_cell BK128.out 2).trans rfl; have hcz8_3 : w6.cell? ⟨gb128, 3, none⟩ = some (.int .i64 a0_3) := (blk_cell BK128.out 3).trans rfl; have hcz8_4 : w6.cell? ⟨gb128, 4, none⟩ = some (.slice A0_4 l0_4.length c0_4) := (blk_cell BK128.out 4).trans rfl; have hcz8_5 : w6.cell? ⟨gb128, 5, none⟩ = some (.slice A0_5 l0_5.length c0_5) := (blk_cell BK128.out 5).trans rfl; have hcz8_6 : w6.cell? ⟨gb128, 6, none⟩ = some (.int .u32 a0_6) := (blk_cell BK128.out 6).trans rfl; have hcz8_7 : w6.cell? ⟨gb128, 7, none⟩ = some (.string a0_7) := (blk_cell BK128.out 7).trans rfl; have hfz8_0 := blk_frozen BK128.out 0; have hfz8_1 := blk_frozen BK128.out 1; have hfz8_2 := blk_frozen BK128.out 2; have hfz8_3 := blk_frozen BK128.out 3; have hfz8_4 := blk_frozen BK128.out 4; have hfz8_5 := blk_frozen BK128.out 5; have hfz8_6 := blk_frozen BK128.out 6; have hfz8_7 := blk_frozen BK128.out 7; have hcz9_0 : w6.cell? ⟨gb129, 0, none⟩ = some (.int .i64 a1_0) := (blk_cell BK129.out 0).trans rfl; have hcz9_1 : w6.cell? ⟨gb129, 1, none⟩ = some (.int .u32 a1_1) := (blk_cell BK129.out 1).trans rfl; have hcz9_2 : w6.cell? ⟨gb129, 2, none⟩ = some (.int .u32 a1_2) := (blk_cell BK129.out 2).trans rfl; have hcz9_3 : w6.cell? ⟨gb129, 3, none⟩ = some (.int .i64 a1_3) := (blk_cell BK129.out 3).trans rfl; have hcz9_4 : w6.cell? ⟨gb129, 4, none⟩ = some (.slice A1_4 l1_4.length c1_4) := (blk_cell BK129.out 4).trans rfl; have hcz9_5 : w6.cell? ⟨gb129, 5, none⟩ = some (.slice A1_5 l1_5.length c1_5) := (blk_cell BK129.out 5).trans rfl; have hcz9_6 : w6.cell? ⟨gb129, 6, none⟩ = some (.int .u32 a1_6) := (blk_cell BK129.out 6).trans rfl; have hcz9_7 : w6.cell? ⟨gb129, 7, none⟩ = some (.string a1_7) := (blk_cell BK129.out 7).trans rfl; have hfz9_0 := blk_frozen BK129.out 0; have hfz9_1 := blk_frozen BK129.out 1; have hfz9_2 := blk_frozen BK129.out 2; have hfz9_3 := blk_frozen BK129.out 3; have hfz9_4 := blk_frozen BK129.out 4; have hfz9_5 := blk_frozen BK129.out 5; have hfz9_6 := blk_frozen BK129.out 6; have hfz9_7 := blk_frozen BK129.out 7) | (go_at_call 37; (with_reducible refine (sphragisref09_Same.calls k _ _ l0_4 _ _ l1_4 t130 _ ?side1 ?side2 ?side3 ?side4 A3.out).mono ?_); (case side1 => repeat (first | exact (Kd.C_below HR0_4.out HB.out) | (with_reducible refine Kd.C_alloc ?_ _) | (with_reducible refine Kd.C_drewN ?_ _) | (with_reducible refine Kd.C_drew ?_))); (case side2 => exact HC0_4.out); (case side3 => repeat (first | exact (Kd.C_below HR1_4.out HB.out) | (with_reducible refine Kd.C_alloc ?_ _) | (with_reducible refine Kd.C_drewN ?_ _) | (with_reducible refine Kd.C_drew ?_))); (case side4 => exact HC1_4.out); rintro e w' ⟨rfl, ⟨nd, rfl⟩⟩; (try first | exact ⟨rfl, _, World.drewN_drewN _ _ _⟩ | exact ⟨rfl, _, Eq.trans (World.drewN_drewN _ _ _) (congrArg (World.drewN _) (Nat.add_assoc _ _ _))⟩))); go_upto_region 2 with (first | ((with_reducible refine gate_dst (N := 2) rfl ?_); (try (refine gate_guard (by rfl) ?_; dsimp only)); refine box_event ?hg (N := 2) ?hd (cs := #[.int .i64 a0_0, .int .u32 a0_1, .int .u32 a0_2, .int .i64 a0_3, .slice A0_4 l0_4.length c0_4, .slice A0_5 l0_5.length c0_5, .int .u32 a0_6, .string a0_7]) (t := 30) ?hr ?_; (case hd => rfl); (case hg => rfl); (case hr => first | (go_simp; done) | (go_simp; rfl)); intro gb128 hg w5 hbox hb; have n0_ := Aside0.mk (below_step (by repeat (first | (with_reducible first | exact HB.out | apply below_alloc | apply pw_below_drewN | apply below_drew1) | exact HB.out)) hb); have n1_ := Aside0.mk (hbox); have n2_ := Aside0.mk ((by rw [hg]; exact (below_size (by repeat (first | (with_reducible first | exact HB.out | apply below_alloc | apply pw_below_drewN | apply below_drew1) | exact HB.out))) : w.heap.size ≤ gb128)); have n3_ := Aside0.mk ((by rw [hg]; exact (below_size (by repeat (first | (with_reducible first | exact HB.out | apply below_alloc | apply pw_below_drewN | apply below_drew1) | exact HB.out))) : w.heap.size ≤ gb128)); clear HB; have HB := n0_; have BK128 := n1_; have GW128 := n2_; have GE128 := n3_; clear n0_ n1_ n2_ n3_; clear hb hbox hg) | ((with_reducible refine gate_dst (N := 3) rfl ?_); (try (refine gate_guard (by rfl) ?_; dsimp only)); refine box_event ?hg (N := 3) ?hd (cs := #[.int .i64 a1_0, .int .u32 a1_1, .int .u32 a1_2, .int .i64 a1_3, .slice A1_4 l1_4.length c1_4, .slice A1_5 l1_5.length c1_5, .int .u32 a1_6, .string a1_7]) (t := 30) ?hr ?_; (case hd => rfl); (case hg => rfl); (case hr => first | (go_simp; done) | (go_simp; rfl)); intro gb129 hg w6 hbox hb; have n0_ := Aside0.mk (blk_below (g := gb128) (o := .cells #[.int .i64 a0_0, .int .u32 a0_1, .int .u32 a0_2, .int .i64 a0_3, .slice A0_4 l0_4.length c0_4, .slice A0_5 l0_5.length c0_5, .int .u32 a0_6, .string a0_7] 30 (0, 0)) (by (with_reducible repeat (first | refine blk_drewN ?_ _ | refine blk_drew ?_ | refine blk_alloc ?_ _)); exact BK128.out) hb); have n1_ := Aside0.mk (below_step (by repeat (first | (with_reducible first | exact HB.out | apply below_alloc | apply pw_below_drewN | apply below_drew1 | refine below_set ?_ GE128.out) | exact HB.out)) hb); have n2_ := Aside0.mk (hbox); have n3_ := Aside0.mk ((by rw [hg]; exact (below_size (by repeat (first | (with_reducible first | exact HB.out | apply below_alloc | apply pw_below_drewN | apply below_drew1 | refine below_set ?_ GE128.out) | exact HB.out))) : w.heap.size ≤ gb129)); have n4_ := Aside0.mk ((by rw [hg]; exact (below_size (by repeat (first | (with_reducible first | exact HB.out | apply below_alloc | apply pw_below_drewN | apply below_drew1 | refine below_set ?_ GE128.out) | exact HB.out))) : w.heap.size ≤ gb129)); have n5_ := Aside0.mk ((by rw [hg]; exact Nat.ne_of_lt (blk_lt (g := gb128) (o := .cells #[.int .i64 a0_0, .int .u32 a0_1, .int .u32 a0_2, .int .i64 a0_3, .slice A0_4 l0_4.length c0_4, .slice A0_5 l0_5.length c0_5, .int .u32 a0_6, .string a0_7] 30 (0, 0)) (by (with_reducible repeat (first | refine blk_drewN ?_ _ | refine blk_drew ?_ | refine blk_alloc ?_ _)); exact BK128.out)) : gb128 ≠ gb129)); have n6_ := Aside0.mk ((by rw [hg]; exact Nat.ne_of_gt (blk_lt (g := gb128) (o := .cells #[.int .i64 a0_0, .int .u32 a0_1, .int .u32 a0_2, .int .i64 a0_3, .slice A0_4 l0_4.length c0_4, .slice A0_5 l0_5.length c0_5, .int .u32 a0_6, .string a0_7] 30 (0, 0)) (by (with_reducible repeat (first | refine blk_drewN ?_ _ | refine blk_drew ?_ | refine blk_alloc ?_ _)); exact BK128.out)) : gb129 ≠ gb128)); clear BK128; clear HB; have BK128 := n0_; have HB := n1_; have BK129 := n2_; have GW129 := n3_; have GE129 := n4_; have NB128_129 := n5_; have NB129_128 := n6_; clear n0_ n1_ n2_ n3_ n4_ n5_ n6_; clear hb hbox hg; have hnb7 := NB128_129.out; have hnc7 := NB129_128.out; have hcz8_0 : w6.cell? ⟨gb128, 0, none⟩ = some (.int .i64 a0_0) := (blk_cell BK128.out 0).trans rfl; have hcz8_1 : w6.cell? ⟨gb128, 1, none⟩ = some (.int .u32 a0_1) := (blk_cell BK128.out 1).trans rfl; have hcz8_2 : w6.cell? ⟨gb128, 2, none⟩ = some (.int .u32 a0_2) := (blk_cell BK128.out 2).trans rfl; have hcz8_3 : w6.cell? ⟨gb128, 3, none⟩ = some (.int .i64 a0_3) := (blk_cell BK128.out 3).trans rfl; have hcz8_4 : w6.cell? ⟨gb128, 4, none⟩ = some (.slice A0_4 l0_4.length c0_4) := (blk_cell BK128.out 4).trans rfl; have hcz8_5 : w6.cell? ⟨gb128, 5, none⟩ = some (.slice A0_5 l0_5.length c0_5) := (blk_cell BK128.out 5).trans rfl; have hcz8_6 : w6.cell? ⟨gb128, 6, none⟩ = some (.int .u32 a0_6) := (blk_cell BK128.out 6).trans rfl; have hcz8_7 : w6.cell? ⟨gb128, 7, none⟩ = some (.string a0_7) := (blk_cell BK128.out 7).trans rfl; have hfz8_0 := blk_frozen BK128.out 0; have hfz8_1 := blk_frozen BK128.out 1; have hfz8_2 := blk_frozen BK128.out 2; have hfz8_3 := blk_frozen BK128.out 3; have hfz8_4 := blk_frozen BK128.out 4; have hfz8_5 := blk_frozen BK128.out 5; have hfz8_6 := blk_frozen BK128.out 6; have hfz8_7 := blk_frozen BK128.out 7; have hcz9_0 : w6.cell? ⟨gb129, 0, none⟩ = some (.int .i64 a1_0) := (blk_cell BK129.out 0).trans rfl; have hcz9_1 : w6.cell? ⟨gb129, 1, none⟩ = some (.int .u32 a1_1) := (blk_cell BK129.out 1).trans rfl; have hcz9_2 : w6.cell? ⟨gb129, 2, none⟩ = some (.int .u32 a1_2) := (blk_cell BK129.out 2).trans rfl; have hcz9_3 : w6.cell? ⟨gb129, 3, none⟩ = some (.int .i64 a1_3) := (blk_cell BK129.out 3).trans rfl; have hcz9_4 : w6.cell? ⟨gb129, 4, none⟩ = some (.slice A1_4 l1_4.length c1_4) := (blk_cell BK129.out 4).trans rfl; have hcz9_5 : w6.cell? ⟨gb129, 5, none⟩ = some (.slice A1_5 l1_5.length c1_5) := (blk_cell BK129.out 5).trans rfl; have hcz9_6 : w6.cell? ⟨gb129, 6, none⟩ = some (.int .u32 a1_6) := (blk_cell BK129.out 6).trans rfl; have hcz9_7 : w6.cell? ⟨gb129, 7, none⟩ = some (.string a1_7) := (blk_cell BK129.out 7).trans rfl; have hfz9_0 := blk_frozen BK129.out 0; have hfz9_1 := blk_frozen BK129.out 1; have hfz9_2 := blk_frozen BK129.out 2; have hfz9_3 := blk_frozen BK129.out 3; have hfz9_4 := blk_frozen BK129.out 4; have hfz9_5 := blk_frozen BK129.out 5; have hfz9_6 := blk_frozen BK129.out 6; have hfz9_7 := blk_frozen BK129.out 7) | (go_at_call 37; (with_reducible refine (sphragisref09_Same.calls k _ _ l0_4 _ _ l1_4 t130 _ ?side1 ?side2 ?side3 ?side4 A3.out).mono ?_); (case side1 => repeat (first | exact (Kd.C_below HR0_4.out HB.out) | (with_reducible refine Kd.C_alloc ?_ _) | (with_reducible refine Kd.C_drewN ?_ _) | (with_reducible refine Kd.C_drew ?_))); (case side2 => exact HC0_4.out); (case side3 => repeat (first | exact (Kd.C_below HR1_4.out HB.out) | (with_reducible refine Kd.C_alloc ?_ _) | (with_reducible refine Kd.C_drewN ?_ _) | (with_reducible refine Kd.C_drew ?_))); (case side4 => exact HC1_4.out); rintro e w' ⟨rfl, ⟨nd, rfl⟩⟩; (try first | exact ⟨rfl, _, World.drewN_drewN _ _ _⟩ | exact ⟨rfl, _, Eq.trans (World.drewN_drewN _ _ _) (congrArg (World.drewN _) (Nat.add_assoc _ _ _))⟩))))
 (try simp only [Act.put, List.setIfInBounds_toArray, List.set_cons_zero, List.set_cons_succ])
 go_cut [43] (fun v43 wc => ∃ (kq : Nat) (x43_3 : Bool), v43 = .bool x43_3 ∧ Aside0 (sphragisref10_Same.j0 kq x43_3 a0_0 a0_1 a0_2 a0_3 l0_4 l0_5 a0_6 a0_7 a1_0 a1_1 a1_2 a1_3 l1_4 l1_5 a1_6 a1_7 = some r) ∧ Aside0 (kq ≤ k) ∧ Aside0 (wc.heap[gb128]? = some (.cells #[.int .i64 a0_0, .int .u32 a0_1, .int .u32 a0_2, .int .i64 a0_3, (.slice A0_4 l0_4.length c0_4), (.slice A0_5 l0_5.length c0_5), .int .u32 a0_6, .string a0_7] 30 (0, 0))) ∧ Aside0 (wc.heap[gb129]? = some (.cells #[.int .i64 a1_0, .int .u32 a1_1, .int .u32 a1_2, .int .i64 a1_3, (.slice A1_4 l1_4.length c1_4), (.slice A1_5 l1_5.length c1_5), .int .u32 a1_6, .string a1_7] 30 (0, 0))) ∧ Aside0 (Below w.heap.size w wc))
 case first =>
  have H := HC4.out
  clear HC4
  by_cases c10 : a0_0 = a1_0
  ·rw [if_pos c10] at H
   have c10b0 : (a0_0 == a1_0) = true := beq_iff_eq.mpr c10
   have c10b1 : (a0_0 != a1_0) = false := bne_eq_false_iff_eq.mpr c10
   clear c10
   (first | rw [c10b0] | (simp only [i64_w, i32_w]; rw [c10b0]) | skip)
   by_cases c11 : (!(a0_1 == a1_1) || (!(a0_2 == a1_2) || (!(a0_3 == a1_3)))) = true
   ·rw [if_pos c11] at H
    have c11b0 : (!(a0_1 == a1_1) || (!(a0_2 == a1_2) || (!(a0_3 == a1_3)))) = true := c11
    clear c11
    have H' := Aside0.mk H
    clear H
    have hnb12 := NB128_129.out
    have hnc12 := NB129_128.out
    have hcz13_0 : w6.cell? ⟨gb128, 0, none⟩ = some (.int .i64 a0_0) := (blk_cell BK128.out 0).trans rfl
    have hcz13_1 : w6.cell? ⟨gb128, 1, none⟩ = some (.int .u32 a0_1) := (blk_cell BK128.out 1).trans rfl
    have hcz13_2 : w6.cell? ⟨gb128, 2, none⟩ = some (.int .u32 a0_2) := (blk_cell BK128.out 2).trans rfl
    have hcz13_3 : w6.cell? ⟨gb128, 3, none⟩ = some (.int .i64 a0_3) := (blk_cell BK128.out 3).trans rfl
    have hcz13_4 : w6.cell? ⟨gb128, 4, none⟩ = some (.slice A0_4 l0_4.length c0_4) := (blk_cell BK128.out 4).trans rfl
    have hcz13_5 : w6.cell? ⟨gb128, 5, none⟩ = some (.slice A0_5 l0_5.length c0_5) := (blk_cell BK128.out 5).trans rfl
    have hcz13_6 : w6.cell? ⟨gb128, 6, none⟩ = some (.int .u32 a0_6) := (blk_cell BK128.out 6).trans rfl
    have hcz13_7 : w6.cell? ⟨gb128, 7, none⟩ = some (.string a0_7) := (blk_cell BK128.out 7).trans rfl
    have hfz13_0 := blk_frozen BK128.out 0
    have hfz13_1 := blk_frozen BK128.out 1
    have hfz13_2 := blk_frozen BK128.out 2
    have hfz13_3 := blk_frozen BK128.out 3
    have hfz13_4 := blk_frozen BK128.out 4
    have hfz13_5 := blk_frozen BK128.out 5
    have hfz13_6 := blk_frozen BK128.out 6
    have hfz13_7 := blk_frozen BK128.out 7
    have hcz14_0 : w6.cell? ⟨gb129, 0, none⟩ = some (.int .i64 a1_0) := (blk_cell BK129.out 0).trans rfl
    have hcz14_1 : w6.cell? ⟨gb129, 1, none⟩ = some (.int .u32 a1_1) := (blk_cell BK129.out 1).trans rfl
    have hcz14_2 : w6.cell? ⟨gb129, 2, none⟩ = some (.int .u32 a1_2) := (blk_cell BK129.out 2).trans rfl
    have hcz14_3 : w6.cell? ⟨gb129, 3, none⟩ = some (.int .i64 a1_3) := (blk_cell BK129.out 3).trans rfl
    have hcz14_4 : w6.cell? ⟨gb129, 4, none⟩ = some (.slice A1_4 l1_4.length c1_4) := (blk_cell BK129.out 4).trans rfl
    have hcz14_5 : w6.cell? ⟨gb129, 5, none⟩ = some (.slice A1_5 l1_5.length c1_5) := (blk_cell BK129.out 5).trans rfl
    have hcz14_6 : w6.cell? ⟨gb129, 6, none⟩ = some (.int .u32 a1_6) := (blk_cell BK129.out 6).trans rfl
    have hcz14_7 : w6.cell? ⟨gb129, 7, none⟩ = some (.string a1_7) := (blk_cell BK129.out 7).trans rfl
    have hfz14_0 := blk_frozen BK129.out 0
    have hfz14_1 := blk_frozen BK129.out 1
    have hfz14_2 := blk_frozen BK129.out 2
    have hfz14_3 := blk_frozen BK129.out 3
    have hfz14_4 := blk_frozen BK129.out 4
    have hfz14_5 := blk_frozen BK129.out 5
    have hfz14_6 := blk_frozen BK129.out 6
    have hfz14_7 := blk_frozen BK129.out 7
    go_wp2
    repeat (go_quiet (fail); try go_wp2)
    go_meet
    case rel => exact ⟨_, (true), (by first | rfl | (simp; done) | (simp [*]; done)), H', ⟨by first | omega | exact Nat.le_refl _⟩, ⟨by (with_reducible repeat (first | refine blk_drewN ?_ _ | refine blk_drew ?_ | refine blk_alloc ?_ _)); exact BK128.out⟩, ⟨by (with_reducible repeat (first | refine blk_drewN ?_ _ | refine blk_drew ?_ | refine blk_alloc ?_ _)); exact BK129.out⟩, ⟨by repeat (first | (with_reducible first | exact HB.out | apply below_alloc | apply pw_below_drewN | apply below_drew1 | refine below_set ?_ GE128.out | refine below_set ?_ GE129.out) | exact HB.out)⟩⟩
   ·rw [if_neg c11] at H
    have c11b0 : (!(a0_1 == a1_1) || (!(a0_2 == a1_2) || (!(a0_3 == a1_3)))) = false := by simpa using c11
    clear c11
    by_cases c15 : t130 = true
    ·subst c15
     have H1 : (if (!(a0_6 == a1_6) || (!(a0_7.toList == a1_7.toList))) = true then (sphragisref10_Same.j0 k true a0_0 a0_1 a0_2 a0_3 l0_4 l0_5 a0_6 a0_7 a1_0 a1_1 a1_2 a1_3 l1_4 l1_5 a1_6 a1_7) else (sphragisref10_Same.j0 k ((l0_5.length : Int) != (l1_5.length : Int)) a0_0 a0_1 a0_2 a0_3 l0_4 l0_5 a0_6 a0_7 a1_0 a1_1 a1_2 a1_3 l1_4 l1_5 a1_6 a1_7)) = some r := by rw [if_pos rfl] at H; exact H
     clear H
     have H := H1
     clear H1
     by_cases c16 : (!(a0_6 == a1_6) || (!(a0_7.toList == a1_7.toList))) = true
     ·rw [if_pos c16] at H
      have c16b0 : (!(a0_6 == a1_6) || (!(a0_7.toList == a1_7.toList))) = true := c16
      clear c16
      have H' := Aside0.mk H
      clear H
      have hnb17 := NB128_129.out
      have hnc17 := NB129_128.out
      have hcz18_0 : w6.cell? ⟨gb128, 0, none⟩ = some (.int .i64 a0_0) := (blk_cell BK128.out 0).trans rfl
      have hcz18_1 : w6.cell? ⟨gb128, 1, none⟩ = some (.int .u32 a0_1) := (blk_cell BK128.out 1).trans rfl
      have hcz18_2 : w6.cell? ⟨gb128, 2, none⟩ = some (.int .u32 a0_2) := (blk_cell BK128.out 2).trans rfl
      have hcz18_3 : w6.cell? ⟨gb128, 3, none⟩ = some (.int .i64 a0_3) := (blk_cell BK128.out 3).trans rfl
      have hcz18_4 : w6.cell? ⟨gb128, 4, none⟩ = some (.slice A0_4 l0_4.length c0_4) := (blk_cell BK128.out 4).trans rfl
      have hcz18_5 : w6.cell? ⟨gb128, 5, none⟩ = some (.slice A0_5 l0_5.length c0_5) := (blk_cell BK128.out 5).trans rfl
      have hcz18_6 : w6.cell? ⟨gb128, 6, none⟩ = some (.int .u32 a0_6) := (blk_cell BK128.out 6).trans rfl
      have hcz18_7 : w6.cell? ⟨gb128, 7, none⟩ = some (.string a0_7) := (blk_cell BK128.out 7).trans rfl
      have hfz18_0 := blk_frozen BK128.out 0
      have hfz18_1 := blk_frozen BK128.out 1
      have hfz18_2 := blk_frozen BK128.out 2
      have hfz18_3 := blk_frozen BK128.out 3
      have hfz18_4 := blk_frozen BK128.out 4
      have hfz18_5 := blk_frozen BK128.out 5
      have hfz18_6 := blk_frozen BK128.out 6
      have hfz18_7 := blk_frozen BK128.out 7
      have hcz19_0 : w6.cell? ⟨gb129, 0, none⟩ = some (.int .i64 a1_0) := (blk_cell BK129.out 0).trans rfl
      have hcz19_1 : w6.cell? ⟨gb129, 1, none⟩ = some (.int .u32 a1_1) := (blk_cell BK129.out 1).trans rfl
      have hcz19_2 : w6.cell? ⟨gb129, 2, none⟩ = some (.int .u32 a1_2) := (blk_cell BK129.out 2).trans rfl
      have hcz19_3 : w6.cell? ⟨gb129, 3, none⟩ = some (.int .i64 a1_3) := (blk_cell BK129.out 3).trans rfl
      have hcz19_4 : w6.cell? ⟨gb129, 4, none⟩ = some (.slice A1_4 l1_4.length c1_4) := (blk_cell BK129.out 4).trans rfl
      have hcz19_5 : w6.cell? ⟨gb129, 5, none⟩ = some (.slice A1_5 l1_5.length c1_5) := (blk_cell BK129.out 5).trans rfl
      have hcz19_6 : w6.cell? ⟨gb129, 6, none⟩ = some (.int .u32 a1_6) := (blk_cell BK129.out 6).trans rfl
      have hcz19_7 : w6.cell? ⟨gb129, 7, none⟩ = some (.string a1_7) := (blk_cell BK129.out 7).trans rfl
      have hfz19_0 := blk_frozen BK129.out 0
      have hfz19_1 := blk_frozen BK129.out 1
      have hfz19_2 := blk_frozen BK129.out 2
      have hfz19_3 := blk_frozen BK129.out 3
      have hfz19_4 := blk_frozen BK129.out 4
      have hfz19_5 := blk_frozen BK129.out 5
      have hfz19_6 := blk_frozen BK129.out 6
      have hfz19_7 := blk_frozen BK129.out 7
      go_wp2
      repeat (go_quiet (fail); try go_wp2)
      go_meet
      case rel => exact ⟨_, (true), (by first | rfl | (simp; done) | (simp [*]; done)), H', ⟨by first | omega | exact Nat.le_refl _⟩, ⟨by (with_reducible repeat (first | refine blk_drewN ?_ _ | refine blk_drew ?_ | refine blk_alloc ?_ _)); exact BK128.out⟩, ⟨by (with_reducible repeat (first | refine blk_drewN ?_ _ | refine blk_drew ?_ | refine blk_alloc ?_ _)); exact BK129.out⟩, ⟨by repeat (first | (with_reducible first | exact HB.out | apply below_alloc | apply pw_below_drewN | apply below_drew1 | refine below_set ?_ GE128.out | refine below_set ?_ GE129.out) | exact HB.out)⟩⟩
     ·rw [if_neg c16] at H
      have c16b0 : (!(a0_6 == a1_6) || (!(a0_7.toList == a1_7.toList))) = false := by simpa using c16
      clear c16
      have H' := Aside0.mk H
      clear H
      have hnb20 := NB128_129.out
      have hnc20 := NB129_128.out
      have hcz21_0 : w6.cell? ⟨gb128, 0, none⟩ = some (.int .i64 a0_0) := (blk_cell BK128.out 0).trans rfl
      have hcz21_1 : w6.cell? ⟨gb128, 1, none⟩ = some (.int .u32 a0_1) := (blk_cell BK128.out 1).trans rfl
      have hcz21_2 : w6.cell? ⟨gb128, 2, none⟩ = some (.int .u32 a0_2) := (blk_cell BK128.out 2).trans rfl
      have hcz21_3 : w6.cell? ⟨gb128, 3, none⟩ = some (.int .i64 a0_3) := (blk_cell BK128.out 3).trans rfl
      have hcz21_4 : w6.cell? ⟨gb128, 4, none⟩ = some (.slice A0_4 l0_4.length c0_4) := (blk_cell BK128.out 4).trans rfl
      have hcz21_5 : w6.cell? ⟨gb128, 5, none⟩ = some (.slice A0_5 l0_5.length c0_5) := (blk_cell BK128.out 5).trans rfl
      have hcz21_6 : w6.cell? ⟨gb128, 6, none⟩ = some (.int .u32 a0_6) := (blk_cell BK128.out 6).trans rfl
      have hcz21_7 : w6.cell? ⟨gb128, 7, none⟩ = some (.string a0_7) := (blk_cell BK128.out 7).trans rfl
      have hfz21_0 := blk_frozen BK128.out 0
      have hfz21_1 := blk_frozen BK128.out 1
      have hfz21_2 := blk_frozen BK128.out 2
      have hfz21_3 := blk_frozen BK128.out 3
      have hfz21_4 := blk_frozen BK128.out 4
      have hfz21_5 := blk_frozen BK128.out 5
      have hfz21_6 := blk_frozen BK128.out 6
      have hfz21_7 := blk_frozen BK128.out 7
      have hcz22_0 : w6.cell? ⟨gb129, 0, none⟩ = some (.int .i64 a1_0) := (blk_cell BK129.out 0).trans rfl
      have hcz22_1 : w6.cell? ⟨gb129, 1, none⟩ = some (.int .u32 a1_1) := (blk_cell BK129.out 1).trans rfl
      have hcz22_2 : w6.cell? ⟨gb129, 2, none⟩ = some (.int .u32 a1_2) := (blk_cell BK129.out 2).trans rfl
      have hcz22_3 : w6.cell? ⟨gb129, 3, none⟩ = some (.int .i64 a1_3) := (blk_cell BK129.out 3).trans rfl
      have hcz22_4 : w6.cell? ⟨gb129, 4, none⟩ = some (.slice A1_4 l1_4.length c1_4) := (blk_cell BK129.out 4).trans rfl
      have hcz22_5 : w6.cell? ⟨gb129, 5, none⟩ = some (.slice A1_5 l1_5.length c1_5) := (blk_cell BK129.out 5).trans rfl
      have hcz22_6 : w6.cell? ⟨gb129, 6, none⟩ = some (.int .u32 a1_6) := (blk_cell BK129.out 6).trans rfl
      have hcz22_7 : w6.cell? ⟨gb129, 7, none⟩ = some (.string a1_7) := (blk_cell BK129.out 7).trans rfl
      have hfz22_0 := blk_frozen BK129.out 0
      have hfz22_1 := blk_frozen BK129.out 1
      have hfz22_2 := blk_frozen BK129.out 2
      have hfz22_3 := blk_frozen BK129.out 3
      have hfz22_4 := blk_frozen BK129.out 4
      have hfz22_5 := blk_frozen BK129.out 5
      have hfz22_6 := blk_frozen BK129.out 6
      have hfz22_7 := blk_frozen BK129.out 7
      go_wp2
      repeat (go_quiet (fail); try go_wp2)
      go_meet
      case rel => exact ⟨_, (((l0_5.length : Int) != (l1_5.length : Int))), (by first | rfl | (simp; done) | (simp [*]; done)), H', ⟨by first | omega | exact Nat.le_refl _⟩, ⟨by (with_reducible repeat (first | refine blk_drewN ?_ _ | refine blk_drew ?_ | refine blk_alloc ?_ _)); exact BK128.out⟩, ⟨by (with_reducible repeat (first | refine blk_drewN ?_ _ | refine blk_drew ?_ | refine blk_alloc ?_ _)); exact BK129.out⟩, ⟨by repeat (first | (with_reducible first | exact HB.out | apply below_alloc | apply pw_below_drewN | apply below_drew1 | refine below_set ?_ GE128.out | refine below_set ?_ GE129.out) | exact HB.out)⟩⟩
    ·replace c15 := Bool.eq_false_iff.mpr c15
     subst c15
     have H1 : (sphragisref10_Same.j0 k true a0_0 a0_1 a0_2 a0_3 l0_4 l0_5 a0_6 a0_7 a1_0 a1_1 a1_2 a1_3 l1_4 l1_5 a1_6 a1_7) = some r := by rw [if_neg (show ¬ (false = true) by decide)] at H; exact H
     clear H
     have H := H1
     clear H1
     have H' := Aside0.mk H
     clear H
     have hnb23 := NB128_129.out
     have hnc23 := NB129_128.out
     have hcz24_0 : w6.cell? ⟨gb128, 0, none⟩ = some (.int .i64 a0_0) := (blk_cell BK128.out 0).trans rfl
     have hcz24_1 : w6.cell? ⟨gb128, 1, none⟩ = some (.int .u32 a0_1) := (blk_cell BK128.out 1).trans rfl
     have hcz24_2 : w6.cell? ⟨gb128, 2, none⟩ = some (.int .u32 a0_2) := (blk_cell BK128.out 2).trans rfl
     have hcz24_3 : w6.cell? ⟨gb128, 3, none⟩ = some (.int .i64 a0_3) := (blk_cell BK128.out 3).trans rfl
     have hcz24_4 : w6.cell? ⟨gb128, 4, none⟩ = some (.slice A0_4 l0_4.length c0_4) := (blk_cell BK128.out 4).trans rfl
     have hcz24_5 : w6.cell? ⟨gb128, 5, none⟩ = some (.slice A0_5 l0_5.length c0_5) := (blk_cell BK128.out 5).trans rfl
     have hcz24_6 : w6.cell? ⟨gb128, 6, none⟩ = some (.int .u32 a0_6) := (blk_cell BK128.out 6).trans rfl
     have hcz24_7 : w6.cell? ⟨gb128, 7, none⟩ = some (.string a0_7) := (blk_cell BK128.out 7).trans rfl
     have hfz24_0 := blk_frozen BK128.out 0
     have hfz24_1 := blk_frozen BK128.out 1
     have hfz24_2 := blk_frozen BK128.out 2
     have hfz24_3 := blk_frozen BK128.out 3
     have hfz24_4 := blk_frozen BK128.out 4
     have hfz24_5 := blk_frozen BK128.out 5
     have hfz24_6 := blk_frozen BK128.out 6
     have hfz24_7 := blk_frozen BK128.out 7
     have hcz25_0 : w6.cell? ⟨gb129, 0, none⟩ = some (.int .i64 a1_0) := (blk_cell BK129.out 0).trans rfl
     have hcz25_1 : w6.cell? ⟨gb129, 1, none⟩ = some (.int .u32 a1_1) := (blk_cell BK129.out 1).trans rfl
     have hcz25_2 : w6.cell? ⟨gb129, 2, none⟩ = some (.int .u32 a1_2) := (blk_cell BK129.out 2).trans rfl
     have hcz25_3 : w6.cell? ⟨gb129, 3, none⟩ = some (.int .i64 a1_3) := (blk_cell BK129.out 3).trans rfl
     have hcz25_4 : w6.cell? ⟨gb129, 4, none⟩ = some (.slice A1_4 l1_4.length c1_4) := (blk_cell BK129.out 4).trans rfl
     have hcz25_5 : w6.cell? ⟨gb129, 5, none⟩ = some (.slice A1_5 l1_5.length c1_5) := (blk_cell BK129.out 5).trans rfl
     have hcz25_6 : w6.cell? ⟨gb129, 6, none⟩ = some (.int .u32 a1_6) := (blk_cell BK129.out 6).trans rfl
     have hcz25_7 : w6.cell? ⟨gb129, 7, none⟩ = some (.string a1_7) := (blk_cell BK129.out 7).trans rfl
     have hfz25_0 := blk_frozen BK129.out 0
     have hfz25_1 := blk_frozen BK129.out 1
     have hfz25_2 := blk_frozen BK129.out 2
     have hfz25_3 := blk_frozen BK129.out 3
     have hfz25_4 := blk_frozen BK129.out 4
     have hfz25_5 := blk_frozen BK129.out 5
     have hfz25_6 := blk_frozen BK129.out 6
     have hfz25_7 := blk_frozen BK129.out 7
     go_wp2
     repeat (go_quiet (fail); try go_wp2)
     go_meet
     case rel => exact ⟨_, (true), (by first | rfl | (simp; done) | (simp [*]; done)), H', ⟨by first | omega | exact Nat.le_refl _⟩, ⟨by (with_reducible repeat (first | refine blk_drewN ?_ _ | refine blk_drew ?_ | refine blk_alloc ?_ _)); exact BK128.out⟩, ⟨by (with_reducible repeat (first | refine blk_drewN ?_ _ | refine blk_drew ?_ | refine blk_alloc ?_ _)); exact BK129.out⟩, ⟨by repeat (first | (with_reducible first | exact HB.out | apply below_alloc | apply pw_below_drewN | apply below_drew1 | refine below_set ?_ GE128.out | refine below_set ?_ GE129.out) | exact HB.out)⟩⟩
  ·rw [if_neg c10] at H
   have c10b0 : (a0_0 == a1_0) = false := beq_eq_false_iff_ne.mpr c10
   have c10b1 : (a0_0 != a1_0) = true := bne_iff_ne.mpr c10
   (first | rw [c10b0] | (simp only [i64_w, i32_w]; rw [c10b0]) | skip)
   have H' := Aside0.mk H
   clear H
   have hnb26 := NB128_129.out
   have hnc26 := NB129_128.out
   have hcz27_0 : w6.cell? ⟨gb128, 0, none⟩ = some (.int .i64 a0_0) := (blk_cell BK128.out 0).trans rfl
   have hcz27_1 : w6.cell? ⟨gb128, 1, none⟩ = some (.int .u32 a0_1) := (blk_cell BK128.out 1).trans rfl
   have hcz27_2 : w6.cell? ⟨gb128, 2, none⟩ = some (.int .u32 a0_2) := (blk_cell BK128.out 2).trans rfl
   have hcz27_3 : w6.cell? ⟨gb128, 3, none⟩ = some (.int .i64 a0_3) := (blk_cell BK128.out 3).trans rfl
   have hcz27_4 : w6.cell? ⟨gb128, 4, none⟩ = some (.slice A0_4 l0_4.length c0_4) := (blk_cell BK128.out 4).trans rfl
   have hcz27_5 : w6.cell? ⟨gb128, 5, none⟩ = some (.slice A0_5 l0_5.length c0_5) := (blk_cell BK128.out 5).trans rfl
   have hcz27_6 : w6.cell? ⟨gb128, 6, none⟩ = some (.int .u32 a0_6) := (blk_cell BK128.out 6).trans rfl
   have hcz27_7 : w6.cell? ⟨gb128, 7, none⟩ = some (.string a0_7) := (blk_cell BK128.out 7).trans rfl
   have hfz27_0 := blk_frozen BK128.out 0
   have hfz27_1 := blk_frozen BK128.out 1
   have hfz27_2 := blk_frozen BK128.out 2
   have hfz27_3 := blk_frozen BK128.out 3
   have hfz27_4 := blk_frozen BK128.out 4
   have hfz27_5 := blk_frozen BK128.out 5
   have hfz27_6 := blk_frozen BK128.out 6
   have hfz27_7 := blk_frozen BK128.out 7
   have hcz28_0 : w6.cell? ⟨gb129, 0, none⟩ = some (.int .i64 a1_0) := (blk_cell BK129.out 0).trans rfl
   have hcz28_1 : w6.cell? ⟨gb129, 1, none⟩ = some (.int .u32 a1_1) := (blk_cell BK129.out 1).trans rfl
   have hcz28_2 : w6.cell? ⟨gb129, 2, none⟩ = some (.int .u32 a1_2) := (blk_cell BK129.out 2).trans rfl
   have hcz28_3 : w6.cell? ⟨gb129, 3, none⟩ = some (.int .i64 a1_3) := (blk_cell BK129.out 3).trans rfl
   have hcz28_4 : w6.cell? ⟨gb129, 4, none⟩ = some (.slice A1_4 l1_4.length c1_4) := (blk_cell BK129.out 4).trans rfl
   have hcz28_5 : w6.cell? ⟨gb129, 5, none⟩ = some (.slice A1_5 l1_5.length c1_5) := (blk_cell BK129.out 5).trans rfl
   have hcz28_6 : w6.cell? ⟨gb129, 6, none⟩ = some (.int .u32 a1_6) := (blk_cell BK129.out 6).trans rfl
   have hcz28_7 : w6.cell? ⟨gb129, 7, none⟩ = some (.string a1_7) := (blk_cell BK129.out 7).trans rfl
   have hfz28_0 := blk_frozen BK129.out 0
   have hfz28_1 := blk_frozen BK129.out 1
   have hfz28_2 := blk_frozen BK129.out 2
   have hfz28_3 := blk_frozen BK129.out 3
   have hfz28_4 := blk_frozen BK129.out 4
   have hfz28_5 := blk_frozen BK129.out 5
   have hfz28_6 := blk_frozen BK129.out 6
   have hfz28_7 := blk_frozen BK129.out 7
   go_wp2
   repeat (go_quiet (fail); try go_wp2)
   go_meet
   case rel => exact ⟨_, (true), (by first | rfl | (simp; done) | (simp [*]; done)), H', ⟨by first | omega | exact Nat.le_refl _⟩, ⟨by (with_reducible repeat (first | refine blk_drewN ?_ _ | refine blk_drew ?_ | refine blk_alloc ?_ _)); exact BK128.out⟩, ⟨by (with_reducible repeat (first | refine blk_drewN ?_ _ | refine blk_drew ?_ | refine blk_alloc ?_ _)); exact BK129.out⟩, ⟨by repeat (first | (with_reducible first | exact HB.out | apply below_alloc | apply pw_below_drewN | apply below_drew1 | refine below_set ?_ GE128.out | refine below_set ?_ GE129.out) | exact HB.out)⟩⟩
 case rest =>
  clear HC4
  try clear c1
  try clear c2
  try clear p2
  try clear c7
  try clear c10
  try clear c10b0
  try clear c10b1
  try clear c11
  try clear c11b0
  try clear c12
  try clear c15
  try clear c16
  try clear c16b0
  try clear c17
  try clear c20
  try clear c23
  try clear c26
  try clear hcz13_0
  try clear hcz13_1
  try clear hcz13_2
  try clear hcz13_3
  try clear hcz13_4
  try clear hcz13_5
  try clear hcz13_6
  try clear hcz13_7
  try clear hcz14_0
  try clear hcz14_1
  try clear hcz14_2
  try clear hcz14_3
  try clear hcz14_4
  try clear hcz14_5
  try clear hcz14_6
  try clear hcz14_7
  try clear hcz18_0
  try clear hcz18_1
  try clear hcz18_2
  try clear hcz18_3
  try clear hcz18_4
  try clear hcz18_5
  try clear hcz18_6
  try clear hcz18_7
  try clear hcz19_0
  try clear hcz19_1
  try clear hcz19_2
  try clear hcz19_3
  try clear hcz19_4
  try clear hcz19_5
  try clear hcz19_6
  try clear hcz19_7
  try clear hcz21_0
  try clear hcz21_1
  try clear hcz21_2
  try clear hcz21_3
  try clear hcz21_4
  try clear hcz21_5
  try clear hcz21_6
  try clear hcz21_7
  try clear hcz22_0
  try clear hcz22_1
  try clear hcz22_2
  try clear hcz22_3
  try clear hcz22_4
  try clear hcz22_5
  try clear hcz22_6
  try clear hcz22_7
  try clear hcz24_0
  try clear hcz24_1
  try clear hcz24_2
  try clear hcz24_3
  try clear hcz24_4
  try clear hcz24_5
  try clear hcz24_6
  try clear hcz24_7
  try clear hcz25_0
  try clear hcz25_1
  try clear hcz25_2
  try clear hcz25_3
  try clear hcz25_4
  try clear hcz25_5
  try clear hcz25_6
  try clear hcz25_7
  try clear hcz27_0
  try clear hcz27_1
  try clear hcz27_2
  try clear hcz27_3
  try clear hcz27_4
  try clear hcz27_5
  try clear hcz27_6
  try clear hcz27_7
  try clear hcz28_0
  try clear hcz28_1
  try clear hcz28_2
  try clear hcz28_3
  try clear hcz28_4
  try clear hcz28_5
  try clear hcz28_6
  try clear hcz28_7
  try clear hcz8_0
  try clear hcz8_1
  try clear hcz8_2
  try clear hcz8_3
  try clear hcz8_4
  try clear hcz8_5
  try clear hcz8_6
  try clear hcz8_7
  try clear hcz9_0
  try clear hcz9_1
  try clear hcz9_2
  try clear hcz9_3
  try clear hcz9_4
  try clear hcz9_5
  try clear hcz9_6
  try clear hcz9_7
  try clear hfz13_0
  try clear hfz13_1
  try clear hfz13_2
  try clear hfz13_3
  try clear hfz13_4
  try clear hfz13_5
  try clear hfz13_6
  try clear hfz13_7
  try clear hfz14_0
  try clear hfz14_1
  try clear hfz14_2
  try clear hfz14_3
  try clear hfz14_4
  try clear hfz14_5
  try clear hfz14_6
  try clear hfz14_7
  try clear hfz18_0
  try clear hfz18_1
  try clear hfz18_2
  try clear hfz18_3
  try clear hfz18_4
  try clear hfz18_5
  try clear hfz18_6
  try clear hfz18_7
  try clear hfz19_0
  try clear hfz19_1
  try clear hfz19_2
  try clear hfz19_3
  try clear hfz19_4
  try clear hfz19_5
  try clear hfz19_6
  try clear hfz19_7
  try clear hfz21_0
  try clear hfz21_1
  try clear hfz21_2
  try clear hfz21_3
  try clear hfz21_4
  try clear hfz21_5
  try clear hfz21_6
  try clear hfz21_7
  try clear hfz22_0
  try clear hfz22_1
  try clear hfz22_2
  try clear hfz22_3
  try clear hfz22_4
  try clear hfz22_5
  try clear hfz22_6
  try clear hfz22_7
  try clear hfz24_0
  try clear hfz24_1
  try clear hfz24_2
  try clear hfz24_3
  try clear hfz24_4
  try clear hfz24_5
  try clear hfz24_6
  try clear hfz24_7
  try clear hfz25_0
  try clear hfz25_1
  try clear hfz25_2
  try clear hfz25_3
  try clear hfz25_4
  try clear hfz25_5
  try clear hfz25_6
  try clear hfz25_7
  try clear hfz27_0
  try clear hfz27_1
  try clear hfz27_2
  try clear hfz27_3
  try clear hfz27_4
  try clear hfz27_5
  try clear hfz27_6
  try clear hfz27_7
  try clear hfz28_0
  try clear hfz28_1
  try clear hfz28_2
  try clear hfz28_3
  try clear hfz28_4
  try clear hfz28_5
  try clear hfz28_6
  try clear hfz28_7
  try clear hfz8_0
  try clear hfz8_1
  try clear hfz8_2
  try clear hfz8_3
  try clear hfz8_4
  try clear hfz8_5
  try clear hfz8_6
  try clear hfz8_7
  try clear hfz9_0
  try clear hfz9_1
  try clear hfz9_2
  try clear hfz9_3
  try clear hfz9_4
  try clear hfz9_5
  try clear hfz9_6
  try clear hfz9_7
  obtain ⟨kq, x43_3, rfl, HA, HJ3, BK128, BK129, HB⟩ := hcut
  cases kq with
  | zero => exact absurd HA.out (by simp [sphragisref10_Same.j0])
  | succ kj3 =>
   have H := HA.out
   clear HA
   simp only [sphragisref10_Same.j0] at H
   by_cases c29 : x43_3 = true
   ·subst c29
    have H1 : (some false) = some r := by rw [if_pos rfl] at H; exact H
    clear H
    have H := H1
    clear H1
    obtain rfl := Option.some.inj H
    go_wp2
    repeat (go_quiet (fail); try go_wp2)
    go_ret
    exact ⟨by first | rfl | (simp [errW_none, errW_some] <;> rfl) | (simp [*, errW_none, errW_some] <;> rfl), by repeat (first | (with_reducible first | exact HB.out | apply below_alloc | apply pw_below_drewN | apply below_drew1 | refine below_set ?_ GE128.out | refine below_set ?_ GE129.out) | exact HB.out)⟩
   ·replace c29 := Bool.eq_false_iff.mpr c29
    subst c29
    have H1 : (sphragisref10_Same.l0 kj3 0 a0_0 a0_1 a0_2 a0_3 l0_4 l0_5 a0_6 a0_7 a1_0 a1_1 a1_2 a1_3 l1_4 l1_5 a1_6 a1_7) = some r := by rw [if_neg (show ¬ (false = true) by decide)] at H; exact H
    clear H
    have H := H1
    clear H1
    have H' := Aside0.mk H
    clear H
    go_wp2
    repeat (go_quiet (fail); try go_wp2)
    go_loopg [6] kj3 (fun kq v6 w' => ∃ (x6_2 : Int), v6 = .int .i64 x6_2 ∧ Aside0 (sphragisref10_Same.l0 kq x6_2 a0_0 a0_1 a0_2 a0_3 l0_4 l0_5 a0_6 a0_7 a1_0 a1_1 a1_2 a1_3 l1_4 l1_5 a1_6 a1_7 = some r) ∧ Aside0 (kq ≤ kj3) ∧ Aside0 (w'.heap[gb128]? = some (.cells #[.int .i64 a0_0, .int .u32 a0_1, .int .u32 a0_2, .int .i64 a0_3, (.slice A0_4 l0_4.length c0_4), (.slice A0_5 l0_5.length c0_5), .int .u32 a0_6, .string a0_7] 30 (0, 0))) ∧ Aside0 (w'.heap[gb129]? = some (.cells #[.int .i64 a1_0, .int .u32 a1_1, .int .u32 a1_2, .int .i64 a1_3, (.slice A1_4 l1_4.length c1_4), (.slice A1_5 l1_5.length c1_5), .int .u32 a1_6, .string a1_7] 30 (0, 0))) ∧ Aside0 (Below w.heap.size w w'))
    case atStart => exact ⟨(0), (by first | rfl | (simp; done) | (simp [*]; done)), H', ⟨Nat.le_refl _⟩, ⟨by (with_reducible repeat (first | refine blk_drewN ?_ _ | refine blk_drew ?_ | refine blk_alloc ?_ _)); exact BK128.out⟩, ⟨by (with_reducible repeat (first | refine blk_drewN ?_ _ | refine blk_drew ?_ | refine blk_alloc ?_ _)); exact BK129.out⟩, ⟨by repeat (first | (with_reducible first | exact HB.out | apply below_alloc | apply pw_below_drewN | apply below_drew1 | refine below_set ?_ GE128.out | refine below_set ?_ GE129.out) | exact HB.out)⟩⟩
    case round =>
     clear H'
     try clear c1
     try clear c2
     try clear p2
     try clear c7
     try clear c10
     try clear c10b0
     try clear c10b1
     try clear c11
     try clear c11b0
     try clear c12
     try clear c15
     try clear c16
     try clear c16b0
     try clear c17
     try clear c20
     try clear c23
     try clear c26
     try clear c29
     try clear hcz13_0
     try clear hcz13_1
     try clear hcz13_2
     try clear hcz13_3
     try clear hcz13_4
     try clear hcz13_5
     try clear hcz13_6
     try clear hcz13_7
     try clear hcz14_0
     try clear hcz14_1
     try clear hcz14_2
     try clear hcz14_3
     try clear hcz14_4
     try clear hcz14_5
     try clear hcz14_6
     try clear hcz14_7
     try clear hcz18_0
     try clear hcz18_1
     try clear hcz18_2
     try clear hcz18_3
     try clear hcz18_4
     try clear hcz18_5
     try clear hcz18_6
     try clear hcz18_7
     try clear hcz19_0
     try clear hcz19_1
     try clear hcz19_2
     try clear hcz19_3
     try clear hcz19_4
     try clear hcz19_5
     try clear hcz19_6
     try clear hcz19_7
     try clear hcz21_0
     try clear hcz21_1
     try clear hcz21_2
     try clear hcz21_3
     try clear hcz21_4
     try clear hcz21_5
     try clear hcz21_6
     try clear hcz21_7
     try clear hcz22_0
     try clear hcz22_1
     try clear hcz22_2
     try clear hcz22_3
     try clear hcz22_4
     try clear hcz22_5
     try clear hcz22_6
     try clear hcz22_7
     try clear hcz24_0
     try clear hcz24_1
     try clear hcz24_2
     try clear hcz24_3
     try clear hcz24_4
     try clear hcz24_5
     try clear hcz24_6
     try clear hcz24_7
     try clear hcz25_0
     try clear hcz25_1
     try clear hcz25_2
     try clear hcz25_3
     try clear hcz25_4
     try clear hcz25_5
     try clear hcz25_6
     try clear hcz25_7
     try clear hcz27_0
     try clear hcz27_1
     try clear hcz27_2
     try clear hcz27_3
     try clear hcz27_4
     try clear hcz27_5
     try clear hcz27_6
     try clear hcz27_7
     try clear hcz28_0
     try clear hcz28_1
     try clear hcz28_2
     try clear hcz28_3
     try clear hcz28_4
     try clear hcz28_5
     try clear hcz28_6
     try clear hcz28_7
     try clear hcz8_0
     try clear hcz8_1
     try clear hcz8_2
     try clear hcz8_3
     try clear hcz8_4
     try clear hcz8_5
     try clear hcz8_6
     try clear hcz8_7
     try clear hcz9_0
     try clear hcz9_1
     try clear hcz9_2
     try clear hcz9_3
     try clear hcz9_4
     try clear hcz9_5
     try clear hcz9_6
     try clear hcz9_7
     try clear hfz13_0
     try clear hfz13_1
     try clear hfz13_2
     try clear hfz13_3
     try clear hfz13_4
     try clear hfz13_5
     try clear hfz13_6
     try clear hfz13_7
     try clear hfz14_0
     try clear hfz14_1
     try clear hfz14_2
     try clear hfz14_3
     try clear hfz14_4
     try clear hfz14_5
     try clear hfz14_6
     try clear hfz14_7
     try clear hfz18_0
     try clear hfz18_1
     try clear hfz18_2
     try clear hfz18_3
     try clear hfz18_4
     try clear hfz18_5
     try clear hfz18_6
     try clear hfz18_7
     try clear hfz19_0
     try clear hfz19_1
     try clear hfz19_2
     try clear hfz19_3
     try clear hfz19_4
     try clear hfz19_5
     try clear hfz19_6
     try clear hfz19_7
     try clear hfz21_0
     try clear hfz21_1
     try clear hfz21_2
     try clear hfz21_3
     try clear hfz21_4
     try clear hfz21_5
     try clear hfz21_6
     try clear hfz21_7
     try clear hfz22_0
     try clear hfz22_1
     try clear hfz22_2
     try clear hfz22_3
     try clear hfz22_4
     try clear hfz22_5
     try clear hfz22_6
     try clear hfz22_7
     try clear hfz24_0
     try clear hfz24_1
     try clear hfz24_2
     try clear hfz24_3
     try clear hfz24_4
     try clear hfz24_5
     try clear hfz24_6
     try clear hfz24_7
     try clear hfz25_0
     try clear hfz25_1
     try clear hfz25_2
     try clear hfz25_3
     try clear hfz25_4
     try clear hfz25_5
     try clear hfz25_6
     try clear hfz25_7
     try clear hfz27_0
     try clear hfz27_1
     try clear hfz27_2
     try clear hfz27_3
     try clear hfz27_4
     try clear hfz27_5
     try clear hfz27_6
     try clear hfz27_7
     try clear hfz28_0
     try clear hfz28_1
     try clear hfz28_2
     try clear hfz28_3
     try clear hfz28_4
     try clear hfz28_5
     try clear hfz28_6
     try clear hfz28_7
     try clear hfz8_0
     try clear hfz8_1
     try clear hfz8_2
     try clear hfz8_3
     try clear hfz8_4
     try clear hfz8_5
     try clear hfz8_6
     try clear hfz8_7
     try clear hfz9_0
     try clear hfz9_1
     try clear hfz9_2
     try clear hfz9_3
     try clear hfz9_4
     try clear hfz9_5
     try clear hfz9_6
     try clear hfz9_7
     try clear p2
     obtain ⟨x6_2, rfl, HA, HK2, BK128, BK129, HB⟩ := hrel
     cases gk with
     | zero => exact absurd HA.out (by simp [sphragisref10_Same.l0])
     | succ k2 =>
      have H := HA.out
      clear HA
      simp only [sphragisref10_Same.l0] at H
      by_cases c30 : x6_2 < (l0_5.length : Int)
      ·rw [if_pos c30] at H
       have c30b0 : decide (x6_2 < (l0_5.length : Int)) = true := decide_eq_true c30
       clear c30
       by_cases c31 : 0 ≤ x6_2
       ·rw [if_pos c31] at H
        have c31b0 : decide (0 ≤ x6_2) = true := decide_eq_true c31
        clear c31
        by_cases c32 : x6_2 < (l1_5.length : Int)
        ·rw [if_pos c32] at H
         have c32b0 : decide (x6_2 < (l1_5.length : Int)) = true := decide_eq_true c32
         clear c32
         by_cases c33 : (!(((rd_T28 l0_5 x6_2).f0) == ((rd_T28 l1_5 x6_2).f0)) || (!((((rd_T28 l0_5 x6_2).f1).toList) == (((rd_T28 l1_5 x6_2).f1).toList)))) = true
         ·rw [if_pos c33] at H
          have c33b0 : (!(((rd_T28 l0_5 x6_2).f0) == ((rd_T28 l1_5 x6_2).f0)) || (!((((rd_T28 l0_5 x6_2).f1).toList) == (((rd_T28 l1_5 x6_2).f1).toList)))) = true := c33
          clear c33
          obtain rfl := Option.some.inj H
          have hnb34 := NB128_129.out
          have hnc34 := NB129_128.out
          have hcz35_0 : wr.cell? ⟨gb128, 0, none⟩ = some (.int .i64 a0_0) := (blk_cell BK128.out 0).trans rfl
          have hcz35_1 : wr.cell? ⟨gb128, 1, none⟩ = some (.int .u32 a0_1) := (blk_cell BK128.out 1).trans rfl
          have hcz35_2 : wr.cell? ⟨gb128, 2, none⟩ = some (.int .u32 a0_2) := (blk_cell BK128.out 2).trans rfl
          have hcz35_3 : wr.cell? ⟨gb128, 3, none⟩ = some (.int .i64 a0_3) := (blk_cell BK128.out 3).trans rfl
          have hcz35_4 : wr.cell? ⟨gb128, 4, none⟩ = some (.slice A0_4 l0_4.length c0_4) := (blk_cell BK128.out 4).trans rfl
          have hcz35_5 : wr.cell? ⟨gb128, 5, none⟩ = some (.slice A0_5 l0_5.length c0_5) := (blk_cell BK128.out 5).trans rfl
          have hcz35_6 : wr.cell? ⟨gb128, 6, none⟩ = some (.int .u32 a0_6) := (blk_cell BK128.out 6).trans rfl
          have hcz35_7 : wr.cell? ⟨gb128, 7, none⟩ = some (.string a0_7) := (blk_cell BK128.out 7).trans rfl
          have hfz35_0 := blk_frozen BK128.out 0
          have hfz35_1 := blk_frozen BK128.out 1
          have hfz35_2 := blk_frozen BK128.out 2
          have hfz35_3 := blk_frozen BK128.out 3
          have hfz35_4 := blk_frozen BK128.out 4
          have hfz35_5 := blk_frozen BK128.out 5
          have hfz35_6 := blk_frozen BK128.out 6
          have hfz35_7 := blk_frozen BK128.out 7
          have p131 : 0 ≤ (x6_2 : Int) := of_decide_eq_true (by first | (with_reducible assumption) | assumption)
          have q131 : x6_2 < (l0_5.length : Int) := of_decide_eq_true (by first | (with_reducible assumption) | assumption)
          obtain ⟨ad131, e131, hx131_0, hx131_1⟩ := at_T28 HR0_5.out x6_2 p131 q131
          cases e131
          replace hx131_0 := (HB.out.cell (World.block_lt_of_cell? w _ hx131_0)).trans hx131_0
          replace hx131_1 := (HB.out.cell (World.block_lt_of_cell? w _ hx131_1)).trans hx131_1
          replace p131 := eq_true p131
          replace q131 := eq_true q131
          have hcz36_0 : wr.cell? ⟨gb129, 0, none⟩ = some (.int .i64 a1_0) := (blk_cell BK129.out 0).trans rfl
          have hcz36_1 : wr.cell? ⟨gb129, 1, none⟩ = some (.int .u32 a1_1) := (blk_cell BK129.out 1).trans rfl
          have hcz36_2 : wr.cell? ⟨gb129, 2, none⟩ = some (.int .u32 a1_2) := (blk_cell BK129.out 2).trans rfl
          have hcz36_3 : wr.cell? ⟨gb129, 3, none⟩ = some (.int .i64 a1_3) := (blk_cell BK129.out 3).trans rfl
          have hcz36_4 : wr.cell? ⟨gb129, 4, none⟩ = some (.slice A1_4 l1_4.length c1_4) := (blk_cell BK129.out 4).trans rfl
          have hcz36_5 : wr.cell? ⟨gb129, 5, none⟩ = some (.slice A1_5 l1_5.length c1_5) := (blk_cell BK129.out 5).trans rfl
          have hcz36_6 : wr.cell? ⟨gb129, 6, none⟩ = some (.int .u32 a1_6) := (blk_cell BK129.out 6).trans rfl
          have hcz36_7 : wr.cell? ⟨gb129, 7, none⟩ = some (.string a1_7) := (blk_cell BK129.out 7).trans rfl
          have hfz36_0 := blk_frozen BK129.out 0
          have hfz36_1 := blk_frozen BK129.out 1
          have hfz36_2 := blk_frozen BK129.out 2
          have hfz36_3 := blk_frozen BK129.out 3
          have hfz36_4 := blk_frozen BK129.out 4
          have hfz36_5 := blk_frozen BK129.out 5
          have hfz36_6 := blk_frozen BK129.out 6
          have hfz36_7 := blk_frozen BK129.out 7
          have p132 : 0 ≤ (x6_2 : Int) := of_decide_eq_true (by first | (with_reducible assumption) | assumption)
          have q132 : x6_2 < (l1_5.length : Int) := of_decide_eq_true (by first | (with_reducible assumption) | assumption)
          obtain ⟨ad132, e132, hx132_0, hx132_1⟩ := at_T28 HR1_5.out x6_2 p132 q132
          cases e132
          replace hx132_0 := (HB.out.cell (World.block_lt_of_cell? w _ hx132_0)).trans hx132_0
          replace hx132_1 := (HB.out.cell (World.block_lt_of_cell? w _ hx132_1)).trans hx132_1
          replace p132 := eq_true p132
          replace q132 := eq_true q132
          go_wp2
          repeat (go_quiet (fail); try go_wp2)
          go_ret
          exact ⟨by first | rfl | (simp [errW_none, errW_some] <;> rfl) | (simp [*, errW_none, errW_some] <;> rfl), by repeat (first | (with_reducible first | exact HB.out | apply below_alloc | apply pw_below_drewN | apply below_drew1 | refine below_set ?_ GE128.out | refine below_set ?_ GE129.out) | exact HB.out)⟩
         ·rw [if_neg c33] at H
          have c33b0 : (!(((rd_T28 l0_5 x6_2).f0) == ((rd_T28 l1_5 x6_2).f0)) || (!((((rd_T28 l0_5 x6_2).f1).toList) == (((rd_T28 l1_5 x6_2).f1).toList)))) = false := by simpa using c33
          clear c33
          have H' := Aside0.mk H
          clear H
          have hnb37 := NB128_129.out
          have hnc37 := NB129_128.out
          have hcz38_0 : wr.cell? ⟨gb128, 0, none⟩ = some (.int .i64 a0_0) := (blk_cell BK128.out 0).trans rfl
          have hcz38_1 : wr.cell? ⟨gb128, 1, none⟩ = some (.int .u32 a0_1) := (blk_cell BK128.out 1).trans rfl
          have hcz38_2 : wr.cell? ⟨gb128, 2, none⟩ = some (.int .u32 a0_2) := (blk_cell BK128.out 2).trans rfl
          have hcz38_3 : wr.cell? ⟨gb128, 3, none⟩ = some (.int .i64 a0_3) := (blk_cell BK128.out 3).trans rfl
          have hcz38_4 : wr.cell? ⟨gb128, 4, none⟩ = some (.slice A0_4 l0_4.length c0_4) := (blk_cell BK128.out 4).trans rfl
          have hcz38_5 : wr.cell? ⟨gb128, 5, none⟩ = some (.slice A0_5 l0_5.length c0_5) := (blk_cell BK128.out 5).trans rfl
          have hcz38_6 : wr.cell? ⟨gb128, 6, none⟩ = some (.int .u32 a0_6) := (blk_cell BK128.out 6).trans rfl
          have hcz38_7 : wr.cell? ⟨gb128, 7, none⟩ = some (.string a0_7) := (blk_cell BK128.out 7).trans rfl
          have hfz38_0 := blk_frozen BK128.out 0
          have hfz38_1 := blk_frozen BK128.out 1
          have hfz38_2 := blk_frozen BK128.out 2
          have hfz38_3 := blk_frozen BK128.out 3
          have hfz38_4 := blk_frozen BK128.out 4
          have hfz38_5 := blk_frozen BK128.out 5
          have hfz38_6 := blk_frozen BK128.out 6
          have hfz38_7 := blk_frozen BK128.out 7
          have p131 : 0 ≤ (x6_2 : Int) := of_decide_eq_true (by first | (with_reducible assumption) | assumption)
          have q131 : x6_2 < (l0_5.length : Int) := of_decide_eq_true (by first | (with_reducible assumption) | assumption)
          obtain ⟨ad131, e131, hx131_0, hx131_1⟩ := at_T28 HR0_5.out x6_2 p131 q131
          cases e131
          replace hx131_0 := (HB.out.cell (World.block_lt_of_cell? w _ hx131_0)).trans hx131_0
          replace hx131_1 := (HB.out.cell (World.block_lt_of_cell? w _ hx131_1)).trans hx131_1
          replace p131 := eq_true p131
          replace q131 := eq_true q131
          have hcz39_0 : wr.cell? ⟨gb129, 0, none⟩ = some (.int .i64 a1_0) := (blk_cell BK129.out 0).trans rfl
          have hcz39_1 : wr.cell? ⟨gb129, 1, none⟩ = some (.int .u32 a1_1) := (blk_cell BK129.out 1).trans rfl
          have hcz39_2 : wr.cell? ⟨gb129, 2, none⟩ = some (.int .u32 a1_2) := (blk_cell BK129.out 2).trans rfl
          have hcz39_3 : wr.cell? ⟨gb129, 3, none⟩ = some (.int .i64 a1_3) := (blk_cell BK129.out 3).trans rfl
          have hcz39_4 : wr.cell? ⟨gb129, 4, none⟩ = some (.slice A1_4 l1_4.length c1_4) := (blk_cell BK129.out 4).trans rfl
          have hcz39_5 : wr.cell? ⟨gb129, 5, none⟩ = some (.slice A1_5 l1_5.length c1_5) := (blk_cell BK129.out 5).trans rfl
          have hcz39_6 : wr.cell? ⟨gb129, 6, none⟩ = some (.int .u32 a1_6) := (blk_cell BK129.out 6).trans rfl
          have hcz39_7 : wr.cell? ⟨gb129, 7, none⟩ = some (.string a1_7) := (blk_cell BK129.out 7).trans rfl
          have hfz39_0 := blk_frozen BK129.out 0
          have hfz39_1 := blk_frozen BK129.out 1
          have hfz39_2 := blk_frozen BK129.out 2
          have hfz39_3 := blk_frozen BK129.out 3
          have hfz39_4 := blk_frozen BK129.out 4
          have hfz39_5 := blk_frozen BK129.out 5
          have hfz39_6 := blk_frozen BK129.out 6
          have hfz39_7 := blk_frozen BK129.out 7
          have p132 : 0 ≤ (x6_2 : Int) := of_decide_eq_true (by first | (with_reducible assumption) | assumption)
          have q132 : x6_2 < (l1_5.length : Int) := of_decide_eq_true (by first | (with_reducible assumption) | assumption)
          obtain ⟨ad132, e132, hx132_0, hx132_1⟩ := at_T28 HR1_5.out x6_2 p132 q132
          cases e132
          replace hx132_0 := (HB.out.cell (World.block_lt_of_cell? w _ hx132_0)).trans hx132_0
          replace hx132_1 := (HB.out.cell (World.block_lt_of_cell? w _ hx132_1)).trans hx132_1
          replace p132 := eq_true p132
          replace q132 := eq_true q132
          go_wp2
          repeat (go_quiet (fail); try go_wp2)
          go_roundg k2
          case measure => have := HJ3.out; have := HK2.out; omega
          case rel => exact ⟨(wrap64 (x6_2 + 1)), (by first | rfl | (simp; done) | (simp [*]; done)), H', ⟨by have := HJ3.out; have := HK2.out; omega⟩, ⟨by (with_reducible repeat (first | refine blk_drewN ?_ _ | refine blk_drew ?_ | refine blk_alloc ?_ _)); exact BK128.out⟩, ⟨by (with_reducible repeat (first | refine blk_drewN ?_ _ | refine blk_drew ?_ | refine blk_alloc ?_ _)); exact BK129.out⟩, ⟨by repeat (first | (with_reducible first | exact HB.out | apply below_alloc | apply pw_below_drewN | apply below_drew1 | refine below_set ?_ GE128.out | refine below_set ?_ GE129.out) | exact HB.out)⟩⟩
        ·rw [if_neg c32] at H
         exact absurd H (by simp)
       ·rw [if_neg c31] at H
        exact absurd H (by simp)
      ·rw [if_neg c30] at H
       have c30b0 : decide (x6_2 < (l0_5.length : Int)) = false := decide_eq_false c30
       clear c30
       obtain rfl := Option.some.inj H
       have hnb40 := NB128_129.out
       have hnc40 := NB129_128.out
       have hcz41_0 : wr.cell? ⟨gb128, 0, none⟩ = some (.int .i64 a0_0) := (blk_cell BK128.out 0).trans rfl
       have hcz41_1 : wr.cell? ⟨gb128, 1, none⟩ = some (.int .u32 a0_1) := (blk_cell BK128.out 1).trans rfl
       have hcz41_2 : wr.cell? ⟨gb128, 2, none⟩ = some (.int .u32 a0_2) := (blk_cell BK128.out 2).trans rfl
       have hcz41_3 : wr.cell? ⟨gb128, 3, none⟩ = some (.int .i64 a0_3) := (blk_cell BK128.out 3).trans rfl
       have hcz41_4 : wr.cell? ⟨gb128, 4, none⟩ = some (.slice A0_4 l0_4.length c0_4) := (blk_cell BK128.out 4).trans rfl
       have hcz41_5 : wr.cell? ⟨gb128, 5, none⟩ = some (.slice A0_5 l0_5.length c0_5) := (blk_cell BK128.out 5).trans rfl
       have hcz41_6 : wr.cell? ⟨gb128, 6, none⟩ = some (.int .u32 a0_6) := (blk_cell BK128.out 6).trans rfl
       have hcz41_7 : wr.cell? ⟨gb128, 7, none⟩ = some (.string a0_7) := (blk_cell BK128.out 7).trans rfl
       have hfz41_0 := blk_frozen BK128.out 0
       have hfz41_1 := blk_frozen BK128.out 1
       have hfz41_2 := blk_frozen BK128.out 2
       have hfz41_3 := blk_frozen BK128.out 3
       have hfz41_4 := blk_frozen BK128.out 4
       have hfz41_5 := blk_frozen BK128.out 5
       have hfz41_6 := blk_frozen BK128.out 6
       have hfz41_7 := blk_frozen BK128.out 7
       go_wp2
       repeat (go_quiet (fail); try go_wp2)
       go_ret
       exact ⟨by first | rfl | (simp [errW_none, errW_some] <;> rfl) | (simp [*, errW_none, errW_some] <;> rfl), by repeat (first | (with_reducible first | exact HB.out | apply below_alloc | apply pw_below_drewN | apply below_drew1 | refine below_set ?_ GE128.out | refine below_set ?_ GE129.out) | exact HB.out)⟩

end Go.Proofs.Ytmeaiancebgkoaa.H
