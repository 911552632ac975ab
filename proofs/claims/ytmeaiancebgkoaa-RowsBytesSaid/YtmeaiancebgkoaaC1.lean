/- cut: the walk. -/
import Derived.Test.YtmeaiancebgkoaaPG
import Derived.Test.YtmeaiancebgkoaaRD
namespace Go.Proofs.Ytmeaiancebgkoaa.H
open Go.RowKit Go.Shelf Go.Proofs.YtmeaiancebgkoaaW.PrintWords Go.Proofs.YtmeaiancebgkoaaW.PrintLast Go.Proofs.YtmeaiancebgkoaaW.PrintMore
attribute [local go_sem] Oper.semAt_some max2_int min2_int max_two min_two
set_option linter.unusedVariables false
set_option linter.unusedSimpArgs false
set_option maxRecDepth 100000

set_option maxHeartbeats 4000000 in
theorem cut_calls (k x y lv : Int) (A4 : Option Addr) (n4 c4 : Nat) (A5 : Option Addr) (n5 c5 : Nat) (np : Int) (nt : ByteArray) (hn4 : n4 ≤ c4) (hn5 : n5 ≤ c5) (w : World) :
    Calls Try.prog 14 #[.agg #[.int .i64 k, .int .u32 x, .int .u32 y, .int .i64 lv, .slice A4 n4 c4, .slice A5 n5 c5, .int .u32 np, .string nt]] w fun e w' => e = .returned (.agg #[.int .i64 k, .int .u32 x, .int .u32 y, .int .i64 lv, .slice A4 (min n4 10) c4, .slice A5 (min n5 10) c5, .int .u32 np, .string nt]) ∧ Below w.heap.size w w' := by
  obtain ⟨N, hN⟩ : ∃ N, w.heap.size = N := ⟨_, rfl⟩
  obtain ⟨m4, hm4⟩ : ∃ m, min n4 10 = m := ⟨_, rfl⟩
  obtain ⟨m5, hm5⟩ : ∃ m, min n5 10 = m := ⟨_, rfl⟩
  have hj4 : (if 10 < (n4 : Int) then 10 else (n4 : Int)) = (m4 : Int) := by split <;> omega
  have hj5 : (if 10 < (n5 : Int) then 10 else (n5 : Int)) = (m5 : Int) := by split <;> omega
  have b4 : (m4 : Int) ≤ (n4 : Int) := by omega
  have b5 : (m5 : Int) ≤ (n5 : Int) := by omega
  have z4 : (0 : Int) ≤ (m4 : Int) := by omega
  have z5 : (0 : Int) ≤ (m5 : Int) := by omega
  obtain ⟨i4, hi4, _, hsz4, _⟩ := info_parts infoRow
  obtain ⟨i5, hi5, _, hsz5, _⟩ := info_parts infoRef
  have hcut4 := cut_to (P := Try.prog) 25 47 .i64 Try.underlying25 hi4 A4 n4 c4 (m4 : Int) z4 b4 hn4
  have hcut5 := cut_to (P := Try.prog) 26 28 .i64 Try.underlying26 hi5 A5 n5 c5 (m5 : Int) z5 b5 hn5
  rw [Int.toNat_natCast] at hcut4
  rw [Int.toNat_natCast] at hcut5
  rw [hm4, hm5, hN]
  clear hi4 hi5 hsz4 hsz5 hm4 hm5
  have hbel : Below N w ((w.alloc (.cells #[.int .i64 k, .int .u32 x, .int .u32 y, .int .i64 lv, .slice A4 n4 c4, .slice A5 n5 c5, .int .u32 np, .string nt] 30)).alloc (.cells #[.int .i64 0, .int .u32 0, .int .u32 0, .int .i64 0, .slice none 0 0, .slice none 0 0, .int .u32 0, .string ⟨#[]⟩] 30)) := ((Below.refl N w).alloc (by omega) _).alloc (by rw [World.size_alloc]; omega) _
  have hP : PBox ((w.alloc (.cells #[.int .i64 k, .int .u32 x, .int .u32 y, .int .i64 lv, .slice A4 n4 c4, .slice A5 n5 c5, .int .u32 np, .string nt] 30)).alloc (.cells #[.int .i64 0, .int .u32 0, .int .u32 0, .int .i64 0, .slice none 0 0, .slice none 0 0, .int .u32 0, .string ⟨#[]⟩] 30)) N k x y lv (.slice A4 n4 c4) (.slice A5 n5 c5) np nt := blk_alloc (by rw [← hN]; exact World.alloc_heap_new w _) _
  have hQ : PBox ((w.alloc (.cells #[.int .i64 k, .int .u32 x, .int .u32 y, .int .i64 lv, .slice A4 n4 c4, .slice A5 n5 c5, .int .u32 np, .string nt] 30)).alloc (.cells #[.int .i64 0, .int .u32 0, .int .u32 0, .int .i64 0, .slice none 0 0, .slice none 0 0, .int .u32 0, .string ⟨#[]⟩] 30)) (N + 1) 0 0 0 0 (.slice none 0 0) (.slice none 0 0) 0 ⟨#[]⟩ := by
    have h := World.alloc_heap_new (w.alloc (.cells #[.int .i64 k, .int .u32 x, .int .u32 y, .int .i64 lv, .slice A4 n4 c4, .slice A5 n5 c5, .int .u32 np, .string nt] 30)) (.cells #[.int .i64 0, .int .u32 0, .int .u32 0, .int .i64 0, .slice none 0 0, .slice none 0 0, .int .u32 0, .string ⟨#[]⟩] 30)
    rw [World.size_alloc, hN] at h
    exact h
  go_enter Try.func14, Try.ntmps14
  go_upto_region 1 with fail
  generalize (w.alloc (.cells #[.int .i64 k, .int .u32 x, .int .u32 y, .int .i64 lv, .slice A4 n4 c4, .slice A5 n5 c5, .int .u32 np, .string nt] 30)).alloc (.cells #[.int .i64 0, .int .u32 0, .int .u32 0, .int .i64 0, .slice none 0 0, .slice none 0 0, .int .u32 0, .string ⟨#[]⟩] 30) = W1 at *
  obtain ⟨e0, e1, e2, e3, e4, e5, e6, e7⟩ := hP.cells
  have ez := hP.frozen
  go_upto_region 2 with fail
  have hP2 := hP.set4 (.slice A4 m4 c4)
  have hQ2 : PBox (W1.setCell ⟨N, 4, none⟩ (.slice A4 m4 c4)) (N + 1) 0 0 0 0 (.slice none 0 0) (.slice none 0 0) 0 ⟨#[]⟩ := blk_far hQ (p := ⟨N, 4, none⟩) (by show N + 1 ≠ N; omega) _
  have hb2 : Below N w (W1.setCell ⟨N, 4, none⟩ (.slice A4 m4 c4)) := hbel.setCell (p := ⟨N, 4, none⟩) (Nat.le_refl _) _
  clear e0 e1 e2 e3 e4 e5 e6 e7 ez hP hQ hbel
  generalize W1.setCell ⟨N, 4, none⟩ (.slice A4 m4 c4) = W2 at *
  obtain ⟨e0, e1, e2, e3, e4, e5, e6, e7⟩ := hP2.cells
  have ez := hP2.frozen
  go_upto_region 3 with fail
  have hP3 := hP2.set5 (.slice A5 m5 c5)
  have hQ3 : PBox (W2.setCell ⟨N, 5, none⟩ (.slice A5 m5 c5)) (N + 1) 0 0 0 0 (.slice none 0 0) (.slice none 0 0) 0 ⟨#[]⟩ := blk_far hQ2 (p := ⟨N, 5, none⟩) (by show N + 1 ≠ N; omega) _
  have hb3 : Below N w (W2.setCell ⟨N, 5, none⟩ (.slice A5 m5 c5)) := hb2.setCell (p := ⟨N, 5, none⟩) (Nat.le_refl _) _
  clear e0 e1 e2 e3 e4 e5 e6 e7 ez hP2 hQ2 hb2
  generalize W2.setCell ⟨N, 5, none⟩ (.slice A5 m5 c5) = W3 at *
  obtain ⟨e0, e1, e2, e3, e4, e5, e6, e7⟩ := hP3.cells
  obtain ⟨q0, q1, q2, q3, q4, q5, q6, q7⟩ := hQ3.cells
  have ez := hQ3.frozen
  have HQ3 : Nat → Hid _ := fun _ => Lib.hid hQ3
  clear hP3 hQ3
  go_wp2
  refine bodyPost_ret (results_cell_row rfl _ _ (N + 1) 30 #[.int .i64 k, .int .u32 x, .int .u32 y, .int .i64 lv, .slice A4 m4 c4, .slice A5 m5 c5, .int .u32 np, .string nt] (0, 0) _ rfl (PBox.fill (HQ3 0).out k x y lv (.slice A4 m4 c4) (.slice A5 m5 c5) np nt) Try.underlying30 rfl (by kernel_rfl)) rfl ?_
  exact ⟨rfl, by rw [← hN]; exact below_fill (by rw [hN]; exact hb3) (by omega) _ _ _ _ _ _ _ _⟩
end Go.Proofs.Ytmeaiancebgkoaa.H
