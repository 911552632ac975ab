/- RowsBytes: the walk. Written by rows_g1.py. -/
import Derived.Test.YtmeaiancebgkoaaC1
import Derived.Test.YtmeaiancebgkoaaE1
import Derived.Test.YtmeaiancebgkoaaFE
namespace Go.Proofs.Ytmeaiancebgkoaa.H
open Go.RowKit Go.Shelf Go.Proofs.YtmeaiancebgkoaaW.PrintWords Go.Proofs.YtmeaiancebgkoaaW.PrintLast Go.Proofs.YtmeaiancebgkoaaW.PrintMore
attribute [local go_sem] Oper.semAt_some
set_option linter.unusedVariables false
set_option linter.unusedSimpArgs false
set_option maxRecDepth 100000

theorem EncR (p : Pg) (A4 A5 : Option Addr) (c4 c5 : Nat) (r : ByteArray) (e : Int) (h : encP p = (r, e)) (hp : pageIn p) (hr : p.rows.length ≤ 1000) (w : World) (h4 : Kd.C k47 w A4 p.rows.length p.rows) (hc4 : p.rows.length ≤ c4) (h5 : Kd.C k28 w A5 p.kids.length p.kids) (hc5 : p.kids.length ≤ c5) :
    Calls Try.prog 17 #[.agg #[.int .i64 p.k, .int .u32 p.x, .int .u32 p.y, .int .i64 p.lv, .slice A4 p.rows.length c4, .slice A5 p.kids.length c5, .int .u32 p.np, .string p.nt]] w fun e' w' => e' = .returned (.tuple #[.string r, .int .i64 e]) ∧ Below w.heap.size w w' :=
  sphragisref10_Encode.calls (p.rows.length + p.kids.length + 21) p.k p.x p.y p.lv A4 c4 p.rows A5 c5 p.kids p.np p.nt r e w h4 hc4 h5 hc5 (by rw [encR_f p hp _ hr (by omega) (by omega), h])

set_option maxHeartbeats 4000000 in
theorem RowsBytes_row (p : Pg) (A4 A5 : Option Addr) (n4 c4 n5 c5 : Nat) (w : World) (hp : pageIn p) (h4 : n4 ≤ c4) (hl4 : p.rows.length = min n4 10) (h5 : n5 ≤ c5) (hl5 : p.kids.length = min n5 10) (hC4 : Kd.C k47 w A4 p.rows.length p.rows) (hC5 : Kd.C k28 w A5 p.kids.length p.kids) :
    Calls Try.prog 4 #[.agg #[.int .i64 p.k, .int .u32 p.x, .int .u32 p.y, .int .i64 p.lv, .slice A4 n4 c4, .slice A5 n5 c5, .int .u32 p.np, .string p.nt]] w fun e w' => e = .returned (.bool true) ∧ Below w.heap.size w w' := by
  obtain ⟨N, hN⟩ : ∃ N, w.heap.size = N := ⟨_, rfl⟩
  obtain ⟨s, e, hse⟩ : ∃ s e, encP p = (s, e) := ⟨_, _, rfl⟩
  have hss : (s.toList == s.toList) = true := beq_self_eq_true _
  have hee : (e == e) = true := beq_self_eq_true _
  have Hse : Nat → Hid _ := fun _ => Lib.hid hse
  have HC4 : Nat → Hid _ := fun _ => Lib.hid hC4
  have HC5 : Nat → Hid _ := fun _ => Lib.hid hC5
  have Hl4 : Nat → Hid _ := fun _ => Lib.hid hl4
  have Hl5 : Nat → Hid _ := fun _ => Lib.hid hl5
  have hc4 : p.rows.length ≤ c4 := by omega
  have hc5 : p.kids.length ≤ c5 := by omega
  have hr10 : p.rows.length ≤ 1000 := by omega
  clear hse hC4 hC5 hl4 hl5
  have hb0 : Below N w (w.alloc (.cells #[.int .i64 p.k, .int .u32 p.x, .int .u32 p.y, .int .i64 p.lv, .slice A4 n4 c4, .slice A5 n5 c5, .int .u32 p.np, .string p.nt] 30)) := (Below.refl N w).alloc (by omega) _
  have hP0 : PBox (w.alloc (.cells #[.int .i64 p.k, .int .u32 p.x, .int .u32 p.y, .int .i64 p.lv, .slice A4 n4 c4, .slice A5 n5 c5, .int .u32 p.np, .string p.nt] 30)) N p.k p.x p.y p.lv (.slice A4 n4 c4) (.slice A5 n5 c5) p.np p.nt := by rw [← hN]; exact World.alloc_heap_new w _
  go_enter Try.func4, Try.ntmps4
  go_wp2_with fail
  generalize w.alloc (.cells #[.int .i64 p.k, .int .u32 p.x, .int .u32 p.y, .int .i64 p.lv, .slice A4 n4 c4, .slice A5 n5 c5, .int .u32 p.np, .string p.nt] 30) = W0 at *
  refine (shown_ok W0).mono ?_
  rintro r w1 ⟨rfl, hb1⟩
  have hP1 : PBox w1 N p.k p.x p.y p.lv (.slice A4 n4 c4) (.slice A5 n5 c5) p.np p.nt := (hb1.block N (blk_lt hP0)).trans hP0
  have hB1 : Below N w w1 := hb0.trans (hb1.mono (by have := hb0.size; omega))
  clear hb0 hb1 hP0
  obtain ⟨e0, e1, e2, e3, e4, e5, e6, e7⟩ := hP1.cells
  go_wp2_with fail
  refine (cut_calls p.k p.x p.y p.lv A4 n4 c4 A5 n5 c5 p.np p.nt h4 h5 w1).mono ?_
  rintro r w2 ⟨rfl, hb2⟩
  rw [← (Hl4 0).out, ← (Hl5 0).out]
  have hP2 : PBox w2 N p.k p.x p.y p.lv (.slice A4 n4 c4) (.slice A5 n5 c5) p.np p.nt := (hb2.block N (blk_lt hP1)).trans hP1
  have hB2 : Below N w w2 := hB1.trans (hb2.mono (by have := hB1.size; omega))
  clear hB1 hb2 hP1 e0 e1 e2 e3 e4 e5 e6 e7
  go_wp2_with fail
  refine (Enc p A4 A5 c4 c5 s e (Hse 0).out hp w2 (Kd.C_below (HC4 0).out (by rw [hN]; exact hB2)) hc4 (Kd.C_below (HC5 0).out (by rw [hN]; exact hB2)) hc5).mono ?_
  rintro r w3 ⟨rfl, hb3⟩
  have hP3 : PBox w3 N p.k p.x p.y p.lv (.slice A4 n4 c4) (.slice A5 n5 c5) p.np p.nt := (hb3.block N (blk_lt hP2)).trans hP2
  have hB3 : Below N w w3 := hB2.trans (hb3.mono (by have := hB2.size; omega))
  clear hB2 hb3 hP2
  obtain ⟨e0, e1, e2, e3, e4, e5, e6, e7⟩ := hP3.cells
  go_wp2_with fail
  refine (cut_calls p.k p.x p.y p.lv A4 n4 c4 A5 n5 c5 p.np p.nt h4 h5 w3).mono ?_
  rintro r w4 ⟨rfl, hb4⟩
  rw [← (Hl4 0).out, ← (Hl5 0).out]
  have hP4 : PBox w4 N p.k p.x p.y p.lv (.slice A4 n4 c4) (.slice A5 n5 c5) p.np p.nt := (hb4.block N (blk_lt hP3)).trans hP3
  have hB4 : Below N w w4 := hB3.trans (hb4.mono (by have := hB3.size; omega))
  clear hB3 hb4 hP3 e0 e1 e2 e3 e4 e5 e6 e7
  go_wp2_with fail
  refine (EncR p A4 A5 c4 c5 s e (Hse 0).out hp hr10 w4 (Kd.C_below (HC4 0).out (by rw [hN]; exact hB4)) hc4 (Kd.C_below (HC5 0).out (by rw [hN]; exact hB4)) hc5).mono ?_
  rintro r w5 ⟨rfl, hb5⟩
  have hP5 : PBox w5 N p.k p.x p.y p.lv (.slice A4 n4 c4) (.slice A5 n5 c5) p.np p.nt := (hb5.block N (blk_lt hP4)).trans hP4
  have hB5 : Below N w w5 := hB4.trans (hb5.mono (by have := hB4.size; omega))
  clear hB4 hb5 hP4
  clear hP5
  go_wp2
  go_ret
  exact ⟨by simp, by rw [hN]; exact hB5⟩
end Go.Proofs.Ytmeaiancebgkoaa.H
