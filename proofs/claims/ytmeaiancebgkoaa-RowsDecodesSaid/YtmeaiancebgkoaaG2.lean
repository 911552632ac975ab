/- RowsDecodes: the walk. Written by rows_g2.py. -/
import Derived.Test.YtmeaiancebgkoaaE1
import Derived.Test.YtmeaiancebgkoaaSM
import Derived.Test.YtmeaiancebgkoaaFS
namespace Go.Proofs.Ytmeaiancebgkoaa.H
open Go.RowKit Go.Shelf Go.Proofs.YtmeaiancebgkoaaW.PrintWords Go.Proofs.YtmeaiancebgkoaaW.PrintLast Go.Proofs.YtmeaiancebgkoaaW.PrintMore
attribute [local go_sem] Oper.semAt_some
set_option linter.unusedVariables false
set_option linter.unusedSimpArgs false
set_option maxRecDepth 100000

theorem DecR (s : ByteArray) (hs : s.size ≤ 140737488351232) (q : Pg) (e : Int) (h : decP s = (q, e)) (w : World) :
    Calls Try.prog 19 #[.string s] w fun r w' => ∃ v4_ v5_ : Value, r = .returned (.tuple #[.agg #[.int .i64 q.k, .int .u32 q.x, .int .u32 q.y, .int .i64 q.lv, v4_, v5_, .int .u32 q.np, .string q.nt], .int .i64 e]) ∧ Kd.R k47 47 w' w.heap.size (fun _ => True) v4_ q.rows ∧ Kd.R k28 28 w' w.heap.size (fun _ => True) v5_ q.kids ∧ Below w.heap.size w w' :=
  sphragisref10_Decode.calls 1001 s _ _ _ _ _ _ _ _ _ w (by rw [decR_f s hs 1001 (by decide), decA_eq, h])
theorem dec_in (s : ByteArray) (q : Pg) (e : Int) (h : decP s = (q, e)) : pageIn q ∧ q.rows.length ≤ 1000 := by
  by_cases hz : (decP s).2 = 0
  · obtain ⟨hr, hp, _⟩ := dec_enc s hz
    rw [h] at hr hp
    refine ⟨hp, ?_⟩
    rcases right_kind hr with hk | hk
    · have h4 : q.rows.length ≤ 4 := (right1 hk hr).1
      omega
    · have h4 : q.rows.length = 0 := (right2 hk hr).2.1
      omega
  · have hd := dec_bad s hz
    rw [h] at hd
    rw [(Prod.mk.inj hd).1]
    exact ⟨by decide, by decide⟩

set_option maxHeartbeats 4000000 in
theorem RowsDecodes_row (s : ByteArray) (hs : s.size ≤ 140737488351232) (w : World) :
    Calls Try.prog 5 #[.string s] w fun e w' => e = .returned (.bool true) ∧ Below w.heap.size w w' := by
  obtain ⟨N, hN⟩ : ∃ N, w.heap.size = N := ⟨_, rfl⟩
  obtain ⟨q, e, hd⟩ : ∃ q e, decP s = (q, e) := ⟨_, _, rfl⟩
  obtain ⟨hp, hr10⟩ := dec_in s q e hd
  have Hd : Nat → Hid _ := fun _ => Lib.hid hd
  have Hp : Nat → Hid _ := fun _ => Lib.hid hp
  have Hs : Nat → Hid _ := fun _ => Lib.hid hs
  have hee : (e == e) = true := beq_self_eq_true _
  clear hd hp hs
  go_enter Try.func5, Try.ntmps5
  go_wp2_with fail
  refine (shown_ok w).mono ?_
  rintro r w1 ⟨rfl, hb1⟩
  rw [hN] at hb1
  go_wp2_with fail
  refine (Dec s q e (Hd 0).out w1).mono ?_
  rintro r w2 ⟨v4, v5, rfl, hv4, hv5, hb2⟩
  obtain ⟨B4, k4, rfl, hk4, hD4⟩ := Kd.R_reads hv4
  obtain ⟨B5, k5, rfl, hk5, hD5⟩ := Kd.R_reads hv5
  have hB2 : Below N w w2 := hb1.trans (hb2.mono (by have := hb1.size; omega))
  clear hb1 hb2 hv4 hv5
  obtain ⟨M, hM⟩ : ∃ M, w2.heap.size = M := ⟨_, rfl⟩
  have hb3 : Below w2.heap.size w2 (w2.alloc (.cells #[.int .i64 q.k, .int .u32 q.x, .int .u32 q.y, .int .i64 q.lv, .slice B4 q.rows.length k4, .slice B5 q.kids.length k5, .int .u32 q.np, .string q.nt] 30)) := (Below.refl _ w2).alloc (Nat.le_refl _) _
  have hP3 : PBox (w2.alloc (.cells #[.int .i64 q.k, .int .u32 q.x, .int .u32 q.y, .int .i64 q.lv, .slice B4 q.rows.length k4, .slice B5 q.kids.length k5, .int .u32 q.np, .string q.nt] 30)) M q.k q.x q.y q.lv (.slice B4 q.rows.length k4) (.slice B5 q.kids.length k5) q.np q.nt := by rw [← hM]; exact World.alloc_heap_new w2 _
  have hB3 : Below N w (w2.alloc (.cells #[.int .i64 q.k, .int .u32 q.x, .int .u32 q.y, .int .i64 q.lv, .slice B4 q.rows.length k4, .slice B5 q.kids.length k5, .int .u32 q.np, .string q.nt] 30)) := hB2.trans (hb3.mono (by have := hB2.size; omega))
  have hD43 := Kd.C_below hD4 hb3
  have hD53 := Kd.C_below hD5 hb3
  clear hb3 hD4 hD5 hB2
  go_wp2_with fail
  try rw [hM]
  generalize w2.alloc (.cells #[.int .i64 q.k, .int .u32 q.x, .int .u32 q.y, .int .i64 q.lv, .slice B4 q.rows.length k4, .slice B5 q.kids.length k5, .int .u32 q.np, .string q.nt] 30) = W3 at *
  refine (DecR s (Hs 0).out q e (Hd 0).out W3).mono ?_
  rintro r w4 ⟨v4, v5, rfl, hv4, hv5, hb4⟩
  obtain ⟨C4, j4, rfl, hj4, hE4⟩ := Kd.R_reads hv4
  obtain ⟨C5, j5, rfl, hj5, hE5⟩ := Kd.R_reads hv5
  have hP4 : PBox w4 M q.k q.x q.y q.lv (.slice B4 q.rows.length k4) (.slice B5 q.kids.length k5) q.np q.nt := (hb4.block M (blk_lt hP3)).trans hP3
  have hB4 : Below N w w4 := hB3.trans (hb4.mono (by have := hB3.size; omega))
  have hD44 := Kd.C_below hD43 hb4
  have hD54 := Kd.C_below hD53 hb4
  clear hB3 hb4 hv4 hv5 hP3 hD43 hD53
  obtain ⟨L, hL⟩ : ∃ L, w4.heap.size = L := ⟨_, rfl⟩
  have hb5 : Below w4.heap.size w4 (w4.alloc (.cells #[.int .i64 q.k, .int .u32 q.x, .int .u32 q.y, .int .i64 q.lv, .slice C4 q.rows.length j4, .slice C5 q.kids.length j5, .int .u32 q.np, .string q.nt] 30)) := (Below.refl _ w4).alloc (Nat.le_refl _) _
  have hQ5 : PBox (w4.alloc (.cells #[.int .i64 q.k, .int .u32 q.x, .int .u32 q.y, .int .i64 q.lv, .slice C4 q.rows.length j4, .slice C5 q.kids.length j5, .int .u32 q.np, .string q.nt] 30)) L q.k q.x q.y q.lv (.slice C4 q.rows.length j4) (.slice C5 q.kids.length j5) q.np q.nt := by rw [← hL]; exact World.alloc_heap_new w4 _
  have hP5 : PBox (w4.alloc (.cells #[.int .i64 q.k, .int .u32 q.x, .int .u32 q.y, .int .i64 q.lv, .slice C4 q.rows.length j4, .slice C5 q.kids.length j5, .int .u32 q.np, .string q.nt] 30)) M q.k q.x q.y q.lv (.slice B4 q.rows.length k4) (.slice B5 q.kids.length k5) q.np q.nt := (hb5.block M (blk_lt hP4)).trans hP4
  have hB5 : Below N w (w4.alloc (.cells #[.int .i64 q.k, .int .u32 q.x, .int .u32 q.y, .int .i64 q.lv, .slice C4 q.rows.length j4, .slice C5 q.kids.length j5, .int .u32 q.np, .string q.nt] 30)) := hB4.trans (hb5.mono (by have := hB4.size; omega))
  have hD45 := Kd.C_below hD44 hb5
  have hD55 := Kd.C_below hD54 hb5
  have hE45 := Kd.C_below hE4 hb5
  have hE55 := Kd.C_below hE5 hb5
  clear hb5 hD44 hD54 hE4 hE5 hP4 hB4
  go_upto_region 4 with fail
  try rw [hL]
  generalize w4.alloc (.cells #[.int .i64 q.k, .int .u32 q.x, .int .u32 q.y, .int .i64 q.lv, .slice C4 q.rows.length j4, .slice C5 q.kids.length j5, .int .u32 q.np, .string q.nt] 30) = W5 at *
  obtain ⟨e0, e1, e2, e3, e4, e5, e6, e7⟩ := hP5.cells
  obtain ⟨f0, f1, f2, f3, f4, f5, f6, f7⟩ := hQ5.cells
  clear hP5 hQ5
  go_wp2_with fail
  refine (Same_ok q q (Hp 0).out hr10 true (by simp) B4 B5 C4 C5 k4 k5 j4 j5 W5 hD45 hk4 hD55 hk5 hE45 hj4 hE55 hj5).mono ?_
  rintro r w6 ⟨rfl, hb6⟩
  have hB6 : Below N w w6 := hB5.trans (hb6.mono (by have := hB5.size; omega))
  clear hB5 hb6 e0 e1 e2 e3 e4 e5 e6 e7 f0 f1 f2 f3 f4 f5 f6 f7 hD45 hD55 hE45 hE55
  go_wp2
  go_ret
  exact ⟨by simp, by rw [hN]; exact hB6⟩
end Go.Proofs.Ytmeaiancebgkoaa.H
