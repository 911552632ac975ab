/- RowsBack: the walk. Written by rows_b.py. -/
import Derived.Test.YtmeaiancebgkoaaC2
import Derived.Test.YtmeaiancebgkoaaSM
namespace Go.Proofs.Ytmeaiancebgkoaa.H
open Go.RowKit Go.Shelf Go.Proofs.YtmeaiancebgkoaaW.PrintWords Go.Proofs.YtmeaiancebgkoaaW.PrintLast Go.Proofs.YtmeaiancebgkoaaW.PrintMore
attribute [local go_sem] Oper.semAt_some
set_option linter.unusedVariables false
set_option linter.unusedSimpArgs false
set_option maxRecDepth 100000

theorem enc_len2 {p : Pg} (hr : rightP p = true) : 0 < (encL p).length ∧ (encL p).length ≤ 198 := by
  rcases right_kind hr with hk | hk
  · obtain ⟨q1, q2, q3, _⟩ := right1 hk hr
    have hrs := rises_all p.rows none (Bool.and_eq_true _ _ ▸ q2 : rises none p.rows = true ∧ _).1
    have h1 := flat_le rowBytes 33 p.rows (fun r h => rowBytes_le (hrs r h))
    rw [encL, if_neg (by omega)]
    simp only [List.length_append, le_length, refB_length _ _ (next_size q3)]
    omega
  · obtain ⟨q1, _, _, _, q5, _⟩ := right2 hk hr
    have h1 := flat_le kidB 36 p.kids (fun r h => by rw [kidB, refB_length _ _ (by have := (kid_size q1 r h).2; omega)]; exact Nat.le_refl _)
    rw [encL, if_pos hk]
    simp only [List.length_append, le_length]
    omega
theorem Right_ok (p : Pg) (b : Bool) (hp : pageIn p) (hb : rightP p = b) (A4 A5 : Option Addr) (c4 c5 : Nat) (w : World) (h4 : Kd.C k47 w A4 p.rows.length p.rows) (hc4 : p.rows.length ≤ c4) (h5 : Kd.C k28 w A5 p.kids.length p.kids) (hc5 : p.kids.length ≤ c5) :
    Calls Try.prog 13 #[.agg #[.int .i64 p.k, .int .u32 p.x, .int .u32 p.y, .int .i64 p.lv, .slice A4 p.rows.length c4, .slice A5 p.kids.length c5, .int .u32 p.np, .string p.nt]] w fun e w' => e = .returned (.bool b) ∧ Below w.heap.size w w' :=
  rows_Right.calls 20 p.k p.x p.y p.lv A4 c4 p.rows A5 c5 p.kids p.np p.nt b w h4 hc4 h5 hc5 (by rw [Right_f p 20 (by decide) hp.2.2.2.2.1, hb])

set_option maxHeartbeats 4000000 in
theorem RowsBack_walk (p : Pg) (hp : pageIn p) (A4 A5 : Option Addr) (n4 c4 n5 c5 : Nat) (h4 : n4 ≤ c4) (hl4 : p.rows.length = min n4 10) (h5 : n5 ≤ c5) (hl5 : p.kids.length = min n5 10) (w : World) (hC4 : Kd.C k47 w A4 p.rows.length p.rows) (hC5 : Kd.C k28 w A5 p.kids.length p.kids) :
    Calls Try.prog 6 #[.agg #[.int .i64 p.k, .int .u32 p.x, .int .u32 p.y, .int .i64 p.lv, .slice A4 n4 c4, .slice A5 n5 c5, .int .u32 p.np, .string p.nt]] w fun e w' => e = .returned (.bool true) ∧ Below w.heap.size w w' := by
  obtain ⟨N, hN⟩ : ∃ N, w.heap.size = N := ⟨_, rfl⟩
  obtain ⟨s, e, hse⟩ : ∃ s e, encP p = (s, e) := ⟨_, _, rfl⟩
  have Hse : Nat → Hid _ := fun _ => Lib.hid hse
  have HC4 : Nat → Hid _ := fun _ => Lib.hid hC4
  have HC5 : Nat → Hid _ := fun _ => Lib.hid hC5
  have Hl4 : Nat → Hid _ := fun _ => Lib.hid hl4
  have Hl5 : Nat → Hid _ := fun _ => Lib.hid hl5
  have hc4 : p.rows.length ≤ c4 := by omega
  have hc5 : p.kids.length ≤ c5 := by omega
  have hr10 : p.rows.length ≤ 1000 := by omega
  clear hse hC4 hC5 hl4 hl5
  have hb0 : Below N w (w.alloc (.cells #[.int .i64 p.k, .int .u32 p.x, .int .u32 p.y, .int .i64 p.lv, .slice A4 n4 c4, .slice A5 n5 c5, .int .u32 p.np, .string p.nt] 30)) := (Below.refl N w).alloc (by omega) _
  have hP0 : PBox (w.alloc (.cells #[.int .i64 p.k, .int .u32 p.x, .int .u32 p.y, .int .i64 p.lv, .slice A4 n4 c4, .slice A5 n5 c5, .int .u32 p.np, .string p.nt] 30)) N p.k p.x p.y p.lv (.slice A4 n4 c4) (.slice A5 n5 c5) p.np p.nt := by rw [← hN]; exact World.alloc_heap_new w _
  go_enter Try.func6, Try.ntmps6
  go_wp2_with fail
  generalize w.alloc (.cells #[.int .i64 p.k, .int .u32 p.x, .int .u32 p.y, .int .i64 p.lv, .slice A4 n4 c4, .slice A5 n5 c5, .int .u32 p.np, .string p.nt] 30) = W0 at *
  refine (shown_ok W0).mono ?_
  rintro r w1 ⟨rfl, hb1⟩
  have hP1 : PBox w1 N p.k p.x p.y p.lv (.slice A4 n4 c4) (.slice A5 n5 c5) p.np p.nt := (hb1.block N (blk_lt hP0)).trans hP0
  have hB1 : Below N w w1 := hb0.trans (hb1.mono (by have := hb0.size; omega))
  obtain ⟨e0, e1, e2, e3, e4, e5, e6, e7⟩ := hP1.cells
  clear hP0 hb0 hb1
  go_wp2_with fail
  refine (cut_calls p.k p.x p.y p.lv A4 n4 c4 A5 n5 c5 p.np p.nt h4 h5 w1).mono ?_
  rintro r w2 ⟨rfl, hb2⟩
  rw [← (Hl4 0).out, ← (Hl5 0).out]
  have hP2 : PBox w2 N p.k p.x p.y p.lv (.slice A4 n4 c4) (.slice A5 n5 c5) p.np p.nt := (hb2.block N (blk_lt hP1)).trans hP1
  have hB2 : Below N w w2 := hB1.trans (hb2.mono (by have := hB1.size; omega))
  clear e0 e1 e2 e3 e4 e5 e6 e7 hB1 hb2 hP1
  go_wp2_with fail
  refine (Enc p A4 A5 c4 c5 s e (Hse 0).out hp w2 (Kd.C_below (HC4 0).out (by rw [hN]; exact hB2)) hc4 (Kd.C_below (HC5 0).out (by rw [hN]; exact hB2)) hc5).mono ?_
  rintro r w3 ⟨rfl, hb3⟩
  have hP3 : PBox w3 N p.k p.x p.y p.lv (.slice A4 n4 c4) (.slice A5 n5 c5) p.np p.nt := (hb3.block N (blk_lt hP2)).trans hP2
  have hB3 : Below N w w3 := hB2.trans (hb3.mono (by have := hB2.size; omega))
  clear hB2 hb3 hP2
  by_cases hr : rightP p = true
  case' neg =>
    have h1 := (Hse 0).out
    rw [encP_wrong hr] at h1
    obtain ⟨rfl, rfl⟩ := Prod.mk.inj h1
    clear h1
    obtain ⟨e0, e1, e2, e3, e4, e5, e6, e7⟩ := hP3.cells
    clear hP3
    go_wp2_with fail
    refine (cut_calls p.k p.x p.y p.lv A4 n4 c4 A5 n5 c5 p.np p.nt h4 h5 w3).mono ?_
    rintro r w4 ⟨rfl, hb4⟩
    rw [← (Hl4 0).out, ← (Hl5 0).out]
    have hB4 : Below N w w4 := hB3.trans (hb4.mono (by have := hB3.size; omega))
    clear e0 e1 e2 e3 e4 e5 e6 e7 hB3 hb4
    go_wp2_with fail
    refine (Right_ok p false hp (Bool.eq_false_iff.2 hr) A4 A5 c4 c5 w4 (Kd.C_below (HC4 0).out (by rw [hN]; exact hB4)) hc4 (Kd.C_below (HC5 0).out (by rw [hN]; exact hB4)) hc5).mono ?_
    rintro r w5 ⟨rfl, hb5⟩
    have hB5 : Below N w w5 := hB4.trans (hb5.mono (by have := hB4.size; omega))
    clear hB4 hb5
    go_wp2
    go_ret
    exact ⟨by simp, by rw [hN]; exact hB5⟩
  have h1 := (Hse 0).out
  rw [encP_right hr] at h1
  obtain ⟨hs, rfl⟩ := Prod.mk.inj h1
  have hsl : s.size = (encL p).length := by rw [← hs, bts_size]
  have hss := enc_len2 hr
  rw [← hsl] at hss
  have hd : decP s = (p, 0) := by
    have h := enc_dec p hr hp
    rw [(Hse 0).out] at h
    exact h
  have Hd : Nat → Hid _ := fun _ => Lib.hid hd
  have z0 : decide ((s.size : Int) ≤ 198) = true := decide_eq_true (by omega)
  have z1 : decide (0 < (s.size : Int)) = true := decide_eq_true (by omega)
  have z2 : decide ((s.size : Int) > 0) = true := decide_eq_true (by omega)
  clear h1 hs hsl hss hd
  go_wp2_with fail
  refine (Dec s p 0 (Hd 0).out w3).mono ?_
  rintro r w4 ⟨v4, v5, rfl, hv4, hv5, hb4⟩
  obtain ⟨B4, k4, rfl, hk4, hD4⟩ := Kd.R_reads hv4
  obtain ⟨B5, k5, rfl, hk5, hD5⟩ := Kd.R_reads hv5
  have hP4 : PBox w4 N p.k p.x p.y p.lv (.slice A4 n4 c4) (.slice A5 n5 c5) p.np p.nt := (hb4.block N (blk_lt hP3)).trans hP3
  have hB4 : Below N w w4 := hB3.trans (hb4.mono (by have := hB3.size; omega))
  clear hB3 hb4 hv4 hv5 hP3
  obtain ⟨M, hM⟩ : ∃ M, w4.heap.size = M := ⟨_, rfl⟩
  have hNM : N < M := by rw [← hM]; exact blk_lt hP4
  have hb5 : Below M w4 ((w4.alloc (.cells #[.int .i64 p.k, .int .u32 p.x, .int .u32 p.y, .int .i64 p.lv, .slice B4 p.rows.length k4, .slice B5 p.kids.length k5, .int .u32 p.np, .string p.nt] 30)).drew) := Below.drew ((Below.refl M w4).alloc (by omega) _)
  have hQ5 : PBox (w4.alloc (.cells #[.int .i64 p.k, .int .u32 p.x, .int .u32 p.y, .int .i64 p.lv, .slice B4 p.rows.length k4, .slice B5 p.kids.length k5, .int .u32 p.np, .string p.nt] 30)).drew M p.k p.x p.y p.lv (.slice B4 p.rows.length k4) (.slice B5 p.kids.length k5) p.np p.nt := by rw [← hM]; exact World.alloc_heap_new w4 _
  have hP5 : PBox (w4.alloc (.cells #[.int .i64 p.k, .int .u32 p.x, .int .u32 p.y, .int .i64 p.lv, .slice B4 p.rows.length k4, .slice B5 p.kids.length k5, .int .u32 p.np, .string p.nt] 30)).drew N p.k p.x p.y p.lv (.slice A4 n4 c4) (.slice A5 n5 c5) p.np p.nt := (hb5.block N hNM).trans hP4
  have hB5 : Below N w ((w4.alloc (.cells #[.int .i64 p.k, .int .u32 p.x, .int .u32 p.y, .int .i64 p.lv, .slice B4 p.rows.length k4, .slice B5 p.kids.length k5, .int .u32 p.np, .string p.nt] 30)).drew) := hB4.trans (hb5.mono (by omega))
  go_upto_region 6 with fail
  refine start_ (n := 22) (S := fun V_ => (PBox V_ N p.k p.x p.y p.lv (.slice A4 n4 c4) (.slice A5 n5 c5) p.np p.nt) ∧ (PBox V_ M p.k p.x p.y p.lv (.slice B4 p.rows.length k4) (.slice B5 p.kids.length k5) p.np p.nt)) (ds := [9]) #[false, false, false, false, false, false, false, false, false, false, false, false, false, false, false, false, false, false, false, false, false, false] (by kernel_rfl) rfl rfl ⟨hP5, hQ5⟩ (fun hHeld => ?_)
  generalize (w4.alloc (.cells #[.int .i64 p.k, .int .u32 p.x, .int .u32 p.y, .int .i64 p.lv, .slice B4 p.rows.length k4, .slice B5 p.kids.length k5, .int .u32 p.np, .string p.nt] 30)).drew = W5 at hHeld hb5 hP5 hQ5 hB5 ⊢
  have hD45 := Kd.C_below hD4 (hM.symm ▸ hb5)
  have hD55 := Kd.C_below hD5 (hM.symm ▸ hb5)
  clear hD4 hD5 hb5 hP4 hB4
  refine pure_ (i := 0) (N := some 33) (v := ?_) (a' := ?_) #[true, false, false, false, false, false, false, false, false, false, false, false, false, false, false, false, false, false, false, false, false, false] rfl rfl (by kernel_rfl) (fun _ _ _ h => h) (Or.inl ⟨by rfl, ?_⟩) ?_ ?_
  rotate_left
  · intro w'
    go_simp
    try (with_reducible rfl)
  rotate_left
  · simp only [Act.put, List.setIfInBounds_toArray, List.set_cons_zero, List.set_cons_succ, i64_w, i32_w]
    rfl
  refine pure_ (i := 1) (N := some 34) (v := ?_) (a' := ?_) #[true, true, false, false, false, false, false, false, false, false, false, false, false, false, false, false, false, false, false, false, false, false] rfl rfl (by kernel_rfl) (fun _ _ _ h => h) (Or.inl ⟨by rfl, ?_⟩) ?_ ?_
  rotate_left
  · intro w'
    go_simp
    try (with_reducible rfl)
  rotate_left
  · simp only [Act.put, List.setIfInBounds_toArray, List.set_cons_zero, List.set_cons_succ, i64_w, i32_w]
    rfl
  refine pure_ (i := 2) (N := some 35) (v := ?_) (a' := ?_) #[true, true, true, false, false, false, false, false, false, false, false, false, false, false, false, false, false, false, false, false, false, false] rfl rfl (by kernel_rfl) (fun _ _ _ h => h) (Or.inl ⟨by rfl, ?_⟩) ?_ ?_
  rotate_left
  · intro w'
    go_simp
    try (with_reducible rfl)
  rotate_left
  · simp only [Act.put, List.setIfInBounds_toArray, List.set_cons_zero, List.set_cons_succ, i64_w, i32_w]
    rfl
  refine pure_ (i := 3) (N := some 36) (v := ?_) (a' := ?_) #[true, true, true, true, false, false, false, false, false, false, false, false, false, false, false, false, false, false, false, false, false, false] rfl rfl (by kernel_rfl) (fun _ _ _ h => h) (Or.inl ⟨by rfl, ?_⟩) ?_ ?_
  rotate_left
  · intro w'
    go_simp
    try (with_reducible rfl)
  rotate_left
  · simp only [Act.put, List.setIfInBounds_toArray, List.set_cons_zero, List.set_cons_succ, i64_w, i32_w]
    rfl
  refine pure_ (i := 4) (N := some 37) (v := ?_) (a' := ?_) #[true, true, true, true, true, false, false, false, false, false, false, false, false, false, false, false, false, false, false, false, false, false] rfl rfl (by kernel_rfl) (fun _ _ _ h => h) (Or.inl ⟨by rfl, ?_⟩) ?_ ?_
  rotate_left
  · intro w'
    go_simp
    try (with_reducible rfl)
  rotate_left
  · simp only [Act.put, List.setIfInBounds_toArray, List.set_cons_zero, List.set_cons_succ, i64_w, i32_w]
    rfl
  refine pure_ (i := 5) (N := some 38) (v := ?_) (a' := ?_) #[true, true, true, true, true, true, false, false, false, false, false, false, false, false, false, false, false, false, false, false, false, false] rfl rfl (by kernel_rfl) (fun _ _ _ h => h) (Or.inl ⟨by rfl, ?_⟩) ?_ ?_
  rotate_left
  · intro w'
    go_simp
    try (with_reducible rfl)
  rotate_left
  · simp only [Act.put, List.setIfInBounds_toArray, List.set_cons_zero, List.set_cons_succ, i64_w, i32_w]
    rfl
  refine take_ (i := 6) (N := some 39) (v := ?_) (a' := ?_) #[true, true, true, true, true, true, true, false, false, false, false, false, false, false, false, false, false, false, false, false, false, false] rfl rfl (by kernel_rfl) (fun _ _ _ h => h) (Or.inl ⟨by rfl, ?_⟩) hHeld ?_ ?_
  rotate_left
  · intro w' hS_
    obtain ⟨e0, e1, e2, e3, e4, e5, e6, e7⟩ := hS_.1.cells; obtain ⟨f0, f1, f2, f3, f4, f5, f6, f7⟩ := hS_.2.cells; have ez := hS_.1.frozen; have fz := hS_.2.frozen
    go_simp
    try (with_reducible rfl)
  rotate_left
  · simp only [Act.put, List.setIfInBounds_toArray, List.set_cons_zero, List.set_cons_succ, i64_w, i32_w]
    rfl
  refine take_ (i := 7) (N := some 40) (v := ?_) (a' := ?_) #[true, true, true, true, true, true, true, true, false, false, false, false, false, false, false, false, false, false, false, false, false, false] rfl rfl (by kernel_rfl) (fun _ _ _ h => h) (Or.inl ⟨by rfl, ?_⟩) hHeld ?_ ?_
  rotate_left
  · intro w' hS_
    obtain ⟨e0, e1, e2, e3, e4, e5, e6, e7⟩ := hS_.1.cells; obtain ⟨f0, f1, f2, f3, f4, f5, f6, f7⟩ := hS_.2.cells; have ez := hS_.1.frozen; have fz := hS_.2.frozen
    go_simp
    try (with_reducible rfl)
  rotate_left
  · simp only [Act.put, List.setIfInBounds_toArray, List.set_cons_zero, List.set_cons_succ, i64_w, i32_w]
    rfl
  refine one_ (i := 8) (N := some 41) #[true, true, true, true, true, true, true, true, true, false, false, false, false, false, false, false, false, false, false, false, false, false] rfl rfl (by kernel_rfl) (by decide) (fun K hK => ?_)
  refine goes_ Try.func14 (by kernel_rfl) rfl #[.agg #[.int .i64 p.k, .int .u32 p.x, .int .u32 p.y, .int .i64 p.lv, .slice A4 n4 c4, .slice A5 n5 c5, .int .u32 p.np, .string p.nt]] (by rfl) rfl rfl (by (try simp only [List.map_toArray, List.map_cons, List.map_nil]); first | done | rfl) ?_
  refine (cut_calls p.k p.x p.y p.lv A4 n4 c4 A5 n5 c5 p.np p.nt h4 h5 W5).mono ?_
  rintro e w6 ⟨rfl, hb6⟩
  refine ⟨_, rfl, ?_⟩
  rw [← (Hl4 0).out, ← (Hl5 0).out]
  have hP6 : PBox w6 N p.k p.x p.y p.lv (.slice A4 n4 c4) (.slice A5 n5 c5) p.np p.nt := (hb6.block N (blk_lt hP5)).trans hP5
  have hQ6 : PBox w6 M p.k p.x p.y p.lv (.slice B4 p.rows.length k4) (.slice B5 p.kids.length k5) p.np p.nt := (hb6.block M (blk_lt hQ5)).trans hQ5
  have hB6 : Below N w w6 := hB5.trans (hb6.mono (by have := hB5.size; omega))
  have hD46 := Kd.C_below hD45 hb6
  have hD56 := Kd.C_below hD55 hb6
  refine hK.out _ _ ⟨hP6, hQ6⟩ (fun _ => ?_)
  clear hK K hB5 hb6 hP5 hQ5 hP6 hQ6 hD45 hD55 hHeld
  refine last_ (i := 9) (N := some 42) #[true, true, true, true, true, true, true, true, true, true, false, false, false, false, false, false, false, false, false, false, false, false] rfl rfl (by kernel_rfl) (by decide) (fun K hK => ?_)
  refine goes_ Try.func20 (by kernel_rfl) rfl #[.agg #[.int .i64 p.k, .int .u32 p.x, .int .u32 p.y, .int .i64 p.lv, .slice B4 p.rows.length k4, .slice B5 p.kids.length k5, .int .u32 p.np, .string p.nt], .agg #[.int .i64 p.k, .int .u32 p.x, .int .u32 p.y, .int .i64 p.lv, .slice A4 p.rows.length c4, .slice A5 p.kids.length c5, .int .u32 p.np, .string p.nt]] (by rfl) rfl rfl (by (try simp only [List.map_toArray, List.map_cons, List.map_nil]); first | done | rfl) ?_
  refine (Same_ok p p hp hr10 true (by simp) B4 B5 A4 A5 k4 k5 c4 c5 w6 hD46 hk4 hD56 hk5 (Kd.C_below (HC4 0).out (by rw [hN]; exact hB6)) hc4 (Kd.C_below (HC5 0).out (by rw [hN]; exact hB6)) hc5).mono ?_
  rintro e w7 ⟨rfl, hb7⟩
  refine ⟨_, rfl, ?_⟩
  have hB7 : Below N w w7 := hB6.trans (hb7.mono (by have := hB6.size; omega))
  refine hK.out _ _ ?_
  clear hK K hB6 hb7 hD46 hD56
  refine pure_ (i := 10) (N := some 43) (v := ?_) (a' := ?_) #[true, true, true, true, true, true, true, true, true, true, true, false, false, false, false, false, false, false, false, false, false, false] rfl rfl (by kernel_rfl) (fun _ _ _ h => h) (Or.inl ⟨by rfl, ?_⟩) ?_ ?_
  rotate_left
  · intro w'
    go_simp
    try (with_reducible rfl)
  rotate_left
  · simp only [Act.put, List.setIfInBounds_toArray, List.set_cons_zero, List.set_cons_succ, List.getElem_toArray, List.getElem_cons_succ, List.getElem_cons_zero, i64_w, i32_w]
    rfl
  refine pure_ (i := 11) (N := some 44) (v := ?_) (a' := ?_) #[true, true, true, true, true, true, true, true, true, true, true, true, false, false, false, false, false, false, false, false, false, false] rfl rfl (by kernel_rfl) (fun _ _ _ h => h) (Or.inl ⟨by rfl, ?_⟩) ?_ ?_
  rotate_left
  · intro w'
    go_simp
    try (with_reducible rfl)
  rotate_left
  · simp only [Act.put, List.setIfInBounds_toArray, List.set_cons_zero, List.set_cons_succ, List.getElem_toArray, List.getElem_cons_succ, List.getElem_cons_zero, i64_w, i32_w]
    rfl
  refine pure_ (i := 12) (N := some 45) (v := ?_) (a' := ?_) #[true, true, true, true, true, true, true, true, true, true, true, true, true, false, false, false, false, false, false, false, false, false] rfl rfl (by kernel_rfl) (fun _ _ _ h => h) (Or.inl ⟨by rfl, ?_⟩) ?_ ?_
  rotate_left
  · intro w'
    go_simp
    try (with_reducible rfl)
  rotate_left
  · simp only [Act.put, List.setIfInBounds_toArray, List.set_cons_zero, List.set_cons_succ, List.getElem_toArray, List.getElem_cons_succ, List.getElem_cons_zero, i64_w, i32_w]
    rfl
  refine pure_ (i := 13) (N := some 46) (v := ?_) (a' := ?_) #[true, true, true, true, true, true, true, true, true, true, true, true, true, true, false, false, false, false, false, false, false, false] rfl rfl (by kernel_rfl) (fun _ _ _ h => h) (Or.inl ⟨by rfl, ?_⟩) ?_ ?_
  rotate_left
  · intro w'
    go_simp
    try (with_reducible rfl)
  rotate_left
  · simp only [Act.put, List.setIfInBounds_toArray, List.set_cons_zero, List.set_cons_succ, List.getElem_toArray, List.getElem_cons_succ, List.getElem_cons_zero, i64_w, i32_w]
    rfl
  refine pure_ (i := 14) (N := some 47) (v := ?_) (a' := ?_) #[true, true, true, true, true, true, true, true, true, true, true, true, true, true, true, false, false, false, false, false, false, false] rfl rfl (by kernel_rfl) (fun _ _ _ h => h) (Or.inl ⟨by rfl, ?_⟩) ?_ ?_
  rotate_left
  · intro w'
    go_simp
    try (with_reducible rfl)
  rotate_left
  · simp only [Act.put, List.setIfInBounds_toArray, List.set_cons_zero, List.set_cons_succ, List.getElem_toArray, List.getElem_cons_succ, List.getElem_cons_zero, i64_w, i32_w]
    rfl
  refine pure_ (i := 15) (N := some 48) (v := ?_) (a' := ?_) #[true, true, true, true, true, true, true, true, true, true, true, true, true, true, true, true, false, false, false, false, false, false] rfl rfl (by kernel_rfl) (fun _ _ _ h => h) (Or.inl ⟨by rfl, ?_⟩) ?_ ?_
  rotate_left
  · intro w'
    go_simp
    try (with_reducible rfl)
  rotate_left
  · simp only [Act.put, List.setIfInBounds_toArray, List.set_cons_zero, List.set_cons_succ, List.getElem_toArray, List.getElem_cons_succ, List.getElem_cons_zero, i64_w, i32_w]
    rfl
  refine pure_ (i := 16) (N := some 49) (v := ?_) (a' := ?_) #[true, true, true, true, true, true, true, true, true, true, true, true, true, true, true, true, true, false, false, false, false, false] rfl rfl (by kernel_rfl) (fun _ _ _ h => h) (Or.inl ⟨by rfl, ?_⟩) ?_ ?_
  rotate_left
  · intro w'
    go_simp
    try (with_reducible rfl)
  rotate_left
  · simp only [Act.put, List.setIfInBounds_toArray, List.set_cons_zero, List.set_cons_succ, List.getElem_toArray, List.getElem_cons_succ, List.getElem_cons_zero, i64_w, i32_w]
    rfl
  refine pure_ (i := 17) (N := some 50) (v := ?_) (a' := ?_) #[true, true, true, true, true, true, true, true, true, true, true, true, true, true, true, true, true, true, false, false, false, false] rfl rfl (by kernel_rfl) (fun _ _ _ h => h) (Or.inl ⟨by rfl, ?_⟩) ?_ ?_
  rotate_left
  · intro w'
    go_simp
    try (with_reducible rfl)
  rotate_left
  · simp only [Act.put, List.setIfInBounds_toArray, List.set_cons_zero, List.set_cons_succ, List.getElem_toArray, List.getElem_cons_succ, List.getElem_cons_zero, i64_w, i32_w]
    rfl
  refine pure_ (i := 18) (N := some 51) (v := ?_) (a' := ?_) #[true, true, true, true, true, true, true, true, true, true, true, true, true, true, true, true, true, true, true, false, false, false] rfl rfl (by kernel_rfl) (fun _ _ _ h => h) (Or.inl ⟨by rfl, ?_⟩) ?_ ?_
  rotate_left
  · intro w'
    go_simp
    try (with_reducible rfl)
  rotate_left
  · simp only [Act.put, List.setIfInBounds_toArray, List.set_cons_zero, List.set_cons_succ, List.getElem_toArray, List.getElem_cons_succ, List.getElem_cons_zero, i64_w, i32_w]
    rfl
  refine pure_ (i := 19) (N := some 52) (v := ?_) (a' := ?_) #[true, true, true, true, true, true, true, true, true, true, true, true, true, true, true, true, true, true, true, true, false, false] rfl rfl (by kernel_rfl) (fun _ _ _ h => h) (Or.inl ⟨by rfl, ?_⟩) ?_ ?_
  rotate_left
  · intro w'
    go_simp
    try (with_reducible rfl)
  rotate_left
  · simp only [Act.put, List.setIfInBounds_toArray, List.set_cons_zero, List.set_cons_succ, List.getElem_toArray, List.getElem_cons_succ, List.getElem_cons_zero, i64_w, i32_w]
    rfl
  refine pure_ (i := 20) (N := some 53) (v := ?_) (a' := ?_) #[true, true, true, true, true, true, true, true, true, true, true, true, true, true, true, true, true, true, true, true, true, false] rfl rfl (by kernel_rfl) (fun _ _ _ h => h) (Or.inl ⟨by rfl, ?_⟩) ?_ ?_
  rotate_left
  · intro w'
    go_simp
    try (with_reducible rfl)
  rotate_left
  · simp only [Act.put, List.setIfInBounds_toArray, List.set_cons_zero, List.set_cons_succ, List.getElem_toArray, List.getElem_cons_succ, List.getElem_cons_zero, i64_w, i32_w]
    rfl
  refine pure_ (i := 21) (N := some 2) (v := ?_) (a' := ?_) #[true, true, true, true, true, true, true, true, true, true, true, true, true, true, true, true, true, true, true, true, true, true] rfl rfl (by kernel_rfl) (fun _ _ _ h => h) (Or.inl ⟨by rfl, ?_⟩) ?_ ?_
  rotate_left
  · intro w'
    go_simp
    try (with_reducible rfl)
  rotate_left
  · simp only [Act.put, List.setIfInBounds_toArray, List.set_cons_zero, List.set_cons_succ, List.getElem_toArray, List.getElem_cons_succ, List.getElem_cons_zero, i64_w, i32_w]
    rfl
  refine done_ (by kernel_rfl) ?_
  go_wp2
  go_ret
  exact ⟨by simp; exact Int.natCast_pos.1 (of_decide_eq_true z1), by rw [hN]; exact hB7⟩
theorem RowsBack_row (p : Pg) (A4 A5 : Option Addr) (n4 c4 n5 c5 : Nat) (w : World) (hp : pageIn p) (h4 : n4 ≤ c4) (hl4 : p.rows.length = min n4 10) (h5 : n5 ≤ c5) (hl5 : p.kids.length = min n5 10) (hC4 : Kd.C k47 w A4 p.rows.length p.rows) (hC5 : Kd.C k28 w A5 p.kids.length p.kids) :
    Calls Try.prog 6 #[.agg #[.int .i64 p.k, .int .u32 p.x, .int .u32 p.y, .int .i64 p.lv, .slice A4 n4 c4, .slice A5 n5 c5, .int .u32 p.np, .string p.nt]] w fun e w' => e = .returned (.bool true) ∧ Below w.heap.size w w' :=
  RowsBack_walk p hp A4 A5 n4 c4 n5 c5 h4 hl4 h5 hl5 w hC4 hC5
end Go.Proofs.Ytmeaiancebgkoaa.H
