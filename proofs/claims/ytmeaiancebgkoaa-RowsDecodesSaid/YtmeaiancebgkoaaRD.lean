/- rows.Decode: the walk. Written by rows_rd.py. -/
import Derived.Test.YtmeaiancebgkoaaPG
namespace Go.Proofs.Ytmeaiancebgkoaa.H
open Go.RowKit Go.Shelf Go.Proofs.YtmeaiancebgkoaaW.PrintWords Go.Proofs.YtmeaiancebgkoaaW.PrintLast Go.Proofs.YtmeaiancebgkoaaW.PrintMore
attribute [local go_sem] Oper.semAt_some
set_option linter.unusedVariables false
set_option linter.unusedSimpArgs false
set_option maxRecDepth 100000

theorem page_ok (R : Nat) (st : RSt) (w0 w : World) (hI : IsR w0 w R st) (hB : Below w0.heap.size w0 w) (p : Pg) (st' : RSt) (hp : pageS st = (p, st')) :
    Calls Try.prog 34 #[.pointer (some ⟨R, 0, none⟩)] w fun e w' => ∃ v4 v5, e = .returned (.agg #[.int .i64 p.k, .int .u32 p.x, .int .u32 p.y, .int .i64 p.lv, v4, v5, .int .u32 p.np, .string p.nt]) ∧
      Kd.R k47 47 w' w0.heap.size (fun _ => True) v4 p.rows ∧ Kd.R k28 28 w' w0.heap.size (fun _ => True) v5 p.kids ∧ IsR w0 w' R st' ∧ Below w0.heap.size w0 w' := by
  obtain ⟨⟨k, s1⟩, h1⟩ : ∃ q, getS st 1 = q := ⟨_, rfl⟩
  obtain ⟨⟨n, s2⟩, h2⟩ : ∃ q, getS s1 1 = q := ⟨_, rfl⟩
  have hps : pageS st = if k = 2 then innerS s2 n else leafS s2 k n := by
    unfold pageS
    rw [h1]
    simp only
    rw [h2]
  rw [hps] at hp
  by_cases hk : k = 2
  · subst hk
    rw [if_pos rfl] at hp
    obtain ⟨⟨lv, s3⟩, h3⟩ : ∃ q, getS s2 1 = q := ⟨_, rfl⟩
    obtain ⟨⟨x, s4⟩, h4⟩ : ∃ q, getS s3 4 = q := ⟨_, rfl⟩
    obtain ⟨⟨y, s5⟩, h5⟩ : ∃ q, getS s4 4 = q := ⟨_, rfl⟩
    have hin : innerS s2 n = (⟨2, x, y, lv, [], (kidsAt s5 (min n 5)).1, 0, ⟨#[]⟩⟩, (kidsAt s5 (min n 5)).2) := by
      unfold innerS
      rw [h3]
      simp only
      rw [h4]
      simp only
      rw [h5]
    rw [hin] at hp
    obtain ⟨rfl, rfl⟩ := Prod.mk.inj hp
    exact page_inner R st w0 w hI hB n s1 s2 h1 h2 lv s3 h3 x s4 h4 y s5 h5
  · rw [if_neg hk] at hp
    obtain ⟨⟨⟨rp, rt⟩, s3⟩, h3⟩ : ∃ q, refS s2 = q := ⟨_, rfl⟩
    have hlf : leafS s2 k n = (⟨k, 0, 0, 0, rowsTo s3 (readTo s3 n n 0), [], rp, if rp = 0 ∧ rt = zeros 32 then ⟨#[]⟩ else rt⟩, stAt s3 (readTo s3 n n 0)) := by
      unfold leafS
      rw [h3]
    rw [hlf] at hp
    obtain ⟨rfl, rfl⟩ := Prod.mk.inj hp
    exact page_leaf R st w0 w hI hB k n s1 s2 h1 h2 hk rp rt s3 h3 _ rfl
theorem pageS_kids (st : RSt) : (pageS st).1.kids.length ≤ 1000 := by
  unfold pageS
  simp only
  split
  · show (kidsAt _ _).1.length ≤ 1000
    rw [kidsAt_length]
    omega
  · exact Nat.zero_le _

set_option maxHeartbeats 4000000 in
theorem Decode_bad (s : ByteArray) (p : Pg) (u : ByteArray) (b : Bool) (hp : pageS (s, false) = (p, u, b)) (w : World) (hbad : ¬ (b = false ∧ u.size = 0 ∧ rightP p = true)) :
    Calls Try.prog 18 #[.string s] w fun e w' => ∃ v4_ v5_ : Value, e = .returned (.tuple #[.agg #[.int .i64 0, .int .u32 0, .int .u32 0, .int .i64 0, v4_, v5_, .int .u32 0, .string ⟨#[]⟩], .int .i64 90]) ∧ Kd.R k47 47 w' w.heap.size (fun _ => True) v4_ [] ∧ Kd.R k28 28 w' w.heap.size (fun _ => True) v5_ [] ∧ Below w.heap.size w w' := by
  obtain ⟨N, hN⟩ : ∃ N, w.heap.size = N := ⟨_, rfl⟩
  have hR := Right_f p 6 (by decide) (by have := pageS_kids (s, false); rw [hp] at this; exact this)
  have HR : Nat → Hid _ := fun _ => Lib.hid hR
  have Hp : Nat → Hid _ := fun _ => Lib.hid hp
  obtain ⟨W0, hW0⟩ : ∃ W0, w.alloc (.cells #[.int .i64 0, .int .u32 0, .int .u32 0, .int .i64 0, .slice none 0 0, .slice none 0 0, .int .u32 0, .string ⟨#[]⟩] 30) = W0 := ⟨_, rfl⟩
  have hs0 : W0.heap.size = N + 1 := by rw [← hW0, World.size_alloc, hN]
  have hb0 : Below N w W0 := by rw [← hW0]; exact (Below.refl N w).alloc (by omega) _
  have hQ0 : PBox W0 N 0 0 0 0 (.slice none 0 0) (.slice none 0 0) 0 ⟨#[]⟩ := by rw [← hW0, ← hN]; exact World.alloc_heap_new w _
  have hb1 : Below W0.heap.size W0 (W0.alloc (.cells #[.string s, .bool false] 66)) := (Below.refl _ W0).alloc (Nat.le_refl _) _
  have hI : IsR W0 (W0.alloc (.cells #[.string s, .bool false] 66)) (N + 1) (s, false) := ⟨by rw [← hs0]; exact World.alloc_heap_new W0 _, by omega⟩
  clear hR hp
  go_enter Try.func18, Try.ntmps18
  go_wp2_with fail
  generalize W0.alloc (.cells #[.string s, .bool false] 66) = W1 at *
  refine (page_ok (N + 1) (s, false) W0 W1 hI hb1 p (u, b) (Hp 0).out).mono ?_
  rintro e W2 ⟨v4, v5, rfl, hO4, hO5, hI2, hB2⟩
  have hQ2 : PBox W2 N 0 0 0 0 (.slice none 0 0) (.slice none 0 0) 0 ⟨#[]⟩ := (hB2.block N (by omega)).trans hQ0
  have hBw : Below N w W2 := hb0.trans (hB2.mono (by omega))
  obtain ⟨A4, c4, rfl, hc4, hC4⟩ := Kd.R_reads hO4
  obtain ⟨A5, c5, rfl, hc5, hC5⟩ := Kd.R_reads hO5
  obtain ⟨B, hB⟩ : ∃ B, W2.heap.size = B := ⟨_, rfl⟩
  have hNB : N + 1 < B := by rw [← hB]; exact hI2.lt
  have hb3 : Below W2.heap.size W2 (W2.alloc (.cells #[.int .i64 p.k, .int .u32 p.x, .int .u32 p.y, .int .i64 p.lv, .slice A4 p.rows.length c4, .slice A5 p.kids.length c5, .int .u32 p.np, .string p.nt] 30)) := (Below.refl _ W2).alloc (Nat.le_refl _) _
  have hP3 : PBox (W2.alloc (.cells #[.int .i64 p.k, .int .u32 p.x, .int .u32 p.y, .int .i64 p.lv, .slice A4 p.rows.length c4, .slice A5 p.kids.length c5, .int .u32 p.np, .string p.nt] 30)) B p.k p.x p.y p.lv (.slice A4 p.rows.length c4) (.slice A5 p.kids.length c5) p.np p.nt := by rw [← hB]; exact World.alloc_heap_new W2 _
  obtain ⟨W3, hW3⟩ : ∃ W3, W2.alloc (.cells #[.int .i64 p.k, .int .u32 p.x, .int .u32 p.y, .int .i64 p.lv, .slice A4 p.rows.length c4, .slice A5 p.kids.length c5, .int .u32 p.np, .string p.nt] 30) = W3 := ⟨_, rfl⟩
  rw [hW3] at hb3 hP3
  have hQ3 : PBox W3 N 0 0 0 0 (.slice none 0 0) (.slice none 0 0) 0 ⟨#[]⟩ := (hb3.block N (blk_lt hQ2)).trans hQ2
  have hI3 := hI2.below hb3
  have hC4' := Kd.C_below hC4 hb3
  have hC5' := Kd.C_below hC5 hb3
  have hO4' := Kd.R_below hO4 hb3
  have hO5' := Kd.R_below hO5 hb3
  have hBw3 : Below N w W3 := hBw.trans (hb3.mono (by omega))
  have HO4 : Nat → Hid _ := fun _ => Lib.hid hO4'
  have HO5 : Nat → Hid _ := fun _ => Lib.hid hO5'
  have HC4 : Nat → Hid _ := fun _ => Lib.hid hC4'
  have HC5 : Nat → Hid _ := fun _ => Lib.hid hC5'
  have HQ3 : Nat → Hid _ := fun _ => Lib.hid hQ3
  have HP3 : Nat → Hid _ := fun _ => Lib.hid hP3
  have r0 : W3.cell? ⟨N + 1, 0, none⟩ = some (.string u) := cellS66_0 hI3.1
  have r1 : W3.cell? ⟨N + 1, 1, none⟩ = some (.bool b) := cellS66_1 hI3.1
  obtain ⟨e0, e1, e2, e3, e4, e5, e6, e7⟩ := hP3.cells
  obtain ⟨q0, q1, q2, q3, q4, q5, q6, q7⟩ := hQ3.cells
  have ez := hQ3.frozen
  clear hb1 hI hO4 hO5 hI2 hB2 hQ2 hBw hC4 hC5 hb0 hQ0 hQ3 hI3 hC4' hC5' hO4' hO5' hP3 hb3 hW0
  have hend : ∀ V : World, Below W3.heap.size W3 V → ∃ v4_ v5_ : Value, Ending.returned (.tuple #[.agg #[.int .i64 0, .int .u32 0, .int .u32 0, .int .i64 0, .slice none 0 0, .slice none 0 0, .int .u32 0, .string ⟨#[]⟩], .int .i64 90]) = .returned (.tuple #[.agg #[.int .i64 0, .int .u32 0, .int .u32 0, .int .i64 0, v4_, v5_, .int .u32 0, .string ⟨#[]⟩], .int .i64 90]) ∧ Kd.R k47 47 (fillW V N 0 0 0 0 (.slice none 0 0) (.slice none 0 0) 0 ⟨#[]⟩) w.heap.size (fun _ => True) v4_ [] ∧ Kd.R k28 28 (fillW V N 0 0 0 0 (.slice none 0 0) (.slice none 0 0) 0 ⟨#[]⟩) w.heap.size (fun _ => True) v5_ [] ∧ Below w.heap.size w (fillW V N 0 0 0 0 (.slice none 0 0) (.slice none 0 0) 0 ⟨#[]⟩) := fun V hV =>
    ⟨_, _, rfl, Kd.R_nil _ _ _ _ _, Kd.R_nil _ _ _ _ _, below_fill (by rw [hN]; exact hBw3.trans (hV.mono (by have := hBw3.size; omega))) (by omega) _ _ _ _ _ _ _ _⟩
  cases b
  case' false =>
    by_cases hu : u.size = 0
    case' pos =>
      have hr : rightP p = false := by
        cases h : rightP p
        · rfl
        · exact absurd ⟨rfl, hu, h⟩ hbad
      rw [hr] at HR
      obtain rfl : u = ⟨#[]⟩ := by obtain ⟨⟨l⟩⟩ := u; simp [ByteArray.size] at hu; rw [hu]
    case' neg =>
      have hu1 : (u.toList == ([] : List UInt8)) = false := beq_eq_false_iff_ne.2 (fun h => hu (by rw [ba_size, ← Lib.toList_data, h]; rfl))
      have hu2 : (u.toList != ([] : List UInt8)) = true := by rw [bne, hu1]; rfl
      have hu3 : ¬ u.toList = [] := fun h => hu (by rw [ba_size, ← Lib.toList_data, h]; rfl)
      go_wp2
      refine bodyPost_ret (results_ct rfl _ _ N 30 #[.int .i64 0, .int .u32 0, .int .u32 0, .int .i64 0, .slice none 0 0, .slice none 0 0, .int .u32 0, .string ⟨#[]⟩] (0, 0) _ rfl (PBox.fill (HQ3 0).out 0 0 0 0 (.slice none 0 0) (.slice none 0 0) 0 ⟨#[]⟩) Try.underlying30 rfl (by kernel_rfl)) rfl ?_
      exact hend W3 (Below.refl _ _)
  case true =>
    go_wp2
    refine bodyPost_ret (results_ct rfl _ _ N 30 #[.int .i64 0, .int .u32 0, .int .u32 0, .int .i64 0, .slice none 0 0, .slice none 0 0, .int .u32 0, .string ⟨#[]⟩] (0, 0) _ rfl (PBox.fill (HQ3 0).out 0 0 0 0 (.slice none 0 0) (.slice none 0 0) 0 ⟨#[]⟩) Try.underlying30 rfl (by kernel_rfl)) rfl ?_
    exact hend W3 (Below.refl _ _)
  go_wp2_with fail
  refine (rows_Right.calls 6 p.k p.x p.y p.lv A4 c4 p.rows A5 c5 p.kids p.np p.nt false W3 (HC4 0).out hc4 (HC5 0).out hc5 (HR 0).out).mono ?_
  rintro e W4 ⟨rfl, hb4⟩
  have hQ4 : PBox W4 N 0 0 0 0 (.slice none 0 0) (.slice none 0 0) 0 ⟨#[]⟩ := (hb4.block N (blk_lt (HQ3 0).out)).trans (HQ3 0).out
  have HQ4 : Nat → Hid _ := fun _ => Lib.hid hQ4
  clear q0 q1 q2 q3 q4 q5 q6 q7 ez e0 e1 e2 e3 e4 e5 e6 e7 r0 r1
  obtain ⟨q0, q1, q2, q3, q4, q5, q6, q7⟩ := hQ4.cells
  have ez := hQ4.frozen
  clear hQ4
  go_wp2
  refine bodyPost_ret (results_ct rfl _ _ N 30 #[.int .i64 0, .int .u32 0, .int .u32 0, .int .i64 0, .slice none 0 0, .slice none 0 0, .int .u32 0, .string ⟨#[]⟩] (0, 0) _ rfl (PBox.fill (HQ4 0).out 0 0 0 0 (.slice none 0 0) (.slice none 0 0) 0 ⟨#[]⟩) Try.underlying30 rfl (by kernel_rfl)) rfl ?_
  exact hend W4 hb4

set_option maxHeartbeats 4000000 in
theorem Decode_good (s : ByteArray) (p : Pg) (hp : pageS (s, false) = (p, ⟨#[]⟩, false)) (w : World) (hr : rightP p = true) :
    Calls Try.prog 18 #[.string s] w fun e w' => ∃ v4_ v5_ : Value, e = .returned (.tuple #[.agg #[.int .i64 p.k, .int .u32 p.x, .int .u32 p.y, .int .i64 p.lv, v4_, v5_, .int .u32 p.np, .string p.nt], .int .i64 0]) ∧ Kd.R k47 47 w' w.heap.size (fun _ => True) v4_ p.rows ∧ Kd.R k28 28 w' w.heap.size (fun _ => True) v5_ p.kids ∧ Below w.heap.size w w' := by
  obtain ⟨N, hN⟩ : ∃ N, w.heap.size = N := ⟨_, rfl⟩
  have hR := Right_f p 6 (by decide) (by have := pageS_kids (s, false); rw [hp] at this; exact this)
  rw [hr] at hR
  have HR : Nat → Hid _ := fun _ => Lib.hid hR
  have Hp : Nat → Hid _ := fun _ => Lib.hid hp
  obtain ⟨W0, hW0⟩ : ∃ W0, w.alloc (.cells #[.int .i64 0, .int .u32 0, .int .u32 0, .int .i64 0, .slice none 0 0, .slice none 0 0, .int .u32 0, .string ⟨#[]⟩] 30) = W0 := ⟨_, rfl⟩
  have hs0 : W0.heap.size = N + 1 := by rw [← hW0, World.size_alloc, hN]
  have hb0 : Below N w W0 := by rw [← hW0]; exact (Below.refl N w).alloc (by omega) _
  have hQ0 : PBox W0 N 0 0 0 0 (.slice none 0 0) (.slice none 0 0) 0 ⟨#[]⟩ := by rw [← hW0, ← hN]; exact World.alloc_heap_new w _
  have hb1 : Below W0.heap.size W0 (W0.alloc (.cells #[.string s, .bool false] 66)) := (Below.refl _ W0).alloc (Nat.le_refl _) _
  have hI : IsR W0 (W0.alloc (.cells #[.string s, .bool false] 66)) (N + 1) (s, false) := ⟨by rw [← hs0]; exact World.alloc_heap_new W0 _, by omega⟩
  clear hR hp
  go_enter Try.func18, Try.ntmps18
  go_wp2_with fail
  generalize W0.alloc (.cells #[.string s, .bool false] 66) = W1 at *
  refine (page_ok (N + 1) (s, false) W0 W1 hI hb1 p (⟨#[]⟩, false) (Hp 0).out).mono ?_
  rintro e W2 ⟨v4, v5, rfl, hO4, hO5, hI2, hB2⟩
  have hQ2 : PBox W2 N 0 0 0 0 (.slice none 0 0) (.slice none 0 0) 0 ⟨#[]⟩ := (hB2.block N (by omega)).trans hQ0
  have hBw : Below N w W2 := hb0.trans (hB2.mono (by omega))
  obtain ⟨A4, c4, rfl, hc4, hC4⟩ := Kd.R_reads hO4
  obtain ⟨A5, c5, rfl, hc5, hC5⟩ := Kd.R_reads hO5
  obtain ⟨B, hB⟩ : ∃ B, W2.heap.size = B := ⟨_, rfl⟩
  have hNB : N + 1 < B := by rw [← hB]; exact hI2.lt
  have hb3 : Below W2.heap.size W2 (W2.alloc (.cells #[.int .i64 p.k, .int .u32 p.x, .int .u32 p.y, .int .i64 p.lv, .slice A4 p.rows.length c4, .slice A5 p.kids.length c5, .int .u32 p.np, .string p.nt] 30)) := (Below.refl _ W2).alloc (Nat.le_refl _) _
  have hP3 : PBox (W2.alloc (.cells #[.int .i64 p.k, .int .u32 p.x, .int .u32 p.y, .int .i64 p.lv, .slice A4 p.rows.length c4, .slice A5 p.kids.length c5, .int .u32 p.np, .string p.nt] 30)) B p.k p.x p.y p.lv (.slice A4 p.rows.length c4) (.slice A5 p.kids.length c5) p.np p.nt := by rw [← hB]; exact World.alloc_heap_new W2 _
  obtain ⟨W3, hW3⟩ : ∃ W3, W2.alloc (.cells #[.int .i64 p.k, .int .u32 p.x, .int .u32 p.y, .int .i64 p.lv, .slice A4 p.rows.length c4, .slice A5 p.kids.length c5, .int .u32 p.np, .string p.nt] 30) = W3 := ⟨_, rfl⟩
  rw [hW3] at hb3 hP3
  have hQ3 : PBox W3 N 0 0 0 0 (.slice none 0 0) (.slice none 0 0) 0 ⟨#[]⟩ := (hb3.block N (blk_lt hQ2)).trans hQ2
  have hI3 := hI2.below hb3
  have hC4' := Kd.C_below hC4 hb3
  have hC5' := Kd.C_below hC5 hb3
  have hO4' := Kd.R_below hO4 hb3
  have hO5' := Kd.R_below hO5 hb3
  have hBw3 : Below N w W3 := hBw.trans (hb3.mono (by omega))
  have HO4 : Nat → Hid _ := fun _ => Lib.hid hO4'
  have HO5 : Nat → Hid _ := fun _ => Lib.hid hO5'
  have HC4 : Nat → Hid _ := fun _ => Lib.hid hC4'
  have HC5 : Nat → Hid _ := fun _ => Lib.hid hC5'
  have HQ3 : Nat → Hid _ := fun _ => Lib.hid hQ3
  have HP3 : Nat → Hid _ := fun _ => Lib.hid hP3
  have r0 : W3.cell? ⟨N + 1, 0, none⟩ = some (.string ⟨#[]⟩) := cellS66_0 hI3.1
  have r1 : W3.cell? ⟨N + 1, 1, none⟩ = some (.bool false) := cellS66_1 hI3.1
  obtain ⟨e0, e1, e2, e3, e4, e5, e6, e7⟩ := hP3.cells
  obtain ⟨q0, q1, q2, q3, q4, q5, q6, q7⟩ := hQ3.cells
  have ez := hQ3.frozen
  clear hb1 hI hO4 hO5 hI2 hB2 hQ2 hBw hC4 hC5 hb0 hQ0 hQ3 hI3 hC4' hC5' hO4' hO5' hP3 hb3 hW0
  go_wp2_with fail
  refine (rows_Right.calls 6 p.k p.x p.y p.lv A4 c4 p.rows A5 c5 p.kids p.np p.nt true W3 (HC4 0).out hc4 (HC5 0).out hc5 (HR 0).out).mono ?_
  rintro e W4 ⟨rfl, hb4⟩
  have hQ4 : PBox W4 N 0 0 0 0 (.slice none 0 0) (.slice none 0 0) 0 ⟨#[]⟩ := (hb4.block N (blk_lt (HQ3 0).out)).trans (HQ3 0).out
  have hP4 : PBox W4 B p.k p.x p.y p.lv (.slice A4 p.rows.length c4) (.slice A5 p.kids.length c5) p.np p.nt := (hb4.block B (blk_lt (HP3 0).out)).trans (HP3 0).out
  have HQ4 : Nat → Hid _ := fun _ => Lib.hid hQ4
  clear q0 q1 q2 q3 q4 q5 q6 q7 ez e0 e1 e2 e3 e4 e5 e6 e7 r0 r1
  obtain ⟨q0, q1, q2, q3, q4, q5, q6, q7⟩ := hQ4.cells
  obtain ⟨e0, e1, e2, e3, e4, e5, e6, e7⟩ := hP4.cells
  have ez := hQ4.frozen
  clear hQ4 hP4
  go_wp2
  refine bodyPost_ret (results_ct rfl _ _ N 30 #[.int .i64 p.k, .int .u32 p.x, .int .u32 p.y, .int .i64 p.lv, .slice A4 p.rows.length c4, .slice A5 p.kids.length c5, .int .u32 p.np, .string p.nt] (0, 0) _ rfl (PBox.fill (HQ4 0).out p.k p.x p.y p.lv (.slice A4 p.rows.length c4) (.slice A5 p.kids.length c5) p.np p.nt) Try.underlying30 rfl (by kernel_rfl)) rfl ?_
  refine ⟨_, _, rfl, ?_, ?_, below_fill (by rw [hN]; exact hBw3.trans (hb4.mono (by have := hBw3.size; omega))) (by omega) _ _ _ _ _ _ _ _⟩
  · exact Kd.R_lower (R47.fill (Kd.R_below (HO4 0).out hb4) (HQ4 0).out _ _ _ _ _ _ _ _) (by omega)
  · exact Kd.R_lower (R28.fill (Kd.R_below (HO5 0).out hb4) (HQ4 0).out _ _ _ _ _ _ _ _) (by omega)

theorem rows_Decode.calls (a0 : ByteArray) (r1 : Int) (r2 : Int) (r3 : Int) (r4 : Int) (r5 : List (S47)) (r6 : List (S28)) (r7 : Int) (r8 : ByteArray) (r9 : Int) (w : World) (h : rows_Decode.f a0 = some (r1, r2, r3, r4, r5, r6, r7, r8, r9)) :
    Calls Try.prog 18 #[.string a0] w fun e w' => ∃ v4_ v5_ : Value, e = .returned (.tuple #[.agg #[.int .i64 r1, .int .u32 r2, .int .u32 r3, .int .i64 r4, v4_, v5_, .int .u32 r7, .string r8], .int .i64 r9]) ∧ Kd.R k47 47 w' w.heap.size (fun _ => True) v4_ r5 ∧ Kd.R k28 28 w' w.heap.size (fun _ => True) v5_ r6 ∧ Below w.heap.size w w' := by
  unfold rows_Decode.f at h
  simp only [Option.some.injEq, Prod.mk.injEq] at h
  obtain ⟨rfl, rfl, rfl, rfl, rfl, rfl, rfl, rfl, rfl⟩ := h
  obtain ⟨⟨p, u, b⟩, hp⟩ : ∃ q, pageS (a0, false) = q := ⟨_, rfl⟩
  have hd : decP a0 = if b = false ∧ u.size = 0 ∧ rightP p = true then (p, 0) else (pgNil, 90) := by
    unfold decP
    rw [hp]
  rw [hd]
  by_cases hc : b = false ∧ u.size = 0 ∧ rightP p = true
  · rw [if_pos hc]
    obtain ⟨rfl, hu, hr⟩ := hc
    obtain rfl : u = ⟨#[]⟩ := by obtain ⟨⟨l⟩⟩ := u; simp [ByteArray.size] at hu; rw [hu]
    exact Decode_good a0 p hp w hr
  · rw [if_neg hc]
    exact Decode_bad a0 p u b hp w hc
end Go.Proofs.Ytmeaiancebgkoaa.H
