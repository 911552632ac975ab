/- RowsApart: the plain law and the walk. Written by rows_b2.py. -/
import Derived.Test.YtmeaiancebgkoaaC2
import Derived.Test.YtmeaiancebgkoaaSM
namespace Go.Proofs.Ytmeaiancebgkoaa.H
open Go.RowKit Go.Shelf Go.Proofs.YtmeaiancebgkoaaW.PrintWords Go.Proofs.YtmeaiancebgkoaaW.PrintLast Go.Proofs.YtmeaiancebgkoaaW.PrintMore
attribute [local go_sem] Oper.semAt_some
set_option linter.unusedVariables false
set_option linter.unusedSimpArgs false
set_option maxRecDepth 100000

/-- Two pages that may be have the same bytes if they are the same, and else they have not. -/
theorem apart_iff (p q : Pg) (hp : pageIn p) (hq : pageIn q) (h1 : rightP p = true) (h2 : rightP q = true) : (encP p).1 = (encP q).1 ↔ p = q := by
  refine ⟨fun h => ?_, fun h => by rw [h]⟩
  have a := enc_dec p h1 hp
  rw [h, enc_dec q h2 hq] at a
  exact (congrArg Prod.fst a).symm
theorem apart_b (s t : ByteArray) (b : Bool) (h : b = true ↔ s = t) : (s.toList == t.toList) = b := by
  cases b with
  | true => rw [h.1 rfl]; simp
  | false =>
    rw [← Bool.not_eq_true, bytes_eq]
    exact fun x => absurd (h.2 x) (by simp)

set_option maxHeartbeats 4000000 in
theorem RowsApart_row (p : Pg) (A4 A5 : Option Addr) (n4 c4 n5 c5 : Nat) (q : Pg) (B4 B5 : Option Addr) (m4 d4 m5 d5 : Nat) (w : World) (hp : pageIn p) (h4 : n4 ≤ c4) (hl4 : p.rows.length = min n4 10) (h5 : n5 ≤ c5) (hl5 : p.kids.length = min n5 10) (hC4 : Kd.C k47 w A4 p.rows.length p.rows) (hC5 : Kd.C k28 w A5 p.kids.length p.kids) (hq : pageIn q) (i4 : m4 ≤ d4) (jl4 : q.rows.length = min m4 10) (i5 : m5 ≤ d5) (jl5 : q.kids.length = min m5 10) (hE4 : Kd.C k47 w B4 q.rows.length q.rows) (hE5 : Kd.C k28 w B5 q.kids.length q.kids) :
    Calls Try.prog 8 #[.agg #[.int .i64 p.k, .int .u32 p.x, .int .u32 p.y, .int .i64 p.lv, .slice A4 n4 c4, .slice A5 n5 c5, .int .u32 p.np, .string p.nt], .agg #[.int .i64 q.k, .int .u32 q.x, .int .u32 q.y, .int .i64 q.lv, .slice B4 m4 d4, .slice B5 m5 d5, .int .u32 q.np, .string q.nt]] w fun e w' => e = .returned (.bool true) ∧ Below w.heap.size w w' := by
  obtain ⟨N, hN⟩ : ∃ N, w.heap.size = N := ⟨_, rfl⟩
  obtain ⟨s, e, hse⟩ : ∃ s e, encP p = (s, e) := ⟨_, _, rfl⟩
  obtain ⟨t, f, htf⟩ : ∃ t f, encP q = (t, f) := ⟨_, _, rfl⟩
  have Hse : Nat → Hid _ := fun _ => Lib.hid hse
  have Htf : Nat → Hid _ := fun _ => Lib.hid htf
  have HC4 : Nat → Hid _ := fun _ => Lib.hid hC4
  have HC5 : Nat → Hid _ := fun _ => Lib.hid hC5
  have HE4 : Nat → Hid _ := fun _ => Lib.hid hE4
  have HE5 : Nat → Hid _ := fun _ => Lib.hid hE5
  have Hl4 : Nat → Hid _ := fun _ => Lib.hid hl4
  have Hl5 : Nat → Hid _ := fun _ => Lib.hid hl5
  have Jl4 : Nat → Hid _ := fun _ => Lib.hid jl4
  have Jl5 : Nat → Hid _ := fun _ => Lib.hid jl5
  have hc4 : p.rows.length ≤ c4 := by omega
  have hc5 : p.kids.length ≤ c5 := by omega
  have hd4 : q.rows.length ≤ d4 := by omega
  have hd5 : q.kids.length ≤ d5 := by omega
  have hr10 : p.rows.length ≤ 1000 := by omega
  clear hse htf hC4 hC5 hE4 hE5 hl4 hl5 jl4 jl5
  have hb0 : Below N w ((w.alloc (.cells #[.int .i64 p.k, .int .u32 p.x, .int .u32 p.y, .int .i64 p.lv, .slice A4 n4 c4, .slice A5 n5 c5, .int .u32 p.np, .string p.nt] 30)).alloc (.cells #[.int .i64 q.k, .int .u32 q.x, .int .u32 q.y, .int .i64 q.lv, .slice B4 m4 d4, .slice B5 m5 d5, .int .u32 q.np, .string q.nt] 30)) := ((Below.refl N w).alloc (by omega) _).alloc (by rw [World.size_alloc]; omega) _
  have hP0 : PBox ((w.alloc (.cells #[.int .i64 p.k, .int .u32 p.x, .int .u32 p.y, .int .i64 p.lv, .slice A4 n4 c4, .slice A5 n5 c5, .int .u32 p.np, .string p.nt] 30)).alloc (.cells #[.int .i64 q.k, .int .u32 q.x, .int .u32 q.y, .int .i64 q.lv, .slice B4 m4 d4, .slice B5 m5 d5, .int .u32 q.np, .string q.nt] 30)) N p.k p.x p.y p.lv (.slice A4 n4 c4) (.slice A5 n5 c5) p.np p.nt := blk_alloc (by rw [← hN]; exact World.alloc_heap_new w _) _
  have hQ0 : PBox ((w.alloc (.cells #[.int .i64 p.k, .int .u32 p.x, .int .u32 p.y, .int .i64 p.lv, .slice A4 n4 c4, .slice A5 n5 c5, .int .u32 p.np, .string p.nt] 30)).alloc (.cells #[.int .i64 q.k, .int .u32 q.x, .int .u32 q.y, .int .i64 q.lv, .slice B4 m4 d4, .slice B5 m5 d5, .int .u32 q.np, .string q.nt] 30)) (N + 1) q.k q.x q.y q.lv (.slice B4 m4 d4) (.slice B5 m5 d5) q.np q.nt := by
    have h := World.alloc_heap_new (w.alloc (.cells #[.int .i64 p.k, .int .u32 p.x, .int .u32 p.y, .int .i64 p.lv, .slice A4 n4 c4, .slice A5 n5 c5, .int .u32 p.np, .string p.nt] 30)) (.cells #[.int .i64 q.k, .int .u32 q.x, .int .u32 q.y, .int .i64 q.lv, .slice B4 m4 d4, .slice B5 m5 d5, .int .u32 q.np, .string q.nt] 30)
    rw [World.size_alloc, hN] at h
    exact h
  go_enter Try.func8, Try.ntmps8
  go_wp2_with fail
  generalize (w.alloc (.cells #[.int .i64 p.k, .int .u32 p.x, .int .u32 p.y, .int .i64 p.lv, .slice A4 n4 c4, .slice A5 n5 c5, .int .u32 p.np, .string p.nt] 30)).alloc (.cells #[.int .i64 q.k, .int .u32 q.x, .int .u32 q.y, .int .i64 q.lv, .slice B4 m4 d4, .slice B5 m5 d5, .int .u32 q.np, .string q.nt] 30) = W0 at *
  refine (shown_ok W0).mono ?_
  rintro r w1 ⟨rfl, hb1⟩
  have hP1 : PBox w1 N p.k p.x p.y p.lv (.slice A4 n4 c4) (.slice A5 n5 c5) p.np p.nt := (hb1.block N (blk_lt hP0)).trans hP0
  have hQ1 : PBox w1 (N + 1) q.k q.x q.y q.lv (.slice B4 m4 d4) (.slice B5 m5 d5) q.np q.nt := (hb1.block (N + 1) (blk_lt hQ0)).trans hQ0
  have hB1 : Below N w w1 := hb0.trans (hb1.mono (by have := hb0.size; omega))
  clear hb1 hP0 hQ0 hb0
  obtain ⟨e0, e1, e2, e3, e4, e5, e6, e7⟩ := hP1.cells
  go_wp2_with fail
  refine (cut_calls p.k p.x p.y p.lv A4 n4 c4 A5 n5 c5 p.np p.nt h4 h5 w1).mono ?_
  rintro r w2 ⟨rfl, hb2⟩
  rw [← (Hl4 0).out, ← (Hl5 0).out]
  clear e0 e1 e2 e3 e4 e5 e6 e7
  have hP2 : PBox w2 N p.k p.x p.y p.lv (.slice A4 n4 c4) (.slice A5 n5 c5) p.np p.nt := (hb2.block N (blk_lt hP1)).trans hP1
  have hQ2 : PBox w2 (N + 1) q.k q.x q.y q.lv (.slice B4 m4 d4) (.slice B5 m5 d5) q.np q.nt := (hb2.block (N + 1) (blk_lt hQ1)).trans hQ1
  have hB2 : Below N w w2 := hB1.trans (hb2.mono (by have := hB1.size; omega))
  clear hb2 hP1 hQ1 hB1
  go_wp2_with fail
  refine (Enc p A4 A5 c4 c5 s e (Hse 0).out hp w2 (Kd.C_below (HC4 0).out (by rw [hN]; exact hB2)) hc4 (Kd.C_below (HC5 0).out (by rw [hN]; exact hB2)) hc5).mono ?_
  rintro r w3 ⟨rfl, hb3⟩
  have hP3 : PBox w3 N p.k p.x p.y p.lv (.slice A4 n4 c4) (.slice A5 n5 c5) p.np p.nt := (hb3.block N (blk_lt hP2)).trans hP2
  have hQ3 : PBox w3 (N + 1) q.k q.x q.y q.lv (.slice B4 m4 d4) (.slice B5 m5 d5) q.np q.nt := (hb3.block (N + 1) (blk_lt hQ2)).trans hQ2
  have hB3 : Below N w w3 := hB2.trans (hb3.mono (by have := hB2.size; omega))
  clear hb3 hP2 hQ2 hB2
  obtain ⟨e0, e1, e2, e3, e4, e5, e6, e7⟩ := hQ3.cells
  go_wp2_with fail
  refine (cut_calls q.k q.x q.y q.lv B4 m4 d4 B5 m5 d5 q.np q.nt i4 i5 w3).mono ?_
  rintro r w4 ⟨rfl, hb4⟩
  rw [← (Jl4 0).out, ← (Jl5 0).out]
  clear e0 e1 e2 e3 e4 e5 e6 e7
  have hP4 : PBox w4 N p.k p.x p.y p.lv (.slice A4 n4 c4) (.slice A5 n5 c5) p.np p.nt := (hb4.block N (blk_lt hP3)).trans hP3
  have hQ4 : PBox w4 (N + 1) q.k q.x q.y q.lv (.slice B4 m4 d4) (.slice B5 m5 d5) q.np q.nt := (hb4.block (N + 1) (blk_lt hQ3)).trans hQ3
  have hB4 : Below N w w4 := hB3.trans (hb4.mono (by have := hB3.size; omega))
  clear hb4 hP3 hQ3 hB3
  go_wp2_with fail
  refine (Enc q B4 B5 d4 d5 t f (Htf 0).out hq w4 (Kd.C_below (HE4 0).out (by rw [hN]; exact hB4)) hd4 (Kd.C_below (HE5 0).out (by rw [hN]; exact hB4)) hd5).mono ?_
  rintro r w5 ⟨rfl, hb5⟩
  have hP5 : PBox w5 N p.k p.x p.y p.lv (.slice A4 n4 c4) (.slice A5 n5 c5) p.np p.nt := (hb5.block N (blk_lt hP4)).trans hP4
  have hQ5 : PBox w5 (N + 1) q.k q.x q.y q.lv (.slice B4 m4 d4) (.slice B5 m5 d5) q.np q.nt := (hb5.block (N + 1) (blk_lt hQ4)).trans hQ4
  have hB5 : Below N w w5 := hB4.trans (hb5.mono (by have := hB4.size; omega))
  clear hb5 hP4 hQ4 hB4
  by_cases hr : rightP p = true
  case' neg =>
    have h1 := (Hse 0).out
    rw [encP_wrong hr] at h1
    obtain ⟨rfl, rfl⟩ := Prod.mk.inj h1
    clear h1
    go_upto_region 4 with fail
    refine start_ (n := 21) (S := fun _ => True) (ds := []) #[false, false, false, false, false, false, false, false, false, false, false, false, false, false, false, false, false, false, false, false, false] (by kernel_rfl) rfl rfl trivial (fun _ => ?_)
    refine pure_ (i := 0) (N := some 23) (v := ?_) (a' := ?_) #[true, false, false, false, false, false, false, false, false, false, false, false, false, false, false, false, false, false, false, false, false] rfl rfl (by kernel_rfl) (fun _ _ _ h => h) (Or.inl ⟨by rfl, ?_⟩) ?_ ?_
    rotate_left
    · intro w'
      go_simp
      try (with_reducible rfl)
    rotate_left
    · simp only [Act.put, List.setIfInBounds_toArray, List.set_cons_zero, List.set_cons_succ, List.getElem_toArray, List.getElem_cons_succ, List.getElem_cons_zero, i64_w, i32_w]
      rfl
    refine pure_ (i := 1) (N := some 24) (v := ?_) (a' := ?_) #[true, true, false, false, false, false, false, false, false, false, false, false, false, false, false, false, false, false, false, false, false] rfl rfl (by kernel_rfl) (fun _ _ _ h => h) (Or.inl ⟨by rfl, ?_⟩) ?_ ?_
    rotate_left
    · intro w'
      go_simp
      try (with_reducible rfl)
    rotate_left
    · simp only [Act.put, List.setIfInBounds_toArray, List.set_cons_zero, List.set_cons_succ, List.getElem_toArray, List.getElem_cons_succ, List.getElem_cons_zero, i64_w, i32_w]
      rfl
    refine pure_ (i := 2) (N := some 25) (v := ?_) (a' := ?_) #[true, true, true, false, false, false, false, false, false, false, false, false, false, false, false, false, false, false, false, false, false] rfl rfl (by kernel_rfl) (fun _ _ _ h => h) (Or.inl ⟨by rfl, ?_⟩) ?_ ?_
    rotate_left
    · intro w'
      go_simp
      try (with_reducible rfl)
    rotate_left
    · simp only [Act.put, List.setIfInBounds_toArray, List.set_cons_zero, List.set_cons_succ, List.getElem_toArray, List.getElem_cons_succ, List.getElem_cons_zero, i64_w, i32_w]
      rfl
    refine pure_ (i := 3) (N := some 26) (v := ?_) (a' := ?_) #[true, true, true, true, false, false, false, false, false, false, false, false, false, false, false, false, false, false, false, false, false] rfl rfl (by kernel_rfl) (fun _ _ _ h => h) (Or.inl ⟨by rfl, ?_⟩) ?_ ?_
    rotate_left
    · intro w'
      go_simp
      try (with_reducible rfl)
    rotate_left
    · simp only [Act.put, List.setIfInBounds_toArray, List.set_cons_zero, List.set_cons_succ, List.getElem_toArray, List.getElem_cons_succ, List.getElem_cons_zero, i64_w, i32_w]
      rfl
    refine pure_ (i := 4) (N := some 27) (v := ?_) (a' := ?_) #[true, true, true, true, true, false, false, false, false, false, false, false, false, false, false, false, false, false, false, false, false] rfl rfl (by kernel_rfl) (fun _ _ _ h => h) (Or.inl ⟨by rfl, ?_⟩) ?_ ?_
    rotate_left
    · intro w'
      go_simp
      try (with_reducible rfl)
    rotate_left
    · simp only [Act.put, List.setIfInBounds_toArray, List.set_cons_zero, List.set_cons_succ, List.getElem_toArray, List.getElem_cons_succ, List.getElem_cons_zero, i64_w, i32_w]
      rfl
    refine pure_ (i := 5) (N := some 28) (v := undef) (a' := ?_) #[true, true, true, true, true, true, false, false, false, false, false, false, false, false, false, false, false, false, false, false, false] rfl rfl (by kernel_rfl) (fun _ _ _ h => h) (Or.inr ⟨by rfl, rfl⟩) ?_ ?_
    rotate_left
    · simp only [Act.put, List.setIfInBounds_toArray, List.set_cons_zero, List.set_cons_succ, i64_w, i32_w]
      rfl
    refine pure_ (i := 6) (N := some 29) (v := undef) (a' := ?_) #[true, true, true, true, true, true, true, false, false, false, false, false, false, false, false, false, false, false, false, false, false] rfl rfl (by kernel_rfl) (fun _ _ _ h => h) (Or.inr ⟨by rfl, rfl⟩) ?_ ?_
    rotate_left
    · simp only [Act.put, List.setIfInBounds_toArray, List.set_cons_zero, List.set_cons_succ, i64_w, i32_w]
      rfl
    refine pure_ (i := 7) (N := some 30) (v := ?_) (a' := ?_) #[true, true, true, true, true, true, true, true, false, false, false, false, false, false, false, false, false, false, false, false, false] rfl rfl (by kernel_rfl) (fun _ _ _ h => h) (Or.inl ⟨by rfl, ?_⟩) ?_ ?_
    rotate_left
    · intro w'
      go_simp
      try (with_reducible rfl)
    rotate_left
    · simp only [Act.put, List.setIfInBounds_toArray, List.set_cons_zero, List.set_cons_succ, List.getElem_toArray, List.getElem_cons_succ, List.getElem_cons_zero, i64_w, i32_w]
      rfl
    refine pure_ (i := 8) (N := some 31) (v := ?_) (a' := ?_) #[true, true, true, true, true, true, true, true, true, false, false, false, false, false, false, false, false, false, false, false, false] rfl rfl (by kernel_rfl) (fun _ _ _ h => h) (Or.inl ⟨by rfl, ?_⟩) ?_ ?_
    rotate_left
    · intro w'
      go_simp
      try (with_reducible rfl)
    rotate_left
    · simp only [Act.put, List.setIfInBounds_toArray, List.set_cons_zero, List.set_cons_succ, List.getElem_toArray, List.getElem_cons_succ, List.getElem_cons_zero, i64_w, i32_w]
      rfl
    refine pure_ (i := 9) (N := some 32) (v := undef) (a' := ?_) #[true, true, true, true, true, true, true, true, true, true, false, false, false, false, false, false, false, false, false, false, false] rfl rfl (by kernel_rfl) (fun _ _ _ h => h) (Or.inr ⟨by rfl, rfl⟩) ?_ ?_
    rotate_left
    · simp only [Act.put, List.setIfInBounds_toArray, List.set_cons_zero, List.set_cons_succ, i64_w, i32_w]
      rfl
    refine pure_ (i := 10) (N := some 33) (v := undef) (a' := ?_) #[true, true, true, true, true, true, true, true, true, true, true, false, false, false, false, false, false, false, false, false, false] rfl rfl (by kernel_rfl) (fun _ _ _ h => h) (Or.inr ⟨by rfl, rfl⟩) ?_ ?_
    rotate_left
    · simp only [Act.put, List.setIfInBounds_toArray, List.set_cons_zero, List.set_cons_succ, i64_w, i32_w]
      rfl
    refine pure_ (i := 11) (N := some 34) (v := undef) (a' := ?_) #[true, true, true, true, true, true, true, true, true, true, true, true, false, false, false, false, false, false, false, false, false] rfl rfl (by kernel_rfl) (fun _ _ _ h => h) (Or.inr ⟨by rfl, rfl⟩) ?_ ?_
    rotate_left
    · simp only [Act.put, List.setIfInBounds_toArray, List.set_cons_zero, List.set_cons_succ, i64_w, i32_w]
      rfl
    refine pure_ (i := 12) (N := some 35) (v := undef) (a' := ?_) #[true, true, true, true, true, true, true, true, true, true, true, true, true, false, false, false, false, false, false, false, false] rfl rfl (by kernel_rfl) (fun _ _ _ h => h) (Or.inr ⟨by rfl, rfl⟩) ?_ ?_
    rotate_left
    · simp only [Act.put, List.setIfInBounds_toArray, List.set_cons_zero, List.set_cons_succ, i64_w, i32_w]
      rfl
    refine pure_ (i := 13) (N := some 36) (v := undef) (a' := ?_) #[true, true, true, true, true, true, true, true, true, true, true, true, true, true, false, false, false, false, false, false, false] rfl rfl (by kernel_rfl) (fun _ _ _ h => h) (Or.inr ⟨by rfl, rfl⟩) ?_ ?_
    rotate_left
    · simp only [Act.put, List.setIfInBounds_toArray, List.set_cons_zero, List.set_cons_succ, i64_w, i32_w]
      rfl
    refine pure_ (i := 14) (N := some 37) (v := undef) (a' := ?_) #[true, true, true, true, true, true, true, true, true, true, true, true, true, true, true, false, false, false, false, false, false] rfl rfl (by kernel_rfl) (fun _ _ _ h => h) (Or.inr ⟨by rfl, rfl⟩) ?_ ?_
    rotate_left
    · simp only [Act.put, List.setIfInBounds_toArray, List.set_cons_zero, List.set_cons_succ, i64_w, i32_w]
      rfl
    refine pure_ (i := 15) (N := some 38) (v := undef) (a' := ?_) #[true, true, true, true, true, true, true, true, true, true, true, true, true, true, true, true, false, false, false, false, false] rfl rfl (by kernel_rfl) (fun _ _ _ h => h) (Or.inr ⟨by rfl, rfl⟩) ?_ ?_
    rotate_left
    · simp only [Act.put, List.setIfInBounds_toArray, List.set_cons_zero, List.set_cons_succ, i64_w, i32_w]
      rfl
    refine pure_ (i := 16) (N := some 39) (v := undef) (a' := ?_) #[true, true, true, true, true, true, true, true, true, true, true, true, true, true, true, true, true, false, false, false, false] rfl rfl (by kernel_rfl) (fun _ _ _ h => h) (Or.inr ⟨by rfl, rfl⟩) ?_ ?_
    rotate_left
    · simp only [Act.put, List.setIfInBounds_toArray, List.set_cons_zero, List.set_cons_succ, i64_w, i32_w]
      rfl
    refine pure_ (i := 17) (N := some 40) (v := undef) (a' := ?_) #[true, true, true, true, true, true, true, true, true, true, true, true, true, true, true, true, true, true, false, false, false] rfl rfl (by kernel_rfl) (fun _ _ _ h => h) (Or.inr ⟨by rfl, rfl⟩) ?_ ?_
    rotate_left
    · simp only [Act.put, List.setIfInBounds_toArray, List.set_cons_zero, List.set_cons_succ, i64_w, i32_w]
      rfl
    refine pure_ (i := 18) (N := some 41) (v := ?_) (a' := ?_) #[true, true, true, true, true, true, true, true, true, true, true, true, true, true, true, true, true, true, true, false, false] rfl rfl (by kernel_rfl) (fun _ _ _ h => h) (Or.inl ⟨by rfl, ?_⟩) ?_ ?_
    rotate_left
    · intro w'
      go_simp
      try (with_reducible rfl)
    rotate_left
    · simp only [Act.put, List.setIfInBounds_toArray, List.set_cons_zero, List.set_cons_succ, List.getElem_toArray, List.getElem_cons_succ, List.getElem_cons_zero, i64_w, i32_w]
      rfl
    refine pure_ (i := 19) (N := some 42) (v := ?_) (a' := ?_) #[true, true, true, true, true, true, true, true, true, true, true, true, true, true, true, true, true, true, true, true, false] rfl rfl (by kernel_rfl) (fun _ _ _ h => h) (Or.inl ⟨by rfl, ?_⟩) ?_ ?_
    rotate_left
    · intro w'
      go_simp
      try (with_reducible rfl)
    rotate_left
    · simp only [Act.put, List.setIfInBounds_toArray, List.set_cons_zero, List.set_cons_succ, List.getElem_toArray, List.getElem_cons_succ, List.getElem_cons_zero, i64_w, i32_w]
      rfl
    refine pure_ (i := 20) (N := some 4) (v := ?_) (a' := ?_) #[true, true, true, true, true, true, true, true, true, true, true, true, true, true, true, true, true, true, true, true, true] rfl rfl (by kernel_rfl) (fun _ _ _ h => h) (Or.inl ⟨by rfl, ?_⟩) ?_ ?_
    rotate_left
    · intro w'
      go_simp
      try (with_reducible rfl)
    rotate_left
    · simp only [Act.put, List.setIfInBounds_toArray, List.set_cons_zero, List.set_cons_succ, List.getElem_toArray, List.getElem_cons_succ, List.getElem_cons_zero, i64_w, i32_w]
      rfl
    refine done_ (by kernel_rfl) ?_
    go_wp2
    go_ret
    exact ⟨by simp, by rw [hN]; exact Below.drew hB5⟩
  have h1 := (Hse 0).out
  rw [encP_right hr] at h1
  obtain ⟨hs, rfl⟩ := Prod.mk.inj h1
  clear h1 hs
  by_cases hu : rightP q = true
  case' neg =>
    have h1 := (Htf 0).out
    rw [encP_wrong hu] at h1
    obtain ⟨rfl, rfl⟩ := Prod.mk.inj h1
    clear h1
    go_upto_region 4 with fail
    refine start_ (n := 21) (S := fun _ => True) (ds := []) #[false, false, false, false, false, false, false, false, false, false, false, false, false, false, false, false, false, false, false, false, false] (by kernel_rfl) rfl rfl trivial (fun _ => ?_)
    refine pure_ (i := 0) (N := some 23) (v := ?_) (a' := ?_) #[true, false, false, false, false, false, false, false, false, false, false, false, false, false, false, false, false, false, false, false, false] rfl rfl (by kernel_rfl) (fun _ _ _ h => h) (Or.inl ⟨by rfl, ?_⟩) ?_ ?_
    rotate_left
    · intro w'
      go_simp
      try (with_reducible rfl)
    rotate_left
    · simp only [Act.put, List.setIfInBounds_toArray, List.set_cons_zero, List.set_cons_succ, List.getElem_toArray, List.getElem_cons_succ, List.getElem_cons_zero, i64_w, i32_w]
      rfl
    refine pure_ (i := 1) (N := some 24) (v := ?_) (a' := ?_) #[true, true, false, false, false, false, false, false, false, false, false, false, false, false, false, false, false, false, false, false, false] rfl rfl (by kernel_rfl) (fun _ _ _ h => h) (Or.inl ⟨by rfl, ?_⟩) ?_ ?_
    rotate_left
    · intro w'
      go_simp
      try (with_reducible rfl)
    rotate_left
    · simp only [Act.put, List.setIfInBounds_toArray, List.set_cons_zero, List.set_cons_succ, List.getElem_toArray, List.getElem_cons_succ, List.getElem_cons_zero, i64_w, i32_w]
      rfl
    refine pure_ (i := 2) (N := some 25) (v := ?_) (a' := ?_) #[true, true, true, false, false, false, false, false, false, false, false, false, false, false, false, false, false, false, false, false, false] rfl rfl (by kernel_rfl) (fun _ _ _ h => h) (Or.inl ⟨by rfl, ?_⟩) ?_ ?_
    rotate_left
    · intro w'
      go_simp
      try (with_reducible rfl)
    rotate_left
    · simp only [Act.put, List.setIfInBounds_toArray, List.set_cons_zero, List.set_cons_succ, List.getElem_toArray, List.getElem_cons_succ, List.getElem_cons_zero, i64_w, i32_w]
      rfl
    refine pure_ (i := 3) (N := some 26) (v := ?_) (a' := ?_) #[true, true, true, true, false, false, false, false, false, false, false, false, false, false, false, false, false, false, false, false, false] rfl rfl (by kernel_rfl) (fun _ _ _ h => h) (Or.inl ⟨by rfl, ?_⟩) ?_ ?_
    rotate_left
    · intro w'
      go_simp
      try (with_reducible rfl)
    rotate_left
    · simp only [Act.put, List.setIfInBounds_toArray, List.set_cons_zero, List.set_cons_succ, List.getElem_toArray, List.getElem_cons_succ, List.getElem_cons_zero, i64_w, i32_w]
      rfl
    refine pure_ (i := 4) (N := some 27) (v := ?_) (a' := ?_) #[true, true, true, true, true, false, false, false, false, false, false, false, false, false, false, false, false, false, false, false, false] rfl rfl (by kernel_rfl) (fun _ _ _ h => h) (Or.inl ⟨by rfl, ?_⟩) ?_ ?_
    rotate_left
    · intro w'
      go_simp
      try (with_reducible rfl)
    rotate_left
    · simp only [Act.put, List.setIfInBounds_toArray, List.set_cons_zero, List.set_cons_succ, List.getElem_toArray, List.getElem_cons_succ, List.getElem_cons_zero, i64_w, i32_w]
      rfl
    refine pure_ (i := 5) (N := some 28) (v := ?_) (a' := ?_) #[true, true, true, true, true, true, false, false, false, false, false, false, false, false, false, false, false, false, false, false, false] rfl rfl (by kernel_rfl) (fun _ _ _ h => h) (Or.inl ⟨by rfl, ?_⟩) ?_ ?_
    rotate_left
    · intro w'
      go_simp
      try (with_reducible rfl)
    rotate_left
    · simp only [Act.put, List.setIfInBounds_toArray, List.set_cons_zero, List.set_cons_succ, List.getElem_toArray, List.getElem_cons_succ, List.getElem_cons_zero, i64_w, i32_w]
      rfl
    refine pure_ (i := 6) (N := some 29) (v := ?_) (a' := ?_) #[true, true, true, true, true, true, true, false, false, false, false, false, false, false, false, false, false, false, false, false, false] rfl rfl (by kernel_rfl) (fun _ _ _ h => h) (Or.inl ⟨by rfl, ?_⟩) ?_ ?_
    rotate_left
    · intro w'
      go_simp
      try (with_reducible rfl)
    rotate_left
    · simp only [Act.put, List.setIfInBounds_toArray, List.set_cons_zero, List.set_cons_succ, List.getElem_toArray, List.getElem_cons_succ, List.getElem_cons_zero, i64_w, i32_w]
      rfl
    refine pure_ (i := 7) (N := some 30) (v := ?_) (a' := ?_) #[true, true, true, true, true, true, true, true, false, false, false, false, false, false, false, false, false, false, false, false, false] rfl rfl (by kernel_rfl) (fun _ _ _ h => h) (Or.inl ⟨by rfl, ?_⟩) ?_ ?_
    rotate_left
    · intro w'
      go_simp
      try (with_reducible rfl)
    rotate_left
    · simp only [Act.put, List.setIfInBounds_toArray, List.set_cons_zero, List.set_cons_succ, List.getElem_toArray, List.getElem_cons_succ, List.getElem_cons_zero, i64_w, i32_w]
      rfl
    refine pure_ (i := 8) (N := some 31) (v := ?_) (a' := ?_) #[true, true, true, true, true, true, true, true, true, false, false, false, false, false, false, false, false, false, false, false, false] rfl rfl (by kernel_rfl) (fun _ _ _ h => h) (Or.inl ⟨by rfl, ?_⟩) ?_ ?_
    rotate_left
    · intro w'
      go_simp
      try (with_reducible rfl)
    rotate_left
    · simp only [Act.put, List.setIfInBounds_toArray, List.set_cons_zero, List.set_cons_succ, List.getElem_toArray, List.getElem_cons_succ, List.getElem_cons_zero, i64_w, i32_w]
      rfl
    refine pure_ (i := 9) (N := some 32) (v := undef) (a' := ?_) #[true, true, true, true, true, true, true, true, true, true, false, false, false, false, false, false, false, false, false, false, false] rfl rfl (by kernel_rfl) (fun _ _ _ h => h) (Or.inr ⟨by rfl, rfl⟩) ?_ ?_
    rotate_left
    · simp only [Act.put, List.setIfInBounds_toArray, List.set_cons_zero, List.set_cons_succ, i64_w, i32_w]
      rfl
    refine pure_ (i := 10) (N := some 33) (v := undef) (a' := ?_) #[true, true, true, true, true, true, true, true, true, true, true, false, false, false, false, false, false, false, false, false, false] rfl rfl (by kernel_rfl) (fun _ _ _ h => h) (Or.inr ⟨by rfl, rfl⟩) ?_ ?_
    rotate_left
    · simp only [Act.put, List.setIfInBounds_toArray, List.set_cons_zero, List.set_cons_succ, i64_w, i32_w]
      rfl
    refine pure_ (i := 11) (N := some 34) (v := undef) (a' := ?_) #[true, true, true, true, true, true, true, true, true, true, true, true, false, false, false, false, false, false, false, false, false] rfl rfl (by kernel_rfl) (fun _ _ _ h => h) (Or.inr ⟨by rfl, rfl⟩) ?_ ?_
    rotate_left
    · simp only [Act.put, List.setIfInBounds_toArray, List.set_cons_zero, List.set_cons_succ, i64_w, i32_w]
      rfl
    refine pure_ (i := 12) (N := some 35) (v := undef) (a' := ?_) #[true, true, true, true, true, true, true, true, true, true, true, true, true, false, false, false, false, false, false, false, false] rfl rfl (by kernel_rfl) (fun _ _ _ h => h) (Or.inr ⟨by rfl, rfl⟩) ?_ ?_
    rotate_left
    · simp only [Act.put, List.setIfInBounds_toArray, List.set_cons_zero, List.set_cons_succ, i64_w, i32_w]
      rfl
    refine pure_ (i := 13) (N := some 36) (v := undef) (a' := ?_) #[true, true, true, true, true, true, true, true, true, true, true, true, true, true, false, false, false, false, false, false, false] rfl rfl (by kernel_rfl) (fun _ _ _ h => h) (Or.inr ⟨by rfl, rfl⟩) ?_ ?_
    rotate_left
    · simp only [Act.put, List.setIfInBounds_toArray, List.set_cons_zero, List.set_cons_succ, i64_w, i32_w]
      rfl
    refine pure_ (i := 14) (N := some 37) (v := undef) (a' := ?_) #[true, true, true, true, true, true, true, true, true, true, true, true, true, true, true, false, false, false, false, false, false] rfl rfl (by kernel_rfl) (fun _ _ _ h => h) (Or.inr ⟨by rfl, rfl⟩) ?_ ?_
    rotate_left
    · simp only [Act.put, List.setIfInBounds_toArray, List.set_cons_zero, List.set_cons_succ, i64_w, i32_w]
      rfl
    refine pure_ (i := 15) (N := some 38) (v := undef) (a' := ?_) #[true, true, true, true, true, true, true, true, true, true, true, true, true, true, true, true, false, false, false, false, false] rfl rfl (by kernel_rfl) (fun _ _ _ h => h) (Or.inr ⟨by rfl, rfl⟩) ?_ ?_
    rotate_left
    · simp only [Act.put, List.setIfInBounds_toArray, List.set_cons_zero, List.set_cons_succ, i64_w, i32_w]
      rfl
    refine pure_ (i := 16) (N := some 39) (v := undef) (a' := ?_) #[true, true, true, true, true, true, true, true, true, true, true, true, true, true, true, true, true, false, false, false, false] rfl rfl (by kernel_rfl) (fun _ _ _ h => h) (Or.inr ⟨by rfl, rfl⟩) ?_ ?_
    rotate_left
    · simp only [Act.put, List.setIfInBounds_toArray, List.set_cons_zero, List.set_cons_succ, i64_w, i32_w]
      rfl
    refine pure_ (i := 17) (N := some 40) (v := undef) (a' := ?_) #[true, true, true, true, true, true, true, true, true, true, true, true, true, true, true, true, true, true, false, false, false] rfl rfl (by kernel_rfl) (fun _ _ _ h => h) (Or.inr ⟨by rfl, rfl⟩) ?_ ?_
    rotate_left
    · simp only [Act.put, List.setIfInBounds_toArray, List.set_cons_zero, List.set_cons_succ, i64_w, i32_w]
      rfl
    refine pure_ (i := 18) (N := some 41) (v := ?_) (a' := ?_) #[true, true, true, true, true, true, true, true, true, true, true, true, true, true, true, true, true, true, true, false, false] rfl rfl (by kernel_rfl) (fun _ _ _ h => h) (Or.inl ⟨by rfl, ?_⟩) ?_ ?_
    rotate_left
    · intro w'
      go_simp
      try (with_reducible rfl)
    rotate_left
    · simp only [Act.put, List.setIfInBounds_toArray, List.set_cons_zero, List.set_cons_succ, List.getElem_toArray, List.getElem_cons_succ, List.getElem_cons_zero, i64_w, i32_w]
      rfl
    refine pure_ (i := 19) (N := some 42) (v := ?_) (a' := ?_) #[true, true, true, true, true, true, true, true, true, true, true, true, true, true, true, true, true, true, true, true, false] rfl rfl (by kernel_rfl) (fun _ _ _ h => h) (Or.inl ⟨by rfl, ?_⟩) ?_ ?_
    rotate_left
    · intro w'
      go_simp
      try (with_reducible rfl)
    rotate_left
    · simp only [Act.put, List.setIfInBounds_toArray, List.set_cons_zero, List.set_cons_succ, List.getElem_toArray, List.getElem_cons_succ, List.getElem_cons_zero, i64_w, i32_w]
      rfl
    refine pure_ (i := 20) (N := some 4) (v := ?_) (a' := ?_) #[true, true, true, true, true, true, true, true, true, true, true, true, true, true, true, true, true, true, true, true, true] rfl rfl (by kernel_rfl) (fun _ _ _ h => h) (Or.inl ⟨by rfl, ?_⟩) ?_ ?_
    rotate_left
    · intro w'
      go_simp
      try (with_reducible rfl)
    rotate_left
    · simp only [Act.put, List.setIfInBounds_toArray, List.set_cons_zero, List.set_cons_succ, List.getElem_toArray, List.getElem_cons_succ, List.getElem_cons_zero, i64_w, i32_w]
      rfl
    refine done_ (by kernel_rfl) ?_
    go_wp2
    go_ret
    exact ⟨by simp, by rw [hN]; exact Below.drew hB5⟩
  have h1 := (Htf 0).out
  rw [encP_right hu] at h1
  obtain ⟨ht, rfl⟩ := Prod.mk.inj h1
  clear h1 ht
  obtain ⟨b, hb⟩ : ∃ b : Bool, b = true ↔ p = q := by
    by_cases h : p = q
    · exact ⟨true, by simp [h]⟩
    · exact ⟨false, by simp [h]⟩
  have hst : (s.toList == t.toList) = b := by
    refine apart_b s t b (hb.trans ?_)
    have := apart_iff p q hp hq hr hu
    rw [(Hse 0).out, (Htf 0).out] at this
    exact this.symm
  have Hst : Nat → Hid _ := fun _ => Lib.hid hst
  have hbb : (b == b) = true := by cases b <;> rfl
  have Hb : Nat → Hid _ := fun _ => Lib.hid hb
  clear hb
  have hbd : Below w5.heap.size w5 w5.drew := Below.drew (Below.refl _ _)
  have hP : PBox w5.drew N p.k p.x p.y p.lv (.slice A4 n4 c4) (.slice A5 n5 c5) p.np p.nt := (hbd.block N (blk_lt hP5)).trans hP5
  have hQ : PBox w5.drew (N + 1) q.k q.x q.y q.lv (.slice B4 m4 d4) (.slice B5 m5 d5) q.np q.nt := (hbd.block (N + 1) (blk_lt hQ5)).trans hQ5
  have hB : Below N w w5.drew := hB5.trans (hbd.mono (by have := hB5.size; omega))
  clear hP5 hQ5 hB5 hbd
  go_upto_region 4 with fail
  refine start_ (n := 21) (S := fun V_ => (PBox V_ N p.k p.x p.y p.lv (.slice A4 n4 c4) (.slice A5 n5 c5) p.np p.nt) ∧ (PBox V_ (N + 1) q.k q.x q.y q.lv (.slice B4 m4 d4) (.slice B5 m5 d5) q.np q.nt)) (ds := [16]) #[false, false, false, false, false, false, false, false, false, false, false, false, false, false, false, false, false, false, false, false, false] (by kernel_rfl) rfl rfl ⟨hP, hQ⟩ (fun hHeld => ?_)
  generalize w5.drew = W at hHeld hP hQ hB ⊢
  refine pure_ (i := 0) (N := some 23) (v := ?_) (a' := ?_) #[true, false, false, false, false, false, false, false, false, false, false, false, false, false, false, false, false, false, false, false, false] rfl rfl (by kernel_rfl) (fun _ _ _ h => h) (Or.inl ⟨by rfl, ?_⟩) ?_ ?_
  rotate_left
  · intro w'
    go_simp
    try (with_reducible rfl)
  rotate_left
  · simp only [Act.put, List.setIfInBounds_toArray, List.set_cons_zero, List.set_cons_succ, i64_w, i32_w]
    rfl
  refine pure_ (i := 1) (N := some 24) (v := ?_) (a' := ?_) #[true, true, false, false, false, false, false, false, false, false, false, false, false, false, false, false, false, false, false, false, false] rfl rfl (by kernel_rfl) (fun _ _ _ h => h) (Or.inl ⟨by rfl, ?_⟩) ?_ ?_
  rotate_left
  · intro w'
    go_simp
    try (with_reducible rfl)
  rotate_left
  · simp only [Act.put, List.setIfInBounds_toArray, List.set_cons_zero, List.set_cons_succ, i64_w, i32_w]
    rfl
  refine pure_ (i := 2) (N := some 25) (v := ?_) (a' := ?_) #[true, true, true, false, false, false, false, false, false, false, false, false, false, false, false, false, false, false, false, false, false] rfl rfl (by kernel_rfl) (fun _ _ _ h => h) (Or.inl ⟨by rfl, ?_⟩) ?_ ?_
  rotate_left
  · intro w'
    go_simp
    try (with_reducible rfl)
  rotate_left
  · simp only [Act.put, List.setIfInBounds_toArray, List.set_cons_zero, List.set_cons_succ, i64_w, i32_w]
    rfl
  refine pure_ (i := 3) (N := some 26) (v := ?_) (a' := ?_) #[true, true, true, true, false, false, false, false, false, false, false, false, false, false, false, false, false, false, false, false, false] rfl rfl (by kernel_rfl) (fun _ _ _ h => h) (Or.inl ⟨by rfl, ?_⟩) ?_ ?_
  rotate_left
  · intro w'
    go_simp
    try (with_reducible rfl)
  rotate_left
  · simp only [Act.put, List.setIfInBounds_toArray, List.set_cons_zero, List.set_cons_succ, i64_w, i32_w]
    rfl
  refine pure_ (i := 4) (N := some 27) (v := ?_) (a' := ?_) #[true, true, true, true, true, false, false, false, false, false, false, false, false, false, false, false, false, false, false, false, false] rfl rfl (by kernel_rfl) (fun _ _ _ h => h) (Or.inl ⟨by rfl, ?_⟩) ?_ ?_
  rotate_left
  · intro w'
    go_simp
    try (with_reducible rfl)
  rotate_left
  · simp only [Act.put, List.setIfInBounds_toArray, List.set_cons_zero, List.set_cons_succ, i64_w, i32_w]
    rfl
  refine pure_ (i := 5) (N := some 28) (v := ?_) (a' := ?_) #[true, true, true, true, true, true, false, false, false, false, false, false, false, false, false, false, false, false, false, false, false] rfl rfl (by kernel_rfl) (fun _ _ _ h => h) (Or.inl ⟨by rfl, ?_⟩) ?_ ?_
  rotate_left
  · intro w'
    go_simp
    try (with_reducible rfl)
  rotate_left
  · simp only [Act.put, List.setIfInBounds_toArray, List.set_cons_zero, List.set_cons_succ, i64_w, i32_w]
    rfl
  refine pure_ (i := 6) (N := some 29) (v := ?_) (a' := ?_) #[true, true, true, true, true, true, true, false, false, false, false, false, false, false, false, false, false, false, false, false, false] rfl rfl (by kernel_rfl) (fun _ _ _ h => h) (Or.inl ⟨by rfl, ?_⟩) ?_ ?_
  rotate_left
  · intro w'
    go_simp
    try (with_reducible rfl)
  rotate_left
  · simp only [Act.put, List.setIfInBounds_toArray, List.set_cons_zero, List.set_cons_succ, i64_w, i32_w]
    rfl
  refine pure_ (i := 7) (N := some 30) (v := ?_) (a' := ?_) #[true, true, true, true, true, true, true, true, false, false, false, false, false, false, false, false, false, false, false, false, false] rfl rfl (by kernel_rfl) (fun _ _ _ h => h) (Or.inl ⟨by rfl, ?_⟩) ?_ ?_
  rotate_left
  · intro w'
    go_simp
    try (with_reducible rfl)
  rotate_left
  · simp only [Act.put, List.setIfInBounds_toArray, List.set_cons_zero, List.set_cons_succ, i64_w, i32_w]
    rfl
  refine pure_ (i := 8) (N := some 31) (v := ?_) (a' := ?_) #[true, true, true, true, true, true, true, true, true, false, false, false, false, false, false, false, false, false, false, false, false] rfl rfl (by kernel_rfl) (fun _ _ _ h => h) (Or.inl ⟨by rfl, ?_⟩) ?_ ?_
  rotate_left
  · intro w'
    go_simp
    try (with_reducible rfl)
  rotate_left
  · simp only [Act.put, List.setIfInBounds_toArray, List.set_cons_zero, List.set_cons_succ, i64_w, i32_w]
    rfl
  refine pure_ (i := 9) (N := some 32) (v := ?_) (a' := ?_) #[true, true, true, true, true, true, true, true, true, true, false, false, false, false, false, false, false, false, false, false, false] rfl rfl (by kernel_rfl) (fun _ _ _ h => h) (Or.inl ⟨by rfl, ?_⟩) ?_ ?_
  rotate_left
  · intro w'
    go_simp
    try (with_reducible rfl)
  rotate_left
  · simp only [Act.put, List.setIfInBounds_toArray, List.set_cons_zero, List.set_cons_succ, i64_w, i32_w]
    rfl
  refine pure_ (i := 10) (N := some 33) (v := ?_) (a' := ?_) #[true, true, true, true, true, true, true, true, true, true, true, false, false, false, false, false, false, false, false, false, false] rfl rfl (by kernel_rfl) (fun _ _ _ h => h) (Or.inl ⟨by rfl, ?_⟩) ?_ ?_
  rotate_left
  · intro w'
    go_simp
    try (with_reducible rfl)
  rotate_left
  · simp only [Act.put, List.setIfInBounds_toArray, List.set_cons_zero, List.set_cons_succ, i64_w, i32_w]
    rfl
  refine pure_ (i := 11) (N := some 34) (v := ?_) (a' := ?_) #[true, true, true, true, true, true, true, true, true, true, true, true, false, false, false, false, false, false, false, false, false] rfl rfl (by kernel_rfl) (fun _ _ _ h => h) (Or.inl ⟨by rfl, ?_⟩) ?_ ?_
  rotate_left
  · intro w'
    go_simp
    try (with_reducible rfl)
  rotate_left
  · simp only [Act.put, List.setIfInBounds_toArray, List.set_cons_zero, List.set_cons_succ, i64_w, i32_w]
    rfl
  refine take_ (i := 12) (N := some 35) (v := ?_) (a' := ?_) #[true, true, true, true, true, true, true, true, true, true, true, true, true, false, false, false, false, false, false, false, false] rfl rfl (by kernel_rfl) (fun _ _ _ h => h) (Or.inl ⟨by rfl, ?_⟩) hHeld ?_ ?_
  rotate_left
  · intro w' hS_
    obtain ⟨e0, e1, e2, e3, e4, e5, e6, e7⟩ := hS_.1.cells; obtain ⟨f0, f1, f2, f3, f4, f5, f6, f7⟩ := hS_.2.cells; have ez := hS_.1.frozen; have fz := hS_.2.frozen
    go_simp
    try (with_reducible rfl)
  rotate_left
  · simp only [Act.put, List.setIfInBounds_toArray, List.set_cons_zero, List.set_cons_succ, i64_w, i32_w]
    rfl
  refine take_ (i := 14) (N := some 37) (v := ?_) (a' := ?_) #[true, true, true, true, true, true, true, true, true, true, true, true, true, false, true, false, false, false, false, false, false] rfl rfl (by kernel_rfl) (fun _ _ _ h => h) (Or.inl ⟨by rfl, ?_⟩) hHeld ?_ ?_
  rotate_left
  · intro w' hS_
    obtain ⟨e0, e1, e2, e3, e4, e5, e6, e7⟩ := hS_.1.cells; obtain ⟨f0, f1, f2, f3, f4, f5, f6, f7⟩ := hS_.2.cells; have ez := hS_.1.frozen; have fz := hS_.2.frozen
    go_simp
    try (with_reducible rfl)
  rotate_left
  · simp only [Act.put, List.setIfInBounds_toArray, List.set_cons_zero, List.set_cons_succ, i64_w, i32_w]
    rfl
  refine one_ (i := 13) (N := some 36) #[true, true, true, true, true, true, true, true, true, true, true, true, true, true, true, false, false, false, false, false, false] rfl rfl (by kernel_rfl) (by decide) (fun K hK => ?_)
  refine goes_ Try.func14 (by kernel_rfl) rfl #[.agg #[.int .i64 p.k, .int .u32 p.x, .int .u32 p.y, .int .i64 p.lv, .slice A4 n4 c4, .slice A5 n5 c5, .int .u32 p.np, .string p.nt]] (by rfl) rfl rfl (by (try simp only [List.map_toArray, List.map_cons, List.map_nil]); first | done | rfl) ?_
  refine (cut_calls p.k p.x p.y p.lv A4 n4 c4 A5 n5 c5 p.np p.nt h4 h5 W).mono ?_
  rintro e W_1 ⟨rfl, hb1⟩
  refine ⟨_, rfl, ?_⟩
  rw [← (Hl4 0).out, ← (Hl5 0).out]
  have hP1 : PBox W_1 N p.k p.x p.y p.lv (.slice A4 n4 c4) (.slice A5 n5 c5) p.np p.nt := (hb1.block N (blk_lt hP)).trans hP
  have hQ1 : PBox W_1 (N + 1) q.k q.x q.y q.lv (.slice B4 m4 d4) (.slice B5 m5 d5) q.np q.nt := (hb1.block (N + 1) (blk_lt hQ)).trans hQ
  have hB1 : Below N w W_1 := hB.trans (hb1.mono (by have := hB.size; omega))
  refine hK.out _ _ ⟨hP1, hQ1⟩ (fun hHeld1 => ?_)
  clear hK K hHeld hP hQ hB hb1
  refine one_ (i := 15) (N := some 38) #[true, true, true, true, true, true, true, true, true, true, true, true, true, true, true, true, false, false, false, false, false] rfl rfl (by kernel_rfl) (by decide) (fun K hK => ?_)
  refine goes_ Try.func14 (by kernel_rfl) rfl #[.agg #[.int .i64 q.k, .int .u32 q.x, .int .u32 q.y, .int .i64 q.lv, .slice B4 m4 d4, .slice B5 m5 d5, .int .u32 q.np, .string q.nt]] (by rfl) rfl rfl (by (try simp only [List.map_toArray, List.map_cons, List.map_nil]); first | done | rfl) ?_
  refine (cut_calls q.k q.x q.y q.lv B4 m4 d4 B5 m5 d5 q.np q.nt i4 i5 W_1).mono ?_
  rintro e W_2 ⟨rfl, hb2⟩
  refine ⟨_, rfl, ?_⟩
  rw [← (Jl4 0).out, ← (Jl5 0).out]
  have hP12 : PBox W_2 N p.k p.x p.y p.lv (.slice A4 n4 c4) (.slice A5 n5 c5) p.np p.nt := (hb2.block N (blk_lt hP1)).trans hP1
  have hQ12 : PBox W_2 (N + 1) q.k q.x q.y q.lv (.slice B4 m4 d4) (.slice B5 m5 d5) q.np q.nt := (hb2.block (N + 1) (blk_lt hQ1)).trans hQ1
  have hB12 : Below N w W_2 := hB1.trans (hb2.mono (by have := hB1.size; omega))
  refine hK.out _ _ ⟨hP12, hQ12⟩ (fun _ => ?_)
  clear hK K hHeld1 hP1 hQ1 hB1 hb2 hP12 hQ12
  refine last_ (i := 16) (N := some 39) #[true, true, true, true, true, true, true, true, true, true, true, true, true, true, true, true, true, false, false, false, false] rfl rfl (by kernel_rfl) (by decide) (fun K hK => ?_)
  refine goes_ Try.func20 (by kernel_rfl) rfl #[.agg #[.int .i64 p.k, .int .u32 p.x, .int .u32 p.y, .int .i64 p.lv, .slice A4 p.rows.length c4, .slice A5 p.kids.length c5, .int .u32 p.np, .string p.nt], .agg #[.int .i64 q.k, .int .u32 q.x, .int .u32 q.y, .int .i64 q.lv, .slice B4 q.rows.length d4, .slice B5 q.kids.length d5, .int .u32 q.np, .string q.nt]] (by rfl) rfl rfl (by (try simp only [List.map_toArray, List.map_cons, List.map_nil]); first | done | rfl) ?_
  refine (Same_ok p q hp hr10 b (Hb 0).out A4 A5 B4 B5 c4 c5 d4 d5 W_2 (Kd.C_below (HC4 0).out (by rw [hN]; exact hB12)) hc4 (Kd.C_below (HC5 0).out (by rw [hN]; exact hB12)) hc5 (Kd.C_below (HE4 0).out (by rw [hN]; exact hB12)) hd4 (Kd.C_below (HE5 0).out (by rw [hN]; exact hB12)) hd5).mono ?_
  rintro e W_3 ⟨rfl, hb3⟩
  refine ⟨_, rfl, ?_⟩
  have hB13 : Below N w W_3 := hB12.trans (hb3.mono (by have := hB12.size; omega))
  refine hK.out _ _ ?_
  clear hK K hB12 hb3
  refine pure_ (i := 17) (N := some 40) (v := ?_) (a' := ?_) #[true, true, true, true, true, true, true, true, true, true, true, true, true, true, true, true, true, true, false, false, false] rfl rfl (by kernel_rfl) (fun _ _ _ h => h) (Or.inl ⟨by rfl, ?_⟩) ?_ ?_
  rotate_left
  · intro w'
    go_simp
    try (with_reducible rfl)
  rotate_left
  · simp only [Act.put, List.setIfInBounds_toArray, List.set_cons_zero, List.set_cons_succ, List.getElem_toArray, List.getElem_cons_succ, List.getElem_cons_zero, i64_w, i32_w]
    rfl
  refine pure_ (i := 18) (N := some 41) (v := ?_) (a' := ?_) #[true, true, true, true, true, true, true, true, true, true, true, true, true, true, true, true, true, true, true, false, false] rfl rfl (by kernel_rfl) (fun _ _ _ h => h) (Or.inl ⟨by rfl, ?_⟩) ?_ ?_
  rotate_left
  · intro w'
    go_simp
    try (with_reducible rfl)
  rotate_left
  · simp only [Act.put, List.setIfInBounds_toArray, List.set_cons_zero, List.set_cons_succ, List.getElem_toArray, List.getElem_cons_succ, List.getElem_cons_zero, i64_w, i32_w]
    rfl
  refine pure_ (i := 19) (N := some 42) (v := ?_) (a' := ?_) #[true, true, true, true, true, true, true, true, true, true, true, true, true, true, true, true, true, true, true, true, false] rfl rfl (by kernel_rfl) (fun _ _ _ h => h) (Or.inl ⟨by rfl, ?_⟩) ?_ ?_
  rotate_left
  · intro w'
    go_simp
    try (with_reducible rfl)
  rotate_left
  · simp only [Act.put, List.setIfInBounds_toArray, List.set_cons_zero, List.set_cons_succ, List.getElem_toArray, List.getElem_cons_succ, List.getElem_cons_zero, i64_w, i32_w]
    rfl
  refine pure_ (i := 20) (N := some 4) (v := ?_) (a' := ?_) #[true, true, true, true, true, true, true, true, true, true, true, true, true, true, true, true, true, true, true, true, true] rfl rfl (by kernel_rfl) (fun _ _ _ h => h) (Or.inl ⟨by rfl, ?_⟩) ?_ ?_
  rotate_left
  · intro w'
    go_simp
    try (with_reducible rfl)
  rotate_left
  · simp only [Act.put, List.setIfInBounds_toArray, List.set_cons_zero, List.set_cons_succ, List.getElem_toArray, List.getElem_cons_succ, List.getElem_cons_zero, i64_w, i32_w]
    rfl
  refine done_ (by kernel_rfl) ?_
  go_wp2
  go_ret
  exact ⟨by simp, by rw [hN]; exact hB13⟩
end Go.Proofs.Ytmeaiancebgkoaa.H
