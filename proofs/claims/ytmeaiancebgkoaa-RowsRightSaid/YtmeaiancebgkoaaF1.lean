/- RowsRight: the walk. Written by rows_f1.py. -/
import Derived.Test.YtmeaiancebgkoaaC1
import Derived.Test.YtmeaiancebgkoaaE1
import Derived.Test.YtmeaiancebgkoaaFR
namespace Go.Proofs.Ytmeaiancebgkoaa.H
open Go.RowKit Go.Shelf Go.Proofs.YtmeaiancebgkoaaW.PrintWords Go.Proofs.YtmeaiancebgkoaaW.PrintLast Go.Proofs.YtmeaiancebgkoaaW.PrintMore
attribute [local go_sem] Oper.semAt_some
set_option linter.unusedVariables false
set_option linter.unusedSimpArgs false
set_option maxRecDepth 100000

theorem RightR_ok (p : Pg) (b : Bool) (hp : pageIn p) (hr : p.rows.length ≤ 1000) (hb : rightP p = b) (A4 A5 : Option Addr) (c4 c5 : Nat) (w : World) (h4 : Kd.C k47 w A4 p.rows.length p.rows) (hc4 : p.rows.length ≤ c4) (h5 : Kd.C k28 w A5 p.kids.length p.kids) (hc5 : p.kids.length ≤ c5) :
    Calls Try.prog 15 #[.agg #[.int .i64 p.k, .int .u32 p.x, .int .u32 p.y, .int .i64 p.lv, .slice A4 p.rows.length c4, .slice A5 p.kids.length c5, .int .u32 p.np, .string p.nt]] w fun e w' => e = .returned (.bool b) ∧ Below w.heap.size w w' :=
  sphragisref10_Right.calls (p.rows.length + p.kids.length + 4) p.k p.x p.y p.lv A4 c4 p.rows A5 c5 p.kids p.np p.nt b w h4 hc4 h5 hc5 (by rw [rightR_f p hp _ (by omega) (by omega) (by omega), hb])
theorem ref_cells {w : World} {n : Nat} {a : Int} {t : ByteArray} (h : w.heap[n]? = some (.cells #[.int .u32 a, .string t] 28 (0, 0))) : w.cell? ⟨n, 0, none⟩ = some (.int .u32 a) ∧ w.cell? ⟨n, 1, none⟩ = some (.string t) ∧ w.frozen? ⟨n, 0, none⟩ = false := by
  refine ⟨?_, ?_, ?_⟩ <;> simp [World.cell?, World.frozen?, h]

set_option maxHeartbeats 4000000 in
theorem RowsRight_walk (p : Pg) (A4 A5 : Option Addr) (n4 c4 n5 c5 : Nat) (a : Int) (t : ByteArray) (w : World) (hp : pageIn p) (h4 : n4 ≤ c4) (hl4 : p.rows.length = min n4 10) (h5 : n5 ≤ c5) (hl5 : p.kids.length = min n5 10) (hC4 : Kd.C k47 w A4 p.rows.length p.rows) (hC5 : Kd.C k28 w A5 p.kids.length p.kids) :
    Calls Try.prog 3 #[.agg #[.int .i64 p.k, .int .u32 p.x, .int .u32 p.y, .int .i64 p.lv, .slice A4 n4 c4, .slice A5 n5 c5, .int .u32 p.np, .string p.nt], .agg #[.int .u32 a, .string t]] w fun e w' => e = .returned (.bool true) ∧ Below w.heap.size w w' := by
  obtain ⟨N, hN⟩ : ∃ N, w.heap.size = N := ⟨_, rfl⟩
  obtain ⟨b, hb⟩ : ∃ b, rightP p = b := ⟨_, rfl⟩
  obtain ⟨d, hd⟩ : ∃ d, refOK a t = d := ⟨_, rfl⟩
  have hbb : (b == b) = true := by cases b <;> rfl
  have hdd : (d == d) = true := by cases d <;> rfl
  have HC4 : Nat → Hid _ := fun _ => Lib.hid hC4
  have HC5 : Nat → Hid _ := fun _ => Lib.hid hC5
  have Hl4 : Nat → Hid _ := fun _ => Lib.hid hl4
  have Hl5 : Nat → Hid _ := fun _ => Lib.hid hl5
  have Hb : Nat → Hid _ := fun _ => Lib.hid hb
  have Hd : Nat → Hid _ := fun _ => Lib.hid hd
  have hc4 : p.rows.length ≤ c4 := by omega
  have hc5 : p.kids.length ≤ c5 := by omega
  have hr10 : p.rows.length ≤ 1000 := by omega
  clear hC4 hC5 hl4 hl5 hb hd
  have hb0 : Below N w ((w.alloc (.cells #[.int .i64 p.k, .int .u32 p.x, .int .u32 p.y, .int .i64 p.lv, .slice A4 n4 c4, .slice A5 n5 c5, .int .u32 p.np, .string p.nt] 30)).alloc (.cells #[.int .u32 a, .string t] 28)) := ((Below.refl N w).alloc (by omega) _).alloc (by rw [World.size_alloc]; omega) _
  have hP0 : PBox ((w.alloc (.cells #[.int .i64 p.k, .int .u32 p.x, .int .u32 p.y, .int .i64 p.lv, .slice A4 n4 c4, .slice A5 n5 c5, .int .u32 p.np, .string p.nt] 30)).alloc (.cells #[.int .u32 a, .string t] 28)) N p.k p.x p.y p.lv (.slice A4 n4 c4) (.slice A5 n5 c5) p.np p.nt := blk_alloc (by rw [← hN]; exact World.alloc_heap_new w _) _
  have hQ0 : ((w.alloc (.cells #[.int .i64 p.k, .int .u32 p.x, .int .u32 p.y, .int .i64 p.lv, .slice A4 n4 c4, .slice A5 n5 c5, .int .u32 p.np, .string p.nt] 30)).alloc (.cells #[.int .u32 a, .string t] 28)).heap[(N + 1)]? = some (.cells #[.int .u32 a, .string t] 28 (0, 0)) := by
    have h := World.alloc_heap_new (w.alloc (.cells #[.int .i64 p.k, .int .u32 p.x, .int .u32 p.y, .int .i64 p.lv, .slice A4 n4 c4, .slice A5 n5 c5, .int .u32 p.np, .string p.nt] 30)) (.cells #[.int .u32 a, .string t] 28)
    rw [World.size_alloc, hN] at h
    exact h
  go_enter Try.func3, Try.ntmps3
  go_wp2_with fail
  generalize (w.alloc (.cells #[.int .i64 p.k, .int .u32 p.x, .int .u32 p.y, .int .i64 p.lv, .slice A4 n4 c4, .slice A5 n5 c5, .int .u32 p.np, .string p.nt] 30)).alloc (.cells #[.int .u32 a, .string t] 28) = W0 at *
  refine (shown_ok W0).mono ?_
  rintro r w1 ⟨rfl, hb1⟩
  replace hb1 := Below.drew hb1
  have hP : PBox w1.drew N p.k p.x p.y p.lv (.slice A4 n4 c4) (.slice A5 n5 c5) p.np p.nt := (hb1.block N (blk_lt hP0)).trans hP0
  have hQ : w1.drew.heap[(N + 1)]? = some (.cells #[.int .u32 a, .string t] 28 (0, 0)) := (hb1.block (N + 1) (blk_lt hQ0)).trans hQ0
  have hB : Below N w w1.drew := hb0.trans (hb1.mono (by have := hb0.size; omega))
  clear hb1 hP0 hQ0 hb0
  go_upto_region 2 with fail
  refine start_ (n := 18) (S := fun V_ => (PBox V_ N p.k p.x p.y p.lv (.slice A4 n4 c4) (.slice A5 n5 c5) p.np p.nt) ∧ (V_.heap[(N + 1)]? = some (.cells #[.int .u32 a, .string t] 28 (0, 0)))) (ds := []) #[false, false, false, false, false, false, false, false, false, false, false, false, false, false, false, false, false, false] (by kernel_rfl) rfl rfl ⟨hP, hQ⟩ (fun hHeld => ?_)
  generalize w1.drew = W at hHeld hP hQ hB ⊢
  refine pure_ (i := 0) (N := some 7) (v := ?_) (a' := ?_) #[true, false, false, false, false, false, false, false, false, false, false, false, false, false, false, false, false, false] rfl rfl (by kernel_rfl) (fun _ _ _ h => h) (Or.inl ⟨by rfl, ?_⟩) ?_ ?_
  rotate_left
  · intro w'
    go_simp
    try (with_reducible rfl)
  rotate_left
  · simp only [Act.put, List.setIfInBounds_toArray, List.set_cons_zero, List.set_cons_succ, i64_w, i32_w]
    rfl
  refine pure_ (i := 1) (N := some 8) (v := ?_) (a' := ?_) #[true, true, false, false, false, false, false, false, false, false, false, false, false, false, false, false, false, false] rfl rfl (by kernel_rfl) (fun _ _ _ h => h) (Or.inl ⟨by rfl, ?_⟩) ?_ ?_
  rotate_left
  · intro w'
    go_simp
    try (with_reducible rfl)
  rotate_left
  · simp only [Act.put, List.setIfInBounds_toArray, List.set_cons_zero, List.set_cons_succ, i64_w, i32_w]
    rfl
  refine take_ (i := 2) (N := some 9) (v := ?_) (a' := ?_) #[true, true, true, false, false, false, false, false, false, false, false, false, false, false, false, false, false, false] rfl rfl (by kernel_rfl) (fun _ _ _ h => h) (Or.inl ⟨by rfl, ?_⟩) hHeld ?_ ?_
  rotate_left
  · intro w' hS_
    obtain ⟨e0, e1, e2, e3, e4, e5, e6, e7⟩ := hS_.1.cells; obtain ⟨f0, f1, fz⟩ := ref_cells hS_.2; have ez := hS_.1.frozen
    go_simp
    try (with_reducible rfl)
  rotate_left
  · simp only [Act.put, List.setIfInBounds_toArray, List.set_cons_zero, List.set_cons_succ, i64_w, i32_w]
    rfl
  refine take_ (i := 4) (N := some 11) (v := ?_) (a' := ?_) #[true, true, true, false, true, false, false, false, false, false, false, false, false, false, false, false, false, false] rfl rfl (by kernel_rfl) (fun _ _ _ h => h) (Or.inl ⟨by rfl, ?_⟩) hHeld ?_ ?_
  rotate_left
  · intro w' hS_
    obtain ⟨e0, e1, e2, e3, e4, e5, e6, e7⟩ := hS_.1.cells; obtain ⟨f0, f1, fz⟩ := ref_cells hS_.2; have ez := hS_.1.frozen
    go_simp
    try (with_reducible rfl)
  rotate_left
  · simp only [Act.put, List.setIfInBounds_toArray, List.set_cons_zero, List.set_cons_succ, i64_w, i32_w]
    rfl
  refine one_ (i := 3) (N := some 10) #[true, true, true, true, true, false, false, false, false, false, false, false, false, false, false, false, false, false] rfl rfl (by kernel_rfl) (by decide) (fun K hK => ?_)
  refine goes_ Try.func11 (by kernel_rfl) rfl #[.agg #[.int .u32 a, .string t]] (by rfl) rfl rfl (by (try simp only [List.map_toArray, List.map_cons, List.map_nil]); first | done | rfl) ?_
  refine (rows_RightRef.calls a t d W (by rw [rightRef_f]; exact congrArg some (Hd 0).out)).mono ?_
  rintro e W1 ⟨rfl, hb⟩
  refine ⟨_, rfl, ?_⟩
  replace hP := (hb.block N (blk_lt hP)).trans hP
  replace hQ := (hb.block (N + 1) (blk_lt hQ)).trans hQ
  replace hB := hB.trans (hb.mono (by have := hB.size; omega))
  refine hK.out _ _ ⟨hP, hQ⟩ (fun hHeld_ => ?_)
  clear hK K hb hHeld
  have hHeld := hHeld_
  clear hHeld_
  refine one_ (i := 5) (N := some 12) #[true, true, true, true, true, true, false, false, false, false, false, false, false, false, false, false, false, false] rfl rfl (by kernel_rfl) (by decide) (fun K hK => ?_)
  refine goes_ Try.func12 (by kernel_rfl) rfl #[.agg #[.int .u32 a, .string t]] (by rfl) rfl rfl (by (try simp only [List.map_toArray, List.map_cons, List.map_nil]); first | done | rfl) ?_
  refine (sphragisref10_RightRef.calls a t d W1 (by rw [refR_f]; exact congrArg some (Hd 0).out)).mono ?_
  rintro e W2 ⟨rfl, hb⟩
  refine ⟨_, rfl, ?_⟩
  replace hP := (hb.block N (blk_lt hP)).trans hP
  replace hQ := (hb.block (N + 1) (blk_lt hQ)).trans hQ
  replace hB := hB.trans (hb.mono (by have := hB.size; omega))
  refine hK.out _ _ ⟨hP, hQ⟩ (fun hHeld_ => ?_)
  clear hK K hb hHeld
  have hHeld := hHeld_
  clear hHeld_
  refine pure_ (i := 6) (N := some 13) (v := ?_) (a' := ?_) #[true, true, true, true, true, true, true, false, false, false, false, false, false, false, false, false, false, false] rfl rfl (by kernel_rfl) (fun _ _ _ h => h) (Or.inl ⟨by rfl, ?_⟩) ?_ ?_
  rotate_left
  · intro w'
    go_simp
    try (with_reducible rfl)
  rotate_left
  · simp only [Act.put, List.setIfInBounds_toArray, List.set_cons_zero, List.set_cons_succ, List.getElem_toArray, List.getElem_cons_succ, List.getElem_cons_zero, i64_w, i32_w]
    rfl
  refine pure_ (i := 7) (N := some 14) (v := ?_) (a' := ?_) #[true, true, true, true, true, true, true, true, false, false, false, false, false, false, false, false, false, false] rfl rfl (by kernel_rfl) (fun _ _ _ h => h) (Or.inl ⟨by rfl, ?_⟩) ?_ ?_
  rotate_left
  · intro w'
    go_simp
    try (with_reducible rfl)
  rotate_left
  · simp only [Act.put, List.setIfInBounds_toArray, List.set_cons_zero, List.set_cons_succ, List.getElem_toArray, List.getElem_cons_succ, List.getElem_cons_zero, i64_w, i32_w]
    rfl
  refine pure_ (i := 8) (N := some 15) (v := ?_) (a' := ?_) #[true, true, true, true, true, true, true, true, true, false, false, false, false, false, false, false, false, false] rfl rfl (by kernel_rfl) (fun _ _ _ h => h) (Or.inl ⟨by rfl, ?_⟩) ?_ ?_
  rotate_left
  · intro w'
    go_simp
    try (with_reducible rfl)
  rotate_left
  · simp only [Act.put, List.setIfInBounds_toArray, List.set_cons_zero, List.set_cons_succ, List.getElem_toArray, List.getElem_cons_succ, List.getElem_cons_zero, i64_w, i32_w]
    rfl
  refine take_ (i := 9) (N := some 16) (v := ?_) (a' := ?_) #[true, true, true, true, true, true, true, true, true, true, false, false, false, false, false, false, false, false] rfl rfl (by kernel_rfl) (fun _ _ _ h => h) (Or.inl ⟨by rfl, ?_⟩) hHeld ?_ ?_
  rotate_left
  · intro w' hS_
    obtain ⟨e0, e1, e2, e3, e4, e5, e6, e7⟩ := hS_.1.cells; obtain ⟨f0, f1, fz⟩ := ref_cells hS_.2; have ez := hS_.1.frozen
    go_simp
    try (with_reducible rfl)
  rotate_left
  · simp only [Act.put, List.setIfInBounds_toArray, List.set_cons_zero, List.set_cons_succ, i64_w, i32_w]
    rfl
  refine take_ (i := 12) (N := some 19) (v := ?_) (a' := ?_) #[true, true, true, true, true, true, true, true, true, true, false, false, true, false, false, false, false, false] rfl rfl (by kernel_rfl) (fun _ _ _ h => h) (Or.inl ⟨by rfl, ?_⟩) hHeld ?_ ?_
  rotate_left
  · intro w' hS_
    obtain ⟨e0, e1, e2, e3, e4, e5, e6, e7⟩ := hS_.1.cells; obtain ⟨f0, f1, fz⟩ := ref_cells hS_.2; have ez := hS_.1.frozen
    go_simp
    try (with_reducible rfl)
  rotate_left
  · simp only [Act.put, List.setIfInBounds_toArray, List.set_cons_zero, List.set_cons_succ, i64_w, i32_w]
    rfl
  refine one_ (i := 10) (N := some 17) #[true, true, true, true, true, true, true, true, true, true, true, false, true, false, false, false, false, false] rfl rfl (by kernel_rfl) (by decide) (fun K hK => ?_)
  refine goes_ Try.func14 (by kernel_rfl) rfl #[.agg #[.int .i64 p.k, .int .u32 p.x, .int .u32 p.y, .int .i64 p.lv, .slice A4 n4 c4, .slice A5 n5 c5, .int .u32 p.np, .string p.nt]] (by rfl) rfl rfl (by (try simp only [List.map_toArray, List.map_cons, List.map_nil]); first | done | rfl) ?_
  refine (cut_calls p.k p.x p.y p.lv A4 n4 c4 A5 n5 c5 p.np p.nt h4 h5 W2).mono ?_
  rintro e W3 ⟨rfl, hb⟩
  refine ⟨_, rfl, ?_⟩
  rw [← (Hl4 0).out, ← (Hl5 0).out]
  replace hP := (hb.block N (blk_lt hP)).trans hP
  replace hQ := (hb.block (N + 1) (blk_lt hQ)).trans hQ
  replace hB := hB.trans (hb.mono (by have := hB.size; omega))
  refine hK.out _ _ ⟨hP, hQ⟩ (fun hHeld_ => ?_)
  clear hK K hb hHeld
  have hHeld := hHeld_
  clear hHeld_
  refine one_ (i := 11) (N := some 18) #[true, true, true, true, true, true, true, true, true, true, true, true, true, false, false, false, false, false] rfl rfl (by kernel_rfl) (by decide) (fun K hK => ?_)
  refine goes_ Try.func13 (by kernel_rfl) rfl #[.agg #[.int .i64 p.k, .int .u32 p.x, .int .u32 p.y, .int .i64 p.lv, .slice A4 p.rows.length c4, .slice A5 p.kids.length c5, .int .u32 p.np, .string p.nt]] (by rfl) rfl rfl (by (try simp only [List.map_toArray, List.map_cons, List.map_nil]); first | done | rfl) ?_
  refine (Right_ok p b hp (Hb 0).out A4 A5 c4 c5 W3 (Kd.C_below (HC4 0).out (by rw [hN]; exact hB)) hc4 (Kd.C_below (HC5 0).out (by rw [hN]; exact hB)) hc5).mono ?_
  rintro e W4 ⟨rfl, hb⟩
  refine ⟨_, rfl, ?_⟩
  replace hP := (hb.block N (blk_lt hP)).trans hP
  replace hQ := (hb.block (N + 1) (blk_lt hQ)).trans hQ
  replace hB := hB.trans (hb.mono (by have := hB.size; omega))
  refine hK.out _ _ ⟨hP, hQ⟩ (fun hHeld_ => ?_)
  clear hK K hb hHeld
  have hHeld := hHeld_
  clear hHeld_
  refine one_ (i := 13) (N := some 20) #[true, true, true, true, true, true, true, true, true, true, true, true, true, true, false, false, false, false] rfl rfl (by kernel_rfl) (by decide) (fun K hK => ?_)
  refine goes_ Try.func14 (by kernel_rfl) rfl #[.agg #[.int .i64 p.k, .int .u32 p.x, .int .u32 p.y, .int .i64 p.lv, .slice A4 n4 c4, .slice A5 n5 c5, .int .u32 p.np, .string p.nt]] (by rfl) rfl rfl (by (try simp only [List.map_toArray, List.map_cons, List.map_nil]); first | done | rfl) ?_
  refine (cut_calls p.k p.x p.y p.lv A4 n4 c4 A5 n5 c5 p.np p.nt h4 h5 W4).mono ?_
  rintro e W5 ⟨rfl, hb⟩
  refine ⟨_, rfl, ?_⟩
  rw [← (Hl4 0).out, ← (Hl5 0).out]
  replace hP := (hb.block N (blk_lt hP)).trans hP
  replace hQ := (hb.block (N + 1) (blk_lt hQ)).trans hQ
  replace hB := hB.trans (hb.mono (by have := hB.size; omega))
  refine hK.out _ _ ⟨hP, hQ⟩ (fun hHeld_ => ?_)
  clear hK K hb hHeld
  have hHeld := hHeld_
  clear hHeld_
  refine one_ (i := 14) (N := some 21) #[true, true, true, true, true, true, true, true, true, true, true, true, true, true, true, false, false, false] rfl rfl (by kernel_rfl) (by decide) (fun K hK => ?_)
  refine goes_ Try.func15 (by kernel_rfl) rfl #[.agg #[.int .i64 p.k, .int .u32 p.x, .int .u32 p.y, .int .i64 p.lv, .slice A4 p.rows.length c4, .slice A5 p.kids.length c5, .int .u32 p.np, .string p.nt]] (by rfl) rfl rfl (by (try simp only [List.map_toArray, List.map_cons, List.map_nil]); first | done | rfl) ?_
  refine (RightR_ok p b hp hr10 (Hb 0).out A4 A5 c4 c5 W5 (Kd.C_below (HC4 0).out (by rw [hN]; exact hB)) hc4 (Kd.C_below (HC5 0).out (by rw [hN]; exact hB)) hc5).mono ?_
  rintro e W6 ⟨rfl, hb⟩
  refine ⟨_, rfl, ?_⟩
  replace hP := (hb.block N (blk_lt hP)).trans hP
  replace hQ := (hb.block (N + 1) (blk_lt hQ)).trans hQ
  replace hB := hB.trans (hb.mono (by have := hB.size; omega))
  refine hK.out _ _ ⟨hP, hQ⟩ (fun hHeld_ => ?_)
  clear hK K hb hHeld
  have hHeld := hHeld_
  clear hHeld_
  refine pure_ (i := 15) (N := some 22) (v := ?_) (a' := ?_) #[true, true, true, true, true, true, true, true, true, true, true, true, true, true, true, true, false, false] rfl rfl (by kernel_rfl) (fun _ _ _ h => h) (Or.inl ⟨by rfl, ?_⟩) ?_ ?_
  rotate_left
  · intro w'
    go_simp
    try (with_reducible rfl)
  rotate_left
  · simp only [Act.put, List.setIfInBounds_toArray, List.set_cons_zero, List.set_cons_succ, List.getElem_toArray, List.getElem_cons_succ, List.getElem_cons_zero, i64_w, i32_w]
    rfl
  refine pure_ (i := 16) (N := some 23) (v := ?_) (a' := ?_) #[true, true, true, true, true, true, true, true, true, true, true, true, true, true, true, true, true, false] rfl rfl (by kernel_rfl) (fun _ _ _ h => h) (Or.inl ⟨by rfl, ?_⟩) ?_ ?_
  rotate_left
  · intro w'
    go_simp
    try (with_reducible rfl)
  rotate_left
  · simp only [Act.put, List.setIfInBounds_toArray, List.set_cons_zero, List.set_cons_succ, List.getElem_toArray, List.getElem_cons_succ, List.getElem_cons_zero, i64_w, i32_w]
    rfl
  refine pure_ (i := 17) (N := some 4) (v := ?_) (a' := ?_) #[true, true, true, true, true, true, true, true, true, true, true, true, true, true, true, true, true, true] rfl rfl (by kernel_rfl) (fun _ _ _ h => h) (Or.inl ⟨by rfl, ?_⟩) ?_ ?_
  rotate_left
  · intro w'
    go_simp
    try (with_reducible rfl)
  rotate_left
  · simp only [Act.put, List.setIfInBounds_toArray, List.set_cons_zero, List.set_cons_succ, List.getElem_toArray, List.getElem_cons_succ, List.getElem_cons_zero, i64_w, i32_w]
    rfl
  refine done_ (by kernel_rfl) ?_
  go_wp2
  go_ret
  exact ⟨by simp, by rw [hN]; exact hB⟩
theorem RowsRight_row (p : Pg) (A4 A5 : Option Addr) (n4 c4 n5 c5 : Nat) (a : Int) (t : ByteArray) (w : World) (hp : pageIn p) (h4 : n4 ≤ c4) (hl4 : p.rows.length = min n4 10) (h5 : n5 ≤ c5) (hl5 : p.kids.length = min n5 10) (hC4 : Kd.C k47 w A4 p.rows.length p.rows) (hC5 : Kd.C k28 w A5 p.kids.length p.kids) (_ : (Lit.int .u32 a).wf = true) (_ : t.size ≤ maxLen) :
    Calls Try.prog 3 #[.agg #[.int .i64 p.k, .int .u32 p.x, .int .u32 p.y, .int .i64 p.lv, .slice A4 n4 c4, .slice A5 n5 c5, .int .u32 p.np, .string p.nt], .agg #[.int .u32 a, .string t]] w fun e w' => e = .returned (.bool true) ∧ Below w.heap.size w w' :=
  RowsRight_walk p A4 A5 n4 c4 n5 c5 a t w hp h4 hl4 h5 hl5 hC4 hC5
end Go.Proofs.Ytmeaiancebgkoaa.H
