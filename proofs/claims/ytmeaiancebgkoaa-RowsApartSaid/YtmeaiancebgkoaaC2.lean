/- RowsEnds: the plain law and the walk. -/
import Derived.Test.YtmeaiancebgkoaaQ2
import Derived.Test.YtmeaiancebgkoaaQ3
import Derived.Test.YtmeaiancebgkoaaC1
import Derived.Test.YtmeaiancebgkoaaR
namespace Go.Proofs.Ytmeaiancebgkoaa.H
open Go.RowKit Go.Shelf Go.Proofs.YtmeaiancebgkoaaW.PrintWords Go.Proofs.YtmeaiancebgkoaaW.PrintLast Go.Proofs.YtmeaiancebgkoaaW.PrintMore
attribute [local go_sem] Oper.semAt_some
set_option linter.unusedVariables false
set_option linter.unusedSimpArgs false
set_option maxRecDepth 100000

theorem encP_right {p : Pg} (hr : rightP p = true) : encP p = (bts (encL p), 0) := if_pos hr
theorem encP_wrong {p : Pg} (hr : ¬ rightP p = true) : encP p = (⟨#[]⟩, 90) := if_neg hr
theorem enc_len {p : Pg} (hr : rightP p = true) : (encL p).length ≤ 1000 := by
  rcases right_kind hr with hk | hk
  · obtain ⟨q1, q2, q3, _⟩ := right1 hk hr
    have hrs := rises_all p.rows none (Bool.and_eq_true _ _ ▸ q2 : rises none p.rows = true ∧ _).1
    have h1 := flat_le rowBytes 33 p.rows (fun r h => rowBytes_le (hrs r h))
    rw [encL, if_neg (by omega)]
    simp only [List.length_append, le_length, refB_length _ _ (next_size q3)]
    omega
  · obtain ⟨q1, _, _, _, q5, _⟩ := right2 hk hr
    have h1 := flat_le kidB 36 p.kids (fun r h => by rw [kidB, refB_length _ _ (by have := (kid_size q1 r h).2; omega)]; exact Nat.le_refl _)
    rw [encL, if_pos hk]
    simp only [List.length_append, le_length]
    omega
theorem conv1 (W : World) (a : Nat) : (convert 43 9 (.slice (some ⟨W.heap.size, 0, none⟩) 1 1)).run Try.prog (W.alloc (.cells #[.int .u8 (a : Int)] 5 (0, 0))) = .ok (.string (bts [UInt8.ofNat a])) (W.alloc (.cells #[.int .u8 (a : Int)] 5 (0, 0))) :=
  own_string (base := 0) (e' := 5) (n := 1) (xs := [(a : Int)]) Try.underlying43 Try.underlying5 Try.underlying9 ⟨rfl, .inr ⟨_, 1, _, rfl, Nat.zero_le _, World.alloc_heap_new W _, by decide, by decide, rfl, rfl⟩⟩
theorem end_more (p : Pg) (hr : rightP p = true) (hp : pageIn p) (c : UInt8) : decP (bts (encL p ++ [c])) = (pgNil, 90) := by
  have h := page_fwd p hr hp [c] false rfl
  unfold decP
  rw [h]
  simp only
  rw [if_neg (fun h => by have := h.2.1; rw [bts_size] at this; cases this)]
theorem end_less (p : Pg) (hr : rightP p = true) (hp : pageIn p) (n : Nat) (hn : n < (encL p).length) : decP (bts ((encL p).take n)) = (pgNil, 90) := by
  by_cases h : (decP (bts ((encL p).take n))).2 = 0
  · obtain ⟨h1, h2, h3⟩ := dec_enc _ h
    generalize (decP (bts ((encL p).take n))).1 = q at *
    rw [encP_right h1] at h3
    have h4 : encL q = (encL p).take n := by
      have := congrArg (fun x => x.1.data.toList) h3
      simpa only [bts_data] using this
    have h5 := page_fwd q h1 h2 ((encL p).drop n) false rfl
    have h6 := page_fwd p hr hp [] false rfl
    rw [h4, List.take_append_drop] at h5
    rw [List.append_nil, h5] at h6
    have h7 := congrArg (fun x => x.2.1.size) h6
    simp only [bts_size, List.length_drop, List.length_nil] at h7
    omega
  · exact dec_bad _ h

theorem Dec (s : ByteArray) (q : Pg) (e : Int) (h : decP s = (q, e)) (w : World) :
    Calls Try.prog 18 #[.string s] w fun r w' => ∃ v4_ v5_ : Value, r = .returned (.tuple #[.agg #[.int .i64 q.k, .int .u32 q.x, .int .u32 q.y, .int .i64 q.lv, v4_, v5_, .int .u32 q.np, .string q.nt], .int .i64 e]) ∧ Kd.R k47 47 w' w.heap.size (fun _ => True) v4_ q.rows ∧ Kd.R k28 28 w' w.heap.size (fun _ => True) v5_ q.kids ∧ Below w.heap.size w w' :=
  rows_Decode.calls s _ _ _ _ _ _ _ _ _ w (by rw [rows_Decode.f, h])
theorem Enc (p : Pg) (A4 A5 : Option Addr) (c4 c5 : Nat) (r : ByteArray) (e : Int) (h : encP p = (r, e)) (hp : pageIn p) (w : World) (h4 : Kd.C k47 w A4 p.rows.length p.rows) (hc4 : p.rows.length ≤ c4) (h5 : Kd.C k28 w A5 p.kids.length p.kids) (hc5 : p.kids.length ≤ c5) :
    Calls Try.prog 16 #[.agg #[.int .i64 p.k, .int .u32 p.x, .int .u32 p.y, .int .i64 p.lv, .slice A4 p.rows.length c4, .slice A5 p.kids.length c5, .int .u32 p.np, .string p.nt]] w fun e' w' => e' = .returned (.tuple #[.string r, .int .i64 e]) ∧ Below w.heap.size w w' :=
  rows_Encode.calls p.k p.x p.y p.lv A4 c4 p.rows A5 c5 p.kids p.np p.nt r e w h4 hc4 h5 hc5 (by rw [rows_Encode.f, if_pos hp]; exact congrArg some h)
theorem shown_ok (w : World) : Calls Try.prog 10 #[] w fun e w' => e = .returned (.bool true) ∧ Below w.heap.size w w' :=
  sphragislaw10_shown.calls 20 true w shown_true

set_option maxHeartbeats 4000000 in
theorem RowsEnds_walk (p : Pg) (hp : pageIn p) (A4 A5 : Option Addr) (n4 c4 n5 c5 : Nat) (h4 : n4 ≤ c4) (hl4 : p.rows.length = min n4 10) (h5 : n5 ≤ c5) (hl5 : p.kids.length = min n5 10) (n : Int) (c : Nat) (hc : c < 256) (w : World) (hC4 : Kd.C k47 w A4 p.rows.length p.rows) (hC5 : Kd.C k28 w A5 p.kids.length p.kids) :
    Calls Try.prog 9 #[.agg #[.int .i64 p.k, .int .u32 p.x, .int .u32 p.y, .int .i64 p.lv, .slice A4 n4 c4, .slice A5 n5 c5, .int .u32 p.np, .string p.nt], .int .i64 n, .int .u8 (c : Int)] w fun e w' => e = .returned (.bool true) ∧ Below w.heap.size w w' := by
  obtain ⟨N, hN⟩ : ∃ N, w.heap.size = N := ⟨_, rfl⟩
  obtain ⟨s, e, hse⟩ : ∃ s e, encP p = (s, e) := ⟨_, _, rfl⟩
  have Hse : Nat → Hid _ := fun _ => Lib.hid hse
  have HC4 : Nat → Hid _ := fun _ => Lib.hid hC4
  have HC5 : Nat → Hid _ := fun _ => Lib.hid hC5
  have Hl4 : Nat → Hid _ := fun _ => Lib.hid hl4
  have Hl5 : Nat → Hid _ := fun _ => Lib.hid hl5
  have hc4 : p.rows.length ≤ c4 := by omega
  have hc5 : p.kids.length ≤ c5 := by omega
  clear hse hC4 hC5 hl4 hl5
  have hb0 : Below N w (w.alloc (.cells #[.int .i64 p.k, .int .u32 p.x, .int .u32 p.y, .int .i64 p.lv, .slice A4 n4 c4, .slice A5 n5 c5, .int .u32 p.np, .string p.nt] 30)) := (Below.refl N w).alloc (by omega) _
  have hP0 : PBox (w.alloc (.cells #[.int .i64 p.k, .int .u32 p.x, .int .u32 p.y, .int .i64 p.lv, .slice A4 n4 c4, .slice A5 n5 c5, .int .u32 p.np, .string p.nt] 30)) N p.k p.x p.y p.lv (.slice A4 n4 c4) (.slice A5 n5 c5) p.np p.nt := by rw [← hN]; exact World.alloc_heap_new w _
  go_enter Try.func9, Try.ntmps9
  go_wp2_with fail
  generalize w.alloc (.cells #[.int .i64 p.k, .int .u32 p.x, .int .u32 p.y, .int .i64 p.lv, .slice A4 n4 c4, .slice A5 n5 c5, .int .u32 p.np, .string p.nt] 30) = W0 at *
  refine (shown_ok W0).mono ?_
  rintro r w1 ⟨rfl, hb1⟩
  have hP1 : PBox w1 N p.k p.x p.y p.lv (.slice A4 n4 c4) (.slice A5 n5 c5) p.np p.nt := (hb1.block N (blk_lt hP0)).trans hP0
  have hB1 : Below N w w1 := hb0.trans (hb1.mono (by have := hb0.size; omega))
  obtain ⟨e0, e1, e2, e3, e4, e5, e6, e7⟩ := hP1.cells
  clear hP0 hb0 hb1 hP1
  go_wp2_with fail
  refine (cut_calls p.k p.x p.y p.lv A4 n4 c4 A5 n5 c5 p.np p.nt h4 h5 w1).mono ?_
  rintro r w2 ⟨rfl, hb2⟩
  rw [← (Hl4 0).out, ← (Hl5 0).out]
  have hB2 : Below N w w2 := hB1.trans (hb2.mono (by have := hB1.size; omega))
  clear e0 e1 e2 e3 e4 e5 e6 e7 hB1 hb2
  go_wp2_with fail
  refine (Enc p A4 A5 c4 c5 s e (Hse 0).out hp w2 (Kd.C_below (HC4 0).out (by rw [hN]; exact hB2)) hc4 (Kd.C_below (HC5 0).out (by rw [hN]; exact hB2)) hc5).mono ?_
  rintro r w3 ⟨rfl, hb3⟩
  have hB3 : Below N w w3 := hB2.trans (hb3.mono (by have := hB2.size; omega))
  clear hB2 hb3
  by_cases hr : rightP p = true
  case' neg =>
    have h1 := (Hse 0).out
    rw [encP_wrong hr] at h1
    obtain ⟨rfl, rfl⟩ := Prod.mk.inj h1
    clear h1
    go_wp2
    go_ret
    exact ⟨by simp, by rw [hN]; exact hB3⟩
  have h1 := (Hse 0).out
  rw [encP_right hr] at h1
  obtain ⟨hs, rfl⟩ := Prod.mk.inj h1
  have hsl : s.size = (encL p).length := by rw [← hs, bts_size]
  have Hs : Nat → Hid _ := fun _ => Lib.hid hs
  have Hsl : Nat → Hid _ := fun _ => Lib.hid hsl
  have hsz : s.size ≤ 1000 := by rw [hsl]; exact enc_len hr
  clear h1 hs hsl
  by_cases hn0 : n < 0
  case' pos =>
    have d0 : decide (n < 0) = true := decide_eq_true hn0
    go_wp2
    go_ret
    exact ⟨by simp, by rw [hN]; exact hB3⟩
  have d0 : decide (n < 0) = false := decide_eq_false hn0
  by_cases hn1 : (s.size : Int) ≤ n
  case' pos =>
    have d1 : decide (n ≥ (s.size : Int)) = true := decide_eq_true hn1
    have d2 : decide ((s.size : Int) ≤ n) = true := decide_eq_true hn1
    go_wp2
    go_ret
    exact ⟨by simp, by rw [hN]; exact hB3⟩
  have d1 : decide (n ≥ (s.size : Int)) = false := decide_eq_false hn1
  have d2 : decide ((s.size : Int) ≤ n) = false := decide_eq_false hn1
  obtain ⟨m, rfl⟩ : ∃ m : Nat, n = m := ⟨n.toNat, by omega⟩
  have z0 : (0 : Int) ≤ (m : Int) := by omega
  have z1 : (m : Int) ≤ (s.size : Int) := by omega
  go_wp2_with fail
  refine (Dec (s.extract 0 m) pgNil 90 (by rw [← end_less p hr hp m (by have := (Hsl 0).out; omega)]; congr 1; refine ba_ext ?_; rw [ba_ex, bts_data, ← (Hs 0).out, bts_data, List.drop_zero, Nat.sub_zero]) w3).mono ?_
  rintro r w4 ⟨v4, v5, rfl, hv4, hv5, hb4⟩
  obtain ⟨B4, k4, rfl⟩ := Kd.R_slice hv4
  obtain ⟨B5, k5, rfl⟩ := Kd.R_slice hv5
  have hB4 : Below N w w4 := hB3.trans (hb4.mono (by have := hB3.size; omega))
  clear hB3 hb4 hv4 hv5
  obtain ⟨o, ho⟩ : ∃ o, bts [UInt8.ofNat c] = o := ⟨_, rfl⟩
  have hos : o.size = 1 := by rw [← ho, bts_size]; rfl
  have hcv := conv1 (w4.alloc (.cells #[.int .i64 pgNil.k, .int .u32 pgNil.x, .int .u32 pgNil.y, .int .i64 pgNil.lv, .slice B4 pgNil.rows.length k4, .slice B5 pgNil.kids.length k5, .int .u32 pgNil.np, .string pgNil.nt] 30)) c
  rw [ho, World.size_alloc] at hcv
  have h63 := eq_false (show ¬ (9223372036854775807 < s.size + o.size) by omega)
  obtain ⟨u, hu⟩ : ∃ u, s ++ o = u := ⟨_, rfl⟩
  have hdu : decP u = (pgNil, 90) := by
    rw [← end_more p hr hp (UInt8.ofNat c), ← hu]
    congr 1
    refine ba_ext ?_
    rw [bts_data, ← (Hs 0).out, ← ho]
    simp [bts]
  have Hdu : Nat → Hid _ := fun _ => Lib.hid hdu
  clear hdu ho
  have hB5 : Below N w ((w4.alloc (.cells #[.int .i64 pgNil.k, .int .u32 pgNil.x, .int .u32 pgNil.y, .int .i64 pgNil.lv, .slice B4 pgNil.rows.length k4, .slice B5 pgNil.kids.length k5, .int .u32 pgNil.np, .string pgNil.nt] 30)).alloc (.cells #[.int .u8 (c : Int)] 5)) := (hB4.alloc (by have := hB4.size; omega) _).alloc (by have := hB4.size; rw [World.size_alloc]; omega) _
  go_wp2_with fail
  refine (Dec u pgNil 90 (Hdu 0).out _).mono ?_
  clear hcv
  generalize (w4.alloc (.cells #[.int .i64 pgNil.k, .int .u32 pgNil.x, .int .u32 pgNil.y, .int .i64 pgNil.lv, .slice B4 pgNil.rows.length k4, .slice B5 pgNil.kids.length k5, .int .u32 pgNil.np, .string pgNil.nt] 30)).alloc (.cells #[.int .u8 (c : Int)] 5) = w5 at *
  rintro r w6 ⟨v4, v5, rfl, hv4, hv5, hb6⟩
  obtain ⟨D4, j4, rfl⟩ := Kd.R_slice hv4
  obtain ⟨D5, j5, rfl⟩ := Kd.R_slice hv5
  have hB6 : Below N w w6 := hB5.trans (hb6.mono (by have := hB5.size; omega))
  clear hB5 hb6 hv4 hv5
  go_wp2
  go_ret
  exact ⟨by simp, by rw [hN]; exact hB6.alloc (by have := hB6.size; omega) _⟩
theorem RowsEnds_row (p : Pg) (A4 A5 : Option Addr) (n4 c4 n5 c5 : Nat) (n c : Int) (w : World) (hp : pageIn p) (h4 : n4 ≤ c4) (hl4 : p.rows.length = min n4 10) (h5 : n5 ≤ c5) (hl5 : p.kids.length = min n5 10) (hC4 : Kd.C k47 w A4 p.rows.length p.rows) (hC5 : Kd.C k28 w A5 p.kids.length p.kids) (_ : (Lit.int .i64 n).wf = true) (hc : (Lit.int .u8 c).wf = true) :
    Calls Try.prog 9 #[.agg #[.int .i64 p.k, .int .u32 p.x, .int .u32 p.y, .int .i64 p.lv, .slice A4 n4 c4, .slice A5 n5 c5, .int .u32 p.np, .string p.nt], .int .i64 n, .int .u8 c] w fun e w' => e = .returned (.bool true) ∧ Below w.heap.size w w' := by
  have hc2 : 0 ≤ c ∧ c < 256 := by
    simp [Lit.wf, IntKind.min, IntKind.max, IntKind.signed, IntKind.bits] at hc
    omega
  obtain ⟨c, rfl⟩ : ∃ q : Nat, c = q := ⟨c.toNat, by omega⟩
  exact RowsEnds_walk p hp A4 A5 n4 c4 n5 c5 h4 hl4 h5 hl5 n c (by omega) w hC4 hC5
end Go.Proofs.Ytmeaiancebgkoaa.H
