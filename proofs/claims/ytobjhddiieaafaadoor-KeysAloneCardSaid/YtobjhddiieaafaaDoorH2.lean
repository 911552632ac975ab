-- Written by a program of this session (hyb.py), which drives the print over functions some of which are proved by hand.
import Derived.Test.YtobjhddiieaafaaDoorH0
namespace Go.Proofs.YtobjhddiieaafaaDoor.H
open Go.RowKit Go.Proofs.YtobjhddiieaafaaDoorW.PrintWords Go.Proofs.YtobjhddiieaafaaDoorW.PrintLast Go.Proofs.YtobjhddiieaafaaDoorW.PrintMore
attribute [local go_sem] max2_int min2_int max_two min_two max_three min_three max_four min_four   -- for this text's walks alone
set_option linter.unusedVariables false
set_option linter.unusedSimpArgs false

/-! ### sphragisref02_Filled: function 40 -/
def sphragisref02_Filled.l0 : Nat → ByteArray → ByteArray → Option (ByteArray)
  | 0, _, _ => none
  | k + 1, x0, x3 => if ((x3.size : Int) % 64) = 56 then ((some (([((IntKind.u64.wrap ((IntKind.u64.wrap ((x0.size : Int))) * 8)) / 72057594037927936) % 256, ((IntKind.u64.wrap ((IntKind.u64.wrap ((x0.size : Int))) * 8)) / 281474976710656) % 256, ((IntKind.u64.wrap ((IntKind.u64.wrap ((x0.size : Int))) * 8)) / 1099511627776) % 256, ((IntKind.u64.wrap ((IntKind.u64.wrap ((x0.size : Int))) * 8)) / 4294967296) % 256, ((IntKind.u64.wrap ((IntKind.u64.wrap ((x0.size : Int))) * 8)) / 16777216) % 256, ((IntKind.u64.wrap ((IntKind.u64.wrap ((x0.size : Int))) * 8)) / 65536) % 256, ((IntKind.u64.wrap ((IntKind.u64.wrap ((x0.size : Int))) * 8)) / 256) % 256, (IntKind.u64.wrap ((IntKind.u64.wrap ((x0.size : Int))) * 8)) % 256] : List Int) : List Int)).bind fun y101 => (if x3.size + (strOfNums y101).size ≤ 9223372036854775807 then (some (x3 ++ (strOfNums y101))) else (none))) else (if x3.size + 1 ≤ 9223372036854775807 then (sphragisref02_Filled.l0 k x0 (x3 ++ (⟨#[0]⟩ : ByteArray))) else (none))
def sphragisref02_Filled.f (k : Nat) (a0 : ByteArray) : Option (ByteArray) := if a0.size + 1 ≤ 9223372036854775807 then (sphragisref02_Filled.l0 k a0 (a0 ++ (⟨#[128]⟩ : ByteArray))) else (none)
theorem sphragisref02_Filled.mono_l : ∀ k, (∀ y0 y1, LeO (sphragisref02_Filled.l0 k y0 y1) (sphragisref02_Filled.l0 (k + 1) y0 y1))
  | 0 => fun _ _ r h => by simp [sphragisref02_Filled.l0] at h
  | k + 1 => by
    have ih0 := sphragisref02_Filled.mono_l k
    · intro y0 y1
      unfold sphragisref02_Filled.l0
      repeat' first
      | (with_reducible exact ih0 _ _)
      | (with_reducible exact LeO.refl _)
      | (with_reducible exact LeO.none _)
      | (with_reducible refine LeO.ite ?_ ?_)
      | (with_reducible refine LeO.bind ?_ (fun _ => ?_))
      | exact ih0 _ _
      | exact LeO.none _
      | refine LeO.ite ?_ ?_
      | refine LeO.bind ?_ (fun _ => ?_)
theorem sphragisref02_Filled.mono : ∀ a0 k, LeO (sphragisref02_Filled.f k a0) (sphragisref02_Filled.f (k + 1) a0) := by
  intro a0 k
  have ih0 := sphragisref02_Filled.mono_l k
  unfold sphragisref02_Filled.f
  repeat' first
      | (with_reducible exact ih0 _ _)
      | (with_reducible exact LeO.refl _)
      | (with_reducible exact LeO.none _)
      | (with_reducible refine LeO.ite ?_ ?_)
      | (with_reducible refine LeO.bind ?_ (fun _ => ?_))
      | exact ih0 _ _
      | exact LeO.none _
      | refine LeO.ite ?_ ?_
      | refine LeO.bind ?_ (fun _ => ?_)
set_option maxHeartbeats 8000000 in
set_option maxRecDepth 100000 in
theorem sphragisref02_Filled.calls (k : Nat) (a0 : ByteArray) (r : ByteArray) (w : World) (h : sphragisref02_Filled.f k a0 = some r) :
    Calls Tryd.prog 40 #[.string a0] w fun e w' => e = .returned (.string r) ∧ Below w.heap.size w w' := by
  have HB := Aside0.mk (Below.refl w.heap.size w)
  have H : (if a0.size + 1 ≤ 9223372036854775807 then (sphragisref02_Filled.l0 k a0 (a0 ++ (⟨#[128]⟩ : ByteArray))) else (none)) = some r := h
  clear h
  by_cases c2 : a0.size + 1 ≤ 9223372036854775807
  · rw [if_pos c2] at H
    have c2b0 := eq_true c2
    have c2b1 : decide (a0.size + 1 ≤ 9223372036854775807) = true := decide_eq_true c2
    try have c2b2 : (9223372036854775807 < a0.size + 1) = False := eq_false (Nat.not_lt.2 c2)
    have H' := Aside0.mk H
    clear H
    go_enter Tryd.func40, Tryd.ntmps40
    go_wp2
    go_loopg [3] k (fun kq v3 w' => ∃ (x3_1 : ByteArray), v3 = .string x3_1 ∧ Aside0 (sphragisref02_Filled.l0 kq a0 x3_1 = some r) ∧ Aside0 (kq ≤ k) ∧ Aside0 (Below w.heap.size w w'))
    case atStart => exact ⟨(a0 ++ (⟨#[128]⟩ : ByteArray)), (by first | rfl | (simp; done) | (simp [*]; done)), H', ⟨Nat.le_refl _⟩, ⟨by repeat (first | (with_reducible first | exact HB.out | apply below_alloc | apply pw_below_drewN | apply below_drew1) | exact HB.out)⟩⟩
    case round =>
      clear H'
      try clear c2
      try clear c2b0
      try clear c2b1
      try clear c2b2
      try clear p2
      obtain ⟨x3_1, rfl, HA, HK1, HB⟩ := hrel
      cases gk with
      | zero => exact absurd HA.out (by simp [sphragisref02_Filled.l0])
      | succ k1 =>
        have H := HA.out
        clear HA
        simp only [sphragisref02_Filled.l0] at H
        by_cases c3 : ((x3_1.size : Int) % 64) = 56
        · rw [if_pos c3] at H
          have c3b0 : (((x3_1.size : Int) % 64) == 56) = true := beq_iff_eq.mpr c3
          have c3b1 : (((x3_1.size : Int) % 64) != 56) = false := bne_eq_false_iff_eq.mpr c3
          clear c3
          obtain ⟨y101, hy101⟩ : ∃ y_ : List Int, y_ = (([((IntKind.u64.wrap ((IntKind.u64.wrap ((a0.size : Int))) * 8)) / 72057594037927936) % 256, ((IntKind.u64.wrap ((IntKind.u64.wrap ((a0.size : Int))) * 8)) / 281474976710656) % 256, ((IntKind.u64.wrap ((IntKind.u64.wrap ((a0.size : Int))) * 8)) / 1099511627776) % 256, ((IntKind.u64.wrap ((IntKind.u64.wrap ((a0.size : Int))) * 8)) / 4294967296) % 256, ((IntKind.u64.wrap ((IntKind.u64.wrap ((a0.size : Int))) * 8)) / 16777216) % 256, ((IntKind.u64.wrap ((IntKind.u64.wrap ((a0.size : Int))) * 8)) / 65536) % 256, ((IntKind.u64.wrap ((IntKind.u64.wrap ((a0.size : Int))) * 8)) / 256) % 256, (IntKind.u64.wrap ((IntKind.u64.wrap ((a0.size : Int))) * 8)) % 256] : List Int)) := ⟨_, rfl⟩
          replace H : (if x3_1.size + (strOfNums y101).size ≤ 9223372036854775807 then (some (x3_1 ++ (strOfNums y101))) else (none)) = some r := by first | (rw [hy101]; with_reducible exact H) | (have H2_ := (Option.bind_some _ _).symm.trans H; rw [hy101]; with_reducible exact H2_) | (have H2_ := (Option.bind_some _ _).symm.trans H; with_reducible exact H2_) | with_reducible exact H | (rw [hy101]; exact H) | exact H
          have Ny101 := Aside0.mk hy101
          clear hy101
          by_cases c4 : x3_1.size + (strOfNums y101).size ≤ 9223372036854775807
          · rw [if_pos c4] at H
            have c4b0 := eq_true c4
            have c4b1 : decide (x3_1.size + (strOfNums y101).size ≤ 9223372036854775807) = true := decide_eq_true c4
            try have c4b2 : (9223372036854775807 < x3_1.size + (strOfNums y101).size) = False := eq_false (Nat.not_lt.2 c4)
            obtain rfl := Option.some.inj H
            go_wp2_with (first | ((with_reducible refine gate_dst (N := 41) rfl ?_); refine Kd.R_lit (Kd.int .u8) _ 5 ?hg (N := 41) ?hd (xs := ([((IntKind.u64.wrap ((IntKind.u64.wrap ((a0.size : Int))) * 8)) / 72057594037927936) % 256, ((IntKind.u64.wrap ((IntKind.u64.wrap ((a0.size : Int))) * 8)) / 281474976710656) % 256, ((IntKind.u64.wrap ((IntKind.u64.wrap ((a0.size : Int))) * 8)) / 1099511627776) % 256, ((IntKind.u64.wrap ((IntKind.u64.wrap ((a0.size : Int))) * 8)) / 4294967296) % 256, ((IntKind.u64.wrap ((IntKind.u64.wrap ((a0.size : Int))) * 8)) / 16777216) % 256, ((IntKind.u64.wrap ((IntKind.u64.wrap ((a0.size : Int))) * 8)) / 65536) % 256, ((IntKind.u64.wrap ((IntKind.u64.wrap ((a0.size : Int))) * 8)) / 256) % 256, (IntKind.u64.wrap ((IntKind.u64.wrap ((a0.size : Int))) * 8)) % 256] : List Int)) (inner := [.int .u8 (((IntKind.u64.wrap ((IntKind.u64.wrap ((a0.size : Int))) * 8)) / 72057594037927936) % 256), .int .u8 (((IntKind.u64.wrap ((IntKind.u64.wrap ((a0.size : Int))) * 8)) / 281474976710656) % 256), .int .u8 (((IntKind.u64.wrap ((IntKind.u64.wrap ((a0.size : Int))) * 8)) / 1099511627776) % 256), .int .u8 (((IntKind.u64.wrap ((IntKind.u64.wrap ((a0.size : Int))) * 8)) / 4294967296) % 256), .int .u8 (((IntKind.u64.wrap ((IntKind.u64.wrap ((a0.size : Int))) * 8)) / 16777216) % 256), .int .u8 (((IntKind.u64.wrap ((IntKind.u64.wrap ((a0.size : Int))) * 8)) / 65536) % 256), .int .u8 (((IntKind.u64.wrap ((IntKind.u64.wrap ((a0.size : Int))) * 8)) / 256) % 256), .int .u8 ((IntKind.u64.wrap ((IntKind.u64.wrap ((a0.size : Int))) * 8)) % 256)]) (ok := fun _ => True) (okp := fun _ => True) ?hr ?hp (fun _ hk => hk) trivial (Below.refl _ _) (Nat.le_refl _) (by simp) ?_; (case hd => rfl); (case hg => rfl); (case hr => first | (go_simp; done) | (go_simp; rfl)); (case hp => exact (Reps.one (show Kd.M (Kd.int .u8) _ _ _ (((IntKind.u64.wrap ((IntKind.u64.wrap ((a0.size : Int))) * 8)) / 72057594037927936) % 256) [.int .u8 (((IntKind.u64.wrap ((IntKind.u64.wrap ((a0.size : Int))) * 8)) / 72057594037927936) % 256)] from rfl) (Reps.one (show Kd.M (Kd.int .u8) _ _ _ (((IntKind.u64.wrap ((IntKind.u64.wrap ((a0.size : Int))) * 8)) / 281474976710656) % 256) [.int .u8 (((IntKind.u64.wrap ((IntKind.u64.wrap ((a0.size : Int))) * 8)) / 281474976710656) % 256)] from rfl) (Reps.one (show Kd.M (Kd.int .u8) _ _ _ (((IntKind.u64.wrap ((IntKind.u64.wrap ((a0.size : Int))) * 8)) / 1099511627776) % 256) [.int .u8 (((IntKind.u64.wrap ((IntKind.u64.wrap ((a0.size : Int))) * 8)) / 1099511627776) % 256)] from rfl) (Reps.one (show Kd.M (Kd.int .u8) _ _ _ (((IntKind.u64.wrap ((IntKind.u64.wrap ((a0.size : Int))) * 8)) / 4294967296) % 256) [.int .u8 (((IntKind.u64.wrap ((IntKind.u64.wrap ((a0.size : Int))) * 8)) / 4294967296) % 256)] from rfl) (Reps.one (show Kd.M (Kd.int .u8) _ _ _ (((IntKind.u64.wrap ((IntKind.u64.wrap ((a0.size : Int))) * 8)) / 16777216) % 256) [.int .u8 (((IntKind.u64.wrap ((IntKind.u64.wrap ((a0.size : Int))) * 8)) / 16777216) % 256)] from rfl) (Reps.one (show Kd.M (Kd.int .u8) _ _ _ (((IntKind.u64.wrap ((IntKind.u64.wrap ((a0.size : Int))) * 8)) / 65536) % 256) [.int .u8 (((IntKind.u64.wrap ((IntKind.u64.wrap ((a0.size : Int))) * 8)) / 65536) % 256)] from rfl) (Reps.one (show Kd.M (Kd.int .u8) _ _ _ (((IntKind.u64.wrap ((IntKind.u64.wrap ((a0.size : Int))) * 8)) / 256) % 256) [.int .u8 (((IntKind.u64.wrap ((IntKind.u64.wrap ((a0.size : Int))) * 8)) / 256) % 256)] from rfl) (Reps.one (show Kd.M (Kd.int .u8) _ _ _ ((IntKind.u64.wrap ((IntKind.u64.wrap ((a0.size : Int))) * 8)) % 256) [.int .u8 ((IntKind.u64.wrap ((IntKind.u64.wrap ((a0.size : Int))) * 8)) % 256)] from rfl) (Reps.none _ _)))))))))); intro v102 w5 ho6 hb hg_ hnew_; clear hg_ hnew_; (first | rw [← Ny101.out] at ho6 | (simp only [Int.reduceToNat] at ho6; rw [← Ny101.out] at ho6)); have n0_ := Aside0.mk (Kd.R_lower ho6 (below_size (by repeat (first | (with_reducible first | exact HB.out | apply below_alloc | apply pw_below_drewN | apply below_drew1) | exact HB.out)))); have n1_ := Aside0.mk (below_step (by repeat (first | (with_reducible first | exact HB.out | apply below_alloc | apply pw_below_drewN | apply below_drew1) | exact HB.out)) hb); clear HB; have HO103 := n0_; have HB := n1_; clear n0_ n1_; clear hb ho6; have hcv7 := own_string (P := Tryd.prog) Tryd.underlying41 Tryd.underlying5 Tryd.underlying9 (Kd.own_of_R HO103.out)))
            go_ret
            exact ⟨by first | rfl | (simp [errW_none, errW_some] <;> rfl) | (simp [*, errW_none, errW_some] <;> rfl), by repeat (first | (with_reducible first | exact HB.out | apply below_alloc | apply pw_below_drewN | apply below_drew1) | exact HB.out)⟩
          · rw [if_neg c4] at H
            exact absurd H (by simp)
        · rw [if_neg c3] at H
          have c3b0 : (((x3_1.size : Int) % 64) == 56) = false := beq_eq_false_iff_ne.mpr c3
          have c3b1 : (((x3_1.size : Int) % 64) != 56) = true := bne_iff_ne.mpr c3
          by_cases c8 : x3_1.size + 1 ≤ 9223372036854775807
          · rw [if_pos c8] at H
            have c8b0 := eq_true c8
            have c8b1 : decide (x3_1.size + 1 ≤ 9223372036854775807) = true := decide_eq_true c8
            try have c8b2 : (9223372036854775807 < x3_1.size + 1) = False := eq_false (Nat.not_lt.2 c8)
            have H' := Aside0.mk H
            clear H
            go_wp2
            go_roundg k1
            case measure => have := HK1.out; omega
            case rel => exact ⟨(x3_1 ++ (⟨#[0]⟩ : ByteArray)), (by first | rfl | (simp; done) | (simp [*]; done)), H', ⟨by have := HK1.out; omega⟩, ⟨by repeat (first | (with_reducible first | exact HB.out | apply below_alloc | apply pw_below_drewN | apply below_drew1) | exact HB.out)⟩⟩
          · rw [if_neg c8] at H
            exact absurd H (by simp)
  · rw [if_neg c2] at H
    exact absurd H (by simp)

/-! ### sphragisref02_first: function 41 -/
def sphragisref02_first.f  : Option (List Int) := some (([1779033703, 3144134277, 1013904242, 2773480762, 1359893119, 2600822924, 528734635, 1541459225] : List Int))
set_option maxHeartbeats 8000000 in
set_option maxRecDepth 100000 in
theorem sphragisref02_first.calls  (r : List Int) (w : World) (h : sphragisref02_first.f  = some r) :
    Calls Tryd.prog 41 #[] w fun e w' => ∃ v0_ : Value, e = .returned (v0_) ∧ Kd.R (Kd.int .u32) 22 w' w.heap.size (fun _ => True) v0_ r ∧ Below w.heap.size w w' := by
  have HB := Aside0.mk (Below.refl w.heap.size w)
  have H : (some (([1779033703, 3144134277, 1013904242, 2773480762, 1359893119, 2600822924, 528734635, 1541459225] : List Int))) = some r := h
  clear h
  obtain ⟨y104, hy104⟩ : ∃ y_ : List Int, y_ = (([1779033703, 3144134277, 1013904242, 2773480762, 1359893119, 2600822924, 528734635, 1541459225] : List Int)) := ⟨_, rfl⟩
  replace H : (some y104) = some r := by first | (rw [hy104]; with_reducible exact H) | (have H2_ := (Option.bind_some _ _).symm.trans H; rw [hy104]; with_reducible exact H2_) | (have H2_ := (Option.bind_some _ _).symm.trans H; with_reducible exact H2_) | with_reducible exact H | (rw [hy104]; exact H) | exact H
  have Ny104 := Aside0.mk hy104
  clear hy104
  obtain rfl := Option.some.inj H
  go_enter Tryd.func41, Tryd.ntmps41
  go_wp2_with (first | ((with_reducible refine gate_dst (N := 1) rfl ?_); refine Kd.R_lit (Kd.int .u32) _ 22 ?hg (N := 1) ?hd (xs := ([1779033703, 3144134277, 1013904242, 2773480762, 1359893119, 2600822924, 528734635, 1541459225] : List Int)) (inner := [.int .u32 1779033703, .int .u32 3144134277, .int .u32 1013904242, .int .u32 2773480762, .int .u32 1359893119, .int .u32 2600822924, .int .u32 528734635, .int .u32 1541459225]) (ok := fun _ => True) (okp := fun _ => True) ?hr ?hp (fun _ hk => hk) trivial (Below.refl _ _) (Nat.le_refl _) (by simp) ?_; (case hd => rfl); (case hg => rfl); (case hr => first | (go_simp; done) | (go_simp; rfl)); (case hp => exact (Reps.one (show Kd.M (Kd.int .u32) _ _ _ 1779033703 [.int .u32 1779033703] from rfl) (Reps.one (show Kd.M (Kd.int .u32) _ _ _ 3144134277 [.int .u32 3144134277] from rfl) (Reps.one (show Kd.M (Kd.int .u32) _ _ _ 1013904242 [.int .u32 1013904242] from rfl) (Reps.one (show Kd.M (Kd.int .u32) _ _ _ 2773480762 [.int .u32 2773480762] from rfl) (Reps.one (show Kd.M (Kd.int .u32) _ _ _ 1359893119 [.int .u32 1359893119] from rfl) (Reps.one (show Kd.M (Kd.int .u32) _ _ _ 2600822924 [.int .u32 2600822924] from rfl) (Reps.one (show Kd.M (Kd.int .u32) _ _ _ 528734635 [.int .u32 528734635] from rfl) (Reps.one (show Kd.M (Kd.int .u32) _ _ _ 1541459225 [.int .u32 1541459225] from rfl) (Reps.none _ _)))))))))); intro v105 w1 ho2 hb hg_ hnew_; clear hg_ hnew_; (first | rw [← Ny104.out] at ho2 | (simp only [Int.reduceToNat] at ho2; rw [← Ny104.out] at ho2)); have n0_ := Aside0.mk (Kd.R_lower ho2 (below_size (by repeat (first | (with_reducible first | exact HB.out | apply below_alloc | apply pw_below_drewN | apply below_drew1) | exact HB.out)))); have n1_ := Aside0.mk (below_step (by repeat (first | (with_reducible first | exact HB.out | apply below_alloc | apply pw_below_drewN | apply below_drew1) | exact HB.out)) hb); clear HB; have HO106 := n0_; have HB := n1_; clear n0_ n1_; clear hb ho2))
  go_ret
  exact ⟨_, by first | rfl | (simp [errW_none, errW_some] <;> rfl) | (simp [*, errW_none, errW_some] <;> rfl), by (with_reducible repeat (first | apply Kd.R_alloc | apply Kd.R_drewN | apply Kd.R_drew)); exact HO106.out, by repeat (first | (with_reducible first | exact HB.out | apply below_alloc | apply pw_below_drewN | apply below_drew1) | exact HB.out)⟩

/-! ### sphragisref02_turned: function 51 -/
def sphragisref02_turned.f (a0 : Int) (a1 : Int) : Option (Int) := if 0 ≤ a1 then (if 0 ≤ (wrap64 (32 - a1)) then (some (Go.bits .or .u32 (shr .u32 a0 a1) (shl .u32 a0 (wrap64 (32 - a1))))) else (none)) else (none)
set_option maxHeartbeats 8000000 in
set_option maxRecDepth 100000 in
theorem sphragisref02_turned.calls (a0 : Int) (a1 : Int) (r : Int) (w : World) (h : sphragisref02_turned.f a0 a1 = some r) :
    Calls Tryd.prog 51 #[.int .u32 a0, .int .i64 a1] w fun e w' => e = .returned (.int .u32 r) ∧ Drawn0 w w' := by
  have H : (if 0 ≤ a1 then (if 0 ≤ (wrap64 (32 - a1)) then (some (Go.bits .or .u32 (shr .u32 a0 a1) (shl .u32 a0 (wrap64 (32 - a1))))) else (none)) else (none)) = some r := h
  clear h
  by_cases c3 : 0 ≤ a1
  · rw [if_pos c3] at H
    have c3b0 := eq_true c3
    have c3b1 : decide (0 ≤ a1) = true := decide_eq_true c3
    clear c3
    obtain ⟨ji4, hji4⟩ : ∃ j_ : Int, (shr .u32 a0 a1) = j_ := ⟨_, rfl⟩
    replace H : (if 0 ≤ (wrap64 (32 - a1)) then (some (Go.bits .or .u32 (ji4) (shl .u32 a0 (wrap64 (32 - a1))))) else (none)) = some r := by first | (rw [hji4] at H; exact H) | (simp only [hji4] at H ⊢; exact H)
    have hji4_ : (a0 / 2 ^ min a1.toNat 32) = ji4 := hji4
    have hji4z : a1 ≤ 32 → (a0 / 2 ^ a1.toNat) = ji4 := shr_small hji4
    obtain ⟨ji5, hji5⟩ : ∃ j_ : Int, (wrap64 (32 - a1)) = j_ := ⟨_, rfl⟩
    replace H : (if 0 ≤ (ji5) then (some (Go.bits .or .u32 (ji4) (shl .u32 a0 (ji5)))) else (none)) = some r := by first | (rw [hji5] at H; exact H) | (simp only [hji5] at H ⊢; exact H)
    have hji5w : (IntKind.i64.wrap (32 - a1)) = ji5 := (i64_w _).trans hji5
    by_cases c6 : 0 ≤ (ji5)
    · rw [if_pos c6] at H
      have c6b0 := eq_true c6
      have c6b1 : decide (0 ≤ (ji5)) = true := decide_eq_true c6
      clear c6
      obtain ⟨ji7, hji7⟩ : ∃ j_ : Int, (shl .u32 a0 (ji5)) = j_ := ⟨_, rfl⟩
      replace H : (some (Go.bits .or .u32 (ji4) (ji7))) = some r := by first | (rw [hji7] at H; exact H) | (simp only [hji7] at H ⊢; exact H)
      have hji7_ : (IntKind.u32.wrap (a0 * 2 ^ min (ji5).toNat 32)) = ji7 := hji7
      have hji7z : (ji5) ≤ 32 → (IntKind.u32.wrap (a0 * 2 ^ (ji5).toNat)) = ji7 := shl_small hji7
      obtain rfl := Option.some.inj H
      go_enter Tryd.func51, Tryd.ntmps51
      go_wp2
      repeat (go_quiet (fail); try go_wp2)
      go_ret
      exact ⟨by first | rfl | (simp; done) | (simp only [← hji4, ← hji5, ← hji7] <;> (first | rfl | simp)) | (simp [*]; done), by repeat (first | exact Drawn0.refl _ | apply Drawn0.step)⟩
    · rw [if_neg c6] at H
      exact absurd H (by simp)
  · rw [if_neg c3] at H
    exact absurd H (by simp)

/-! ### bits_RotateLeft32: function 65 -/
def bits_RotateLeft32.f (a0 : Int) (a1 : Int) : Option (Int) := if 0 ≤ (Go.bits .and .u64 (IntKind.u64.wrap (a1)) 31) then (if 0 ≤ (IntKind.u64.wrap (32 - (Go.bits .and .u64 (IntKind.u64.wrap (a1)) 31))) then (some (Go.bits .or .u32 (shl .u32 a0 (Go.bits .and .u64 (IntKind.u64.wrap (a1)) 31)) (shr .u32 a0 (IntKind.u64.wrap (32 - (Go.bits .and .u64 (IntKind.u64.wrap (a1)) 31)))))) else (none)) else (none)
set_option maxHeartbeats 8000000 in
set_option maxRecDepth 100000 in
theorem bits_RotateLeft32.calls (a0 : Int) (a1 : Int) (r : Int) (w : World) (h : bits_RotateLeft32.f a0 a1 = some r) :
    Calls Tryd.prog 65 #[.int .u32 a0, .int .i64 a1] w fun e w' => e = .returned (.int .u32 r) ∧ Drawn0 w w' := by
  have H : (if 0 ≤ (Go.bits .and .u64 (IntKind.u64.wrap (a1)) 31) then (if 0 ≤ (IntKind.u64.wrap (32 - (Go.bits .and .u64 (IntKind.u64.wrap (a1)) 31))) then (some (Go.bits .or .u32 (shl .u32 a0 (Go.bits .and .u64 (IntKind.u64.wrap (a1)) 31)) (shr .u32 a0 (IntKind.u64.wrap (32 - (Go.bits .and .u64 (IntKind.u64.wrap (a1)) 31)))))) else (none)) else (none)) = some r := h
  clear h
  obtain ⟨ji3, hji3⟩ : ∃ j_ : Int, (Go.bits .and .u64 (IntKind.u64.wrap (a1)) 31) = j_ := ⟨_, rfl⟩
  replace H : (if 0 ≤ (ji3) then (if 0 ≤ (IntKind.u64.wrap (32 - (ji3))) then (some (Go.bits .or .u32 (shl .u32 a0 (ji3)) (shr .u32 a0 (IntKind.u64.wrap (32 - (ji3)))))) else (none)) else (none)) = some r := by first | (rw [hji3] at H; exact H) | (simp only [hji3] at H ⊢; exact H)
  by_cases c4 : 0 ≤ (ji3)
  · rw [if_pos c4] at H
    have c4b0 := eq_true c4
    have c4b1 : decide (0 ≤ (ji3)) = true := decide_eq_true c4
    clear c4
    obtain ⟨ji5, hji5⟩ : ∃ j_ : Int, (shl .u32 a0 (ji3)) = j_ := ⟨_, rfl⟩
    replace H : (if 0 ≤ (IntKind.u64.wrap (32 - (ji3))) then (some (Go.bits .or .u32 (ji5) (shr .u32 a0 (IntKind.u64.wrap (32 - (ji3)))))) else (none)) = some r := by first | (rw [hji5] at H; exact H) | (simp only [hji5] at H ⊢; exact H)
    have hji5_ : (IntKind.u32.wrap (a0 * 2 ^ min (ji3).toNat 32)) = ji5 := hji5
    have hji5z : (ji3) ≤ 32 → (IntKind.u32.wrap (a0 * 2 ^ (ji3).toNat)) = ji5 := shl_small hji5
    obtain ⟨ji6, hji6⟩ : ∃ j_ : Int, (IntKind.u64.wrap (32 - (ji3))) = j_ := ⟨_, rfl⟩
    replace H : (if 0 ≤ (ji6) then (some (Go.bits .or .u32 (ji5) (shr .u32 a0 (ji6)))) else (none)) = some r := by first | (rw [hji6] at H; exact H) | (simp only [hji6] at H ⊢; exact H)
    by_cases c7 : 0 ≤ (ji6)
    · rw [if_pos c7] at H
      have c7b0 := eq_true c7
      have c7b1 : decide (0 ≤ (ji6)) = true := decide_eq_true c7
      clear c7
      obtain ⟨ji8, hji8⟩ : ∃ j_ : Int, (shr .u32 a0 (ji6)) = j_ := ⟨_, rfl⟩
      replace H : (some (Go.bits .or .u32 (ji5) (ji8))) = some r := by first | (rw [hji8] at H; exact H) | (simp only [hji8] at H ⊢; exact H)
      have hji8_ : (a0 / 2 ^ min (ji6).toNat 32) = ji8 := hji8
      have hji8z : (ji6) ≤ 32 → (a0 / 2 ^ (ji6).toNat) = ji8 := shr_small hji8
      obtain rfl := Option.some.inj H
      go_enter Tryd.func65, Tryd.ntmps65
      go_wp2
      go_ret
      exact ⟨by first | rfl | (simp; done) | (simp only [← hji3, ← hji5, ← hji6, ← hji8] <;> (first | rfl | simp)) | (simp [*]; done), by repeat (first | exact Drawn0.refl _ | apply Drawn0.step)⟩
    · rw [if_neg c7] at H
      exact absurd H (by simp)
  · rw [if_neg c4] at H
    exact absurd H (by simp)

end Go.Proofs.YtobjhddiieaafaaDoor.H
