/- The words' turns: the walks. -/
import Derived.Test.YtobjhddiieaafaaDoorH2
import Derived.Test.YtobjhddiieaafaaDoorH2
import Derived.Test.YtobjhddiieaafaaDoorA1
import Derived.WalkKit
import Derived.Lib.Hide
import Derived.Laws.CopyOwn
import Derived.ChangeKeysEq
import Derived.Outline
import Derived.StillTailTactics
import Derived.OwnWalkIn
import Derived.Maps.AppendAt
import Derived.Shelf.RegionOpen
namespace Go.Proofs.YtobjhddiieaafaaDoor.M
open Go.Proofs.YtobjhddiieaafaaDoor.H
open Go.RowKit Go.Proofs.YtobjhddiieaafaaDoorW.PrintWords Go.Proofs.YtobjhddiieaafaaDoorW.PrintLast Go.Proofs.YtobjhddiieaafaaDoorW.PrintMore Go.Proofs.YtobjhddiieaafaaDoor.Plain
set_option linter.unusedVariables false
set_option linter.unusedSimpArgs false

/-- How far a word is turned. -/
def turns : List Nat := [2, 6, 7, 11, 13, 17, 18, 19, 22, 25]
theorem rot_eq (x : Int) (n : Nat) (h : n ∈ turns) : bits_RotateLeft32.f x (-(n : Int)) = some (rotr x n) := by
  unfold rotr
  rw [Plain.or_comm]
  simp only [turns, List.mem_cons, List.not_mem_nil, or_false] at h
  rcases h with rfl | rfl | rfl | rfl | rfl | rfl | rfl | rfl | rfl | rfl
  all_goals rfl
theorem turned_eq (x : Int) (n : Nat) (h : n ∈ turns) : sphragisref02_turned.f x (n : Int) = some (rotr x n) := by
  have hn : n ≤ 25 := by
    simp only [turns, List.mem_cons, List.not_mem_nil, or_false] at h
    omega
  have e : wrap64 (32 - (n : Int)) = ((32 - n : Nat) : Int) := by unfold wrap64; omega
  unfold sphragisref02_turned.f rotr
  rw [if_pos (by omega), e, if_pos (by omega)]
theorem turn_calls (x : Int) (n : Nat) (h : n ∈ turns) (w : World) :
    Calls Tryd.prog 59 #[.int .u32 x, .int .i64 (n : Int)] w fun e w' => e = .returned (.int .u32 (rotr x n)) ∧ Drawn0 w w' := by
  have hn : n ≤ 25 := by
    simp only [turns, List.mem_cons, List.not_mem_nil, or_false] at h
    omega
  have hw : IntKind.i64.wrap (-(n : Int)) = -(n : Int) := by rw [i64_w]; unfold wrap64; omega
  have hr := rot_eq x n h
  have Hr := Lib.hid hr
  clear hr h hn
  go_enter Tryd.func59, Tryd.ntmps59
  go_wp2_with fail
  refine (bits_RotateLeft32.calls x (-(n : Int)) (rotr x n) _ Hr.out).mono ?_
  rintro e w' ⟨rfl, nd, rfl⟩
  go_wp2
  go_ret
  first | exact ⟨rfl, _, rfl⟩ | exact ⟨rfl, _, World.drewN_drewN _ _ _⟩

theorem turned_calls (x : Int) (n : Nat) (h : n ∈ turns) (w : World) :
    Calls Tryd.prog 51 #[.int .u32 x, .int .i64 (n : Int)] w fun e w' => e = .returned (.int .u32 (rotr x n)) ∧ Drawn0 w w' :=
  sphragisref02_turned.calls _ _ _ _ (turned_eq _ _ h)

end Go.Proofs.YtobjhddiieaafaaDoor.M

namespace Go.Proofs.YtobjhddiieaafaaDoor.M
open Go.Proofs.YtobjhddiieaafaaDoor.H
open Go.RowKit Go.Proofs.YtobjhddiieaafaaDoorW.PrintWords Go.Proofs.YtobjhddiieaafaaDoorW.PrintLast Go.Proofs.YtobjhddiieaafaaDoorW.PrintMore Go.Proofs.YtobjhddiieaafaaDoor.Plain Go.Proofs.YtobjhddiieaafaaDoor.RowOf
set_option linter.unusedVariables false
set_option linter.unusedSimpArgs false

/-- The array, when t words stand. -/
def filled (F : Nat → Int) (t : Nat) : List Int := sched F t ++ List.replicate (64 - t) 0
theorem filled_len (F : Nat → Int) (t : Nat) (h : t ≤ 64) : (filled F t).length = 64 := by
  rw [filled, List.length_append, sched_len, List.length_replicate]
  omega
theorem filled_at (F : Nat → Int) (t i : Nat) (h : i < t) : wrd (filled F t) i = at_ (sched F t) i := by
  unfold wrd filled at_
  rw [List.getD_eq_getElem?_getD, List.getElem?_append_left (by rw [sched_len]; exact h), List.getD_eq_getElem?_getD]
theorem filled_set (F : Nat → Int) (t : Nat) (h : t < 64) : (filled F t).set t (word F (sched F t) t) = filled F (t + 1) := by
  unfold filled
  rw [List.set_append_right _ _ (by rw [sched_len]; exact Nat.le_refl _), sched_len, Nat.sub_self, show 64 - t = (64 - (t + 1)) + 1 by omega, List.replicate_succ, List.set_cons_zero, sched, List.append_assoc]
  rfl

theorem skip_step {P : Program} {ops : Array Oper} {a : Act} {o : Oper} {Kc : Act → World → Prop} {Q : Exit → Act → World → Prop} {W w1 : World} (hw : Region.wanted o (yielded ops a.tmps) = true) (hrun : (execOp a.eval o).run P W = .ok .skip w1) (h : Kc (a.put o.dst undef) w1) :
    if Region.wanted o (yielded ops a.tmps) = true then Oper.wp P o a W Kc Q else Kc (a.put o.dst undef) W := by
  rw [if_pos hw]
  unfold Oper.wp
  rw [hrun, Oper.upon_skip]
  exact h

theorem wu (s : ByteArray) (i : Int) : IntKind.u32.wrap (bt s i) = bt s i := by
  have := bt_range s i
  show bt s i % 4294967296 = bt s i
  omega
theorem storeCells_run {P : Program} {W : World} {g : Nat} {t : TypeId} {old cs : Array Value} (hg : W.heap[g]? = some (.cells old t (0, 0))) (ho : cs.size = old.size) (h1 : cs.all (·.oneCell') = true) :
    (storeCells ⟨g, 0, none⟩ cs.toList).run P W = .ok () (W.setRow g cs) := by
  have := run_storeCells_from (P := P) g t cs.toList 0 old W hg (by simp; omega) (fun v hv => (Array.all_eq_true_iff_forall_mem.1 h1) v (by simpa using hv))
  simpa using this
theorem zero64 : #[Value.int .u32 0, Value.int .u32 0, Value.int .u32 0, Value.int .u32 0, Value.int .u32 0, Value.int .u32 0, Value.int .u32 0, Value.int .u32 0, Value.int .u32 0, Value.int .u32 0, Value.int .u32 0, Value.int .u32 0, Value.int .u32 0, Value.int .u32 0, Value.int .u32 0, Value.int .u32 0, Value.int .u32 0, Value.int .u32 0, Value.int .u32 0, Value.int .u32 0, Value.int .u32 0, Value.int .u32 0, Value.int .u32 0, Value.int .u32 0, Value.int .u32 0, Value.int .u32 0, Value.int .u32 0, Value.int .u32 0, Value.int .u32 0, Value.int .u32 0, Value.int .u32 0, Value.int .u32 0, Value.int .u32 0, Value.int .u32 0, Value.int .u32 0, Value.int .u32 0, Value.int .u32 0, Value.int .u32 0, Value.int .u32 0, Value.int .u32 0, Value.int .u32 0, Value.int .u32 0, Value.int .u32 0, Value.int .u32 0, Value.int .u32 0, Value.int .u32 0, Value.int .u32 0, Value.int .u32 0, Value.int .u32 0, Value.int .u32 0, Value.int .u32 0, Value.int .u32 0, Value.int .u32 0, Value.int .u32 0, Value.int .u32 0, Value.int .u32 0, Value.int .u32 0, Value.int .u32 0, Value.int .u32 0, Value.int .u32 0, Value.int .u32 0, Value.int .u32 0, Value.int .u32 0, Value.int .u32 0] = ((List.replicate 64 (0 : Int)).map (Value.int .u32)).toArray := by rfl
theorem row_new (W : World) (xs : List Int) : Row (W.alloc (.cells (xs.map (Value.int .u32)).toArray 91 (0, 0))) W.heap.size 91 xs := ⟨_, World.alloc_heap_new W _, [], fun _ => rfl, by simp⟩

set_option maxRecDepth 100000 in
set_option maxHeartbeats 4000000 in
theorem spread_calls (s : ByteArray) (hs : s.size = 64) (w : World) :
    Calls Tryd.prog 58 #[.string s] w fun e w' => e = .returned (.agg ((sched (fun i => bt s (i : Int)) 64).map (Value.int .u32)).toArray) ∧ Below w.heap.size w w' := by
  obtain ⟨F, hF⟩ : ∃ F : Nat → Int, (fun i : Nat => bt s (i : Int)) = F := ⟨_, rfl⟩
  rw [hF]
  have HF := Lib.hid hF
  clear hF
  go_enter Tryd.func58, Tryd.ntmps58
  go_wp2
  go_loopw [8] (fun v wr => ∃ t : Nat, v = .int .i64 t ∧ t ≤ 64 ∧ Row wr (w.heap.size + 1) 91 (filled F t) ∧ Row wr w.heap.size 91 (List.replicate 64 0) ∧ Below w.heap.size w wr) (fun v _ => 64 - (intOf v).toNat)
  case atStart =>
    refine ⟨0, rfl, Nat.zero_le _, ?_, ?_, ((Below.refl _ w).alloc (Nat.le_refl _) _).alloc (by rw [World.size_alloc]; omega) _⟩
    · have h := row_new (w.alloc (.cells ((List.replicate 64 (0 : Int)).map (Value.int .u32)).toArray 91 (0, 0))) (List.replicate 64 0)
      rw [World.size_alloc] at h
      exact h
    · exact (row_new w (List.replicate 64 0)).alloc _
  case round =>
    obtain ⟨t, rfl, ht, hR, hZ, hB⟩ := hrel
    by_cases h64 : t = 64
    · subst h64
      have hx : wr.heap[w.heap.size + 1]? = some (.cells ((filled F 64).map (Value.int .u32)).toArray 91 (0, 0)) := row_exact hR
      have hz : wr.heap[w.heap.size]? = some (.cells ((List.replicate 64 (0 : Int)).map (Value.int .u32)).toArray 91 (0, 0)) := row_exact hZ
      rw [show filled F 64 = sched F 64 from by unfold filled; simp] at hx
      have hsz : ((sched F 64).map (Value.int .u32)).toArray.size = 64 := by simp [sched_len]
      have hal : ((sched F 64).map (Value.int .u32)).toArray.all (·.oneCell') = true := by simp [Value.oneCell']
      obtain ⟨cs, hcs⟩ : ∃ cs, ((sched F 64).map (Value.int .u32)).toArray = cs := ⟨_, rfl⟩
      rw [hcs] at hx hsz hal
      have Hcs := Lib.hid hcs
      have hst := storeCells_run (P := Tryd.prog) hz (by rw [hsz]; rfl) hal
      clear hcs hR hZ
      go_wp2_with (first | (with_reducible refine wpList_load_row rfl 91 (.tmp 3) rfl (w.heap.size + 1) rfl 91 _ (0, 0) _ hx Tryd.underlying91 rfl (by rw [hsz]; kernel_rfl) ?_))
      have hq2 := setRow_heap wr w.heap.size _ cs _ _ hz
      refine bodyPost_ret (results_cell_row rfl _ _ w.heap.size 91 cs (0, 0) _ rfl hq2 Tryd.underlying91 rfl (by rw [hsz]; kernel_rfl)) rfl ⟨by rw [Hcs.out], below_setRow hB (Nat.le_refl _) cs⟩
    · have hlt : t < 64 := by omega
      have hltd : decide ((t : Int) < 64) = true := decide_eq_true (by omega)
      have ht0 : (0 : Int) ≤ (t : Int) := by omega
      by_cases h16 : t < 16
      · have h16d : decide ((t : Int) < 16) = true := decide_eq_true (by omega)
        obtain ⟨a, ha⟩ : ∃ a : Nat, 4 * t = a := ⟨_, rfl⟩
        have hw0 : IntKind.i64.wrap (4 * (t : Int)) = (a : Int) := by rw [i64_w]; unfold wrap64; omega
        have hw1 : IntKind.i64.wrap ((a : Int) + 1) = (a : Int) + 1 := by rw [i64_w]; unfold wrap64; omega
        have hw2 : IntKind.i64.wrap ((a : Int) + 2) = (a : Int) + 2 := by rw [i64_w]; unfold wrap64; omega
        have hw3 : IntKind.i64.wrap ((a : Int) + 3) = (a : Int) + 3 := by rw [i64_w]; unfold wrap64; omega
        have p0 := eq_true (show (0 : Int) ≤ (a : Int) by omega)
        have p1 := eq_true (show (0 : Int) ≤ (a : Int) + 1 by omega)
        have p2 := eq_true (show (0 : Int) ≤ (a : Int) + 2 by omega)
        have p3 := eq_true (show (0 : Int) ≤ (a : Int) + 3 by omega)
        have q0 := eq_true (show (a : Int) < (s.size : Int) by omega)
        have q1 := eq_true (show (a : Int) + 1 < (s.size : Int) by omega)
        have q2 := eq_true (show (a : Int) + 2 < (s.size : Int) by omega)
        have q3 := eq_true (show (a : Int) + 3 < (s.size : Int) by omega)
        have y0 : ∀ h : a < s.size, ((s[a]'h).toNat : Int) = bt s (a : Int) := fun h => bt_at s (a : Int) h
        have y1 : ∀ h : a + 1 < s.size, ((s[a + 1]'h).toNat : Int) = bt s ((a : Int) + 1) := fun h => by
          have e : ((a : Int) + 1).toNat = a + 1 := by omega
          have z := bt_at s ((a : Int) + 1)
          simp only [e] at z
          exact z h
        have x0 := bt_at s (a : Int)
        have x1 := bt_at s ((a : Int) + 1)
        have x2 := bt_at s ((a : Int) + 2)
        have x3 := bt_at s ((a : Int) + 3)
        have pt := eq_true (show (0 : Int) ≤ (t : Int) by omega)
        have Hs := Lib.hid hs
        clear hs
        have qt := eq_true (show (t : Int) < 64 by omega)
        go_upto_region 7 with (fail)
        refine start_ (n := 28) (S := fun w' => Row w' (w.heap.size + 1) 91 (filled F t) ∧ True) (ds := [27]) #[false, false, false, false, false, false, false, false, false, false, false, false, false, false, false, false, false, false, false, false, false, false, false, false, false, false, false, false] (by kernel_rfl) rfl rfl ⟨hR.kept rfl, trivial⟩ (fun hHeld => ?_)
        have hB2 := hB.drew
        have hZ2 := hZ.kept (W' := wr.drew) rfl
        generalize wr.drew = W0 at hHeld hB2 hZ2 ⊢
        clear hR hZ hB
        refine pure_ (i := 0) (N := some 15) (v := ?_) (a' := ?_) #[true, false, false, false, false, false, false, false, false, false, false, false, false, false, false, false, false, false, false, false, false, false, false, false, false, false, false, false] rfl rfl (by kernel_rfl) (fun _ _ _ h => h) (Or.inl ⟨by rfl, ?_⟩) ?_ ?_
        rotate_left
        · intro w'
          go_simp
          try (with_reducible rfl)
        rotate_left
        · simp only [Act.put, List.setIfInBounds_toArray, List.set_cons_zero, List.set_cons_succ, i64_w, i32_w]
          rfl
        refine pure_ (i := 1) (N := some 16) (v := ?_) (a' := ?_) #[true, true, false, false, false, false, false, false, false, false, false, false, false, false, false, false, false, false, false, false, false, false, false, false, false, false, false, false] rfl rfl (by kernel_rfl) (fun _ _ _ h => h) (Or.inl ⟨by rfl, ?_⟩) ?_ ?_
        rotate_left
        · intro w'
          go_simp
          try (with_reducible rfl)
        rotate_left
        · simp only [Act.put, List.setIfInBounds_toArray, List.set_cons_zero, List.set_cons_succ, i64_w, i32_w]
          rfl
        refine pure_ (i := 2) (N := some 17) (v := ?_) (a' := ?_) #[true, true, true, false, false, false, false, false, false, false, false, false, false, false, false, false, false, false, false, false, false, false, false, false, false, false, false, false] rfl rfl (by kernel_rfl) (fun _ _ _ h => h) (Or.inl ⟨by rfl, ?_⟩) ?_ ?_
        rotate_left
        · intro w'
          go_simp
          try (with_reducible rfl)
        rotate_left
        · simp only [Act.put, List.setIfInBounds_toArray, List.set_cons_zero, List.set_cons_succ, i64_w, i32_w]
          rfl
        refine pure_ (i := 3) (N := some 18) (v := ?_) (a' := ?_) #[true, true, true, true, false, false, false, false, false, false, false, false, false, false, false, false, false, false, false, false, false, false, false, false, false, false, false, false] rfl rfl (by kernel_rfl) (fun _ _ _ h => h) (Or.inl ⟨by rfl, ?_⟩) ?_ ?_
        rotate_left
        · intro w'
          go_simp
          try (with_reducible rfl)
        rotate_left
        · simp only [Act.put, List.setIfInBounds_toArray, List.set_cons_zero, List.set_cons_succ, i64_w, i32_w]
          rfl
        refine pure_ (i := 4) (N := some 19) (v := ?_) (a' := ?_) #[true, true, true, true, true, false, false, false, false, false, false, false, false, false, false, false, false, false, false, false, false, false, false, false, false, false, false, false] rfl rfl (by kernel_rfl) (fun _ _ _ h => h) (Or.inl ⟨by rfl, ?_⟩) ?_ ?_
        rotate_left
        · intro w'
          go_simp
          try (with_reducible rfl)
        rotate_left
        · simp only [Act.put, List.setIfInBounds_toArray, List.set_cons_zero, List.set_cons_succ, i64_w, i32_w]
          rfl
        refine pure_ (i := 5) (N := some 20) (v := ?_) (a' := ?_) #[true, true, true, true, true, true, false, false, false, false, false, false, false, false, false, false, false, false, false, false, false, false, false, false, false, false, false, false] rfl rfl (by kernel_rfl) (fun _ _ _ h => h) (Or.inl ⟨by rfl, ?_⟩) ?_ ?_
        rotate_left
        · intro w'
          go_simp
          try (with_reducible rfl)
        rotate_left
        · simp only [Act.put, List.setIfInBounds_toArray, List.set_cons_zero, List.set_cons_succ, i64_w, i32_w]
          rfl
        refine pure_ (i := 6) (N := some 21) (v := ?_) (a' := ?_) #[true, true, true, true, true, true, true, false, false, false, false, false, false, false, false, false, false, false, false, false, false, false, false, false, false, false, false, false] rfl rfl (by kernel_rfl) (fun _ _ _ h => h) (Or.inl ⟨by rfl, ?_⟩) ?_ ?_
        rotate_left
        · intro w'
          go_simp
          try (with_reducible rfl)
        rotate_left
        · simp only [Act.put, List.setIfInBounds_toArray, List.set_cons_zero, List.set_cons_succ, i64_w, i32_w]
          rfl
        refine pure_ (i := 7) (N := some 22) (v := ?_) (a' := ?_) #[true, true, true, true, true, true, true, true, false, false, false, false, false, false, false, false, false, false, false, false, false, false, false, false, false, false, false, false] rfl rfl (by kernel_rfl) (fun _ _ _ h => h) (Or.inl ⟨by rfl, ?_⟩) ?_ ?_
        rotate_left
        · intro w'
          go_simp
          try (with_reducible rfl)
        rotate_left
        · simp only [Act.put, List.setIfInBounds_toArray, List.set_cons_zero, List.set_cons_succ, i64_w, i32_w]
          rfl
        refine pure_ (i := 8) (N := some 23) (v := ?_) (a' := ?_) #[true, true, true, true, true, true, true, true, true, false, false, false, false, false, false, false, false, false, false, false, false, false, false, false, false, false, false, false] rfl rfl (by kernel_rfl) (fun _ _ _ h => h) (Or.inl ⟨by rfl, ?_⟩) ?_ ?_
        rotate_left
        · intro w'
          go_simp
          try (with_reducible rfl)
        rotate_left
        · simp only [Act.put, List.setIfInBounds_toArray, List.set_cons_zero, List.set_cons_succ, i64_w, i32_w]
          rfl
        refine pure_ (i := 9) (N := some 24) (v := ?_) (a' := ?_) #[true, true, true, true, true, true, true, true, true, true, false, false, false, false, false, false, false, false, false, false, false, false, false, false, false, false, false, false] rfl rfl (by kernel_rfl) (fun _ _ _ h => h) (Or.inl ⟨by rfl, ?_⟩) ?_ ?_
        rotate_left
        · intro w'
          go_simp
          try (with_reducible rfl)
        rotate_left
        · simp only [Act.put, List.setIfInBounds_toArray, List.set_cons_zero, List.set_cons_succ, i64_w, i32_w]
          rfl
        refine pure_ (i := 10) (N := some 25) (v := ?_) (a' := ?_) #[true, true, true, true, true, true, true, true, true, true, true, false, false, false, false, false, false, false, false, false, false, false, false, false, false, false, false, false] rfl rfl (by kernel_rfl) (fun _ _ _ h => h) (Or.inl ⟨by rfl, ?_⟩) ?_ ?_
        rotate_left
        · intro w'
          go_simp
          try (with_reducible rfl)
        rotate_left
        · simp only [Act.put, List.setIfInBounds_toArray, List.set_cons_zero, List.set_cons_succ, i64_w, i32_w]
          rfl
        refine pure_ (i := 11) (N := some 26) (v := ?_) (a' := ?_) #[true, true, true, true, true, true, true, true, true, true, true, true, false, false, false, false, false, false, false, false, false, false, false, false, false, false, false, false] rfl rfl (by kernel_rfl) (fun _ _ _ h => h) (Or.inl ⟨by rfl, ?_⟩) ?_ ?_
        rotate_left
        · intro w'
          go_simp
          try (with_reducible rfl)
        rotate_left
        · simp only [Act.put, List.setIfInBounds_toArray, List.set_cons_zero, List.set_cons_succ, i64_w, i32_w]
          rfl
        refine pure_ (i := 12) (N := some 27) (v := ?_) (a' := ?_) #[true, true, true, true, true, true, true, true, true, true, true, true, true, false, false, false, false, false, false, false, false, false, false, false, false, false, false, false] rfl rfl (by kernel_rfl) (fun _ _ _ h => h) (Or.inl ⟨by rfl, ?_⟩) ?_ ?_
        rotate_left
        · intro w'
          go_simp
          try (with_reducible rfl)
        rotate_left
        · simp only [Act.put, List.setIfInBounds_toArray, List.set_cons_zero, List.set_cons_succ, i64_w, i32_w]
          rfl
        refine pure_ (i := 13) (N := some 28) (v := ?_) (a' := ?_) #[true, true, true, true, true, true, true, true, true, true, true, true, true, true, false, false, false, false, false, false, false, false, false, false, false, false, false, false] rfl rfl (by kernel_rfl) (fun _ _ _ h => h) (Or.inl ⟨by rfl, ?_⟩) ?_ ?_
        rotate_left
        · intro w'
          go_simp
          try (with_reducible rfl)
        rotate_left
        · simp only [Act.put, List.setIfInBounds_toArray, List.set_cons_zero, List.set_cons_succ, i64_w, i32_w]
          rfl
        refine pure_ (i := 14) (N := some 29) (v := ?_) (a' := ?_) #[true, true, true, true, true, true, true, true, true, true, true, true, true, true, true, false, false, false, false, false, false, false, false, false, false, false, false, false] rfl rfl (by kernel_rfl) (fun _ _ _ h => h) (Or.inl ⟨by rfl, ?_⟩) ?_ ?_
        rotate_left
        · intro w'
          go_simp
          try (with_reducible rfl)
        rotate_left
        · simp only [Act.put, List.setIfInBounds_toArray, List.set_cons_zero, List.set_cons_succ, i64_w, i32_w]
          rfl
        refine pure_ (i := 15) (N := some 30) (v := ?_) (a' := ?_) #[true, true, true, true, true, true, true, true, true, true, true, true, true, true, true, true, false, false, false, false, false, false, false, false, false, false, false, false] rfl rfl (by kernel_rfl) (fun _ _ _ h => h) (Or.inl ⟨by rfl, ?_⟩) ?_ ?_
        rotate_left
        · intro w'
          go_simp
          try (with_reducible rfl)
        rotate_left
        · simp only [Act.put, List.setIfInBounds_toArray, List.set_cons_zero, List.set_cons_succ, i64_w, i32_w]
          rfl
        refine pure_ (i := 16) (N := some 31) (v := ?_) (a' := ?_) #[true, true, true, true, true, true, true, true, true, true, true, true, true, true, true, true, true, false, false, false, false, false, false, false, false, false, false, false] rfl rfl (by kernel_rfl) (fun _ _ _ h => h) (Or.inl ⟨by rfl, ?_⟩) ?_ ?_
        rotate_left
        · intro w'
          go_simp
          try (with_reducible rfl)
        rotate_left
        · simp only [Act.put, List.setIfInBounds_toArray, List.set_cons_zero, List.set_cons_succ, i64_w, i32_w]
          rfl
        refine pure_ (i := 17) (N := some 32) (v := ?_) (a' := ?_) #[true, true, true, true, true, true, true, true, true, true, true, true, true, true, true, true, true, true, false, false, false, false, false, false, false, false, false, false] rfl rfl (by kernel_rfl) (fun _ _ _ h => h) (Or.inl ⟨by rfl, ?_⟩) ?_ ?_
        rotate_left
        · intro w'
          go_simp
          try (with_reducible rfl)
        rotate_left
        · simp only [Act.put, List.setIfInBounds_toArray, List.set_cons_zero, List.set_cons_succ, i64_w, i32_w]
          rfl
        refine pure_ (i := 18) (N := some 33) (v := ?_) (a' := ?_) #[true, true, true, true, true, true, true, true, true, true, true, true, true, true, true, true, true, true, true, false, false, false, false, false, false, false, false, false] rfl rfl (by kernel_rfl) (fun _ _ _ h => h) (Or.inl ⟨by rfl, ?_⟩) ?_ ?_
        rotate_left
        · intro w'
          go_simp
          try (with_reducible rfl)
        rotate_left
        · simp only [Act.put, List.setIfInBounds_toArray, List.set_cons_zero, List.set_cons_succ, i64_w, i32_w]
          rfl
        refine pure_ (i := 19) (N := some 34) (v := ?_) (a' := ?_) #[true, true, true, true, true, true, true, true, true, true, true, true, true, true, true, true, true, true, true, true, false, false, false, false, false, false, false, false] rfl rfl (by kernel_rfl) (fun _ _ _ h => h) (Or.inl ⟨by rfl, ?_⟩) ?_ ?_
        rotate_left
        · intro w'
          go_simp
          try (with_reducible rfl)
        rotate_left
        · simp only [Act.put, List.setIfInBounds_toArray, List.set_cons_zero, List.set_cons_succ, i64_w, i32_w]
          rfl
        refine pure_ (i := 20) (N := some 35) (v := ?_) (a' := ?_) #[true, true, true, true, true, true, true, true, true, true, true, true, true, true, true, true, true, true, true, true, true, false, false, false, false, false, false, false] rfl rfl (by kernel_rfl) (fun _ _ _ h => h) (Or.inl ⟨by rfl, ?_⟩) ?_ ?_
        rotate_left
        · intro w'
          go_simp
          try (with_reducible rfl)
        rotate_left
        · simp only [Act.put, List.setIfInBounds_toArray, List.set_cons_zero, List.set_cons_succ, i64_w, i32_w]
          rfl
        refine pure_ (i := 21) (N := some 36) (v := ?_) (a' := ?_) #[true, true, true, true, true, true, true, true, true, true, true, true, true, true, true, true, true, true, true, true, true, true, false, false, false, false, false, false] rfl rfl (by kernel_rfl) (fun _ _ _ h => h) (Or.inl ⟨by rfl, ?_⟩) ?_ ?_
        rotate_left
        · intro w'
          go_simp
          try (with_reducible rfl)
        rotate_left
        · simp only [Act.put, List.setIfInBounds_toArray, List.set_cons_zero, List.set_cons_succ, i64_w, i32_w]
          rfl
        refine pure_ (i := 22) (N := some 37) (v := ?_) (a' := ?_) #[true, true, true, true, true, true, true, true, true, true, true, true, true, true, true, true, true, true, true, true, true, true, true, false, false, false, false, false] rfl rfl (by kernel_rfl) (fun _ _ _ h => h) (Or.inl ⟨by rfl, ?_⟩) ?_ ?_
        rotate_left
        · intro w'
          go_simp
          try (with_reducible rfl)
        rotate_left
        · simp only [Act.put, List.setIfInBounds_toArray, List.set_cons_zero, List.set_cons_succ, i64_w, i32_w]
          rfl
        refine pure_ (i := 23) (N := some 38) (v := ?_) (a' := ?_) #[true, true, true, true, true, true, true, true, true, true, true, true, true, true, true, true, true, true, true, true, true, true, true, true, false, false, false, false] rfl rfl (by kernel_rfl) (fun _ _ _ h => h) (Or.inl ⟨by rfl, ?_⟩) ?_ ?_
        rotate_left
        · intro w'
          go_simp
          try (with_reducible rfl)
        rotate_left
        · simp only [Act.put, List.setIfInBounds_toArray, List.set_cons_zero, List.set_cons_succ, i64_w, i32_w]
          rfl
        refine pure_ (i := 24) (N := some 39) (v := ?_) (a' := ?_) #[true, true, true, true, true, true, true, true, true, true, true, true, true, true, true, true, true, true, true, true, true, true, true, true, true, false, false, false] rfl rfl (by kernel_rfl) (fun _ _ _ h => h) (Or.inl ⟨by rfl, ?_⟩) ?_ ?_
        rotate_left
        · intro w'
          go_simp
          try (with_reducible rfl)
        rotate_left
        · simp only [Act.put, List.setIfInBounds_toArray, List.set_cons_zero, List.set_cons_succ, i64_w, i32_w]
          rfl
        refine pure_ (i := 25) (N := some 40) (v := ?_) (a' := ?_) #[true, true, true, true, true, true, true, true, true, true, true, true, true, true, true, true, true, true, true, true, true, true, true, true, true, true, false, false] rfl rfl (by kernel_rfl) (fun _ _ _ h => h) (Or.inl ⟨by rfl, ?_⟩) ?_ ?_
        rotate_left
        · intro w'
          go_simp
          try (with_reducible rfl)
        rotate_left
        · simp only [Act.put, List.setIfInBounds_toArray, List.set_cons_zero, List.set_cons_succ, i64_w, i32_w]
          rfl
        refine pure_ (i := 26) (N := some 41) (v := ?_) (a' := ?_) #[true, true, true, true, true, true, true, true, true, true, true, true, true, true, true, true, true, true, true, true, true, true, true, true, true, true, true, false] rfl rfl (by kernel_rfl) (fun _ _ _ h => h) (Or.inl ⟨by rfl, ?_⟩) ?_ ?_
        rotate_left
        · intro w'
          go_simp
          try (with_reducible rfl)
        rotate_left
        · simp only [Act.put, List.setIfInBounds_toArray, List.set_cons_zero, List.set_cons_succ, i64_w, i32_w]
          rfl
        refine last_ (i := 27) (N := none) #[true, true, true, true, true, true, true, true, true, true, true, true, true, true, true, true, true, true, true, true, true, true, true, true, true, true, true, true] rfl rfl (by kernel_rfl) (by decide) (fun K hK => ?_)
        have hfz := hHeld.1.frozen t
        have hcl := hHeld.1.cell t (by rw [filled_len F t ht]; omega)
        refine skip_step (w1 := W0.setCell ⟨w.heap.size + 1, t, none⟩ (.int .u32 (Go.bits .or .u32 (Go.bits .or .u32 (Go.bits .or .u32 (shl .u32 (bt s (a : Int)) 24) (shl .u32 (bt s ((a : Int) + 1)) 16)) (shl .u32 (bt s ((a : Int) + 2)) 8)) (bt s ((a : Int) + 3))))) (by rfl) ?hr ?_
        case hr =>
          go_simp
          simp only [wu s]
          rfl
        refine hK.out _ _ ?_
        clear hK K
        have hv : (Go.bits .or .u32 (Go.bits .or .u32 (Go.bits .or .u32 (shl .u32 (bt s (a : Int)) 24) (shl .u32 (bt s ((a : Int) + 1)) 16)) (shl .u32 (bt s ((a : Int) + 2)) 8)) (bt s ((a : Int) + 3))) = word F (sched F t) t := by
          rw [word, if_pos h16, be, ha, ← HF.out]
          rfl
        have hR3 := hHeld.1.set t (by rw [filled_len F t ht]; omega) (Go.bits .or .u32 (Go.bits .or .u32 (Go.bits .or .u32 (shl .u32 (bt s (a : Int)) 24) (shl .u32 (bt s ((a : Int) + 1)) 16)) (shl .u32 (bt s ((a : Int) + 2)) 8)) (bt s ((a : Int) + 3)))
        have hZ3 := hZ2.far (p := ⟨w.heap.size + 1, t, none⟩) (by show w.heap.size ≠ w.heap.size + 1; omega) (.int .u32 (Go.bits .or .u32 (Go.bits .or .u32 (Go.bits .or .u32 (shl .u32 (bt s (a : Int)) 24) (shl .u32 (bt s ((a : Int) + 1)) 16)) (shl .u32 (bt s ((a : Int) + 2)) 8)) (bt s ((a : Int) + 3))))
        have hB3 : Below w.heap.size w (W0.setCell ⟨w.heap.size + 1, t, none⟩ (.int .u32 (Go.bits .or .u32 (Go.bits .or .u32 (Go.bits .or .u32 (shl .u32 (bt s (a : Int)) 24) (shl .u32 (bt s ((a : Int) + 1)) 16)) (shl .u32 (bt s ((a : Int) + 2)) 8)) (bt s ((a : Int) + 3))))) := below_set hB2 (show w.heap.size ≤ w.heap.size + 1 by omega)
        rw [hv] at hR3 hZ3 hB3 ⊢
        rw [filled_set F t hlt] at hR3
        generalize W0.setCell ⟨w.heap.size + 1, t, none⟩ (.int .u32 (word F (sched F t) t)) = W3 at hR3 hZ3 hB3 ⊢
        clear hv hfz hcl hHeld hZ2 hB2 x0 x1 x2 x3 y0 y1
        refine done_ (by kernel_rfl) ?_
        go_wp2
        exact ⟨⟨t + 1, by go_num, by omega, hR3, hZ3, hB3⟩, by simp [intOf]; omega⟩
      · have h16d : decide ((t : Int) < 16) = false := decide_eq_false (by omega)
        obtain ⟨i15, h15⟩ : ∃ i : Nat, t - 15 = i := ⟨_, rfl⟩
        obtain ⟨i2, h2⟩ : ∃ i : Nat, t - 2 = i := ⟨_, rfl⟩
        obtain ⟨i16, hi16⟩ : ∃ i : Nat, t - 16 = i := ⟨_, rfl⟩
        obtain ⟨i7, h7⟩ : ∃ i : Nat, t - 7 = i := ⟨_, rfl⟩
        have hw15 : IntKind.i64.wrap ((t : Int) - 15) = (i15 : Int) := by rw [i64_w]; unfold wrap64; omega
        have p15 := eq_true (show (0 : Int) ≤ (i15 : Int) by omega)
        have q15 := eq_true (show (i15 : Int) < 64 by omega)
        have hw2 : IntKind.i64.wrap ((t : Int) - 2) = (i2 : Int) := by rw [i64_w]; unfold wrap64; omega
        have p2 := eq_true (show (0 : Int) ≤ (i2 : Int) by omega)
        have q2 := eq_true (show (i2 : Int) < 64 by omega)
        have hw16 : IntKind.i64.wrap ((t : Int) - 16) = (i16 : Int) := by rw [i64_w]; unfold wrap64; omega
        have p16 := eq_true (show (0 : Int) ≤ (i16 : Int) by omega)
        have q16 := eq_true (show (i16 : Int) < 64 by omega)
        have hw7 : IntKind.i64.wrap ((t : Int) - 7) = (i7 : Int) := by rw [i64_w]; unfold wrap64; omega
        have p7 := eq_true (show (0 : Int) ≤ (i7 : Int) by omega)
        have q7 := eq_true (show (i7 : Int) < 64 by omega)
        have pt := eq_true (show (0 : Int) ≤ (t : Int) by omega)
        have qt := eq_true (show (t : Int) < 64 by omega)
        have c15 := hR.cell i15 (by rw [filled_len F t ht]; omega)
        have c2 := hR.cell i2 (by rw [filled_len F t ht]; omega)
        rw [filled_at F t i15 (by omega)] at c15
        rw [filled_at F t i2 (by omega)] at c2
        go_upto_region 8 with (fail)
        go_quiet (fail)
        go_upto_region 9 with (fail)
        clear c15 c2
        have hR9 := hR.kept (W' := wr.drewN nq) rfl
        have hZ9 := hZ.kept (W' := wr.drewN nq) rfl
        have hB9 := pw_below_drewN hB nq
        clear hR hZ hB
        generalize wr.drewN nq = wq at hR9 hZ9 hB9 ⊢
        refine start_ (n := 30) (S := fun w' => Row w' (w.heap.size + 1) 91 (filled F t) ∧ True) (ds := [29]) #[false, false, false, false, false, false, false, false, false, false, false, false, false, false, false, false, false, false, false, false, false, false, false, false, false, false, false, false, false, false] (by kernel_rfl) rfl rfl ⟨hR9.kept rfl, trivial⟩ (fun hHeld => ?_)
        have hB2 := hB9.drew
        have hZ2 := hZ9.kept (W' := wq.drew) rfl
        generalize wq.drew = W0 at hHeld hB2 hZ2 ⊢
        clear hR9 hZ9 hB9
        refine pure_ (i := 0) (N := some 50) (v := ?_) (a' := ?_) #[true, false, false, false, false, false, false, false, false, false, false, false, false, false, false, false, false, false, false, false, false, false, false, false, false, false, false, false, false, false] rfl rfl (by kernel_rfl) (fun _ _ _ h => h) (Or.inl ⟨by rfl, ?_⟩) ?_ ?_
        rotate_left
        · intro w'
          go_simp
          try (with_reducible rfl)
        rotate_left
        · simp only [Act.put, List.setIfInBounds_toArray, List.set_cons_zero, List.set_cons_succ, i64_w, i32_w]
          rfl
        refine pure_ (i := 1) (N := some 51) (v := ?_) (a' := ?_) #[true, true, false, false, false, false, false, false, false, false, false, false, false, false, false, false, false, false, false, false, false, false, false, false, false, false, false, false, false, false] rfl rfl (by kernel_rfl) (fun _ _ _ h => h) (Or.inl ⟨by rfl, ?_⟩) ?_ ?_
        rotate_left
        · intro w'
          go_simp
          try (with_reducible rfl)
        rotate_left
        · simp only [Act.put, List.setIfInBounds_toArray, List.set_cons_zero, List.set_cons_succ, i64_w, i32_w]
          rfl
        refine pure_ (i := 2) (N := some 52) (v := ?_) (a' := ?_) #[true, true, true, false, false, false, false, false, false, false, false, false, false, false, false, false, false, false, false, false, false, false, false, false, false, false, false, false, false, false] rfl rfl (by kernel_rfl) (fun _ _ _ h => h) (Or.inl ⟨by rfl, ?_⟩) ?_ ?_
        rotate_left
        · intro w'
          go_simp
          try (with_reducible rfl)
        rotate_left
        · simp only [Act.put, List.setIfInBounds_toArray, List.set_cons_zero, List.set_cons_succ, i64_w, i32_w]
          rfl
        refine pure_ (i := 3) (N := some 53) (v := ?_) (a' := ?_) #[true, true, true, true, false, false, false, false, false, false, false, false, false, false, false, false, false, false, false, false, false, false, false, false, false, false, false, false, false, false] rfl rfl (by kernel_rfl) (fun _ _ _ h => h) (Or.inl ⟨by rfl, ?_⟩) ?_ ?_
        rotate_left
        · intro w'
          go_simp
          try (with_reducible rfl)
        rotate_left
        · simp only [Act.put, List.setIfInBounds_toArray, List.set_cons_zero, List.set_cons_succ, i64_w, i32_w]
          rfl
        refine take_ (i := 4) (N := some 54) (v := ?_) (a' := ?_) #[true, true, true, true, true, false, false, false, false, false, false, false, false, false, false, false, false, false, false, false, false, false, false, false, false, false, false, false, false, false] rfl rfl (by kernel_rfl) (fun _ _ _ h => h) (Or.inl ⟨by rfl, ?_⟩) hHeld ?_ ?_
        rotate_left
        · intro w' hS_
          have r16 := hS_.1.cell i16 (by rw [filled_len F t ht]; omega); rw [filled_at F t i16 (by omega)] at r16; have r7 := hS_.1.cell i7 (by rw [filled_len F t ht]; omega); rw [filled_at F t i7 (by omega)] at r7
          go_simp
          try (with_reducible rfl)
        rotate_left
        · simp only [Act.put, List.setIfInBounds_toArray, List.set_cons_zero, List.set_cons_succ, i64_w, i32_w]
          rfl
        refine pure_ (i := 5) (N := some 55) (v := ?_) (a' := ?_) #[true, true, true, true, true, true, false, false, false, false, false, false, false, false, false, false, false, false, false, false, false, false, false, false, false, false, false, false, false, false] rfl rfl (by kernel_rfl) (fun _ _ _ h => h) (Or.inl ⟨by rfl, ?_⟩) ?_ ?_
        rotate_left
        · intro w'
          go_simp
          try (with_reducible rfl)
        rotate_left
        · simp only [Act.put, List.setIfInBounds_toArray, List.set_cons_zero, List.set_cons_succ, i64_w, i32_w]
          rfl
        refine pure_ (i := 6) (N := some 56) (v := ?_) (a' := ?_) #[true, true, true, true, true, true, true, false, false, false, false, false, false, false, false, false, false, false, false, false, false, false, false, false, false, false, false, false, false, false] rfl rfl (by kernel_rfl) (fun _ _ _ h => h) (Or.inl ⟨by rfl, ?_⟩) ?_ ?_
        rotate_left
        · intro w'
          go_simp
          try (with_reducible rfl)
        rotate_left
        · simp only [Act.put, List.setIfInBounds_toArray, List.set_cons_zero, List.set_cons_succ, i64_w, i32_w]
          rfl
        refine pure_ (i := 7) (N := some 57) (v := ?_) (a' := ?_) #[true, true, true, true, true, true, true, true, false, false, false, false, false, false, false, false, false, false, false, false, false, false, false, false, false, false, false, false, false, false] rfl rfl (by kernel_rfl) (fun _ _ _ h => h) (Or.inl ⟨by rfl, ?_⟩) ?_ ?_
        rotate_left
        · intro w'
          go_simp
          try (with_reducible rfl)
        rotate_left
        · simp only [Act.put, List.setIfInBounds_toArray, List.set_cons_zero, List.set_cons_succ, i64_w, i32_w]
          rfl
        refine take_ (i := 8) (N := some 58) (v := ?_) (a' := ?_) #[true, true, true, true, true, true, true, true, true, false, false, false, false, false, false, false, false, false, false, false, false, false, false, false, false, false, false, false, false, false] rfl rfl (by kernel_rfl) (fun _ _ _ h => h) (Or.inl ⟨by rfl, ?_⟩) hHeld ?_ ?_
        rotate_left
        · intro w' hS_
          have r16 := hS_.1.cell i16 (by rw [filled_len F t ht]; omega); rw [filled_at F t i16 (by omega)] at r16; have r7 := hS_.1.cell i7 (by rw [filled_len F t ht]; omega); rw [filled_at F t i7 (by omega)] at r7
          go_simp
          try (with_reducible rfl)
        rotate_left
        · simp only [Act.put, List.setIfInBounds_toArray, List.set_cons_zero, List.set_cons_succ, i64_w, i32_w]
          rfl
        refine pure_ (i := 9) (N := some 59) (v := ?_) (a' := ?_) #[true, true, true, true, true, true, true, true, true, true, false, false, false, false, false, false, false, false, false, false, false, false, false, false, false, false, false, false, false, false] rfl rfl (by kernel_rfl) (fun _ _ _ h => h) (Or.inl ⟨by rfl, ?_⟩) ?_ ?_
        rotate_left
        · intro w'
          go_simp
          try (with_reducible rfl)
        rotate_left
        · simp only [Act.put, List.setIfInBounds_toArray, List.set_cons_zero, List.set_cons_succ, i64_w, i32_w]
          rfl
        refine pure_ (i := 10) (N := some 60) (v := ?_) (a' := ?_) #[true, true, true, true, true, true, true, true, true, true, true, false, false, false, false, false, false, false, false, false, false, false, false, false, false, false, false, false, false, false] rfl rfl (by kernel_rfl) (fun _ _ _ h => h) (Or.inl ⟨by rfl, ?_⟩) ?_ ?_
        rotate_left
        · intro w'
          go_simp
          try (with_reducible rfl)
        rotate_left
        · simp only [Act.put, List.setIfInBounds_toArray, List.set_cons_zero, List.set_cons_succ, i64_w, i32_w]
          rfl
        refine pure_ (i := 12) (N := some 62) (v := ?_) (a' := ?_) #[true, true, true, true, true, true, true, true, true, true, true, false, true, false, false, false, false, false, false, false, false, false, false, false, false, false, false, false, false, false] rfl rfl (by kernel_rfl) (fun _ _ _ h => h) (Or.inl ⟨by rfl, ?_⟩) ?_ ?_
        rotate_left
        · intro w'
          go_simp
          try (with_reducible rfl)
        rotate_left
        · simp only [Act.put, List.setIfInBounds_toArray, List.set_cons_zero, List.set_cons_succ, i64_w, i32_w]
          rfl
        refine pure_ (i := 15) (N := some 65) (v := ?_) (a' := ?_) #[true, true, true, true, true, true, true, true, true, true, true, false, true, false, false, true, false, false, false, false, false, false, false, false, false, false, false, false, false, false] rfl rfl (by kernel_rfl) (fun _ _ _ h => h) (Or.inl ⟨by rfl, ?_⟩) ?_ ?_
        rotate_left
        · intro w'
          go_simp
          try (with_reducible rfl)
        rotate_left
        · simp only [Act.put, List.setIfInBounds_toArray, List.set_cons_zero, List.set_cons_succ, i64_w, i32_w]
          rfl
        refine pure_ (i := 16) (N := some 66) (v := ?_) (a' := ?_) #[true, true, true, true, true, true, true, true, true, true, true, false, true, false, false, true, true, false, false, false, false, false, false, false, false, false, false, false, false, false] rfl rfl (by kernel_rfl) (fun _ _ _ h => h) (Or.inl ⟨by rfl, ?_⟩) ?_ ?_
        rotate_left
        · intro w'
          go_simp
          try (with_reducible rfl)
        rotate_left
        · simp only [Act.put, List.setIfInBounds_toArray, List.set_cons_zero, List.set_cons_succ, i64_w, i32_w]
          rfl
        refine pure_ (i := 19) (N := some 69) (v := ?_) (a' := ?_) #[true, true, true, true, true, true, true, true, true, true, true, false, true, false, false, true, true, false, false, true, false, false, false, false, false, false, false, false, false, false] rfl rfl (by kernel_rfl) (fun _ _ _ h => h) (Or.inl ⟨by rfl, ?_⟩) ?_ ?_
        rotate_left
        · intro w'
          go_simp
          try (with_reducible rfl)
        rotate_left
        · simp only [Act.put, List.setIfInBounds_toArray, List.set_cons_zero, List.set_cons_succ, i64_w, i32_w]
          rfl
        refine pure_ (i := 21) (N := some 71) (v := ?_) (a' := ?_) #[true, true, true, true, true, true, true, true, true, true, true, false, true, false, false, true, true, false, false, true, false, true, false, false, false, false, false, false, false, false] rfl rfl (by kernel_rfl) (fun _ _ _ h => h) (Or.inl ⟨by rfl, ?_⟩) ?_ ?_
        rotate_left
        · intro w'
          go_simp
          try (with_reducible rfl)
        rotate_left
        · simp only [Act.put, List.setIfInBounds_toArray, List.set_cons_zero, List.set_cons_succ, i64_w, i32_w]
          rfl
        refine pure_ (i := 24) (N := some 74) (v := ?_) (a' := ?_) #[true, true, true, true, true, true, true, true, true, true, true, false, true, false, false, true, true, false, false, true, false, true, false, false, true, false, false, false, false, false] rfl rfl (by kernel_rfl) (fun _ _ _ h => h) (Or.inl ⟨by rfl, ?_⟩) ?_ ?_
        rotate_left
        · intro w'
          go_simp
          try (with_reducible rfl)
        rotate_left
        · simp only [Act.put, List.setIfInBounds_toArray, List.set_cons_zero, List.set_cons_succ, i64_w, i32_w]
          rfl
        refine pure_ (i := 25) (N := some 75) (v := ?_) (a' := ?_) #[true, true, true, true, true, true, true, true, true, true, true, false, true, false, false, true, true, false, false, true, false, true, false, false, true, true, false, false, false, false] rfl rfl (by kernel_rfl) (fun _ _ _ h => h) (Or.inl ⟨by rfl, ?_⟩) ?_ ?_
        rotate_left
        · intro w'
          go_simp
          try (with_reducible rfl)
        rotate_left
        · simp only [Act.put, List.setIfInBounds_toArray, List.set_cons_zero, List.set_cons_succ, i64_w, i32_w]
          rfl
        refine one_ (i := 11) (N := some 61) #[true, true, true, true, true, true, true, true, true, true, true, true, true, false, false, true, true, false, false, true, false, true, false, false, true, true, false, false, false, false] rfl rfl (by kernel_rfl) (by decide) (fun K hK => ?_)
        refine goes_ Tryd.func59 (by kernel_rfl) rfl #[.int .u32 (at_ (sched F t) i15), .int .i64 (7 : Nat)] (by rfl) rfl rfl (by (try simp only [List.map_toArray, List.map_cons, List.map_nil]); first | done | rfl) ?_
        refine (turn_calls (at_ (sched F t) i15) 7 (by decide) _).mono ?_
        rintro e w11 ⟨rfl, nd11, rfl⟩
        refine ⟨_, rfl, ?_⟩
        refine hK.out _ _ ⟨hHeld.1.kept rfl, hHeld.2⟩ (fun hHeld => ?_)
        clear hK K
        replace hB2 := pw_below_drewN hB2 nd11
        replace hZ2 := hZ2.kept (W' := W0.drewN nd11) rfl
        generalize W0.drewN nd11 = V11 at hHeld hB2 hZ2 ⊢
        refine one_ (i := 13) (N := some 63) #[true, true, true, true, true, true, true, true, true, true, true, true, true, true, false, true, true, false, false, true, false, true, false, false, true, true, false, false, false, false] rfl rfl (by kernel_rfl) (by decide) (fun K hK => ?_)
        refine goes_ Tryd.func59 (by kernel_rfl) rfl #[.int .u32 (at_ (sched F t) i15), .int .i64 (18 : Nat)] (by rfl) rfl rfl (by (try simp only [List.map_toArray, List.map_cons, List.map_nil]); first | done | rfl) ?_
        refine (turn_calls (at_ (sched F t) i15) 18 (by decide) _).mono ?_
        rintro e w13 ⟨rfl, nd13, rfl⟩
        refine ⟨_, rfl, ?_⟩
        refine hK.out _ _ ⟨hHeld.1.kept rfl, hHeld.2⟩ (fun hHeld => ?_)
        clear hK K
        replace hB2 := pw_below_drewN hB2 nd13
        replace hZ2 := hZ2.kept (W' := V11.drewN nd13) rfl
        generalize V11.drewN nd13 = V13 at hHeld hB2 hZ2 ⊢
        refine pure_ (i := 14) (N := some 64) (v := ?_) (a' := ?_) #[true, true, true, true, true, true, true, true, true, true, true, true, true, true, true, true, true, false, false, true, false, true, false, false, true, true, false, false, false, false] rfl rfl (by kernel_rfl) (fun _ _ _ h => h) (Or.inl ⟨by rfl, ?_⟩) ?_ ?_
        rotate_left
        · intro w'
          go_simp
          try (with_reducible rfl)
        rotate_left
        · simp only [Act.put, List.setIfInBounds_toArray, List.set_cons_zero, List.set_cons_succ, List.getElem_toArray, List.getElem_cons_succ, List.getElem_cons_zero, i64_w, i32_w]
          rfl
        refine pure_ (i := 17) (N := some 67) (v := ?_) (a' := ?_) #[true, true, true, true, true, true, true, true, true, true, true, true, true, true, true, true, true, true, false, true, false, true, false, false, true, true, false, false, false, false] rfl rfl (by kernel_rfl) (fun _ _ _ h => h) (Or.inl ⟨by rfl, ?_⟩) ?_ ?_
        rotate_left
        · intro w'
          go_simp
          try (with_reducible rfl)
        rotate_left
        · simp only [Act.put, List.setIfInBounds_toArray, List.set_cons_zero, List.set_cons_succ, List.getElem_toArray, List.getElem_cons_succ, List.getElem_cons_zero, i64_w, i32_w]
          rfl
        refine pure_ (i := 18) (N := some 68) (v := ?_) (a' := ?_) #[true, true, true, true, true, true, true, true, true, true, true, true, true, true, true, true, true, true, true, true, false, true, false, false, true, true, false, false, false, false] rfl rfl (by kernel_rfl) (fun _ _ _ h => h) (Or.inl ⟨by rfl, ?_⟩) ?_ ?_
        rotate_left
        · intro w'
          go_simp
          try (with_reducible rfl)
        rotate_left
        · simp only [Act.put, List.setIfInBounds_toArray, List.set_cons_zero, List.set_cons_succ, List.getElem_toArray, List.getElem_cons_succ, List.getElem_cons_zero, i64_w, i32_w]
          rfl
        refine one_ (i := 20) (N := some 70) #[true, true, true, true, true, true, true, true, true, true, true, true, true, true, true, true, true, true, true, true, true, true, false, false, true, true, false, false, false, false] rfl rfl (by kernel_rfl) (by decide) (fun K hK => ?_)
        refine goes_ Tryd.func59 (by kernel_rfl) rfl #[.int .u32 (at_ (sched F t) i2), .int .i64 (17 : Nat)] (by rfl) rfl rfl (by (try simp only [List.map_toArray, List.map_cons, List.map_nil]); first | done | rfl) ?_
        refine (turn_calls (at_ (sched F t) i2) 17 (by decide) _).mono ?_
        rintro e w20 ⟨rfl, nd20, rfl⟩
        refine ⟨_, rfl, ?_⟩
        refine hK.out _ _ ⟨hHeld.1.kept rfl, hHeld.2⟩ (fun hHeld => ?_)
        clear hK K
        replace hB2 := pw_below_drewN hB2 nd20
        replace hZ2 := hZ2.kept (W' := V13.drewN nd20) rfl
        generalize V13.drewN nd20 = V20 at hHeld hB2 hZ2 ⊢
        refine one_ (i := 22) (N := some 72) #[true, true, true, true, true, true, true, true, true, true, true, true, true, true, true, true, true, true, true, true, true, true, true, false, true, true, false, false, false, false] rfl rfl (by kernel_rfl) (by decide) (fun K hK => ?_)
        refine goes_ Tryd.func59 (by kernel_rfl) rfl #[.int .u32 (at_ (sched F t) i2), .int .i64 (19 : Nat)] (by rfl) rfl rfl (by (try simp only [List.map_toArray, List.map_cons, List.map_nil]); first | done | rfl) ?_
        refine (turn_calls (at_ (sched F t) i2) 19 (by decide) _).mono ?_
        rintro e w22 ⟨rfl, nd22, rfl⟩
        refine ⟨_, rfl, ?_⟩
        refine hK.out _ _ ⟨hHeld.1.kept rfl, hHeld.2⟩ (fun hHeld => ?_)
        clear hK K
        replace hB2 := pw_below_drewN hB2 nd22
        replace hZ2 := hZ2.kept (W' := V20.drewN nd22) rfl
        generalize V20.drewN nd22 = V22 at hHeld hB2 hZ2 ⊢
        refine pure_ (i := 23) (N := some 73) (v := ?_) (a' := ?_) #[true, true, true, true, true, true, true, true, true, true, true, true, true, true, true, true, true, true, true, true, true, true, true, true, true, true, false, false, false, false] rfl rfl (by kernel_rfl) (fun _ _ _ h => h) (Or.inl ⟨by rfl, ?_⟩) ?_ ?_
        rotate_left
        · intro w'
          go_simp
          try (with_reducible rfl)
        rotate_left
        · simp only [Act.put, List.setIfInBounds_toArray, List.set_cons_zero, List.set_cons_succ, List.getElem_toArray, List.getElem_cons_succ, List.getElem_cons_zero, i64_w, i32_w]
          rfl
        refine pure_ (i := 26) (N := some 76) (v := ?_) (a' := ?_) #[true, true, true, true, true, true, true, true, true, true, true, true, true, true, true, true, true, true, true, true, true, true, true, true, true, true, true, false, false, false] rfl rfl (by kernel_rfl) (fun _ _ _ h => h) (Or.inl ⟨by rfl, ?_⟩) ?_ ?_
        rotate_left
        · intro w'
          go_simp
          try (with_reducible rfl)
        rotate_left
        · simp only [Act.put, List.setIfInBounds_toArray, List.set_cons_zero, List.set_cons_succ, List.getElem_toArray, List.getElem_cons_succ, List.getElem_cons_zero, i64_w, i32_w]
          rfl
        refine pure_ (i := 27) (N := some 77) (v := ?_) (a' := ?_) #[true, true, true, true, true, true, true, true, true, true, true, true, true, true, true, true, true, true, true, true, true, true, true, true, true, true, true, true, false, false] rfl rfl (by kernel_rfl) (fun _ _ _ h => h) (Or.inl ⟨by rfl, ?_⟩) ?_ ?_
        rotate_left
        · intro w'
          go_simp
          try (with_reducible rfl)
        rotate_left
        · simp only [Act.put, List.setIfInBounds_toArray, List.set_cons_zero, List.set_cons_succ, List.getElem_toArray, List.getElem_cons_succ, List.getElem_cons_zero, i64_w, i32_w]
          rfl
        refine pure_ (i := 28) (N := some 78) (v := ?_) (a' := ?_) #[true, true, true, true, true, true, true, true, true, true, true, true, true, true, true, true, true, true, true, true, true, true, true, true, true, true, true, true, true, false] rfl rfl (by kernel_rfl) (fun _ _ _ h => h) (Or.inl ⟨by rfl, ?_⟩) ?_ ?_
        rotate_left
        · intro w'
          go_simp
          try (with_reducible rfl)
        rotate_left
        · simp only [Act.put, List.setIfInBounds_toArray, List.set_cons_zero, List.set_cons_succ, List.getElem_toArray, List.getElem_cons_succ, List.getElem_cons_zero, i64_w, i32_w]
          rfl
        refine last_ (i := 29) (N := none) #[true, true, true, true, true, true, true, true, true, true, true, true, true, true, true, true, true, true, true, true, true, true, true, true, true, true, true, true, true, true] rfl rfl (by kernel_rfl) (by decide) (fun K hK => ?_)
        have hfz := hHeld.1.frozen t
        have hcl := hHeld.1.cell t (by rw [filled_len F t ht]; omega)
        have hv : (((at_ (sched F t) i16 + at_ (sched F t) i7) % 4294967296 + sg0 (at_ (sched F t) i15)) % 4294967296 + sg1 (at_ (sched F t) i2)) % 4294967296 = word F (sched F t) t := by
          rw [word, if_neg h16, h15, h2, hi16, h7]
          simp only [Int.emod_add_emod]
        refine skip_step (w1 := World.setCell V22 ⟨w.heap.size + 1, t, none⟩ (.int .u32 (word F (sched F t) t))) (by rfl) ?hr ?_
        case hr =>
          go_simp
          rw [← hv]
          rfl
        refine hK.out _ _ ?_
        clear hK K
        have hR3 := hHeld.1.set t (by rw [filled_len F t ht]; omega) (word F (sched F t) t)
        have hZ3 := hZ2.far (p := ⟨w.heap.size + 1, t, none⟩) (by show w.heap.size ≠ w.heap.size + 1; omega) (.int .u32 (word F (sched F t) t))
        have hB3 : Below w.heap.size w (V22.setCell ⟨w.heap.size + 1, t, none⟩ (.int .u32 (word F (sched F t) t))) := below_set hB2 (show w.heap.size ≤ w.heap.size + 1 by omega)
        rw [filled_set F t hlt] at hR3
        generalize V22.setCell ⟨w.heap.size + 1, t, none⟩ (.int .u32 (word F (sched F t) t)) = W3 at hR3 hZ3 hB3 ⊢
        clear hv hfz hcl hHeld hZ2 hB2
        refine done_ (by kernel_rfl) ?_
        go_wp2
        exact ⟨⟨t + 1, by go_num, by omega, hR3, hZ3, hB3⟩, by simp [intOf]; omega⟩

end Go.Proofs.YtobjhddiieaafaaDoor.M

namespace Go.Proofs.YtobjhddiieaafaaDoor.M
open Go.Proofs.YtobjhddiieaafaaDoor.H
open Go.RowKit Go.Proofs.YtobjhddiieaafaaDoorW.PrintWords Go.Proofs.YtobjhddiieaafaaDoorW.PrintLast Go.Proofs.YtobjhddiieaafaaDoorW.PrintMore Go.Proofs.YtobjhddiieaafaaDoor.Plain Go.Proofs.YtobjhddiieaafaaDoor.RowOf
set_option linter.unusedVariables false
set_option linter.unusedSimpArgs false

/-- The block g (of type t) holds the words of a list, and the rest. -/
def RowX (W : World) (g t : Nat) (xs : List Int) (rest : List Value) : Prop := W.heap[g]? = some (.cells (xs.map (Value.int .u32) ++ rest).toArray t (0, 0))
theorem RowX.lt {W : World} {g t : Nat} {xs : List Int} {rest : List Value} (h : RowX W g t xs rest) : g < W.heap.size := (Array.getElem?_eq_some_iff.1 h).1
theorem RowX.cell {W : World} {g t : Nat} {xs : List Int} {rest : List Value} (h : RowX W g t xs rest) (i : Nat) (hi : i < xs.length) : W.cell? ⟨g, i, none⟩ = some (.int .u32 (wrd xs i)) := by
  unfold RowX at h
  have hc : (xs.map (Value.int .u32) ++ rest).toArray[i]? = some (.int .u32 (xs.getD i 0)) := by
    rw [List.getElem?_toArray, List.getElem?_append_left (by simpa using hi), List.getElem?_map, List.getElem?_eq_getElem hi, List.getD_eq_getElem?_getD, List.getElem?_eq_getElem hi]
    rfl
  simp [World.cell?, h, hc, wrd]
theorem RowX.frozen {W : World} {g t : Nat} {xs : List Int} {rest : List Value} (h : RowX W g t xs rest) (i : Nat) : W.frozen? ⟨g, i, none⟩ = false := by
  unfold RowX at h
  simp [World.frozen?, h]
theorem RowX.set {W : World} {g t : Nat} {xs : List Int} {rest : List Value} (h : RowX W g t xs rest) (i : Nat) (hi : i < xs.length) (v : Int) : RowX (W.setCell ⟨g, i, none⟩ (.int .u32 v)) g t (xs.set i v) rest := by
  unfold RowX at h ⊢
  have e : ((xs.map (Value.int .u32) ++ rest).toArray).setIfInBounds i (.int .u32 v) = ((xs.set i v).map (Value.int .u32) ++ rest).toArray := by
    rw [List.setIfInBounds_toArray, List.set_append_left _ _ (by simpa using hi), List.map_set]
  rw [← e]
  simp [World.setCell, Array.getElem?_modify, h]
theorem RowX.kept {W W' : World} {g t : Nat} {xs : List Int} {rest : List Value} (h : RowX W g t xs rest) (he : W'.heap[g]? = W.heap[g]?) : RowX W' g t xs rest := he.trans h
theorem RowX.below {W W' : World} {g t n : Nat} {xs : List Int} {rest : List Value} (h : RowX W g t xs rest) (hb : Below n W W') (hg : g < n) : RowX W' g t xs rest := h.kept (hb.block g hg)
theorem RowX.alloc {W : World} {g t : Nat} {xs : List Int} {rest : List Value} (h : RowX W g t xs rest) (o : Obj) : RowX (W.alloc o) g t xs rest := h.kept (Below.heap_alloc _ _ _ h.lt)
/-- A package variable's words. -/
def Glob (W : World) (g : Nat) (K : List Int) : Prop := ∃ (t : TypeId) (fz : Nat × Nat), W.heap[g]? = some (.cells (K.map (Value.int .u32)).toArray t fz)
theorem Glob.lt {W : World} {g : Nat} {K : List Int} (h : Glob W g K) : g < W.heap.size := by
  obtain ⟨t, fz, h⟩ := h
  exact (Array.getElem?_eq_some_iff.1 h).1
theorem Glob.kept {W W' : World} {g : Nat} {K : List Int} (h : Glob W g K) (he : W'.heap[g]? = W.heap[g]?) : Glob W' g K := by
  obtain ⟨t, fz, h⟩ := h
  exact ⟨t, fz, he.trans h⟩
theorem Glob.below {W W' : World} {g n : Nat} {K : List Int} (h : Glob W g K) (hb : Below n W W') (hg : g < n) : Glob W' g K := h.kept (hb.block g hg)
theorem Glob.cell {W : World} {g : Nat} {K : List Int} (h : Glob W g K) (i : Nat) (hi : i < K.length) : W.cell? ⟨g, i, none⟩ = some (.int .u32 (wrd K i)) := by
  obtain ⟨t, fz, h⟩ := h
  have hc : (K.map (Value.int .u32)).toArray[i]? = some (.int .u32 (K.getD i 0)) := by
    simp [List.getElem?_eq_getElem hi, List.getD_eq_getElem?_getD]
  simp [World.cell?, h, hc, wrd]

theorem run_index_agg {P : Program} {t e n : Nat} {i : TypeInfo} (hu : P.underlying t = some (.array n e)) (hi : P.info? e = some i) (ha : ∀ w : World, (isAgg e).run P w = .ok false w) (h1 : P.cellsOf e = 1) {cs : Array Value} {v : Value} (k : Nat) (hk : k < n) (hv : cs[k]? = some v) (W : World) :
    (Instr.index t (.agg cs) (.int .i64 (k : Int))).run P W = .ok v W := by
  have hk2 : (0 : Int) ≤ (k : Int) ∧ (k : Int) < (n : Int) := by omega
  simp [Instr.index, run_underlying hu, asIntOf, go_sem, hk2, hk, run_sizeOf W hi, h1, part, ha, hv]
theorem info_u32 : ∃ i, Tryd.prog.info? 22 = some i := Option.isSome_iff_exists.1 (by kernel_rfl)
theorem idx64 (cs : Array Value) (k : Nat) (hk : k < 64) (v : Value) (hv : cs[k]? = some v) (W : World) : (Instr.index 91 (.agg cs) (.int .i64 (k : Int))).run Tryd.prog W = .ok v W := by
  obtain ⟨i, hi⟩ := info_u32
  exact run_index_agg Tryd.underlying91 hi (fun w => by kernel_rfl) (by kernel_rfl) k hk hv W
theorem idx8 (cs : Array Value) (k : Nat) (hk : k < 8) (v : Value) (hv : cs[k]? = some v) (W : World) : (Instr.index 83 (.agg cs) (.int .i64 (k : Int))).run Tryd.prog W = .ok v W := by
  obtain ⟨i, hi⟩ := info_u32
  exact run_index_agg Tryd.underlying83 hi (fun w => by kernel_rfl) (by kernel_rfl) k hk hv W

theorem turn_q (x m : Int) (n : Nat) (h : n ∈ turns) (hm : (n : Int) = m) (w : World) :
    Calls Tryd.prog 59 #[.int .u32 x, .int .i64 m] w fun e w' => e = .returned (.int .u32 (rotr x n)) ∧ Drawn0 w w' := by
  subst hm
  exact turn_calls x n h w
theorem turn6_q (x : Int) (w : World) (n : Nat) : Calls Tryd.prog 59 #[.int .u32 x, .int .i64 6] (w.drewN n) fun e w'' => e = .returned (.int .u32 (rotr x 6)) ∧ ∃ m, w'' = w.drewN m :=
  (turn_q x 6 6 (by decide) rfl _).mono fun _ _ ⟨he, m, hm⟩ => ⟨he, n + m, by rw [hm, World.drewN_drewN]⟩
theorem turn11_q (x : Int) (w : World) (n : Nat) : Calls Tryd.prog 59 #[.int .u32 x, .int .i64 11] (w.drewN n) fun e w'' => e = .returned (.int .u32 (rotr x 11)) ∧ ∃ m, w'' = w.drewN m :=
  (turn_q x 11 11 (by decide) rfl _).mono fun _ _ ⟨he, m, hm⟩ => ⟨he, n + m, by rw [hm, World.drewN_drewN]⟩
theorem turn25_q (x : Int) (w : World) (n : Nat) : Calls Tryd.prog 59 #[.int .u32 x, .int .i64 25] (w.drewN n) fun e w'' => e = .returned (.int .u32 (rotr x 25)) ∧ ∃ m, w'' = w.drewN m :=
  (turn_q x 25 25 (by decide) rfl _).mono fun _ _ ⟨he, m, hm⟩ => ⟨he, n + m, by rw [hm, World.drewN_drewN]⟩
theorem turn2_q (x : Int) (w : World) (n : Nat) : Calls Tryd.prog 59 #[.int .u32 x, .int .i64 2] (w.drewN n) fun e w'' => e = .returned (.int .u32 (rotr x 2)) ∧ ∃ m, w'' = w.drewN m :=
  (turn_q x 2 2 (by decide) rfl _).mono fun _ _ ⟨he, m, hm⟩ => ⟨he, n + m, by rw [hm, World.drewN_drewN]⟩
theorem turn13_q (x : Int) (w : World) (n : Nat) : Calls Tryd.prog 59 #[.int .u32 x, .int .i64 13] (w.drewN n) fun e w'' => e = .returned (.int .u32 (rotr x 13)) ∧ ∃ m, w'' = w.drewN m :=
  (turn_q x 13 13 (by decide) rfl _).mono fun _ _ ⟨he, m, hm⟩ => ⟨he, n + m, by rw [hm, World.drewN_drewN]⟩
theorem turn22_q (x : Int) (w : World) (n : Nat) : Calls Tryd.prog 59 #[.int .u32 x, .int .i64 22] (w.drewN n) fun e w'' => e = .returned (.int .u32 (rotr x 22)) ∧ ∃ m, w'' = w.drewN m :=
  (turn_q x 22 22 (by decide) rfl _).mono fun _ _ ⟨he, m, hm⟩ => ⟨he, n + m, by rw [hm, World.drewN_drewN]⟩
/-- The eight words in their slots. -/
def Eight (q : List Int) (a b c d e f g i : Value) : Prop := ∃ x0 x1 x2 x3 x4 x5 x6 x7 : Int, q = [x0, x1, x2, x3, x4, x5, x6, x7] ∧ a = .int .u32 x0 ∧ b = .int .u32 x1 ∧ c = .int .u32 x2 ∧ d = .int .u32 x3 ∧ e = .int .u32 x4 ∧ f = .int .u32 x5 ∧ g = .int .u32 x6 ∧ i = .int .u32 x7
theorem eight_of (q : List Int) (h : q.length = 8) : Eight q (.int .u32 (wrd q 0)) (.int .u32 (wrd q 1)) (.int .u32 (wrd q 2)) (.int .u32 (wrd q 3)) (.int .u32 (wrd q 4)) (.int .u32 (wrd q 5)) (.int .u32 (wrd q 6)) (.int .u32 (wrd q 7)) := by
  match q, h with
  | [x0, x1, x2, x3, x4, x5, x6, x7], _ => exact ⟨_, _, _, _, _, _, _, _, rfl, rfl, rfl, rfl, rfl, rfl, rfl, rfl, rfl⟩

/-- The first k words are laid. -/
def part (h q : List Int) (k : Nat) : List Int := (adds h q).take k ++ h.drop k
theorem part_len (h q : List Int) (k : Nat) (hh : h.length = 8) (hq : q.length = 8) : (part h q k).length = 8 := by
  rw [part, List.length_append, List.length_take, List.length_drop, adds_len h q hh hq]
  omega

theorem cases8 {k : Nat} (hk : k < 8) : k = 0 ∨ k = 1 ∨ k = 2 ∨ k = 3 ∨ k = 4 ∨ k = 5 ∨ k = 6 ∨ k = 7 := by omega
theorem part_set (h q : List Int) (k : Nat) (hh : h.length = 8) (hq : q.length = 8) (hk : k < 8) : (part h q k).set k ((wrd (part h q k) k + wrd q k) % 4294967296) = part h q (k + 1) := by
  match h, hh, q, hq with
  | [h0, h1, h2, h3, h4, h5, h6, h7], _, [q0, q1, q2, q3, q4, q5, q6, q7], _ =>
    rcases cases8 hk with rfl | rfl | rfl | rfl | rfl | rfl | rfl | rfl
    all_goals rfl
theorem part_all (h q : List Int) (hh : h.length = 8) (hq : q.length = 8) : part h q 8 = adds h q := by
  rw [part, List.take_of_length_le (by rw [adds_len h q hh hq]; omega), List.drop_eq_nil_of_le (by omega), List.append_nil]
theorem cs8 (x0 x1 x2 x3 x4 x5 x6 x7 : Int) (k : Nat) (hk : k < 8) : (#[Value.int .u32 x0, .int .u32 x1, .int .u32 x2, .int .u32 x3, .int .u32 x4, .int .u32 x5, .int .u32 x6, .int .u32 x7] : Array Value)[k]? = some (.int .u32 (wrd [x0, x1, x2, x3, x4, x5, x6, x7] k)) := by
  rcases cases8 hk with rfl | rfl | rfl | rfl | rfl | rfl | rfl | rfl
  all_goals rfl
theorem gb_drew {a b : World} {row : Option Nat} (h : a.grownBy b row) : a.grownBy b.drew row := by
  obtain ⟨h1, h2, h3, h4, h5⟩ := h
  exact ⟨h1, h2, h3, h4, h5⟩

set_option maxRecDepth 100000 in
set_option maxHeartbeats 4000000 in
theorem lays_calls (g T : Nat) (rest : List Value) (K h : List Int) (s : ByteArray) (hs : s.size = 64) (hh : h.length = 8) (w : World) (hG : Glob w 2 K) (hK : K.length = 64) (hR : RowX w g T h rest) :
    Calls Tryd.prog 52 #[.pointer (some ⟨g, 0, none⟩), .string s] w fun e w' => e = .returned (.tuple #[]) ∧ RowX w' g T (adds h (rounds K (fun i => bt s (i : Int)) h 64)) rest ∧ w.grownBy w' (some g) := by
  have c0 := hR.cell 0 (by omega)
  have c1 := hR.cell 1 (by omega)
  have c2 := hR.cell 2 (by omega)
  have c3 := hR.cell 3 (by omega)
  have c4 := hR.cell 4 (by omega)
  have c5 := hR.cell 5 (by omega)
  have c6 := hR.cell 6 (by omega)
  have c7 := hR.cell 7 (by omega)
  go_enter Tryd.func52, Tryd.ntmps52
  go_upto_region 0 with (fail)
  go_quiet (fail)
  go_wp2_with fail
  refine (spread_calls s hs _).mono ?_
  rintro e w1 ⟨rfl, hb1⟩
  have hb0 : Below w.heap.size w (w.drewN nq) := pw_below_drewN (Below.refl _ _) nq
  have hB1 : Below w.heap.size w w1 := hb0.trans (hb1.mono hb0.size)
  have hR1 := hR.below hB1 hR.lt
  have hG1 : Glob w1 2 K := hG.below hB1 hG.lt
  clear hb1 hb0 hR c0 c1 c2 c3 c4 c5 c6 c7
  obtain ⟨ws, hws⟩ : ∃ ws, ((sched (fun i => bt s (i : Int)) 64).map (Value.int .u32)).toArray = ws := ⟨_, rfl⟩
  rw [hws]
  have Hws := Lib.hid hws
  obtain ⟨F, hF⟩ : ∃ F : Nat → Int, (fun i : Nat => bt s (i : Int)) = F := ⟨_, rfl⟩
  rw [hF] at Hws
  have HF := Lib.hid hF
  clear hF hws
  go_wp2_with fail
  go_loopw [4, 5, 6, 7, 8, 9, 10, 11, 52] (fun va vb vc vd ve vf vg vi vt wr => ∃ t : Nat, vt = .int .i64 t ∧ t ≤ 64 ∧ Eight (rounds K F h t) va vb vc vd ve vf vg vi ∧ Drawn0 w1 wr) (fun _ _ _ _ _ _ _ _ vt _ => 64 - (intOf vt).toNat)
  case atStart => exact ⟨0, rfl, by omega, eight_of h hh, 0, by rfl⟩
  case round =>
    obtain ⟨t, rfl, ht, ⟨x0, x1, x2, x3, x4, x5, x6, x7, hq, rfl, rfl, rfl, rfl, rfl, rfl, rfl, rfl⟩, ⟨nd, rfl⟩⟩ := hrel
    have hRt := hR1.kept (W' := w1.drewN nd) rfl
    have hGt : Glob (w1.drewN nd) 2 K := hG1.kept rfl
    have hBt := pw_below_drewN hB1 nd
    obtain ⟨wt, hwt⟩ : ∃ wt, w1.drewN nd = wt := ⟨_, rfl⟩
    rw [hwt] at hRt hGt hBt ⊢
    by_cases h64 : t = 64
    · subst h64
      have hL : [x0, x1, x2, x3, x4, x5, x6, x7] = rounds K F h 64 := hq.symm
      have hG0 : wt.grownBy wt (some g) := World.grownBy.refl _ _
      have hidx := fun (cs : Array Value) (k : Nat) (hk : k < 8) (v : Value) (hv : cs[k]? = some v) (W : World) => idx8 cs k hk v hv W
      have Hidx := Lib.hid hidx
      have HL := Lib.hid hL
      clear hL hq hidx hwt hGt hG1 hR1 hB1
      go_wp2
      go_loopw [123] (fun vk wr => ∃ k : Nat, vk = .int .i64 k ∧ k ≤ 8 ∧ RowX wr g T (part h [x0, x1, x2, x3, x4, x5, x6, x7] k) rest ∧ wt.grownBy wr (some g)) (fun vk _ => 8 - (intOf vk).toNat)
      case atStart => exact ⟨0, rfl, by omega, hRt, hG0⟩
      case round =>
        clear hRt hG0
        obtain ⟨k, rfl, hk, hR, hG⟩ := hrel
        by_cases hk8 : k = 8
        · subst hk8
          go_wp2
          go_end0
          refine ⟨rfl, ?_, ?_⟩
          · rw [part_all h _ hh rfl, HL.out, ← HF.out] at hR
            exact hR
          · exact gb_trans (gb_of_below hBt _) hG
        · have hlt : decide ((k : Int) < 8) = true := decide_eq_true (by omega)
          have hk0 : (0 : Int) ≤ (k : Int) := by omega
          have hki : (k : Int) < 8 := by omega
          have hix := Hidx.out #[.int .u32 x0, .int .u32 x1, .int .u32 x2, .int .u32 x3, .int .u32 x4, .int .u32 x5, .int .u32 x6, .int .u32 x7] k (by omega) (.int .u32 (wrd [x0, x1, x2, x3, x4, x5, x6, x7] k)) (cs8 _ _ _ _ _ _ _ _ k (by omega))
          have hc := hR.cell k (by rw [part_len _ _ _ hh rfl]; omega)
          have hfz := hR.frozen k
          go_upto_region 11 with (fail)
          go_still_tail 9, (by kernel_rfl)
          go_wp2
          have hR3 := hR.set k (by rw [part_len _ _ _ hh rfl]; omega) ((wrd (part h [x0, x1, x2, x3, x4, x5, x6, x7] k) k + wrd [x0, x1, x2, x3, x4, x5, x6, x7] k) % 4294967296)
          rw [part_set h [x0, x1, x2, x3, x4, x5, x6, x7] k hh rfl (by omega)] at hR3
          have hG3 := gb_drew (gb_trans hG (gb_set wr g k (.int .u32 ((wrd (part h [x0, x1, x2, x3, x4, x5, x6, x7] k) k + wrd [x0, x1, x2, x3, x4, x5, x6, x7] k) % 4294967296))))
          refine ⟨?_, by simp [intOf]; omega⟩
          repeat apply Exists.intro
          refine ⟨?_, rfl⟩
          exact ⟨k + 1, by go_num, by omega, hR3.kept rfl, hG3⟩
    · have hlt : t < 64 := by omega
      have hltd : decide ((t : Int) < 64) = true := decide_eq_true (by omega)
      have ht0 : (0 : Int) ≤ (t : Int) := by omega
      have hti : (t : Int) < 64 := by omega
      have hc2 := hGt.cell t (by omega)
      have hidx := idx64 ws t hlt (.int .u32 (at_ (sched F 64) t)) (by rw [← Hws.out]; unfold at_; simp [sched_len, hlt])
      have Hq := Lib.hid hq
      have Hwt := Lib.hid hwt
      clear hq hwt hRt hGt hBt hR1 hG1 hB1
      go_upto_region 4 with (fail)
      go_quiet ((go_at_call 59; first | with_reducible exact turn6_q _ _ _ | with_reducible exact turn11_q _ _ _ | with_reducible exact turn25_q _ _ _))
      go_wp2_with (go_at_call 59; (first | with_reducible refine (turn2_q _ _ _).mono ?_ | with_reducible refine (turn13_q _ _ _).mono ?_ | with_reducible refine (turn22_q _ _ _).mono ?_); rintro e w' ⟨rfl, nk, rfl⟩)
      refine ⟨⟨t + 1, by go_num, by omega, ⟨_, _, _, _, _, _, _, _, by rw [rounds, Hq.out]; rfl, rfl, rfl, rfl, rfl, rfl, rfl, rfl, rfl⟩, ⟨nd + nk, by rw [← Hwt.out, World.drewN_drewN]⟩⟩, by simp [intOf]; omega⟩
end Go.Proofs.YtobjhddiieaafaaDoor.M

namespace Go.Proofs.YtobjhddiieaafaaDoor.M
open Go.Proofs.YtobjhddiieaafaaDoor.H
open Go.RowKit Go.Shelf Go.Proofs.YtobjhddiieaafaaDoorW.PrintWords Go.Proofs.YtobjhddiieaafaaDoorW.PrintLast Go.Proofs.YtobjhddiieaafaaDoorW.PrintMore Go.Proofs.YtobjhddiieaafaaDoor.Plain Go.Proofs.YtobjhddiieaafaaDoor.RowOf
attribute [local go_sem] Oper.semAt_some
set_option linter.unusedVariables false
set_option linter.unusedSimpArgs false

theorem reads4 (W : World) (a b c d : Int) : ReadsRow (fun (x : Int) cs => cs = [.int .u8 x]) 1 (W.alloc (.cells #[.int .u8 a, .int .u8 b, .int .u8 c, .int .u8 d] 5 (0, 0))) (some ⟨W.heap.size, 0, none⟩) 4 [a, b, c, d] := by
  refine ⟨rfl, by decide, fun _ => ⟨_, rfl, fun j p hj => ⟨[.int .u8 p], rfl, rfl, fun i u hi => ?_⟩⟩⟩
  have h := World.alloc_heap_new W (.cells #[.int .u8 a, .int .u8 b, .int .u8 c, .int .u8 d] 5 (0, 0))
  obtain ⟨rfl, rfl⟩ : i = 0 ∧ u = .int .u8 p := by
    cases i with
    | zero => exact ⟨rfl, (Option.some.inj hi).symm⟩
    | succ i => cases hi
  have hc : ∀ i, (W.alloc (.cells #[.int .u8 a, .int .u8 b, .int .u8 c, .int .u8 d] 5 (0, 0))).cell? ⟨W.heap.size, i, none⟩ = (#[Value.int .u8 a, .int .u8 b, .int .u8 c, .int .u8 d] : Array Value)[i]? := fun i => by
    unfold World.cell?
    rw [h]
    rfl
  match j, hj with
  | 0, hj => obtain rfl := Option.some.inj hj; exact hc 0
  | 1, hj => obtain rfl := Option.some.inj hj; exact hc 1
  | 2, hj => obtain rfl := Option.some.inj hj; exact hc 2
  | 3, hj => obtain rfl := Option.some.inj hj; exact hc 3

theorem row_ne {W : World} {base n g : Nat} {v : Value} {xs : List Value} {ys : List Int} {t : TypeId} {rest : List Value} (ho : W.ownsRow base 5 1 v n xs) (hR : RowX W g t ys rest) (ht : t ≠ 5) : some g ≠ v.ownBlock := fun e => by
  obtain ⟨cells, hc⟩ := own_typed ho g e.symm
  have h1 : W.heap[g]? = _ := hR
  rw [hc] at h1
  exact ht (by injection h1 with h1; injection h1 with _ h1; exact h1.symm)
/-- A word's bytes, the greatest first. -/
def be4i (x : Int) : List Int := [x / 16777216 % 256, x / 65536 % 256, x / 256 % 256, x % 256]
/-- The bytes of the first words. -/
def outP (h : List Int) : Nat → List Int
  | 0 => []
  | n + 1 => outP h n ++ be4i (wrd h n)
theorem outP_length (h : List Int) (n : Nat) : (outP h n).length = 4 * n := by
  induction n with
  | zero => rfl
  | succ n ih => rw [outP, List.length_append, ih]; simp [be4i]; omega

set_option maxRecDepth 100000 in
set_option maxHeartbeats 2000000 in
theorem bytes_calls (g T : Nat) (rest : List Value) (h : List Int) (hh : h.length = 8) (hT : T ≠ 5) (w : World) (hR : RowX w g T h rest) :
    Calls Tryd.prog 54 #[.pointer (some ⟨g, 0, none⟩)] w fun e w' => e = .returned (.string (strOfNums (outP h 8))) ∧ Below w.heap.size w w' := by
  go_enter Tryd.func54, Tryd.ntmps54
  go_wp2
  go_loopw [3, 7] (fun vo vi wr => ∃ m : Nat, vi = .int .i64 m ∧ m ≤ 8 ∧ Kd.R (Kd.int .u8) 5 wr w.heap.size (fun _ => True) vo (outP h m) ∧ RowX wr g T h rest ∧ Below w.heap.size w wr) (fun _ vi _ => 8 - (intOf vi).toNat)
  case atStart => exact ⟨0, rfl, by omega, Kd.R_nil _ _ _ _ _, hR, Below.refl _ _⟩
  case round =>
    clear hR
    obtain ⟨m, rfl, hm, hO, hR1, hB⟩ := hrel
    by_cases hm1 : m = 8
    · subst hm1
      have hcv := own_string (P := Tryd.prog) Tryd.underlying41 Tryd.underlying5 Tryd.underlying9 (Kd.own_of_R hO)
      go_wp2
      go_ret
      exact ⟨rfl, hB⟩
    · have hlt : decide ((m : Int) < 8) = true := decide_eq_true (by omega)
      have hm0 : (0 : Int) ≤ (m : Int) := by omega
      have hm16 : (m : Int) < 8 := by omega
      have hc := hR1.cell m (by omega)
      have hlen := outP_length h m
      go_upto_region 5 with (fail)
      generalize hx : wrd h m = x
      have hout : outP h (m + 1) = outP h m ++ be4i x := by rw [outP, hx]
      generalize outP h m = L at hO hlen hout
      have hbase := hB.size
      have Hout := Lib.hid hout
      clear hout hx hc
      go_wp2_with ((with_reducible refine gate_builtin (b := .append) (xs := #[.tmp 12, .tmp 24]) rfl ?_); at_builtin; refine Kd.R_append_rows (Kd.int .u8) (Rr := fun x cs => cs = [.int .u8 x]) (w0 := w) w.heap.size rfl (.tmp 12) (.tmp 24) 41 5 (.int .u8 0) 1 rfl Tryd.underlying41 info5 rfl (by decide) (by decide) u3 L (be4i x) (some ⟨wr.heap.size, 0, none⟩) 4 4 (fun _ => True) (fun _ => False) rfl rfl ?p1 ?p2 (fun _ _ h => h) (fun _ h => h.elim) (fun _ _ => trivial) ?p3 ?p4 ?p5 ?_; (case p1 => exact Kd.R_alloc hO _); (case p2 => exact reads4 _ _ _ _ _); (case p3 => exact hB.alloc hB.size _); (case p4 => (rw [World.size_alloc]; omega)); (case p5 => (rw [hlen]; omega)); intro v3 w3 ho3 hb3 hgr3 hat3)
      have n1 := row_ne (Kd.own_of_R hO) hR1 hT
      have hR1' := (hR1.alloc (.cells #[.int .u8 (x / 16777216 % 256), .int .u8 (x / 65536 % 256), .int .u8 (x / 256 % 256), .int .u8 (x % 256)] 5)).kept (hgr3.block g (hR1.alloc _).lt n1)
      go_round
      case rel =>
        exact ⟨m + 1, by go_num, by omega, by rw [Hout.out]; exact ho3, hR1', hb3⟩
      case measure => simp [intOf]; omega

/-- A Summer's cells. -/
def sumR (r : ByteArray) (n : Int) : List Value := [.string r, .int .i64 n]
set_option maxRecDepth 100000 in
set_option maxHeartbeats 2000000 in
theorem New_calls (F : List Int) (hF : F.length = 8) (w : World) (hG : Glob w 1 F) :
    Calls Tryd.prog 45 #[] w fun e w' => e = .returned (.pointer (some ⟨w.heap.size, 0, none⟩)) ∧ w' = w.alloc (.cells (F.map (Value.int .u32) ++ sumR ⟨#[]⟩ 0).toArray 86) := by
  obtain ⟨t, fz, hE⟩ := hG
  match F, hF with
  | [f0, f1, f2, f3, f4, f5, f6, f7], _ =>
    obtain ⟨cs, hcs⟩ : ∃ cs, (([f0, f1, f2, f3, f4, f5, f6, f7] : List Int).map (Value.int .u32)).toArray = cs := ⟨_, rfl⟩
    rw [hcs] at hE
    have hsz : cs.size = 8 := by rw [← hcs]; rfl
    go_enter Tryd.func45, Tryd.ntmps45
    go_wp2_with (refine wpList_load_row rfl 84 (.global 1) rfl 1 rfl t _ fz _ hE Tryd.underlying84 rfl (by rw [hsz]; kernel_rfl) ?_)
    go_ret
    refine ⟨rfl, ?_⟩
    refine congrArg (fun c => w.alloc (.cells c 86 (0, 0))) ?_
    rw [← hcs]
    simp [List.zipIdx, sumR]

end Go.Proofs.YtobjhddiieaafaaDoor.M
