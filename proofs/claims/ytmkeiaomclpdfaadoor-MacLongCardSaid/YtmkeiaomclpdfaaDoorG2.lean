/- sha.spread: the walk. -/
import Derived.Test.YtmkeiaomclpdfaaDoorG1
import Derived.Test.YtmkeiaomclpdfaaDoorRowOf
import Derived.Laws.CopyOwn
namespace Go.Proofs.YtmkeiaomclpdfaaDoor.H
open Go.RowKit Go.Proofs.YtmkeiaomclpdfaaDoorW.PrintWords Go.Proofs.YtmkeiaomclpdfaaDoorW.PrintLast Go.Proofs.YtmkeiaomclpdfaaDoorW.PrintMore Go.Proofs.YtmkeiaomclpdfaaDoor.Plain Go.Proofs.YtmkeiaomclpdfaaDoor.RowOf
set_option linter.unusedVariables false
set_option linter.unusedSimpArgs false

/-- The array, when t words stand. -/
def filled (F : Nat → Int) (t : Nat) : List Int := sched F t ++ List.replicate (64 - t) 0
theorem filled_len (F : Nat → Int) (t : Nat) (h : t ≤ 64) : (filled F t).length = 64 := by
  rw [filled, List.length_append, sched_len, List.length_replicate]
  omega
theorem filled_at (F : Nat → Int) (t i : Nat) (h : i < t) : wrd (filled F t) i = at_ (sched F t) i := by
  unfold wrd filled at_
  rw [List.getD_eq_getElem?_getD, List.getElem?_append_left (by rw [sched_len]; exact h), List.getD_eq_getElem?_getD]
theorem filled_set (F : Nat → Int) (t : Nat) (h : t < 64) : (filled F t).set t (word F (sched F t) t) = filled F (t + 1) := by
  unfold filled
  rw [List.set_append_right _ _ (by rw [sched_len]; exact Nat.le_refl _), sched_len, Nat.sub_self, show 64 - t = (64 - (t + 1)) + 1 by omega, List.replicate_succ, List.set_cons_zero, sched, List.append_assoc]
  rfl

theorem skip_step {P : Program} {ops : Array Oper} {a : Act} {o : Oper} {Kc : Act → World → Prop} {Q : Exit → Act → World → Prop} {W w1 : World} (hw : Region.wanted o (yielded ops a.tmps) = true) (hrun : (execOp a.eval o).run P W = .ok .skip w1) (h : Kc (a.put o.dst undef) w1) :
    if Region.wanted o (yielded ops a.tmps) = true then Oper.wp P o a W Kc Q else Kc (a.put o.dst undef) W := by
  rw [if_pos hw]
  unfold Oper.wp
  rw [hrun, Oper.upon_skip]
  exact h

theorem wu (s : ByteArray) (i : Int) : IntKind.u32.wrap (bt s i) = bt s i := by
  have := bt_range s i
  show bt s i % 4294967296 = bt s i
  omega
theorem storeCells_run {P : Program} {W : World} {g : Nat} {t : TypeId} {old cs : Array Value} (hg : W.heap[g]? = some (.cells old t (0, 0))) (ho : cs.size = old.size) (h1 : cs.all (·.oneCell') = true) :
    (storeCells ⟨g, 0, none⟩ cs.toList).run P W = .ok () (W.setRow g cs) := by
  have := run_storeCells_from (P := P) g t cs.toList 0 old W hg (by simp; omega) (fun v hv => (Array.all_eq_true_iff_forall_mem.1 h1) v (by simpa using hv))
  simpa using this
theorem zero64 : #[Value.int .u32 0, Value.int .u32 0, Value.int .u32 0, Value.int .u32 0, Value.int .u32 0, Value.int .u32 0, Value.int .u32 0, Value.int .u32 0, Value.int .u32 0, Value.int .u32 0, Value.int .u32 0, Value.int .u32 0, Value.int .u32 0, Value.int .u32 0, Value.int .u32 0, Value.int .u32 0, Value.int .u32 0, Value.int .u32 0, Value.int .u32 0, Value.int .u32 0, Value.int .u32 0, Value.int .u32 0, Value.int .u32 0, Value.int .u32 0, Value.int .u32 0, Value.int .u32 0, Value.int .u32 0, Value.int .u32 0, Value.int .u32 0, Value.int .u32 0, Value.int .u32 0, Value.int .u32 0, Value.int .u32 0, Value.int .u32 0, Value.int .u32 0, Value.int .u32 0, Value.int .u32 0, Value.int .u32 0, Value.int .u32 0, Value.int .u32 0, Value.int .u32 0, Value.int .u32 0, Value.int .u32 0, Value.int .u32 0, Value.int .u32 0, Value.int .u32 0, Value.int .u32 0, Value.int .u32 0, Value.int .u32 0, Value.int .u32 0, Value.int .u32 0, Value.int .u32 0, Value.int .u32 0, Value.int .u32 0, Value.int .u32 0, Value.int .u32 0, Value.int .u32 0, Value.int .u32 0, Value.int .u32 0, Value.int .u32 0, Value.int .u32 0, Value.int .u32 0, Value.int .u32 0, Value.int .u32 0] = ((List.replicate 64 (0 : Int)).map (Value.int .u32)).toArray := by rfl
theorem row_new (W : World) (xs : List Int) : Row (W.alloc (.cells (xs.map (Value.int .u32)).toArray 76 (0, 0))) W.heap.size 76 xs := ⟨_, World.alloc_heap_new W _, [], fun _ => rfl, by simp⟩

set_option maxRecDepth 100000 in
set_option maxHeartbeats 4000000 in
theorem spread_calls (s : ByteArray) (hs : s.size = 64) (w : World) :
    Calls Tryd.prog 46 #[.string s] w fun e w' => e = .returned (.agg ((sched (fun i => bt s (i : Int)) 64).map (Value.int .u32)).toArray) ∧ Below w.heap.size w w' := by
  obtain ⟨F, hF⟩ : ∃ F : Nat → Int, (fun i : Nat => bt s (i : Int)) = F := ⟨_, rfl⟩
  rw [hF]
  have HF := Lib.hid hF
  clear hF
  go_enter Tryd.func46, Tryd.ntmps46
  go_wp2
  go_loopw [8] (fun v wr => ∃ t : Nat, v = .int .i64 t ∧ t ≤ 64 ∧ Row wr (w.heap.size + 1) 76 (filled F t) ∧ Row wr w.heap.size 76 (List.replicate 64 0) ∧ Below w.heap.size w wr) (fun v _ => 64 - (intOf v).toNat)
  case atStart =>
    refine ⟨0, rfl, Nat.zero_le _, ?_, ?_, ((Below.refl _ w).alloc (Nat.le_refl _) _).alloc (by rw [World.size_alloc]; omega) _⟩
    · have h := row_new (w.alloc (.cells ((List.replicate 64 (0 : Int)).map (Value.int .u32)).toArray 76 (0, 0))) (List.replicate 64 0)
      rw [World.size_alloc] at h
      exact h
    · exact (row_new w (List.replicate 64 0)).alloc _
  case round =>
    obtain ⟨t, rfl, ht, hR, hZ, hB⟩ := hrel
    by_cases h64 : t = 64
    · subst h64
      have hx : wr.heap[w.heap.size + 1]? = some (.cells ((filled F 64).map (Value.int .u32)).toArray 76 (0, 0)) := row_exact hR
      have hz : wr.heap[w.heap.size]? = some (.cells ((List.replicate 64 (0 : Int)).map (Value.int .u32)).toArray 76 (0, 0)) := row_exact hZ
      rw [show filled F 64 = sched F 64 from by unfold filled; simp] at hx
      have hsz : ((sched F 64).map (Value.int .u32)).toArray.size = 64 := by simp [sched_len]
      have hal : ((sched F 64).map (Value.int .u32)).toArray.all (·.oneCell') = true := by simp [Value.oneCell']
      obtain ⟨cs, hcs⟩ : ∃ cs, ((sched F 64).map (Value.int .u32)).toArray = cs := ⟨_, rfl⟩
      rw [hcs] at hx hsz hal
      have Hcs := Lib.hid hcs
      have hst := storeCells_run (P := Tryd.prog) hz (by rw [hsz]; rfl) hal
      clear hcs hR hZ
      go_wp2_with (first | (with_reducible refine wpList_load_row rfl 76 (.tmp 3) rfl (w.heap.size + 1) rfl 76 _ (0, 0) _ hx Tryd.underlying76 rfl (by rw [hsz]; kernel_rfl) ?_))
      have hq2 := setRow_heap wr w.heap.size _ cs _ _ hz
      refine bodyPost_ret (results_cell_row rfl _ _ w.heap.size 76 cs (0, 0) _ rfl hq2 Tryd.underlying76 rfl (by rw [hsz]; kernel_rfl)) rfl ⟨by rw [Hcs.out], below_setRow hB (Nat.le_refl _) cs⟩
    · have hlt : t < 64 := by omega
      have hltd : decide ((t : Int) < 64) = true := decide_eq_true (by omega)
      have ht0 : (0 : Int) ≤ (t : Int) := by omega
      by_cases h16 : t < 16
      · have h16d : decide ((t : Int) < 16) = true := decide_eq_true (by omega)
        obtain ⟨a, ha⟩ : ∃ a : Nat, 4 * t = a := ⟨_, rfl⟩
        have hw0 : IntKind.i64.wrap (4 * (t : Int)) = (a : Int) := by rw [i64_w]; unfold wrap64; omega
        have hw1 : IntKind.i64.wrap ((a : Int) + 1) = (a : Int) + 1 := by rw [i64_w]; unfold wrap64; omega
        have hw2 : IntKind.i64.wrap ((a : Int) + 2) = (a : Int) + 2 := by rw [i64_w]; unfold wrap64; omega
        have hw3 : IntKind.i64.wrap ((a : Int) + 3) = (a : Int) + 3 := by rw [i64_w]; unfold wrap64; omega
        have p0 := eq_true (show (0 : Int) ≤ (a : Int) by omega)
        have p1 := eq_true (show (0 : Int) ≤ (a : Int) + 1 by omega)
        have p2 := eq_true (show (0 : Int) ≤ (a : Int) + 2 by omega)
        have p3 := eq_true (show (0 : Int) ≤ (a : Int) + 3 by omega)
        have q0 := eq_true (show (a : Int) < (s.size : Int) by omega)
        have q1 := eq_true (show (a : Int) + 1 < (s.size : Int) by omega)
        have q2 := eq_true (show (a : Int) + 2 < (s.size : Int) by omega)
        have q3 := eq_true (show (a : Int) + 3 < (s.size : Int) by omega)
        have y0 : ∀ h : a < s.size, ((s[a]'h).toNat : Int) = bt s (a : Int) := fun h => bt_at s (a : Int) h
        have y1 : ∀ h : a + 1 < s.size, ((s[a + 1]'h).toNat : Int) = bt s ((a : Int) + 1) := fun h => by
          have e : ((a : Int) + 1).toNat = a + 1 := by omega
          have z := bt_at s ((a : Int) + 1)
          simp only [e] at z
          exact z h
        have x0 := bt_at s (a : Int)
        have x1 := bt_at s ((a : Int) + 1)
        have x2 := bt_at s ((a : Int) + 2)
        have x3 := bt_at s ((a : Int) + 3)
        have pt := eq_true (show (0 : Int) ≤ (t : Int) by omega)
        have Hs := Lib.hid hs
        clear hs
        have qt := eq_true (show (t : Int) < 64 by omega)
        go_upto_region 7 with (fail)
        refine start_ (n := 28) (S := fun w' => Row w' (w.heap.size + 1) 76 (filled F t) ∧ True) (ds := [27]) #[false, false, false, false, false, false, false, false, false, false, false, false, false, false, false, false, false, false, false, false, false, false, false, false, false, false, false, false] (by kernel_rfl) rfl rfl ⟨hR.kept rfl, trivial⟩ (fun hHeld => ?_)
        have hB2 := hB.drew
        have hZ2 := hZ.kept (W' := wr.drew) rfl
        generalize wr.drew = W0 at hHeld hB2 hZ2 ⊢
        clear hR hZ hB
        refine pure_ (i := 0) (N := some 15) (v := ?_) (a' := ?_) #[true, false, false, false, false, false, false, false, false, false, false, false, false, false, false, false, false, false, false, false, false, false, false, false, false, false, false, false] rfl rfl (by kernel_rfl) (fun _ _ _ h => h) (Or.inl ⟨by rfl, ?_⟩) ?_ ?_
        rotate_left
        · intro w'
          go_simp
          try (with_reducible rfl)
        rotate_left
        · simp only [Act.put, List.setIfInBounds_toArray, List.set_cons_zero, List.set_cons_succ, i64_w, i32_w]
          rfl
        refine pure_ (i := 1) (N := some 16) (v := ?_) (a' := ?_) #[true, true, false, false, false, false, false, false, false, false, false, false, false, false, false, false, false, false, false, false, false, false, false, false, false, false, false, false] rfl rfl (by kernel_rfl) (fun _ _ _ h => h) (Or.inl ⟨by rfl, ?_⟩) ?_ ?_
        rotate_left
        · intro w'
          go_simp
          try (with_reducible rfl)
        rotate_left
        · simp only [Act.put, List.setIfInBounds_toArray, List.set_cons_zero, List.set_cons_succ, i64_w, i32_w]
          rfl
        refine pure_ (i := 2) (N := some 17) (v := ?_) (a' := ?_) #[true, true, true, false, false, false, false, false, false, false, false, false, false, false, false, false, false, false, false, false, false, false, false, false, false, false, false, false] rfl rfl (by kernel_rfl) (fun _ _ _ h => h) (Or.inl ⟨by rfl, ?_⟩) ?_ ?_
        rotate_left
        · intro w'
          go_simp
          try (with_reducible rfl)
        rotate_left
        · simp only [Act.put, List.setIfInBounds_toArray, List.set_cons_zero, List.set_cons_succ, i64_w, i32_w]
          rfl
        refine pure_ (i := 3) (N := some 18) (v := ?_) (a' := ?_) #[true, true, true, true, false, false, false, false, false, false, false, false, false, false, false, false, false, false, false, false, false, false, false, false, false, false, false, false] rfl rfl (by kernel_rfl) (fun _ _ _ h => h) (Or.inl ⟨by rfl, ?_⟩) ?_ ?_
        rotate_left
        · intro w'
          go_simp
          try (with_reducible rfl)
        rotate_left
        · simp only [Act.put, List.setIfInBounds_toArray, List.set_cons_zero, List.set_cons_succ, i64_w, i32_w]
          rfl
        refine pure_ (i := 4) (N := some 19) (v := ?_) (a' := ?_) #[true, true, true, true, true, false, false, false, false, false, false, false, false, false, false, false, false, false, false, false, false, false, false, false, false, false, false, false] rfl rfl (by kernel_rfl) (fun _ _ _ h => h) (Or.inl ⟨by rfl, ?_⟩) ?_ ?_
        rotate_left
        · intro w'
          go_simp
          try (with_reducible rfl)
        rotate_left
        · simp only [Act.put, List.setIfInBounds_toArray, List.set_cons_zero, List.set_cons_succ, i64_w, i32_w]
          rfl
        refine pure_ (i := 5) (N := some 20) (v := ?_) (a' := ?_) #[true, true, true, true, true, true, false, false, false, false, false, false, false, false, false, false, false, false, false, false, false, false, false, false, false, false, false, false] rfl rfl (by kernel_rfl) (fun _ _ _ h => h) (Or.inl ⟨by rfl, ?_⟩) ?_ ?_
        rotate_left
        · intro w'
          go_simp
          try (with_reducible rfl)
        rotate_left
        · simp only [Act.put, List.setIfInBounds_toArray, List.set_cons_zero, List.set_cons_succ, i64_w, i32_w]
          rfl
        refine pure_ (i := 6) (N := some 21) (v := ?_) (a' := ?_) #[true, true, true, true, true, true, true, false, false, false, false, false, false, false, false, false, false, false, false, false, false, false, false, false, false, false, false, false] rfl rfl (by kernel_rfl) (fun _ _ _ h => h) (Or.inl ⟨by rfl, ?_⟩) ?_ ?_
        rotate_left
        · intro w'
          go_simp
          try (with_reducible rfl)
        rotate_left
        · simp only [Act.put, List.setIfInBounds_toArray, List.set_cons_zero, List.set_cons_succ, i64_w, i32_w]
          rfl
        refine pure_ (i := 7) (N := some 22) (v := ?_) (a' := ?_) #[true, true, true, true, true, true, true, true, false, false, false, false, false, false, false, false, false, false, false, false, false, false, false, false, false, false, false, false] rfl rfl (by kernel_rfl) (fun _ _ _ h => h) (Or.inl ⟨by rfl, ?_⟩) ?_ ?_
        rotate_left
        · intro w'
          go_simp
          try (with_reducible rfl)
        rotate_left
        · simp only [Act.put, List.setIfInBounds_toArray, List.set_cons_zero, List.set_cons_succ, i64_w, i32_w]
          rfl
        refine pure_ (i := 8) (N := some 23) (v := ?_) (a' := ?_) #[true, true, true, true, true, true, true, true, true, false, false, false, false, false, false, false, false, false, false, false, false, false, false, false, false, false, false, false] rfl rfl (by kernel_rfl) (fun _ _ _ h => h) (Or.inl ⟨by rfl, ?_⟩) ?_ ?_
        rotate_left
        · intro w'
          go_simp
          try (with_reducible rfl)
        rotate_left
        · simp only [Act.put, List.setIfInBounds_toArray, List.set_cons_zero, List.set_cons_succ, i64_w, i32_w]
          rfl
        refine pure_ (i := 9) (N := some 24) (v := ?_) (a' := ?_) #[true, true, true, true, true, true, true, true, true, true, false, false, false, false, false, false, false, false, false, false, false, false, false, false, false, false, false, false] rfl rfl (by kernel_rfl) (fun _ _ _ h => h) (Or.inl ⟨by rfl, ?_⟩) ?_ ?_
        rotate_left
        · intro w'
          go_simp
          try (with_reducible rfl)
        rotate_left
        · simp only [Act.put, List.setIfInBounds_toArray, List.set_cons_zero, List.set_cons_succ, i64_w, i32_w]
          rfl
        refine pure_ (i := 10) (N := some 25) (v := ?_) (a' := ?_) #[true, true, true, true, true, true, true, true, true, true, true, false, false, false, false, false, false, false, false, false, false, false, false, false, false, false, false, false] rfl rfl (by kernel_rfl) (fun _ _ _ h => h) (Or.inl ⟨by rfl, ?_⟩) ?_ ?_
        rotate_left
        · intro w'
          go_simp
          try (with_reducible rfl)
        rotate_left
        · simp only [Act.put, List.setIfInBounds_toArray, List.set_cons_zero, List.set_cons_succ, i64_w, i32_w]
          rfl
        refine pure_ (i := 11) (N := some 26) (v := ?_) (a' := ?_) #[true, true, true, true, true, true, true, true, true, true, true, true, false, false, false, false, false, false, false, false, false, false, false, false, false, false, false, false] rfl rfl (by kernel_rfl) (fun _ _ _ h => h) (Or.inl ⟨by rfl, ?_⟩) ?_ ?_
        rotate_left
        · intro w'
          go_simp
          try (with_reducible rfl)
        rotate_left
        · simp only [Act.put, List.setIfInBounds_toArray, List.set_cons_zero, List.set_cons_succ, i64_w, i32_w]
          rfl
        refine pure_ (i := 12) (N := some 27) (v := ?_) (a' := ?_) #[true, true, true, true, true, true, true, true, true, true, true, true, true, false, false, false, false, false, false, false, false, false, false, false, false, false, false, false] rfl rfl (by kernel_rfl) (fun _ _ _ h => h) (Or.inl ⟨by rfl, ?_⟩) ?_ ?_
        rotate_left
        · intro w'
          go_simp
          try (with_reducible rfl)
        rotate_left
        · simp only [Act.put, List.setIfInBounds_toArray, List.set_cons_zero, List.set_cons_succ, i64_w, i32_w]
          rfl
        refine pure_ (i := 13) (N := some 28) (v := ?_) (a' := ?_) #[true, true, true, true, true, true, true, true, true, true, true, true, true, true, false, false, false, false, false, false, false, false, false, false, false, false, false, false] rfl rfl (by kernel_rfl) (fun _ _ _ h => h) (Or.inl ⟨by rfl, ?_⟩) ?_ ?_
        rotate_left
        · intro w'
          go_simp
          try (with_reducible rfl)
        rotate_left
        · simp only [Act.put, List.setIfInBounds_toArray, List.set_cons_zero, List.set_cons_succ, i64_w, i32_w]
          rfl
        refine pure_ (i := 14) (N := some 29) (v := ?_) (a' := ?_) #[true, true, true, true, true, true, true, true, true, true, true, true, true, true, true, false, false, false, false, false, false, false, false, false, false, false, false, false] rfl rfl (by kernel_rfl) (fun _ _ _ h => h) (Or.inl ⟨by rfl, ?_⟩) ?_ ?_
        rotate_left
        · intro w'
          go_simp
          try (with_reducible rfl)
        rotate_left
        · simp only [Act.put, List.setIfInBounds_toArray, List.set_cons_zero, List.set_cons_succ, i64_w, i32_w]
          rfl
        refine pure_ (i := 15) (N := some 30) (v := ?_) (a' := ?_) #[true, true, true, true, true, true, true, true, true, true, true, true, true, true, true, true, false, false, false, false, false, false, false, false, false, false, false, false] rfl rfl (by kernel_rfl) (fun _ _ _ h => h) (Or.inl ⟨by rfl, ?_⟩) ?_ ?_
        rotate_left
        · intro w'
          go_simp
          try (with_reducible rfl)
        rotate_left
        · simp only [Act.put, List.setIfInBounds_toArray, List.set_cons_zero, List.set_cons_succ, i64_w, i32_w]
          rfl
        refine pure_ (i := 16) (N := some 31) (v := ?_) (a' := ?_) #[true, true, true, true, true, true, true, true, true, true, true, true, true, true, true, true, true, false, false, false, false, false, false, false, false, false, false, false] rfl rfl (by kernel_rfl) (fun _ _ _ h => h) (Or.inl ⟨by rfl, ?_⟩) ?_ ?_
        rotate_left
        · intro w'
          go_simp
          try (with_reducible rfl)
        rotate_left
        · simp only [Act.put, List.setIfInBounds_toArray, List.set_cons_zero, List.set_cons_succ, i64_w, i32_w]
          rfl
        refine pure_ (i := 17) (N := some 32) (v := ?_) (a' := ?_) #[true, true, true, true, true, true, true, true, true, true, true, true, true, true, true, true, true, true, false, false, false, false, false, false, false, false, false, false] rfl rfl (by kernel_rfl) (fun _ _ _ h => h) (Or.inl ⟨by rfl, ?_⟩) ?_ ?_
        rotate_left
        · intro w'
          go_simp
          try (with_reducible rfl)
        rotate_left
        · simp only [Act.put, List.setIfInBounds_toArray, List.set_cons_zero, List.set_cons_succ, i64_w, i32_w]
          rfl
        refine pure_ (i := 18) (N := some 33) (v := ?_) (a' := ?_) #[true, true, true, true, true, true, true, true, true, true, true, true, true, true, true, true, true, true, true, false, false, false, false, false, false, false, false, false] rfl rfl (by kernel_rfl) (fun _ _ _ h => h) (Or.inl ⟨by rfl, ?_⟩) ?_ ?_
        rotate_left
        · intro w'
          go_simp
          try (with_reducible rfl)
        rotate_left
        · simp only [Act.put, List.setIfInBounds_toArray, List.set_cons_zero, List.set_cons_succ, i64_w, i32_w]
          rfl
        refine pure_ (i := 19) (N := some 34) (v := ?_) (a' := ?_) #[true, true, true, true, true, true, true, true, true, true, true, true, true, true, true, true, true, true, true, true, false, false, false, false, false, false, false, false] rfl rfl (by kernel_rfl) (fun _ _ _ h => h) (Or.inl ⟨by rfl, ?_⟩) ?_ ?_
        rotate_left
        · intro w'
          go_simp
          try (with_reducible rfl)
        rotate_left
        · simp only [Act.put, List.setIfInBounds_toArray, List.set_cons_zero, List.set_cons_succ, i64_w, i32_w]
          rfl
        refine pure_ (i := 20) (N := some 35) (v := ?_) (a' := ?_) #[true, true, true, true, true, true, true, true, true, true, true, true, true, true, true, true, true, true, true, true, true, false, false, false, false, false, false, false] rfl rfl (by kernel_rfl) (fun _ _ _ h => h) (Or.inl ⟨by rfl, ?_⟩) ?_ ?_
        rotate_left
        · intro w'
          go_simp
          try (with_reducible rfl)
        rotate_left
        · simp only [Act.put, List.setIfInBounds_toArray, List.set_cons_zero, List.set_cons_succ, i64_w, i32_w]
          rfl
        refine pure_ (i := 21) (N := some 36) (v := ?_) (a' := ?_) #[true, true, true, true, true, true, true, true, true, true, true, true, true, true, true, true, true, true, true, true, true, true, false, false, false, false, false, false] rfl rfl (by kernel_rfl) (fun _ _ _ h => h) (Or.inl ⟨by rfl, ?_⟩) ?_ ?_
        rotate_left
        · intro w'
          go_simp
          try (with_reducible rfl)
        rotate_left
        · simp only [Act.put, List.setIfInBounds_toArray, List.set_cons_zero, List.set_cons_succ, i64_w, i32_w]
          rfl
        refine pure_ (i := 22) (N := some 37) (v := ?_) (a' := ?_) #[true, true, true, true, true, true, true, true, true, true, true, true, true, true, true, true, true, true, true, true, true, true, true, false, false, false, false, false] rfl rfl (by kernel_rfl) (fun _ _ _ h => h) (Or.inl ⟨by rfl, ?_⟩) ?_ ?_
        rotate_left
        · intro w'
          go_simp
          try (with_reducible rfl)
        rotate_left
        · simp only [Act.put, List.setIfInBounds_toArray, List.set_cons_zero, List.set_cons_succ, i64_w, i32_w]
          rfl
        refine pure_ (i := 23) (N := some 38) (v := ?_) (a' := ?_) #[true, true, true, true, true, true, true, true, true, true, true, true, true, true, true, true, true, true, true, true, true, true, true, true, false, false, false, false] rfl rfl (by kernel_rfl) (fun _ _ _ h => h) (Or.inl ⟨by rfl, ?_⟩) ?_ ?_
        rotate_left
        · intro w'
          go_simp
          try (with_reducible rfl)
        rotate_left
        · simp only [Act.put, List.setIfInBounds_toArray, List.set_cons_zero, List.set_cons_succ, i64_w, i32_w]
          rfl
        refine pure_ (i := 24) (N := some 39) (v := ?_) (a' := ?_) #[true, true, true, true, true, true, true, true, true, true, true, true, true, true, true, true, true, true, true, true, true, true, true, true, true, false, false, false] rfl rfl (by kernel_rfl) (fun _ _ _ h => h) (Or.inl ⟨by rfl, ?_⟩) ?_ ?_
        rotate_left
        · intro w'
          go_simp
          try (with_reducible rfl)
        rotate_left
        · simp only [Act.put, List.setIfInBounds_toArray, List.set_cons_zero, List.set_cons_succ, i64_w, i32_w]
          rfl
        refine pure_ (i := 25) (N := some 40) (v := ?_) (a' := ?_) #[true, true, true, true, true, true, true, true, true, true, true, true, true, true, true, true, true, true, true, true, true, true, true, true, true, true, false, false] rfl rfl (by kernel_rfl) (fun _ _ _ h => h) (Or.inl ⟨by rfl, ?_⟩) ?_ ?_
        rotate_left
        · intro w'
          go_simp
          try (with_reducible rfl)
        rotate_left
        · simp only [Act.put, List.setIfInBounds_toArray, List.set_cons_zero, List.set_cons_succ, i64_w, i32_w]
          rfl
        refine pure_ (i := 26) (N := some 41) (v := ?_) (a' := ?_) #[true, true, true, true, true, true, true, true, true, true, true, true, true, true, true, true, true, true, true, true, true, true, true, true, true, true, true, false] rfl rfl (by kernel_rfl) (fun _ _ _ h => h) (Or.inl ⟨by rfl, ?_⟩) ?_ ?_
        rotate_left
        · intro w'
          go_simp
          try (with_reducible rfl)
        rotate_left
        · simp only [Act.put, List.setIfInBounds_toArray, List.set_cons_zero, List.set_cons_succ, i64_w, i32_w]
          rfl
        refine last_ (i := 27) (N := none) #[true, true, true, true, true, true, true, true, true, true, true, true, true, true, true, true, true, true, true, true, true, true, true, true, true, true, true, true] rfl rfl (by kernel_rfl) (by decide) (fun K hK => ?_)
        have hfz := hHeld.1.frozen t
        have hcl := hHeld.1.cell t (by rw [filled_len F t ht]; omega)
        refine skip_step (w1 := W0.setCell ⟨w.heap.size + 1, t, none⟩ (.int .u32 (Go.bits .or .u32 (Go.bits .or .u32 (Go.bits .or .u32 (shl .u32 (bt s (a : Int)) 24) (shl .u32 (bt s ((a : Int) + 1)) 16)) (shl .u32 (bt s ((a : Int) + 2)) 8)) (bt s ((a : Int) + 3))))) (by rfl) ?hr ?_
        case hr =>
          go_simp
          simp only [wu s]
          rfl
        refine hK.out _ _ ?_
        clear hK K
        have hv : (Go.bits .or .u32 (Go.bits .or .u32 (Go.bits .or .u32 (shl .u32 (bt s (a : Int)) 24) (shl .u32 (bt s ((a : Int) + 1)) 16)) (shl .u32 (bt s ((a : Int) + 2)) 8)) (bt s ((a : Int) + 3))) = word F (sched F t) t := by
          rw [word, if_pos h16, be, ha, ← HF.out]
          rfl
        have hR3 := hHeld.1.set t (by rw [filled_len F t ht]; omega) (Go.bits .or .u32 (Go.bits .or .u32 (Go.bits .or .u32 (shl .u32 (bt s (a : Int)) 24) (shl .u32 (bt s ((a : Int) + 1)) 16)) (shl .u32 (bt s ((a : Int) + 2)) 8)) (bt s ((a : Int) + 3)))
        have hZ3 := hZ2.far (p := ⟨w.heap.size + 1, t, none⟩) (by show w.heap.size ≠ w.heap.size + 1; omega) (.int .u32 (Go.bits .or .u32 (Go.bits .or .u32 (Go.bits .or .u32 (shl .u32 (bt s (a : Int)) 24) (shl .u32 (bt s ((a : Int) + 1)) 16)) (shl .u32 (bt s ((a : Int) + 2)) 8)) (bt s ((a : Int) + 3))))
        have hB3 : Below w.heap.size w (W0.setCell ⟨w.heap.size + 1, t, none⟩ (.int .u32 (Go.bits .or .u32 (Go.bits .or .u32 (Go.bits .or .u32 (shl .u32 (bt s (a : Int)) 24) (shl .u32 (bt s ((a : Int) + 1)) 16)) (shl .u32 (bt s ((a : Int) + 2)) 8)) (bt s ((a : Int) + 3))))) := below_set hB2 (show w.heap.size ≤ w.heap.size + 1 by omega)
        rw [hv] at hR3 hZ3 hB3 ⊢
        rw [filled_set F t hlt] at hR3
        generalize W0.setCell ⟨w.heap.size + 1, t, none⟩ (.int .u32 (word F (sched F t) t)) = W3 at hR3 hZ3 hB3 ⊢
        clear hv hfz hcl hHeld hZ2 hB2 x0 x1 x2 x3 y0 y1
        refine done_ (by kernel_rfl) ?_
        go_wp2
        exact ⟨⟨t + 1, by go_num, by omega, hR3, hZ3, hB3⟩, by simp [intOf]; omega⟩
      · have h16d : decide ((t : Int) < 16) = false := decide_eq_false (by omega)
        obtain ⟨i15, h15⟩ : ∃ i : Nat, t - 15 = i := ⟨_, rfl⟩
        obtain ⟨i2, h2⟩ : ∃ i : Nat, t - 2 = i := ⟨_, rfl⟩
        obtain ⟨i16, hi16⟩ : ∃ i : Nat, t - 16 = i := ⟨_, rfl⟩
        obtain ⟨i7, h7⟩ : ∃ i : Nat, t - 7 = i := ⟨_, rfl⟩
        have hw15 : IntKind.i64.wrap ((t : Int) - 15) = (i15 : Int) := by rw [i64_w]; unfold wrap64; omega
        have p15 := eq_true (show (0 : Int) ≤ (i15 : Int) by omega)
        have q15 := eq_true (show (i15 : Int) < 64 by omega)
        have hw2 : IntKind.i64.wrap ((t : Int) - 2) = (i2 : Int) := by rw [i64_w]; unfold wrap64; omega
        have p2 := eq_true (show (0 : Int) ≤ (i2 : Int) by omega)
        have q2 := eq_true (show (i2 : Int) < 64 by omega)
        have hw16 : IntKind.i64.wrap ((t : Int) - 16) = (i16 : Int) := by rw [i64_w]; unfold wrap64; omega
        have p16 := eq_true (show (0 : Int) ≤ (i16 : Int) by omega)
        have q16 := eq_true (show (i16 : Int) < 64 by omega)
        have hw7 : IntKind.i64.wrap ((t : Int) - 7) = (i7 : Int) := by rw [i64_w]; unfold wrap64; omega
        have p7 := eq_true (show (0 : Int) ≤ (i7 : Int) by omega)
        have q7 := eq_true (show (i7 : Int) < 64 by omega)
        have pt := eq_true (show (0 : Int) ≤ (t : Int) by omega)
        have qt := eq_true (show (t : Int) < 64 by omega)
        have c15 := hR.cell i15 (by rw [filled_len F t ht]; omega)
        have c2 := hR.cell i2 (by rw [filled_len F t ht]; omega)
        rw [filled_at F t i15 (by omega)] at c15
        rw [filled_at F t i2 (by omega)] at c2
        go_upto_region 8 with (fail)
        go_quiet (fail)
        go_upto_region 9 with (fail)
        clear c15 c2
        have hR9 := hR.kept (W' := wr.drewN nq) rfl
        have hZ9 := hZ.kept (W' := wr.drewN nq) rfl
        have hB9 := pw_below_drewN hB nq
        clear hR hZ hB
        generalize wr.drewN nq = wq at hR9 hZ9 hB9 ⊢
        refine start_ (n := 30) (S := fun w' => Row w' (w.heap.size + 1) 76 (filled F t) ∧ True) (ds := [29]) #[false, false, false, false, false, false, false, false, false, false, false, false, false, false, false, false, false, false, false, false, false, false, false, false, false, false, false, false, false, false] (by kernel_rfl) rfl rfl ⟨hR9.kept rfl, trivial⟩ (fun hHeld => ?_)
        have hB2 := hB9.drew
        have hZ2 := hZ9.kept (W' := wq.drew) rfl
        generalize wq.drew = W0 at hHeld hB2 hZ2 ⊢
        clear hR9 hZ9 hB9
        refine pure_ (i := 0) (N := some 50) (v := ?_) (a' := ?_) #[true, false, false, false, false, false, false, false, false, false, false, false, false, false, false, false, false, false, false, false, false, false, false, false, false, false, false, false, false, false] rfl rfl (by kernel_rfl) (fun _ _ _ h => h) (Or.inl ⟨by rfl, ?_⟩) ?_ ?_
        rotate_left
        · intro w'
          go_simp
          try (with_reducible rfl)
        rotate_left
        · simp only [Act.put, List.setIfInBounds_toArray, List.set_cons_zero, List.set_cons_succ, i64_w, i32_w]
          rfl
        refine pure_ (i := 1) (N := some 51) (v := ?_) (a' := ?_) #[true, true, false, false, false, false, false, false, false, false, false, false, false, false, false, false, false, false, false, false, false, false, false, false, false, false, false, false, false, false] rfl rfl (by kernel_rfl) (fun _ _ _ h => h) (Or.inl ⟨by rfl, ?_⟩) ?_ ?_
        rotate_left
        · intro w'
          go_simp
          try (with_reducible rfl)
        rotate_left
        · simp only [Act.put, List.setIfInBounds_toArray, List.set_cons_zero, List.set_cons_succ, i64_w, i32_w]
          rfl
        refine pure_ (i := 2) (N := some 52) (v := ?_) (a' := ?_) #[true, true, true, false, false, false, false, false, false, false, false, false, false, false, false, false, false, false, false, false, false, false, false, false, false, false, false, false, false, false] rfl rfl (by kernel_rfl) (fun _ _ _ h => h) (Or.inl ⟨by rfl, ?_⟩) ?_ ?_
        rotate_left
        · intro w'
          go_simp
          try (with_reducible rfl)
        rotate_left
        · simp only [Act.put, List.setIfInBounds_toArray, List.set_cons_zero, List.set_cons_succ, i64_w, i32_w]
          rfl
        refine pure_ (i := 3) (N := some 53) (v := ?_) (a' := ?_) #[true, true, true, true, false, false, false, false, false, false, false, false, false, false, false, false, false, false, false, false, false, false, false, false, false, false, false, false, false, false] rfl rfl (by kernel_rfl) (fun _ _ _ h => h) (Or.inl ⟨by rfl, ?_⟩) ?_ ?_
        rotate_left
        · intro w'
          go_simp
          try (with_reducible rfl)
        rotate_left
        · simp only [Act.put, List.setIfInBounds_toArray, List.set_cons_zero, List.set_cons_succ, i64_w, i32_w]
          rfl
        refine take_ (i := 4) (N := some 54) (v := ?_) (a' := ?_) #[true, true, true, true, true, false, false, false, false, false, false, false, false, false, false, false, false, false, false, false, false, false, false, false, false, false, false, false, false, false] rfl rfl (by kernel_rfl) (fun _ _ _ h => h) (Or.inl ⟨by rfl, ?_⟩) hHeld ?_ ?_
        rotate_left
        · intro w' hS_
          have r16 := hS_.1.cell i16 (by rw [filled_len F t ht]; omega); rw [filled_at F t i16 (by omega)] at r16; have r7 := hS_.1.cell i7 (by rw [filled_len F t ht]; omega); rw [filled_at F t i7 (by omega)] at r7
          go_simp
          try (with_reducible rfl)
        rotate_left
        · simp only [Act.put, List.setIfInBounds_toArray, List.set_cons_zero, List.set_cons_succ, i64_w, i32_w]
          rfl
        refine pure_ (i := 5) (N := some 55) (v := ?_) (a' := ?_) #[true, true, true, true, true, true, false, false, false, false, false, false, false, false, false, false, false, false, false, false, false, false, false, false, false, false, false, false, false, false] rfl rfl (by kernel_rfl) (fun _ _ _ h => h) (Or.inl ⟨by rfl, ?_⟩) ?_ ?_
        rotate_left
        · intro w'
          go_simp
          try (with_reducible rfl)
        rotate_left
        · simp only [Act.put, List.setIfInBounds_toArray, List.set_cons_zero, List.set_cons_succ, i64_w, i32_w]
          rfl
        refine pure_ (i := 6) (N := some 56) (v := ?_) (a' := ?_) #[true, true, true, true, true, true, true, false, false, false, false, false, false, false, false, false, false, false, false, false, false, false, false, false, false, false, false, false, false, false] rfl rfl (by kernel_rfl) (fun _ _ _ h => h) (Or.inl ⟨by rfl, ?_⟩) ?_ ?_
        rotate_left
        · intro w'
          go_simp
          try (with_reducible rfl)
        rotate_left
        · simp only [Act.put, List.setIfInBounds_toArray, List.set_cons_zero, List.set_cons_succ, i64_w, i32_w]
          rfl
        refine pure_ (i := 7) (N := some 57) (v := ?_) (a' := ?_) #[true, true, true, true, true, true, true, true, false, false, false, false, false, false, false, false, false, false, false, false, false, false, false, false, false, false, false, false, false, false] rfl rfl (by kernel_rfl) (fun _ _ _ h => h) (Or.inl ⟨by rfl, ?_⟩) ?_ ?_
        rotate_left
        · intro w'
          go_simp
          try (with_reducible rfl)
        rotate_left
        · simp only [Act.put, List.setIfInBounds_toArray, List.set_cons_zero, List.set_cons_succ, i64_w, i32_w]
          rfl
        refine take_ (i := 8) (N := some 58) (v := ?_) (a' := ?_) #[true, true, true, true, true, true, true, true, true, false, false, false, false, false, false, false, false, false, false, false, false, false, false, false, false, false, false, false, false, false] rfl rfl (by kernel_rfl) (fun _ _ _ h => h) (Or.inl ⟨by rfl, ?_⟩) hHeld ?_ ?_
        rotate_left
        · intro w' hS_
          have r16 := hS_.1.cell i16 (by rw [filled_len F t ht]; omega); rw [filled_at F t i16 (by omega)] at r16; have r7 := hS_.1.cell i7 (by rw [filled_len F t ht]; omega); rw [filled_at F t i7 (by omega)] at r7
          go_simp
          try (with_reducible rfl)
        rotate_left
        · simp only [Act.put, List.setIfInBounds_toArray, List.set_cons_zero, List.set_cons_succ, i64_w, i32_w]
          rfl
        refine pure_ (i := 9) (N := some 59) (v := ?_) (a' := ?_) #[true, true, true, true, true, true, true, true, true, true, false, false, false, false, false, false, false, false, false, false, false, false, false, false, false, false, false, false, false, false] rfl rfl (by kernel_rfl) (fun _ _ _ h => h) (Or.inl ⟨by rfl, ?_⟩) ?_ ?_
        rotate_left
        · intro w'
          go_simp
          try (with_reducible rfl)
        rotate_left
        · simp only [Act.put, List.setIfInBounds_toArray, List.set_cons_zero, List.set_cons_succ, i64_w, i32_w]
          rfl
        refine pure_ (i := 10) (N := some 60) (v := ?_) (a' := ?_) #[true, true, true, true, true, true, true, true, true, true, true, false, false, false, false, false, false, false, false, false, false, false, false, false, false, false, false, false, false, false] rfl rfl (by kernel_rfl) (fun _ _ _ h => h) (Or.inl ⟨by rfl, ?_⟩) ?_ ?_
        rotate_left
        · intro w'
          go_simp
          try (with_reducible rfl)
        rotate_left
        · simp only [Act.put, List.setIfInBounds_toArray, List.set_cons_zero, List.set_cons_succ, i64_w, i32_w]
          rfl
        refine pure_ (i := 12) (N := some 62) (v := ?_) (a' := ?_) #[true, true, true, true, true, true, true, true, true, true, true, false, true, false, false, false, false, false, false, false, false, false, false, false, false, false, false, false, false, false] rfl rfl (by kernel_rfl) (fun _ _ _ h => h) (Or.inl ⟨by rfl, ?_⟩) ?_ ?_
        rotate_left
        · intro w'
          go_simp
          try (with_reducible rfl)
        rotate_left
        · simp only [Act.put, List.setIfInBounds_toArray, List.set_cons_zero, List.set_cons_succ, i64_w, i32_w]
          rfl
        refine pure_ (i := 15) (N := some 65) (v := ?_) (a' := ?_) #[true, true, true, true, true, true, true, true, true, true, true, false, true, false, false, true, false, false, false, false, false, false, false, false, false, false, false, false, false, false] rfl rfl (by kernel_rfl) (fun _ _ _ h => h) (Or.inl ⟨by rfl, ?_⟩) ?_ ?_
        rotate_left
        · intro w'
          go_simp
          try (with_reducible rfl)
        rotate_left
        · simp only [Act.put, List.setIfInBounds_toArray, List.set_cons_zero, List.set_cons_succ, i64_w, i32_w]
          rfl
        refine pure_ (i := 16) (N := some 66) (v := ?_) (a' := ?_) #[true, true, true, true, true, true, true, true, true, true, true, false, true, false, false, true, true, false, false, false, false, false, false, false, false, false, false, false, false, false] rfl rfl (by kernel_rfl) (fun _ _ _ h => h) (Or.inl ⟨by rfl, ?_⟩) ?_ ?_
        rotate_left
        · intro w'
          go_simp
          try (with_reducible rfl)
        rotate_left
        · simp only [Act.put, List.setIfInBounds_toArray, List.set_cons_zero, List.set_cons_succ, i64_w, i32_w]
          rfl
        refine pure_ (i := 19) (N := some 69) (v := ?_) (a' := ?_) #[true, true, true, true, true, true, true, true, true, true, true, false, true, false, false, true, true, false, false, true, false, false, false, false, false, false, false, false, false, false] rfl rfl (by kernel_rfl) (fun _ _ _ h => h) (Or.inl ⟨by rfl, ?_⟩) ?_ ?_
        rotate_left
        · intro w'
          go_simp
          try (with_reducible rfl)
        rotate_left
        · simp only [Act.put, List.setIfInBounds_toArray, List.set_cons_zero, List.set_cons_succ, i64_w, i32_w]
          rfl
        refine pure_ (i := 21) (N := some 71) (v := ?_) (a' := ?_) #[true, true, true, true, true, true, true, true, true, true, true, false, true, false, false, true, true, false, false, true, false, true, false, false, false, false, false, false, false, false] rfl rfl (by kernel_rfl) (fun _ _ _ h => h) (Or.inl ⟨by rfl, ?_⟩) ?_ ?_
        rotate_left
        · intro w'
          go_simp
          try (with_reducible rfl)
        rotate_left
        · simp only [Act.put, List.setIfInBounds_toArray, List.set_cons_zero, List.set_cons_succ, i64_w, i32_w]
          rfl
        refine pure_ (i := 24) (N := some 74) (v := ?_) (a' := ?_) #[true, true, true, true, true, true, true, true, true, true, true, false, true, false, false, true, true, false, false, true, false, true, false, false, true, false, false, false, false, false] rfl rfl (by kernel_rfl) (fun _ _ _ h => h) (Or.inl ⟨by rfl, ?_⟩) ?_ ?_
        rotate_left
        · intro w'
          go_simp
          try (with_reducible rfl)
        rotate_left
        · simp only [Act.put, List.setIfInBounds_toArray, List.set_cons_zero, List.set_cons_succ, i64_w, i32_w]
          rfl
        refine pure_ (i := 25) (N := some 75) (v := ?_) (a' := ?_) #[true, true, true, true, true, true, true, true, true, true, true, false, true, false, false, true, true, false, false, true, false, true, false, false, true, true, false, false, false, false] rfl rfl (by kernel_rfl) (fun _ _ _ h => h) (Or.inl ⟨by rfl, ?_⟩) ?_ ?_
        rotate_left
        · intro w'
          go_simp
          try (with_reducible rfl)
        rotate_left
        · simp only [Act.put, List.setIfInBounds_toArray, List.set_cons_zero, List.set_cons_succ, i64_w, i32_w]
          rfl
        refine one_ (i := 11) (N := some 61) #[true, true, true, true, true, true, true, true, true, true, true, true, true, false, false, true, true, false, false, true, false, true, false, false, true, true, false, false, false, false] rfl rfl (by kernel_rfl) (by decide) (fun K hK => ?_)
        refine goes_ Tryd.func47 (by kernel_rfl) rfl #[.int .u32 (at_ (sched F t) i15), .int .i64 (7 : Nat)] (by rfl) rfl rfl (by (try simp only [List.map_toArray, List.map_cons, List.map_nil]); first | done | rfl) ?_
        refine (turn_calls (at_ (sched F t) i15) 7 (by decide) _).mono ?_
        rintro e w11 ⟨rfl, nd11, rfl⟩
        refine ⟨_, rfl, ?_⟩
        refine hK.out _ _ ⟨hHeld.1.kept rfl, hHeld.2⟩ (fun hHeld => ?_)
        clear hK K
        replace hB2 := pw_below_drewN hB2 nd11
        replace hZ2 := hZ2.kept (W' := W0.drewN nd11) rfl
        generalize W0.drewN nd11 = V11 at hHeld hB2 hZ2 ⊢
        refine one_ (i := 13) (N := some 63) #[true, true, true, true, true, true, true, true, true, true, true, true, true, true, false, true, true, false, false, true, false, true, false, false, true, true, false, false, false, false] rfl rfl (by kernel_rfl) (by decide) (fun K hK => ?_)
        refine goes_ Tryd.func47 (by kernel_rfl) rfl #[.int .u32 (at_ (sched F t) i15), .int .i64 (18 : Nat)] (by rfl) rfl rfl (by (try simp only [List.map_toArray, List.map_cons, List.map_nil]); first | done | rfl) ?_
        refine (turn_calls (at_ (sched F t) i15) 18 (by decide) _).mono ?_
        rintro e w13 ⟨rfl, nd13, rfl⟩
        refine ⟨_, rfl, ?_⟩
        refine hK.out _ _ ⟨hHeld.1.kept rfl, hHeld.2⟩ (fun hHeld => ?_)
        clear hK K
        replace hB2 := pw_below_drewN hB2 nd13
        replace hZ2 := hZ2.kept (W' := V11.drewN nd13) rfl
        generalize V11.drewN nd13 = V13 at hHeld hB2 hZ2 ⊢
        refine pure_ (i := 14) (N := some 64) (v := ?_) (a' := ?_) #[true, true, true, true, true, true, true, true, true, true, true, true, true, true, true, true, true, false, false, true, false, true, false, false, true, true, false, false, false, false] rfl rfl (by kernel_rfl) (fun _ _ _ h => h) (Or.inl ⟨by rfl, ?_⟩) ?_ ?_
        rotate_left
        · intro w'
          go_simp
          try (with_reducible rfl)
        rotate_left
        · simp only [Act.put, List.setIfInBounds_toArray, List.set_cons_zero, List.set_cons_succ, List.getElem_toArray, List.getElem_cons_succ, List.getElem_cons_zero, i64_w, i32_w]
          rfl
        refine pure_ (i := 17) (N := some 67) (v := ?_) (a' := ?_) #[true, true, true, true, true, true, true, true, true, true, true, true, true, true, true, true, true, true, false, true, false, true, false, false, true, true, false, false, false, false] rfl rfl (by kernel_rfl) (fun _ _ _ h => h) (Or.inl ⟨by rfl, ?_⟩) ?_ ?_
        rotate_left
        · intro w'
          go_simp
          try (with_reducible rfl)
        rotate_left
        · simp only [Act.put, List.setIfInBounds_toArray, List.set_cons_zero, List.set_cons_succ, List.getElem_toArray, List.getElem_cons_succ, List.getElem_cons_zero, i64_w, i32_w]
          rfl
        refine pure_ (i := 18) (N := some 68) (v := ?_) (a' := ?_) #[true, true, true, true, true, true, true, true, true, true, true, true, true, true, true, true, true, true, true, true, false, true, false, false, true, true, false, false, false, false] rfl rfl (by kernel_rfl) (fun _ _ _ h => h) (Or.inl ⟨by rfl, ?_⟩) ?_ ?_
        rotate_left
        · intro w'
          go_simp
          try (with_reducible rfl)
        rotate_left
        · simp only [Act.put, List.setIfInBounds_toArray, List.set_cons_zero, List.set_cons_succ, List.getElem_toArray, List.getElem_cons_succ, List.getElem_cons_zero, i64_w, i32_w]
          rfl
        refine one_ (i := 20) (N := some 70) #[true, true, true, true, true, true, true, true, true, true, true, true, true, true, true, true, true, true, true, true, true, true, false, false, true, true, false, false, false, false] rfl rfl (by kernel_rfl) (by decide) (fun K hK => ?_)
        refine goes_ Tryd.func47 (by kernel_rfl) rfl #[.int .u32 (at_ (sched F t) i2), .int .i64 (17 : Nat)] (by rfl) rfl rfl (by (try simp only [List.map_toArray, List.map_cons, List.map_nil]); first | done | rfl) ?_
        refine (turn_calls (at_ (sched F t) i2) 17 (by decide) _).mono ?_
        rintro e w20 ⟨rfl, nd20, rfl⟩
        refine ⟨_, rfl, ?_⟩
        refine hK.out _ _ ⟨hHeld.1.kept rfl, hHeld.2⟩ (fun hHeld => ?_)
        clear hK K
        replace hB2 := pw_below_drewN hB2 nd20
        replace hZ2 := hZ2.kept (W' := V13.drewN nd20) rfl
        generalize V13.drewN nd20 = V20 at hHeld hB2 hZ2 ⊢
        refine one_ (i := 22) (N := some 72) #[true, true, true, true, true, true, true, true, true, true, true, true, true, true, true, true, true, true, true, true, true, true, true, false, true, true, false, false, false, false] rfl rfl (by kernel_rfl) (by decide) (fun K hK => ?_)
        refine goes_ Tryd.func47 (by kernel_rfl) rfl #[.int .u32 (at_ (sched F t) i2), .int .i64 (19 : Nat)] (by rfl) rfl rfl (by (try simp only [List.map_toArray, List.map_cons, List.map_nil]); first | done | rfl) ?_
        refine (turn_calls (at_ (sched F t) i2) 19 (by decide) _).mono ?_
        rintro e w22 ⟨rfl, nd22, rfl⟩
        refine ⟨_, rfl, ?_⟩
        refine hK.out _ _ ⟨hHeld.1.kept rfl, hHeld.2⟩ (fun hHeld => ?_)
        clear hK K
        replace hB2 := pw_below_drewN hB2 nd22
        replace hZ2 := hZ2.kept (W' := V20.drewN nd22) rfl
        generalize V20.drewN nd22 = V22 at hHeld hB2 hZ2 ⊢
        refine pure_ (i := 23) (N := some 73) (v := ?_) (a' := ?_) #[true, true, true, true, true, true, true, true, true, true, true, true, true, true, true, true, true, true, true, true, true, true, true, true, true, true, false, false, false, false] rfl rfl (by kernel_rfl) (fun _ _ _ h => h) (Or.inl ⟨by rfl, ?_⟩) ?_ ?_
        rotate_left
        · intro w'
          go_simp
          try (with_reducible rfl)
        rotate_left
        · simp only [Act.put, List.setIfInBounds_toArray, List.set_cons_zero, List.set_cons_succ, List.getElem_toArray, List.getElem_cons_succ, List.getElem_cons_zero, i64_w, i32_w]
          rfl
        refine pure_ (i := 26) (N := some 76) (v := ?_) (a' := ?_) #[true, true, true, true, true, true, true, true, true, true, true, true, true, true, true, true, true, true, true, true, true, true, true, true, true, true, true, false, false, false] rfl rfl (by kernel_rfl) (fun _ _ _ h => h) (Or.inl ⟨by rfl, ?_⟩) ?_ ?_
        rotate_left
        · intro w'
          go_simp
          try (with_reducible rfl)
        rotate_left
        · simp only [Act.put, List.setIfInBounds_toArray, List.set_cons_zero, List.set_cons_succ, List.getElem_toArray, List.getElem_cons_succ, List.getElem_cons_zero, i64_w, i32_w]
          rfl
        refine pure_ (i := 27) (N := some 77) (v := ?_) (a' := ?_) #[true, true, true, true, true, true, true, true, true, true, true, true, true, true, true, true, true, true, true, true, true, true, true, true, true, true, true, true, false, false] rfl rfl (by kernel_rfl) (fun _ _ _ h => h) (Or.inl ⟨by rfl, ?_⟩) ?_ ?_
        rotate_left
        · intro w'
          go_simp
          try (with_reducible rfl)
        rotate_left
        · simp only [Act.put, List.setIfInBounds_toArray, List.set_cons_zero, List.set_cons_succ, List.getElem_toArray, List.getElem_cons_succ, List.getElem_cons_zero, i64_w, i32_w]
          rfl
        refine pure_ (i := 28) (N := some 78) (v := ?_) (a' := ?_) #[true, true, true, true, true, true, true, true, true, true, true, true, true, true, true, true, true, true, true, true, true, true, true, true, true, true, true, true, true, false] rfl rfl (by kernel_rfl) (fun _ _ _ h => h) (Or.inl ⟨by rfl, ?_⟩) ?_ ?_
        rotate_left
        · intro w'
          go_simp
          try (with_reducible rfl)
        rotate_left
        · simp only [Act.put, List.setIfInBounds_toArray, List.set_cons_zero, List.set_cons_succ, List.getElem_toArray, List.getElem_cons_succ, List.getElem_cons_zero, i64_w, i32_w]
          rfl
        refine last_ (i := 29) (N := none) #[true, true, true, true, true, true, true, true, true, true, true, true, true, true, true, true, true, true, true, true, true, true, true, true, true, true, true, true, true, true] rfl rfl (by kernel_rfl) (by decide) (fun K hK => ?_)
        have hfz := hHeld.1.frozen t
        have hcl := hHeld.1.cell t (by rw [filled_len F t ht]; omega)
        have hv : (((at_ (sched F t) i16 + at_ (sched F t) i7) % 4294967296 + sg0 (at_ (sched F t) i15)) % 4294967296 + sg1 (at_ (sched F t) i2)) % 4294967296 = word F (sched F t) t := by
          rw [word, if_neg h16, h15, h2, hi16, h7]
          simp only [Int.emod_add_emod]
        refine skip_step (w1 := World.setCell V22 ⟨w.heap.size + 1, t, none⟩ (.int .u32 (word F (sched F t) t))) (by rfl) ?hr ?_
        case hr =>
          go_simp
          rw [← hv]
          rfl
        refine hK.out _ _ ?_
        clear hK K
        have hR3 := hHeld.1.set t (by rw [filled_len F t ht]; omega) (word F (sched F t) t)
        have hZ3 := hZ2.far (p := ⟨w.heap.size + 1, t, none⟩) (by show w.heap.size ≠ w.heap.size + 1; omega) (.int .u32 (word F (sched F t) t))
        have hB3 : Below w.heap.size w (V22.setCell ⟨w.heap.size + 1, t, none⟩ (.int .u32 (word F (sched F t) t))) := below_set hB2 (show w.heap.size ≤ w.heap.size + 1 by omega)
        rw [filled_set F t hlt] at hR3
        generalize V22.setCell ⟨w.heap.size + 1, t, none⟩ (.int .u32 (word F (sched F t) t)) = W3 at hR3 hZ3 hB3 ⊢
        clear hv hfz hcl hHeld hZ2 hB2
        refine done_ (by kernel_rfl) ?_
        go_wp2
        exact ⟨⟨t + 1, by go_num, by omega, hR3, hZ3, hB3⟩, by simp [intOf]; omega⟩

end Go.Proofs.YtmkeiaomclpdfaaDoor.H
