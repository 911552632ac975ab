/- sphragisref02.Sum: the walk. -/
import Derived.Test.YtobjhddiieaafaaDoorM10
import Derived.Test.YtobjhddiieaafaaDoorA2
import Derived.Test.YtobjhddiieaafaaDoorH2
import Derived.Test.YtobjhddiieaafaaDoorH2
import Derived.Test.YtobjhddiieaafaaDoorM8
import Derived.SliceStrings
import Derived.SizedLaws
import Derived.ProofKit
import Derived.OpenShut
import Derived.OwnWalk
namespace Go.Proofs.YtobjhddiieaafaaDoor.M
open Go.Proofs.YtobjhddiieaafaaDoor.H
open Go.RowKit Go.Shelf Go.Proofs.YtobjhddiieaafaaDoorW.PrintWords Go.Proofs.YtobjhddiieaafaaDoorW.PrintLast Go.Proofs.YtobjhddiieaafaaDoorW.PrintMore Go.Proofs.YtobjhddiieaafaaDoor.Plain Go.Proofs.YtobjhddiieaafaaDoor.RowOf Go.Proofs.YtobjhddiieaafaaDoor.Le
attribute [local go_sem] Oper.semAt_some
set_option linter.unusedVariables false
set_option linter.unusedSimpArgs false

theorem nums8 (n : Nat) (b : Int) (hb : b = (n : Int) * 8) : (strOfNums [b / 72057594037927936 % 256, b / 281474976710656 % 256, b / 1099511627776 % 256, b / 4294967296 % 256, b / 16777216 % 256, b / 65536 % 256, b / 256 % 256, b % 256]).data.toList = size8 n := by
  subst hb
  rw [strOfNums_data]
  unfold size8
  have h7 : ((n : Int) * 8 / 72057594037927936 % 256).toNat = n * 8 / 72057594037927936 % 256 := by omega
  have h6 : ((n : Int) * 8 / 281474976710656 % 256).toNat = n * 8 / 281474976710656 % 256 := by omega
  have h5 : ((n : Int) * 8 / 1099511627776 % 256).toNat = n * 8 / 1099511627776 % 256 := by omega
  have h4 : ((n : Int) * 8 / 4294967296 % 256).toNat = n * 8 / 4294967296 % 256 := by omega
  have h3 : ((n : Int) * 8 / 16777216 % 256).toNat = n * 8 / 16777216 % 256 := by omega
  have h2 : ((n : Int) * 8 / 65536 % 256).toNat = n * 8 / 65536 % 256 := by omega
  have h1 : ((n : Int) * 8 / 256 % 256).toNat = n * 8 / 256 % 256 := by omega
  have h0 : ((n : Int) * 8 % 256).toNat = n * 8 % 256 := by omega
  have h0' : n * 8 / 1 % 256 = n * 8 % 256 := by omega
  simp only [List.map_cons, List.map_nil, h7, h6, h5, h4, h3, h2, h1, h0]
  rw [← h0']
  rfl
theorem filled_l0 (s : ByteArray) (hs : s.size ≤ 1099511627776) (d : Nat) : ∀ (j k : Nat) (x : ByteArray), x.data.toList = s.data.toList ++ 128 :: List.replicate j 0 → j + d = (119 - s.size % 64) % 64 → d < k →
    ∃ r, sphragisref02_Filled.l0 k s x = some r ∧ r.data.toList = s.data.toList ++ fill s.size := by
  have hb : IntKind.u64.wrap (IntKind.u64.wrap (s.size : Int) * 8) = (s.size : Int) * 8 := by
    show ((s.size : Int) % 18446744073709551616) * 8 % 18446744073709551616 = (s.size : Int) * 8
    omega
  induction d with
  | zero =>
    intro j k x hx hj hk
    obtain ⟨k, rfl⟩ : ∃ m, k = m + 1 := ⟨k - 1, by omega⟩
    have hl : x.size = s.size + (1 + j) := by rw [ba_size, hx, List.length_append, List.length_cons, List.length_replicate, ← ba_size]; omega
    have hc : (x.size : Int) % 64 = 56 := by omega
    refine ⟨_, by
      simp only [sphragisref02_Filled.l0]
      rw [if_pos hc]
      simp only [Option.bind_some]
      rw [if_pos (by rw [strOfNums_size, hl]; show s.size + (1 + j) + 8 ≤ _; omega)], ?_⟩
    rw [ba_app, hb, nums8 s.size _ rfl, hx, List.append_assoc]
    have e : j = (119 - s.size % 64) % 64 := hj
    rw [e]
    rfl
  | succ d ih =>
    intro j k x hx hj hk
    obtain ⟨k, rfl⟩ : ∃ m, k = m + 1 := ⟨k - 1, by omega⟩
    have hl : x.size = s.size + (1 + j) := by rw [ba_size, hx, List.length_append, List.length_cons, List.length_replicate, ← ba_size]; omega
    have hc : ¬ (x.size : Int) % 64 = 56 := by omega
    obtain ⟨r, hr, h⟩ := ih (j + 1) k (x ++ (⟨#[0]⟩ : ByteArray)) (by rw [ba_app, hx, List.replicate_succ', List.append_assoc]; rfl) (by omega) (by omega)
    refine ⟨r, ?_, h⟩
    simp only [sphragisref02_Filled.l0]
    rw [if_neg hc, if_pos (by omega)]
    exact hr
theorem filled_f (s : ByteArray) (hs : s.size ≤ 1099511627776) : ∃ k r, sphragisref02_Filled.f k s = some r ∧ r.data.toList = s.data.toList ++ fill s.size := by
  obtain ⟨r, hr, h⟩ := filled_l0 s hs ((119 - s.size % 64) % 64) 0 ((119 - s.size % 64) % 64 + 1) (s ++ (⟨#[128]⟩ : ByteArray)) (by rw [ba_app]; rfl) (by omega) (by omega)
  refine ⟨(119 - s.size % 64) % 64 + 1, r, ?_, h⟩
  unfold sphragisref02_Filled.f
  rw [if_pos (by omega)]
  exact hr
theorem row_neR {W : World} {base n g : Nat} {v : Value} {xs : List Value} {ys : List Int} {t : TypeId} (ho : W.ownsRow base 5 1 v n xs) (hR : Row W g t ys) (ht : t ≠ 5) : some g ≠ v.ownBlock := fun e => by
  obtain ⟨cells, hc⟩ := own_typed ho g e.symm
  obtain ⟨cur, h1, -⟩ := hR
  rw [hc] at h1
  exact ht (by injection h1 with h1; injection h1 with _ h1; exact h1.symm)

set_option maxRecDepth 100000 in
set_option maxHeartbeats 4000000 in
theorem refSum_calls (K_ : List Int) (s : ByteArray) (hs : s.size ≤ 1099511627776) (hK : K_.length = 64) (w : World) (hG : Glob w 0 K_) :
    Calls Tryd.prog 34 #[.string s] w fun e w' => e = .returned (.string ⟨(sum K_ Fc s.data.toList).toArray⟩) ∧ Below w.heap.size w w' := by
  obtain ⟨kf, f, hf, hfd⟩ := filled_f s hs
  have hfl := fill_len s.size
  have hfs : f.size % 64 = 0 := by rw [ba_size, hfd, List.length_append, ← ba_size]; exact hfl
  have hfs2 : f.size ≤ 1099511627776 + 200 := by
    rw [ba_size, hfd, List.length_append, ← ba_size]
    unfold fill size8
    rw [List.length_cons, List.length_append, List.length_replicate, List.length_map, List.length_range]
    omega
  obtain ⟨N, hN⟩ : ∃ N, w.heap.size = N := ⟨_, rfl⟩
  rw [hN]
  have hgK : 0 < N := by rw [← hN]; exact hG.lt
  have Hf := Lib.hid hf
  have Hfs := Lib.hid hfs
  clear hf hfs
  go_enter Tryd.func34, Tryd.ntmps34
  go_wp2_with (first | (go_at_call 40; refine (sphragisref02_Filled.calls kf s f _ Hf.out).mono ?_; rintro e w1 ⟨rfl, hb1⟩) | (go_at_call 41; refine (sphragisref02_first.calls Fc _ rfl).mono ?_; rintro e w2 ⟨v2, rfl, hO2, hb2⟩))
  obtain ⟨g0, c0, rfl, hR0, hg0⟩ := R_rowN hO2 Fc_len (by omega)
  have hB2 : Below N w w2 := by
    rw [hN] at hb1
    exact hb1.trans (hb2.mono (by have := hb1.size; omega))
  have hg0N : N ≤ g0 := by have := hb1.size; omega
  clear hO2 hb1 hb2
  go_loopw [4, 5] (fun vh vi wr => ∃ (k a g c : Nat), vh = .slice (some ⟨g, 0, none⟩) 8 c ∧ vi = .int .i64 a ∧ a = 64 * k ∧ a ≤ f.size ∧ Row wr g 22 (folds K_ Fc (prt f k)) ∧ N ≤ g ∧ Below N w wr) (fun _ vi _ => f.size - (intOf vi).toNat)
  case atStart => exact ⟨0, 0, g0, c0, rfl, rfl, rfl, Nat.zero_le _, hR0, hg0N, hB2⟩
  case round =>
    clear hR0 hB2
    obtain ⟨k, a, g, c, rfl, rfl, ha, haf, hR, hgN, hB⟩ := hrel
    have hBs := hB.size
    have hfk : (folds K_ Fc (prt f k)).length = 8 := folds_len _ _ _ Fc_len
    by_cases hend : a = f.size
    · have hab : absorb K_ Fc f.data.toList = (folds K_ Fc (prt f k), f.data.toList.drop (64 * k)) := absorb_end K_ Fc f k (by omega) (by omega)
      have hlt : decide ((a : Int) < (f.size : Int)) = false := decide_eq_false (by omega)
      obtain ⟨H, hH⟩ : ∃ H, folds K_ Fc (prt f k) = H := ⟨_, rfl⟩
      rw [hH] at hR hfk hab
      have Hab := Lib.hid hab
      clear hab hH
      go_wp2
      go_loopw [6, 7] (fun vo vi wr => ∃ m : Nat, vi = .int .i64 m ∧ m ≤ 8 ∧ Kd.R (Kd.int .u8) 5 wr N (fun _ => True) vo (outP H m) ∧ Row wr g 22 H ∧ Below N w wr) (fun _ vi _ => 8 - (intOf vi).toNat)
      case atStart => exact ⟨0, rfl, by omega, Kd.R_nil _ _ _ _ _, hR, hB⟩
      case round =>
        clear hR hB
        obtain ⟨m, rfl, hm, hO, hR, hB⟩ := hrel
        by_cases hm8 : m = 8
        · subst hm8
          have hcv := own_string (P := Tryd.prog) Tryd.underlying41 Tryd.underlying5 Tryd.underlying9 (Kd.own_of_R hO)
          go_wp2
          go_ret
          refine ⟨?_, hB⟩
          show Ending.returned (.string (strOfNums (outP H 8))) = _
          rw [out_eq _ hfk]
          have e : H = (absorb K_ Fc (s.data.toList ++ fill s.data.toList.length)).1 := by
            rw [← ba_size, ← hfd, Hab.out]
          rw [e]
          rfl
        · have hltd : decide ((m : Int) < 8) = true := decide_eq_true (by omega)
          have hm0 : (0 : Int) ≤ (m : Int) := by omega
          have hmi : (m : Int) < 8 := by omega
          have hlen := outP_length H m
          obtain ⟨x, hx⟩ : ∃ x, wrd H m = x := ⟨_, rfl⟩
          have hout : outP H (m + 1) = outP H m ++ be4i x := by rw [outP, hx]
          generalize outP H m = L at hO hlen hout
          have Hout := Lib.hid hout
          clear hout
          go_upto_region 11 with (fail)
          refine start_ (n := 27) (S := fun w' => Row w' g 22 H ∧ True) (ds := [24, 25]) #[false, false, false, false, false, false, false, false, false, false, false, false, false, false, false, false, false, false, false, false, false, false, false, false, false, false, false] (by kernel_rfl) rfl rfl ⟨hR.kept rfl, trivial⟩ (fun hHeld => ?_)
          have hB2 := hB.drew
          have hO2 := Kd.R_drew hO
          have hR2 : Row wr.drew g 22 H := hR.kept rfl
          clear hO hB hR
          generalize wr.drew = W0 at hHeld hB2 hO2 hR2 ⊢
          refine pure_ (i := 0) (N := some 28) (v := ?_) (a' := ?_) #[true, false, false, false, false, false, false, false, false, false, false, false, false, false, false, false, false, false, false, false, false, false, false, false, false, false, false] rfl rfl (by kernel_rfl) (fun _ _ _ h => h) (Or.inl ⟨by rfl, ?_⟩) ?_ ?_
          rotate_left
          · intro w'
            go_simp
            try (with_reducible rfl)
          rotate_left
          · simp only [Act.put, List.setIfInBounds_toArray, List.set_cons_zero, List.set_cons_succ, i64_w, i32_w]
            rfl
          refine pure_ (i := 1) (N := some 29) (v := ?_) (a' := ?_) #[true, true, false, false, false, false, false, false, false, false, false, false, false, false, false, false, false, false, false, false, false, false, false, false, false, false, false] rfl rfl (by kernel_rfl) (fun _ _ _ h => h) (Or.inl ⟨by rfl, ?_⟩) ?_ ?_
          rotate_left
          · intro w'
            go_simp
            try (with_reducible rfl)
          rotate_left
          · simp only [Act.put, List.setIfInBounds_toArray, List.set_cons_zero, List.set_cons_succ, i64_w, i32_w]
            rfl
          refine pure_ (i := 2) (N := some 30) (v := ?_) (a' := ?_) #[true, true, true, false, false, false, false, false, false, false, false, false, false, false, false, false, false, false, false, false, false, false, false, false, false, false, false] rfl rfl (by kernel_rfl) (fun _ _ _ h => h) (Or.inl ⟨by rfl, ?_⟩) ?_ ?_
          rotate_left
          · intro w'
            go_simp
            try (with_reducible rfl)
          rotate_left
          · simp only [Act.put, List.setIfInBounds_toArray, List.set_cons_zero, List.set_cons_succ, i64_w, i32_w]
            rfl
          refine pure_ (i := 3) (N := some 31) (v := ?_) (a' := ?_) #[true, true, true, true, false, false, false, false, false, false, false, false, false, false, false, false, false, false, false, false, false, false, false, false, false, false, false] rfl rfl (by kernel_rfl) (fun _ _ _ h => h) (Or.inl ⟨by rfl, ?_⟩) ?_ ?_
          rotate_left
          · intro w'
            go_simp
            try (with_reducible rfl)
          rotate_left
          · simp only [Act.put, List.setIfInBounds_toArray, List.set_cons_zero, List.set_cons_succ, i64_w, i32_w]
            rfl
          refine take_ (i := 4) (N := some 32) (v := ?_) (a' := ?_) #[true, true, true, true, true, false, false, false, false, false, false, false, false, false, false, false, false, false, false, false, false, false, false, false, false, false, false] rfl rfl (by kernel_rfl) (fun _ _ _ h => h) (Or.inl ⟨by rfl, ?_⟩) hHeld ?_ ?_
          rotate_left
          · intro w' hS_
            have rc := hS_.1.cell m (by omega)
            go_simp
            try (with_reducible rfl)
          rotate_left
          · simp only [Act.put, List.setIfInBounds_toArray, List.set_cons_zero, List.set_cons_succ, i64_w, i32_w]
            rfl
          refine pure_ (i := 5) (N := some 33) (v := ?_) (a' := ?_) #[true, true, true, true, true, true, false, false, false, false, false, false, false, false, false, false, false, false, false, false, false, false, false, false, false, false, false] rfl rfl (by kernel_rfl) (fun _ _ _ h => h) (Or.inl ⟨by rfl, ?_⟩) ?_ ?_
          rotate_left
          · intro w'
            go_simp
            try (with_reducible rfl)
          rotate_left
          · simp only [Act.put, List.setIfInBounds_toArray, List.set_cons_zero, List.set_cons_succ, i64_w, i32_w]
            rfl
          refine pure_ (i := 6) (N := some 34) (v := ?_) (a' := ?_) #[true, true, true, true, true, true, true, false, false, false, false, false, false, false, false, false, false, false, false, false, false, false, false, false, false, false, false] rfl rfl (by kernel_rfl) (fun _ _ _ h => h) (Or.inl ⟨by rfl, ?_⟩) ?_ ?_
          rotate_left
          · intro w'
            go_simp
            try (with_reducible rfl)
          rotate_left
          · simp only [Act.put, List.setIfInBounds_toArray, List.set_cons_zero, List.set_cons_succ, i64_w, i32_w]
            rfl
          refine pure_ (i := 7) (N := some 35) (v := ?_) (a' := ?_) #[true, true, true, true, true, true, true, true, false, false, false, false, false, false, false, false, false, false, false, false, false, false, false, false, false, false, false] rfl rfl (by kernel_rfl) (fun _ _ _ h => h) (Or.inl ⟨by rfl, ?_⟩) ?_ ?_
          rotate_left
          · intro w'
            go_simp
            try (with_reducible rfl)
          rotate_left
          · simp only [Act.put, List.setIfInBounds_toArray, List.set_cons_zero, List.set_cons_succ, i64_w, i32_w]
            rfl
          refine pure_ (i := 8) (N := some 36) (v := ?_) (a' := ?_) #[true, true, true, true, true, true, true, true, true, false, false, false, false, false, false, false, false, false, false, false, false, false, false, false, false, false, false] rfl rfl (by kernel_rfl) (fun _ _ _ h => h) (Or.inl ⟨by rfl, ?_⟩) ?_ ?_
          rotate_left
          · intro w'
            go_simp
            try (with_reducible rfl)
          rotate_left
          · simp only [Act.put, List.setIfInBounds_toArray, List.set_cons_zero, List.set_cons_succ, i64_w, i32_w]
            rfl
          refine pure_ (i := 9) (N := some 37) (v := ?_) (a' := ?_) #[true, true, true, true, true, true, true, true, true, true, false, false, false, false, false, false, false, false, false, false, false, false, false, false, false, false, false] rfl rfl (by kernel_rfl) (fun _ _ _ h => h) (Or.inl ⟨by rfl, ?_⟩) ?_ ?_
          rotate_left
          · intro w'
            go_simp
            try (with_reducible rfl)
          rotate_left
          · simp only [Act.put, List.setIfInBounds_toArray, List.set_cons_zero, List.set_cons_succ, i64_w, i32_w]
            rfl
          refine take_ (i := 10) (N := some 38) (v := ?_) (a' := ?_) #[true, true, true, true, true, true, true, true, true, true, true, false, false, false, false, false, false, false, false, false, false, false, false, false, false, false, false] rfl rfl (by kernel_rfl) (fun _ _ _ h => h) (Or.inl ⟨by rfl, ?_⟩) hHeld ?_ ?_
          rotate_left
          · intro w' hS_
            have rc := hS_.1.cell m (by omega)
            go_simp
            try (with_reducible rfl)
          rotate_left
          · simp only [Act.put, List.setIfInBounds_toArray, List.set_cons_zero, List.set_cons_succ, i64_w, i32_w]
            rfl
          refine pure_ (i := 11) (N := some 39) (v := ?_) (a' := ?_) #[true, true, true, true, true, true, true, true, true, true, true, true, false, false, false, false, false, false, false, false, false, false, false, false, false, false, false] rfl rfl (by kernel_rfl) (fun _ _ _ h => h) (Or.inl ⟨by rfl, ?_⟩) ?_ ?_
          rotate_left
          · intro w'
            go_simp
            try (with_reducible rfl)
          rotate_left
          · simp only [Act.put, List.setIfInBounds_toArray, List.set_cons_zero, List.set_cons_succ, i64_w, i32_w]
            rfl
          refine pure_ (i := 12) (N := some 40) (v := ?_) (a' := ?_) #[true, true, true, true, true, true, true, true, true, true, true, true, true, false, false, false, false, false, false, false, false, false, false, false, false, false, false] rfl rfl (by kernel_rfl) (fun _ _ _ h => h) (Or.inl ⟨by rfl, ?_⟩) ?_ ?_
          rotate_left
          · intro w'
            go_simp
            try (with_reducible rfl)
          rotate_left
          · simp only [Act.put, List.setIfInBounds_toArray, List.set_cons_zero, List.set_cons_succ, i64_w, i32_w]
            rfl
          refine pure_ (i := 13) (N := some 41) (v := ?_) (a' := ?_) #[true, true, true, true, true, true, true, true, true, true, true, true, true, true, false, false, false, false, false, false, false, false, false, false, false, false, false] rfl rfl (by kernel_rfl) (fun _ _ _ h => h) (Or.inl ⟨by rfl, ?_⟩) ?_ ?_
          rotate_left
          · intro w'
            go_simp
            try (with_reducible rfl)
          rotate_left
          · simp only [Act.put, List.setIfInBounds_toArray, List.set_cons_zero, List.set_cons_succ, i64_w, i32_w]
            rfl
          refine pure_ (i := 14) (N := some 42) (v := ?_) (a' := ?_) #[true, true, true, true, true, true, true, true, true, true, true, true, true, true, true, false, false, false, false, false, false, false, false, false, false, false, false] rfl rfl (by kernel_rfl) (fun _ _ _ h => h) (Or.inl ⟨by rfl, ?_⟩) ?_ ?_
          rotate_left
          · intro w'
            go_simp
            try (with_reducible rfl)
          rotate_left
          · simp only [Act.put, List.setIfInBounds_toArray, List.set_cons_zero, List.set_cons_succ, i64_w, i32_w]
            rfl
          refine pure_ (i := 15) (N := some 43) (v := ?_) (a' := ?_) #[true, true, true, true, true, true, true, true, true, true, true, true, true, true, true, true, false, false, false, false, false, false, false, false, false, false, false] rfl rfl (by kernel_rfl) (fun _ _ _ h => h) (Or.inl ⟨by rfl, ?_⟩) ?_ ?_
          rotate_left
          · intro w'
            go_simp
            try (with_reducible rfl)
          rotate_left
          · simp only [Act.put, List.setIfInBounds_toArray, List.set_cons_zero, List.set_cons_succ, i64_w, i32_w]
            rfl
          refine take_ (i := 16) (N := some 44) (v := ?_) (a' := ?_) #[true, true, true, true, true, true, true, true, true, true, true, true, true, true, true, true, true, false, false, false, false, false, false, false, false, false, false] rfl rfl (by kernel_rfl) (fun _ _ _ h => h) (Or.inl ⟨by rfl, ?_⟩) hHeld ?_ ?_
          rotate_left
          · intro w' hS_
            have rc := hS_.1.cell m (by omega)
            go_simp
            try (with_reducible rfl)
          rotate_left
          · simp only [Act.put, List.setIfInBounds_toArray, List.set_cons_zero, List.set_cons_succ, i64_w, i32_w]
            rfl
          refine pure_ (i := 17) (N := some 45) (v := ?_) (a' := ?_) #[true, true, true, true, true, true, true, true, true, true, true, true, true, true, true, true, true, true, false, false, false, false, false, false, false, false, false] rfl rfl (by kernel_rfl) (fun _ _ _ h => h) (Or.inl ⟨by rfl, ?_⟩) ?_ ?_
          rotate_left
          · intro w'
            go_simp
            try (with_reducible rfl)
          rotate_left
          · simp only [Act.put, List.setIfInBounds_toArray, List.set_cons_zero, List.set_cons_succ, i64_w, i32_w]
            rfl
          refine pure_ (i := 18) (N := some 46) (v := ?_) (a' := ?_) #[true, true, true, true, true, true, true, true, true, true, true, true, true, true, true, true, true, true, true, false, false, false, false, false, false, false, false] rfl rfl (by kernel_rfl) (fun _ _ _ h => h) (Or.inl ⟨by rfl, ?_⟩) ?_ ?_
          rotate_left
          · intro w'
            go_simp
            try (with_reducible rfl)
          rotate_left
          · simp only [Act.put, List.setIfInBounds_toArray, List.set_cons_zero, List.set_cons_succ, i64_w, i32_w]
            rfl
          refine pure_ (i := 19) (N := some 47) (v := ?_) (a' := ?_) #[true, true, true, true, true, true, true, true, true, true, true, true, true, true, true, true, true, true, true, true, false, false, false, false, false, false, false] rfl rfl (by kernel_rfl) (fun _ _ _ h => h) (Or.inl ⟨by rfl, ?_⟩) ?_ ?_
          rotate_left
          · intro w'
            go_simp
            try (with_reducible rfl)
          rotate_left
          · simp only [Act.put, List.setIfInBounds_toArray, List.set_cons_zero, List.set_cons_succ, i64_w, i32_w]
            rfl
          refine pure_ (i := 20) (N := some 48) (v := ?_) (a' := ?_) #[true, true, true, true, true, true, true, true, true, true, true, true, true, true, true, true, true, true, true, true, true, false, false, false, false, false, false] rfl rfl (by kernel_rfl) (fun _ _ _ h => h) (Or.inl ⟨by rfl, ?_⟩) ?_ ?_
          rotate_left
          · intro w'
            go_simp
            try (with_reducible rfl)
          rotate_left
          · simp only [Act.put, List.setIfInBounds_toArray, List.set_cons_zero, List.set_cons_succ, i64_w, i32_w]
            rfl
          refine pure_ (i := 21) (N := some 49) (v := ?_) (a' := ?_) #[true, true, true, true, true, true, true, true, true, true, true, true, true, true, true, true, true, true, true, true, true, true, false, false, false, false, false] rfl rfl (by kernel_rfl) (fun _ _ _ h => h) (Or.inl ⟨by rfl, ?_⟩) ?_ ?_
          rotate_left
          · intro w'
            go_simp
            try (with_reducible rfl)
          rotate_left
          · simp only [Act.put, List.setIfInBounds_toArray, List.set_cons_zero, List.set_cons_succ, i64_w, i32_w]
            rfl
          refine take_ (i := 22) (N := some 50) (v := ?_) (a' := ?_) #[true, true, true, true, true, true, true, true, true, true, true, true, true, true, true, true, true, true, true, true, true, true, true, false, false, false, false] rfl rfl (by kernel_rfl) (fun _ _ _ h => h) (Or.inl ⟨by rfl, ?_⟩) hHeld ?_ ?_
          rotate_left
          · intro w' hS_
            have rc := hS_.1.cell m (by omega)
            go_simp
            try (with_reducible rfl)
          rotate_left
          · simp only [Act.put, List.setIfInBounds_toArray, List.set_cons_zero, List.set_cons_succ, i64_w, i32_w]
            rfl
          refine pure_ (i := 23) (N := some 51) (v := ?_) (a' := ?_) #[true, true, true, true, true, true, true, true, true, true, true, true, true, true, true, true, true, true, true, true, true, true, true, true, false, false, false] rfl rfl (by kernel_rfl) (fun _ _ _ h => h) (Or.inl ⟨by rfl, ?_⟩) ?_ ?_
          rotate_left
          · intro w'
            go_simp
            try (with_reducible rfl)
          rotate_left
          · simp only [Act.put, List.setIfInBounds_toArray, List.set_cons_zero, List.set_cons_succ, i64_w, i32_w]
            rfl
          refine last_ (i := 24) (N := some 52) #[true, true, true, true, true, true, true, true, true, true, true, true, true, true, true, true, true, true, true, true, true, true, true, true, true, false, false] rfl rfl (by kernel_rfl) (by decide) (fun K hK => ?_)
          refine value_step (w1 := W0.alloc (.cells #[.int .u8 (x / 16777216 % 256), .int .u8 (x / 65536 % 256), .int .u8 (x / 256 % 256), .int .u8 (x % 256)] 5 (0, 0))) (v := .slice (some ⟨W0.heap.size, 0, none⟩) 4 4) (by rfl) ?hr52 ?_
          case hr52 =>
            go_simp
            rfl
          refine hK.out _ _ ?_
          clear hK K
          have hBa := hB2.alloc (by have := hB2.size; omega) (.cells #[.int .u8 (x / 16777216 % 256), .int .u8 (x / 65536 % 256), .int .u8 (x / 256 % 256), .int .u8 (x % 256)] 5 (0, 0))
          have hBs2 := hB2.size
          refine last_ (i := 25) (N := some 53) #[true, true, true, true, true, true, true, true, true, true, true, true, true, true, true, true, true, true, true, true, true, true, true, true, true, true, false] rfl rfl (by kernel_rfl) (by decide) (fun K hK => ?_)
          refine Kd.R_append_rows_step (Kd.int .u8) (Rr := fun x cs => cs = [.int .u8 x]) (w0 := w) N (by rfl) (.tmp 28) (.tmp 52) 41 5 (.int .u8 0) 1 (by rfl) Tryd.underlying41 info5 rfl (by decide) (by decide) u6 L (be4i x) (some ⟨W0.heap.size, 0, none⟩) 4 4 (fun _ => True) (fun _ => False) (by rfl) (by rfl) (Kd.R_alloc hO2 _) (reads4 _ _ _ _ _) (fun _ _ h => h) (fun _ h => h.elim) (fun _ _ => trivial) hBa (by rw [World.size_alloc]; omega) (by rw [hlen]; omega) ?_
          intro v3 w3 ho3 hb3 hgr3 hat3
          refine hK.out _ _ ?_
          clear hK K
          refine pure_ (i := 26) (N := some 6) (v := ?_) (a' := ?_) #[true, true, true, true, true, true, true, true, true, true, true, true, true, true, true, true, true, true, true, true, true, true, true, true, true, true, true] rfl rfl (by kernel_rfl) (fun _ _ _ h => h) (Or.inl ⟨by rfl, ?_⟩) ?_ ?_
          rotate_left
          · intro w'
            go_simp
            try (with_reducible rfl)
          rotate_left
          · simp only [Act.put, List.setIfInBounds_toArray, List.set_cons_zero, List.set_cons_succ, List.getElem_toArray, List.getElem_cons_succ, List.getElem_cons_zero, i64_w, i32_w]
            rfl
          refine done_ (by kernel_rfl) ?_
          have n1 := row_neR (Kd.own_of_R hO2) hR2 (by decide)
          have hR3 : Row w3 g 22 H := (hR2.alloc (.cells #[.int .u8 (x / 16777216 % 256), .int .u8 (x / 65536 % 256), .int .u8 (x / 256 % 256), .int .u8 (x % 256)] 5 (0, 0))).kept (hgr3.block g (hR2.alloc _).lt n1)
          clear hHeld hB2 hO2 hBa hgr3 hat3 hR2
          go_wp2
          refine ⟨⟨m + 1, by go_num, by omega, ?_, hR3, hb3⟩, by simp [intOf]; omega⟩
          rw [Hout.out]
          exact ho3
    · have hlt : decide ((a : Int) < (f.size : Int)) = true := decide_eq_true (by omega)
      have hmod := Hfs.out
      obtain ⟨b, hb⟩ : ∃ b : Nat, a + 64 = b := ⟨_, rfl⟩
      have hw64 : IntKind.i64.wrap ((a : Int) + 64) = (b : Int) := by rw [i64_w]; unfold wrap64; omega
      have ha0 : (0 : Int) ≤ (a : Int) := by omega
      have hab : (a : Int) ≤ (b : Int) := by omega
      have hbf : (b : Int) ≤ (f.size : Int) := by omega
      have hGr : Glob wr 0 K_ := hG.below hB hgK
      have hps : (f.extract a b).size = 64 := by rw [ByteArray.size_extract]; omega
      have hnx : folds K_ Fc (prt f (k + 1)) = lay K_ (folds K_ Fc (prt f k)) (f.extract a b).data.toList := by
        rw [prt, folds_snoc, ← ha, hb]
      have Hnx := Lib.hid hnx
      have Ha := Lib.hid ha
      have Hb := Lib.hid hb
      clear hnx ha hb hmod
      go_wp2_with (go_at_call 42; refine (refpart_calls g c K_ _ (f.extract a b) hps hfk hK _ hGr hR).mono ?_; rintro e w3 ⟨⟨g3, c3, rfl, hR3, hg3⟩, hb3⟩; rw [lay_bt] at hR3)
      have := Hb.out
      have := Ha.out
      refine ⟨⟨k + 1, b, g3, c3, rfl, rfl, by omega, by omega, ?_, by omega, hB.trans (hb3.mono (by omega))⟩, by simp [intOf]; omega⟩
      rw [Hnx.out]
      exact hR3

end Go.Proofs.YtobjhddiieaafaaDoor.M

namespace Go.Proofs.YtobjhddiieaafaaDoor.M
open Go.Proofs.YtobjhddiieaafaaDoor.H
open Go.RowKit Go.ChangeShapes Go.WideShapes
set_option linter.unusedVariables false

/-- The texts of a slice. -/
def Strs (W : World) (A : Option Addr) (l : List ByteArray) : Prop := l = [] ∨ ∃ b o, A = some ⟨b, o, none⟩ ∧ b < W.heap.size ∧ ∀ (j : Nat) (x : ByteArray), l[j]? = some x → W.cell? ⟨b, o + j, none⟩ = some (.string x)
theorem Strs.below {W W' : World} {A : Option Addr} {l : List ByteArray} {n : Nat} (h : Strs W A l) (hn : W.heap.size ≤ n) (hb : Below n W W') : Strs W' A l := by
  rcases h with h | ⟨b, o, h1, h2, h3⟩
  · exact .inl h
  · exact .inr ⟨b, o, h1, Nat.lt_of_lt_of_le h2 (Nat.le_trans (Nat.le_refl _) hb.size), fun j x hj => (hb.cell (p := ⟨b, o + j, none⟩) (Nat.lt_of_lt_of_le h2 hn)).trans (h3 j x hj)⟩
theorem Strs.take {W : World} {A : Option Addr} {l : List ByteArray} (n : Nat) (h : Strs W A l) : Strs W A (l.take n) := by
  rcases h with h | ⟨b, o, h1, h2, h3⟩
  · exact .inl (by rw [h]; exact List.take_nil)
  · exact .inr ⟨b, o, h1, h2, fun j x hj => h3 j x (by
      rw [List.getElem?_take] at hj
      split at hj
      · exact hj
      · cases hj)⟩

theorem mem_weightsAll {H : Type} (P : Program) (e : TypeId) (d : DataW H) (n : Nat) (hn : n ∈ d.weights P e) : ∀ l : List (DataW H), d ∈ l → n ∈ DataW.weightsAll P e l := by
  intro l
  induction l with
  | nil => intro h; cases h
  | cons x l ih =>
    intro h
    rw [DataW.weightsAll, List.mem_append]
    rcases List.mem_cons.1 h with rfl | h
    · exact .inl hn
    · exact .inr (ih h)
theorem strs_of {H : Type} {enc : TypeId × Value → H} {w : World} {base : Nat} {spare : Nat → Bool} {held : Bool} {fu : Nat} {a : Option Addr} {len cap : Nat} {x : DataW H × List MemPlace} {ts : List TypeId} {ds : List (DataW H)} {j : Nat}
    (hsz : (DataW.weightsEach Tryd.prog ts ds).all (· ≤ reachBytes) = true) (ht : ts[j]? = some 70) (hd : ds[j]? = some x.1) (h : DataW.trod enc Tryd.prog w base spare held fu 70 [.slice a len cap] = some x) :
    ∃ L : List ByteArray, L.length = len ∧ len ≤ cap ∧ Strs w a L ∧ (∀ s ∈ L, s.size ≤ 140737488351232) ∧ len ≤ 140737488351232 ∧ (a = none → cap = 0) := by
  rcases open_strings Tryd.underlying70 Tryd.underlying9 (by kernel_rfl) h with ⟨hc, _⟩ | ⟨ad, l, c, ss, hc, _, hl, hm, hz, hx, hcell, hws⟩
  · simp only [List.cons.injEq, Value.slice.injEq, and_true] at hc
    obtain ⟨rfl, rfl, rfl⟩ := hc
    exact ⟨[], rfl, Nat.le_refl _, .inl rfl, by simp, by omega, fun _ => rfl⟩
  · simp only [List.cons.injEq, Value.slice.injEq, and_true] at hc
    obtain ⟨rfl, rfl, rfl⟩ := hc
    have hls : len ≤ ss.length := by rw [hz]; split <;> omega
    have hwt := List.all_eq_true.1 hsz
    rw [hx] at hd
    have hlen : len ≤ 140737488351232 := by
      have := hwt _ (DataW.weights_mem_each ht hd ((strs (H := H) (ss.take len)).length + (strs (H := H) (ss.drop len)).length |> (· * Tryd.prog.bytesOf 9)) (by simp [DataW.weights, Tryd.underlying70]))
      have hb : Tryd.prog.bytesOf 9 = 16 := by kernel_rfl
      rw [hb] at this
      have h2 : ((strs (H := H) (ss.take len)).length + (strs (H := H) (ss.drop len)).length) * 16 ≤ reachBytes := by simpa using this
      have h3 : (strs (H := H) (ss.take len)).length = len := by simp [strs, hls]
      have h4 : reachBytes = 140737488351232 := by decide
      omega
    refine ⟨ss.take len, by simp [hls], hl, ?_, fun s hs => ?_, hlen, fun h => nomatch h⟩
    · by_cases h0 : len = 0
      · exact .inl (by rw [h0]; rfl)
      · have hc0 := hcell 0 (by omega)
        have had : ad.add 0 = ad := by simp [Addr.add]
        rw [had] at hc0
        have hlt := World.block_lt_of_cell? w ad hc0
        obtain ⟨b, o, sp⟩ := ad
        have hsp : sp = none := by
          cases sp with
          | none => rfl
          | some s =>
            exfalso
            unfold World.cell? at hc0
            split at hc0 <;> simp at hc0
        subst hsp
        refine .inr ⟨b, o, rfl, hlt, fun j x hj => ?_⟩
        rw [List.getElem?_take] at hj
        split at hj
        · have hj2 := (List.getElem?_eq_some_iff.1 hj).1
          have := hcell j hj2
          rw [List.getD_eq_getElem?_getD, hj] at this
          rwa [show (⟨b, o, none⟩ : Addr).add j = ⟨b, o + j, none⟩ by unfold Addr.add; split <;> simp_all] at this
        · cases hj
    · have hmem : (.lit (.string s.data.toList) : DataW H) ∈ strs (ss.take len) := List.mem_map.2 ⟨s, hs, rfl⟩
      have := hwt _ (DataW.weights_mem_each ht hd s.data.toList.length (by
        simp only [DataW.weights, Tryd.underlying70, List.mem_cons, List.mem_append]
        exact .inr (.inl (mem_weightsAll _ _ _ _ (by simp [DataW.weights]) _ hmem))))
      have h4 : reachBytes = 140737488351232 := by decide
      have h2 : s.data.toList.length ≤ reachBytes := by simpa using this
      have h3 : s.size = s.data.toList.length := by simp
      omega

end Go.Proofs.YtobjhddiieaafaaDoor.M

namespace Go.Proofs.YtobjhddiieaafaaDoor.M
open Go.Proofs.YtobjhddiieaafaaDoor.H
open Go.RowKit Go.Shelf Go.Proofs.YtobjhddiieaafaaDoorW.PrintWords Go.Proofs.YtobjhddiieaafaaDoorW.PrintLast Go.Proofs.YtobjhddiieaafaaDoorW.PrintMore Go.Proofs.YtobjhddiieaafaaDoor.Plain Go.Proofs.YtobjhddiieaafaaDoor.RowOf Go.Proofs.YtobjhddiieaafaaDoor.Le
attribute [local go_sem] Oper.semAt_some
set_option linter.unusedVariables false
set_option linter.unusedSimpArgs false

/-- The sum, as a text. -/
def Sha (l : List UInt8) : ByteArray := ⟨(sum Kc Fc l).toArray⟩
theorem outs_len (h : List Int) (hh : h.length = 8) : (outs h).length = 32 := by
  match h, hh with
  | [a, b, c, d, e, f, g, i], _ => rfl
theorem Sha_size (l : List UInt8) : (Sha l).size = 32 := by
  rw [Sha, ba_size, ba_mk, sum, outs_len _ (absorb_len _ _ _ _ (Nat.le_refl _) Fc_len)]

theorem bst {N : Nat} {w W W2 : World} (hN : w.heap.size = N) (hb : Below N w W) (h2 : Below W.heap.size W W2) : Below N w W2 := hb.trans (h2.mono (by have := hb.size; omega))
theorem bsg {N g : Nat} {w W W2 : World} (hN : w.heap.size = N) (hb : Below N w W) (h2 : W.grownBy W2 (some g)) (hg : N ≤ g) : Below N w W2 := hb.grown h2 (by have := hb.size; omega) (fun k e => by cases e; exact hg)
/-- The tables' blocks lie below N. -/
structure Low (w : World) (N : Nat) : Prop where
  t : Tabs w Kc Fc
  h1 : 2 < N
  h2 : 1 < N
theorem Low.mk' {w : World} {N : Nat} (hN : w.heap.size = N) (hT : Tabs w Kc Fc) : Low w N := ⟨hT, by rw [← hN]; exact hT.cst.lt, by rw [← hN]; exact hT.fst.lt⟩
theorem Low.at {w W : World} {N : Nat} (h : Low w N) (hb : Below N w W) : Tabs W Kc Fc := h.t.below hb h.h1 h.h2

theorem Add_strs (A : Option Addr) (c : Nat) (l : List ByteArray) (K F : List Int) (hl : (flat l).length ≤ 1099511627776) (hll : l.length ≤ 1099511627776) (w : World) (hA : Strs w A l) (hT : Tabs w K F) :
    Calls Tryd.prog 37 #[.slice A l.length c] w fun e w' => e = .returned (.string ⟨(sum K F (flat l)).toArray⟩) ∧ Below w.heap.size w w' := by
  rcases hA with rfl | ⟨b, o, rfl, hb, hc⟩
  · exact Add_none A c K F w hT
  · exact Add_calls b o c l K F hl hll w hb hc hT

end Go.Proofs.YtobjhddiieaafaaDoor.M
