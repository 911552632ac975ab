/- MacKeys: the walk. -/
import Derived.Test.YtmkeiaomclpdfaaDoorL1
import Derived.OwnWalk
namespace Go.Proofs.YtmkeiaomclpdfaaDoor.H
open Go.RowKit Go.Shelf Go.Proofs.YtmkeiaomclpdfaaDoorW.PrintWords Go.Proofs.YtmkeiaomclpdfaaDoorW.PrintLast Go.Proofs.YtmkeiaomclpdfaaDoorW.PrintMore Go.Proofs.YtmkeiaomclpdfaaDoor.Plain Go.Proofs.YtmkeiaomclpdfaaDoor.RowOf Go.Proofs.YtmkeiaomclpdfaaDoor.Le
attribute [local go_sem] Oper.semAt_some
set_option linter.unusedVariables false
set_option linter.unusedSimpArgs false

set_option maxRecDepth 100000 in
set_option maxHeartbeats 2000000 in
theorem MacKeys_walk (c n : Int) (w : World) (hT : Tabs w Kc Fc) (hG : Glob w 1 Kc) (hc : (Lit.int .u8 c).wf = true) (hn : (Lit.int .i64 n).wf = true) :
    Calls Tryd.prog 4 #[.int .u8 c, .int .i64 n] w fun e w' => e = .returned (.bool true) ∧ Below w.heap.size w w' := by
  obtain ⟨N, hN⟩ : ∃ N, w.heap.size = N := ⟨_, rfl⟩
  have hL := Low.mk' hN hT
  have hgK : 1 < N := by rw [← hN]; exact hG.lt
  obtain ⟨i0, hi, hz0, hz1, hz2⟩ := info_parts info5
  go_enter Tryd.func4, Tryd.ntmps4
  go_wp2_with fail
  refine (shown_calls _ hT).mono ?_
  rintro e w1 ⟨rfl, hb1⟩
  rw [hN] at hb1
  have hbs1 := hb1.size
  by_cases hin : 0 ≤ n ∧ n ≤ 150
  · obtain ⟨h1, h2⟩ := hin
    have d1 : decide (n < 0) = false := decide_eq_false (by omega)
    have d2 : decide (150 < n) = false := decide_eq_false (by omega)
    have d3 : ¬ n < 0 := by omega
    have d4 : ¬ 150 < n := by omega
    obtain ⟨m, rfl⟩ : ∃ m : Nat, n = (m : Int) := ⟨n.toNat, by omega⟩
    go_wp2_with (at_make; refine wpList_make_own _ rfl _ _ 27 rfl N 5 i0 (.int .u8 0) 1 Tryd.underlying27 hi hz0 hz1 .i64 .i64 _ 150 rfl rfl rfl (by rw [hz2]; omega) (by unfold maxLen; omega) (by omega) ?_; intro W1 hown hgr)
    have hB1 : Below N w W1 := hb1.grown hgr (by omega) (fun k e => by cases e)
    have hR1 : Kd.R (Kd.int .u8) 5 W1 N (fun _ => True) (.slice (some ⟨w1.heap.size, 0, none⟩) 0 150) (List.replicate 0 c) := Kd.R_of_own hown (fun _ _ => trivial)
    clear hown hgr
    go_loopw [6, 7] (fun vb vi wr => ∃ j : Nat, vi = .int .i64 j ∧ j ≤ m ∧ Kd.R (Kd.int .u8) 5 wr N (fun _ => True) vb (List.replicate j c) ∧ Below N w wr) (fun _ vi _ => m - (intOf vi).toNat)
    case atStart => exact ⟨0, rfl, Nat.zero_le _, hR1, hB1⟩
    case round =>
      clear hR1 hB1
      obtain ⟨j, rfl, hj, hO, hB⟩ := hrel
      have hBs := hB.size
      by_cases hjm : j = m
      · subst hjm
        have e1 : decide ((j : Int) < (j : Int)) = false := decide_eq_false (by omega)
        obtain ⟨L, hLe⟩ : ∃ L, List.replicate j c = L := ⟨_, rfl⟩
        have hLl : L.length = j := by rw [← hLe, List.length_replicate]
        rw [hLe] at hO
        obtain ⟨X, hX⟩ : ∃ X, strOfNums L = X := ⟨_, rfl⟩
        have hXs : X.size ≤ 1099511627776 := by rw [← hX, strOfNums_size]; omega
        have HX := Lib.hid hX
        clear hLe hLl hX
        go_upto_region 9 with (fail)
        refine start_ (n := 12) (S := fun w' => Kd.R (Kd.int .u8) 5 w' N (fun _ => True) u6 L ∧ True) (ds := []) #[false, false, false, false, false, false, false, false, false, false, false, false] (by kernel_rfl) rfl rfl ⟨Kd.R_drew hO, trivial⟩ (fun hHeld => ?_)
        have hB2 := hB.drew
        clear hO hB
        generalize wr.drew = W0 at hHeld hB2 ⊢
        refine pure_ (i := 0) (N := some 26) (v := ?_) (a' := ?_) #[true, false, false, false, false, false, false, false, false, false, false, false] rfl rfl (by kernel_rfl) (fun _ _ _ h => h) (Or.inl ⟨by rfl, ?_⟩) ?_ ?_
        rotate_left
        · intro w'
          go_simp
          try (with_reducible rfl)
        rotate_left
        · simp only [Act.put, List.setIfInBounds_toArray, List.set_cons_zero, List.set_cons_succ, i64_w, i32_w]
          rfl
        refine pure_ (i := 1) (N := some 27) (v := ?_) (a' := ?_) #[true, true, false, false, false, false, false, false, false, false, false, false] rfl rfl (by kernel_rfl) (fun _ _ _ h => h) (Or.inl ⟨by rfl, ?_⟩) ?_ ?_
        rotate_left
        · intro w'
          go_simp
          try (with_reducible rfl)
        rotate_left
        · simp only [Act.put, List.setIfInBounds_toArray, List.set_cons_zero, List.set_cons_succ, i64_w, i32_w]
          rfl
        refine pure_ (i := 2) (N := some 28) (v := ?_) (a' := ?_) #[true, true, true, false, false, false, false, false, false, false, false, false] rfl rfl (by kernel_rfl) (fun _ _ _ h => h) (Or.inl ⟨by rfl, ?_⟩) ?_ ?_
        rotate_left
        · intro w'
          go_simp
          try (with_reducible rfl)
        rotate_left
        · simp only [Act.put, List.setIfInBounds_toArray, List.set_cons_zero, List.set_cons_succ, i64_w, i32_w]
          rfl
        refine take_ (i := 3) (N := some 29) (v := ?_) (a' := ?_) #[true, true, true, true, false, false, false, false, false, false, false, false] rfl rfl (by kernel_rfl) (fun _ _ _ h => h) (Or.inl ⟨by rfl, ?_⟩) hHeld ?_ ?_
        rotate_left
        · intro w' hS_
          have hcv := own_string (P := Tryd.prog) Tryd.underlying27 Tryd.underlying5 Tryd.underlying9 (Kd.own_of_R hS_.1); rw [HX.out] at hcv
          go_simp
          try (with_reducible rfl)
        rotate_left
        · simp only [Act.put, List.setIfInBounds_toArray, List.set_cons_zero, List.set_cons_succ, i64_w, i32_w]
          rfl
        refine pure_ (i := 6) (N := some 32) (v := ?_) (a' := ?_) #[true, true, true, true, false, false, true, false, false, false, false, false] rfl rfl (by kernel_rfl) (fun _ _ _ h => h) (Or.inl ⟨by rfl, ?_⟩) ?_ ?_
        rotate_left
        · intro w'
          go_simp
          try (with_reducible rfl)
        rotate_left
        · simp only [Act.put, List.setIfInBounds_toArray, List.set_cons_zero, List.set_cons_succ, i64_w, i32_w]
          rfl
        refine take_ (i := 7) (N := some 33) (v := ?_) (a' := ?_) #[true, true, true, true, false, false, true, true, false, false, false, false] rfl rfl (by kernel_rfl) (fun _ _ _ h => h) (Or.inl ⟨by rfl, ?_⟩) hHeld ?_ ?_
        rotate_left
        · intro w' hS_
          have hcv := own_string (P := Tryd.prog) Tryd.underlying27 Tryd.underlying5 Tryd.underlying9 (Kd.own_of_R hS_.1); rw [HX.out] at hcv
          go_simp
          try (with_reducible rfl)
        rotate_left
        · simp only [Act.put, List.setIfInBounds_toArray, List.set_cons_zero, List.set_cons_succ, i64_w, i32_w]
          rfl
        refine one_ (i := 4) (N := some 30) #[true, true, true, true, true, false, true, true, false, false, false, false] rfl rfl (by kernel_rfl) (by decide) (fun K hK => ?_)
        refine value_step (w1 := W0.alloc (.cells #[.string ⟨#[97]⟩] 9 (0, 0))) (v := .slice (some ⟨W0.heap.size, 0, none⟩) 1 1) (by rfl) ?hr4 ?_
        case hr4 =>
          go_simp
        have hR0 := hHeld.1
        refine hK.out _ _ ⟨Kd.R_alloc hR0 _, trivial⟩ (fun hHeld => ?_)
        clear hK K
        refine one_ (i := 5) (N := some 31) #[true, true, true, true, true, true, true, true, false, false, false, false] rfl rfl (by kernel_rfl) (by decide) (fun K hK => ?_)
        refine goes_ Tryd.func11 (by kernel_rfl) rfl #[.string X, .slice (some ⟨W0.heap.size, 0, none⟩) 1 1] (by rfl) rfl rfl (by (try simp only [List.map_toArray, List.map_cons, List.map_nil]); first | done | rfl) ?_
        refine (Mac1 X ⟨#[97]⟩ hXs (by decide) W0 (hL.at hB2)).mono ?_
        rintro e w5 ⟨rfl, hb5⟩
        refine ⟨_, rfl, ?_⟩
        have hs5 := hB2.size
        refine hK.out _ _ ⟨Kd.R_below hR0 hb5, trivial⟩ (fun hHeld => ?_)
        clear hK K
        replace hB2 := bst hN hB2 hb5
        refine one_ (i := 8) (N := some 34) #[true, true, true, true, true, true, true, true, true, false, false, false] rfl rfl (by kernel_rfl) (by decide) (fun K hK => ?_)
        refine goes_ Tryd.func13 (by kernel_rfl) rfl #[.string X, .string ⟨#[97]⟩] (by rfl) rfl rfl (by (try simp only [List.map_toArray, List.map_cons, List.map_nil]); first | done | rfl) ?_
        refine (refMac_calls X ⟨#[97]⟩ hXs (by decide) _ (hG.below hB2 hgK)).mono ?_
        rintro e w8 ⟨rfl, hb8⟩
        refine ⟨_, rfl, ?_⟩
        have hs8 := hB2.size
        refine hK.out _ _ ⟨Kd.R_below hHeld.1 hb8, trivial⟩ (fun hHeld => ?_)
        clear hK K
        replace hB2 := bst hN hB2 hb8
        refine pure_ (i := 9) (N := some 35) (v := ?_) (a' := ?_) #[true, true, true, true, true, true, true, true, true, true, false, false] rfl rfl (by kernel_rfl) (fun _ _ _ h => h) (Or.inl ⟨by rfl, ?_⟩) ?_ ?_
        rotate_left
        · intro w'
          go_simp
          try (with_reducible rfl)
        rotate_left
        · simp only [Act.put, List.setIfInBounds_toArray, List.set_cons_zero, List.set_cons_succ, List.getElem_toArray, List.getElem_cons_succ, List.getElem_cons_zero, i64_w, i32_w]
          rfl
        refine pure_ (i := 10) (N := some 36) (v := ?_) (a' := ?_) #[true, true, true, true, true, true, true, true, true, true, true, false] rfl rfl (by kernel_rfl) (fun _ _ _ h => h) (Or.inl ⟨by rfl, ?_⟩) ?_ ?_
        rotate_left
        · intro w'
          go_simp
          try (with_reducible rfl)
        rotate_left
        · simp only [Act.put, List.setIfInBounds_toArray, List.set_cons_zero, List.set_cons_succ, List.getElem_toArray, List.getElem_cons_succ, List.getElem_cons_zero, i64_w, i32_w]
          rfl
        refine pure_ (i := 11) (N := some 4) (v := ?_) (a' := ?_) #[true, true, true, true, true, true, true, true, true, true, true, true] rfl rfl (by kernel_rfl) (fun _ _ _ h => h) (Or.inl ⟨by rfl, ?_⟩) ?_ ?_
        rotate_left
        · intro w'
          go_simp
          try (with_reducible rfl)
        rotate_left
        · simp only [Act.put, List.setIfInBounds_toArray, List.set_cons_zero, List.set_cons_succ, List.getElem_toArray, List.getElem_cons_succ, List.getElem_cons_zero, i64_w, i32_w]
          rfl
        refine done_ (by kernel_rfl) ?_
        go_wp2
        go_ret
        exact ⟨rfl, by rw [hN]; exact hB2⟩
      · have e1 : decide ((j : Int) < (m : Int)) = true := decide_eq_true (by omega)
        have e2 : (j : Int) < (m : Int) := by omega
        have hlen : (List.replicate j c).length = j := List.length_replicate
        have hout : List.replicate (j + 1) c = List.replicate j c ++ [c] := List.replicate_succ'
        generalize List.replicate j c = L at hO hlen hout
        have Hout := Lib.hid hout
        clear hout
        go_wp2_with ((with_reducible refine gate_builtin (b := .append) (xs := #[.tmp 22, .tmp 24]) rfl ?_); at_builtin; refine Kd.R_append_rows (Kd.int .u8) (Rr := fun x cs => cs = [.int .u8 x]) (w0 := w) N rfl (.tmp 22) (.tmp 24) 27 5 (.int .u8 0) 1 rfl Tryd.underlying27 info5 rfl (by decide) (by decide) u6 L [c] (some ⟨wr.heap.size, 0, none⟩) 1 1 (fun _ => True) (fun _ => False) rfl rfl ?p1 ?p2 (fun _ _ h => h) (fun _ h => h.elim) (fun _ _ => trivial) ?p3 ?p4 ?p5 ?_; (case p1 => exact Kd.R_alloc hO _); (case p2 => exact reads1 _ _); (case p3 => exact hB.alloc (by omega) _); (case p4 => (rw [World.size_alloc]; omega)); (case p5 => (rw [hlen]; omega)); intro v3 w3 ho3 hb3 hgr3 hat3)
        refine ⟨⟨j + 1, by go_num, by omega, by rw [Hout.out]; exact ho3, hb3⟩, by simp [intOf]; omega⟩
  · by_cases h1 : n < 0
    all_goals
      first
        | (have d1 : decide (n < 0) = true := decide_eq_true h1
           go_wp2_with fail)
        | (have d1 : decide (n < 0) = false := decide_eq_false h1
           have d2 : decide (150 < n) = true := decide_eq_true (by omega)
           have d3 : 150 < n := by omega
           go_wp2_with fail)
      go_ret
      exact ⟨rfl, by rw [hN]; exact hb1⟩

end Go.Proofs.YtmkeiaomclpdfaaDoor.H
