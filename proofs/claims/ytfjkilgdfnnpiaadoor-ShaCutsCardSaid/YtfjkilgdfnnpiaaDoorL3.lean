/- ShaAdds, ShaFull: the walks. -/
import Derived.Test.YtfjkilgdfnnpiaaDoorL2
import Derived.OwnWalk
namespace Go.Proofs.YtfjkilgdfnnpiaaDoor.H
open Go.RowKit Go.Shelf Go.Proofs.YtfjkilgdfnnpiaaDoorW.PrintWords Go.Proofs.YtfjkilgdfnnpiaaDoorW.PrintLast Go.Proofs.YtfjkilgdfnnpiaaDoorW.PrintMore Go.Proofs.YtfjkilgdfnnpiaaDoor.Plain Go.Proofs.YtfjkilgdfnnpiaaDoor.RowOf Go.Proofs.YtfjkilgdfnnpiaaDoor.Le
attribute [local go_sem] Oper.semAt_some min2_int min_two
set_option linter.unusedVariables false
set_option linter.unusedSimpArgs false

theorem Add_strs (A : Option Addr) (c : Nat) (l : List ByteArray) (K F : List Int) (hl : (flat l).length ≤ 1099511627776) (hll : l.length ≤ 1099511627776) (w : World) (hA : Strs w A l) (hT : Tabs w K F) :
    Calls Tryd.prog 14 #[.slice A l.length c] w fun e w' => e = .returned (.string ⟨(sum K F (flat l)).toArray⟩) ∧ Below w.heap.size w w' := by
  rcases hA with rfl | ⟨b, o, rfl, hb, hc⟩
  · exact Add_none A c K F w hT
  · exact Add_calls b o c l K F hl hll w hb hc hT

set_option maxRecDepth 100000 in
set_option maxHeartbeats 1000000 in
theorem ShaAdds_walk (A : Option Addr) (len cap : Nat) (l0 : List ByteArray) (w : World) (hT : Tabs w Kc Fc) (hG : Glob w 1 Kc) (hlen : l0.length = len) (hcap : len ≤ cap) (hA0 : Strs w A l0) (hsz0 : ∀ s ∈ l0, s.size ≤ 140737488351232) (hll : len ≤ 140737488351232) :
    Calls Tryd.prog 5 #[.slice A len cap] w fun e w' => e = .returned (.bool true) ∧ Below w.heap.size w w' := by
  obtain ⟨N, hN⟩ : ∃ N, w.heap.size = N := ⟨_, rfl⟩
  have hL := Low.mk' hN hT
  have hgK : 1 < N := by rw [← hN]; exact hG.lt
  obtain ⟨m, hm⟩ : ∃ m : Nat, m = min len 20 := ⟨_, rfl⟩
  have hmi : min (len : Int) 20 = (m : Int) := by omega
  obtain ⟨l, hl⟩ : ∃ l, l0.take m = l := ⟨_, rfl⟩
  have hlm : l.length = m := by rw [← hl, List.length_take]; omega
  have hA : Strs w A l := by rw [← hl]; exact hA0.take m
  have hsz : ∀ s ∈ l, s.size ≤ 140737488351232 := fun s hs => hsz0 s (by rw [← hl] at hs; exact List.mem_of_mem_take hs)
  have Hsz := Lib.hid hsz
  have m0 : (0 : Int) ≤ (m : Int) := by omega
  have m1 : (m : Int) ≤ (cap : Int) := by omega
  have hm20 : m ≤ 20 := by omega
  have Hm := Lib.hid hm
  clear hsz hsz0 hA0 hl hm
  go_enter Tryd.func5, Tryd.ntmps5
  go_wp2_with fail
  refine (shown_calls _ hT).mono ?_
  rintro e w1 ⟨rfl, hb1⟩
  rw [hN] at hb1
  clear hmi
  by_cases h20 : (len : Int) ≤ 20
  case' pos =>
    go_wp2_with fail
    have e20 : len = m := by have := Hm.out; omega
    rw [show Value.slice A len cap = Value.slice A m cap by rw [e20]]
    clear e20
  case' neg =>
    have h20b : (20 : Int) < (len : Int) := by omega
    have m20 : (20 : Int) ≤ (cap : Int) := by omega
    go_wp2_with fail
    have e20 : 20 = m := by have := Hm.out; omega
    rw [show Value.slice A 20 cap = Value.slice A m cap by rw [e20]]
    clear e20
  all_goals
    go_loopw [4, 5] (fun va vi wr => ∃ (j : Nat) (T : ByteArray), va = .string T ∧ vi = .int .i64 j ∧ j ≤ m ∧ T.data.toList = flat (l.take j) ∧ T.size ≤ 1000 ∧ Below N w wr) (fun _ vi _ => m - (intOf vi).toNat)
    case atStart => exact ⟨0, ⟨#[]⟩, rfl, rfl, Nat.zero_le _, rfl, by decide, hb1⟩
    case round =>
      clear hb1
      obtain ⟨j, T, rfl, rfl, hj, hTd, hTs, hB⟩ := hrel
      have hAr := hA.below (Nat.le_of_eq hN) hB
      by_cases hjm : j = m
      · have d1 : decide ((j : Int) < (m : Int)) = false := decide_eq_false (by omega)
        rw [List.take_of_length_le (by omega)] at hTd
        have HTd := Lib.hid hTd
        have hfl : (flat l).length ≤ 1000 := by rw [← hTd, ← ba_size]; exact hTs
        have hadd := Add_strs A cap l Kc Fc (by omega) (by omega) wr hAr (hL.at hB)
        rw [hlm] at hadd
        clear hTd
        go_wp2_with fail
        refine hadd.mono ?_
        rintro e w2 ⟨rfl, hb2⟩
        replace hb2 := bst hN hB hb2
        rw [← HTd.out]
        go_wp2_with fail
        refine (refSum_calls Kc T (by omega) Kc_len _ (hG.below hb2 hgK)).mono ?_
        rintro e w3 ⟨rfl, hb3⟩
        replace hb3 := bst hN hb2 hb3
        go_wp2
        go_ret
        exact ⟨rfl, by rw [hN]; exact hb3⟩
      · have d1 : decide ((j : Int) < (m : Int)) = true := decide_eq_true (by omega)
        have d3 : (j : Int) < (m : Int) := by omega
        have d4 : (0 : Int) ≤ (j : Int) := by omega
        have hjl : j < l.length := by omega
        obtain ⟨b, o, rfl, hbl, hcs⟩ : ∃ b o, A = some ⟨b, o, none⟩ ∧ b < wr.heap.size ∧ ∀ (j : Nat) (x : ByteArray), l[j]? = some x → wr.cell? ⟨b, o + j, none⟩ = some (.string x) := by
          rcases hAr with h | h
          · rw [h] at hjl
            cases hjl
          · exact h
        have hft := flat_take l j hjl
        obtain ⟨s, hs⟩ : ∃ s, l[j] = s := ⟨_, rfl⟩
        have hs2 : l[j]? = some s := by rw [← hs]; exact List.getElem?_eq_getElem hjl
        rw [hs] at hft
        have hcell := hcs j s hs2
        have hss := Hsz.out s (List.mem_of_getElem? hs2)
        clear hcs hs hs2 hAr
        have h63 := eq_false (show ¬ (9223372036854775807 < T.size + s.size) by omega)
        obtain ⟨U, hU⟩ : ∃ U, T ++ s = U := ⟨_, rfl⟩
        have hUd : U.data.toList = flat (l.take (j + 1)) := by rw [← hU, ba_app, hft, hTd]
        have hUs : T.size + s.size = U.size := by rw [← hU, ByteArray.size_append]
        have HUd := Lib.hid hUd
        clear hft hTd hUd
        by_cases hlong : 1000 < U.size
        · have d5 : decide ((1000 : Int) < (U.size : Int)) = true := decide_eq_true (by omega)
          have d6 : (1000 : Int) < (U.size : Int) := by omega
          go_wp2_with fail
          go_ret
          exact ⟨rfl, by rw [hN]; exact hB⟩
        · have d5 : decide ((1000 : Int) < (U.size : Int)) = false := decide_eq_false (by omega)
          have d6 : ¬ (1000 : Int) < (U.size : Int) := by omega
          go_wp2
          exact ⟨⟨j + 1, U, rfl, by go_num, by omega, HUd.out, by omega, hB⟩, by simp [intOf]; omega⟩

theorem zeros_list (n : Nat) : (madeCells (Value.int .u8 0).cells (n * 1)).toList = nums .u8 (List.replicate n 0) := by
  have e : ∀ i : Nat, (Value.int .u8 0).cells[i % (Value.int .u8 0).cells.size]! = Value.int .u8 0 := fun i => by
    have h : i % 1 = 0 := Nat.mod_one i
    show (#[Value.int .u8 0] : Array Value)[i % 1]! = _
    rw [h]
    rfl
  unfold madeCells nums
  rw [Nat.mul_one, List.map_replicate]
  apply List.ext_getElem
  · simp
  · intro i h1 h2
    simp only [Array.toList_map, List.getElem_map, Array.toList_range, List.getElem_range, List.getElem_replicate]
    exact e i

set_option maxRecDepth 100000 in
set_option maxHeartbeats 1000000 in
theorem ShaFull_walk (n : Int) (w : World) (hT : Tabs w Kc Fc) (hn : (Lit.int .i64 n).wf = true) :
    Calls Tryd.prog 8 #[.int .i64 n] w fun e w' => e = .returned (.bool true) ∧ Below w.heap.size w w' := by
  obtain ⟨N, hN⟩ : ∃ N, w.heap.size = N := ⟨_, rfl⟩
  have hL := Low.mk' hN hT
  obtain ⟨i0, hi, hz0, hz1, hz2⟩ := info_parts info5
  go_enter Tryd.func8, Tryd.ntmps8
  go_wp2_with fail
  refine (shown_calls _ hT).mono ?_
  rintro e w1 ⟨rfl, hb1⟩
  rw [hN] at hb1
  by_cases hin : 16700000 ≤ n ∧ n ≤ 17000000
  · obtain ⟨h1, h2⟩ := hin
    have d1 : decide (n < 16700000) = false := decide_eq_false (by omega)
    have d2 : decide (17000000 < n) = false := decide_eq_false (by omega)
    have d3 : ¬ n < 16700000 := by omega
    have d4 : ¬ 17000000 < n := by omega
    obtain ⟨m, rfl⟩ : ∃ m : Nat, n = (m : Int) := ⟨n.toNat, by omega⟩
    obtain ⟨g, hg⟩ : ∃ g, w1.heap.size = g := ⟨_, rfl⟩
    have hgN : N ≤ g := by have := hb1.size; omega
    have hn0 := new_sm w1 Kc Fc
    have hB0 : Below N w (w1.alloc (.cells (Fc.map (Value.int .u32) ++ sumR ⟨#[]⟩ 0).toArray 47)) := hb1.alloc (by omega) _
    rw [hg] at hn0
    go_wp2_with fail
    refine (New_calls Fc Fc_len _ (hL.at hb1).fst).mono ?_
    rintro e w' ⟨rfl, rfl⟩
    rw [hg]
    generalize w1.alloc (.cells (Fc.map (Value.int .u32) ++ sumR ⟨#[]⟩ 0).toArray 47) = W0 at *
    have hW0 := hB0.size
    obtain ⟨Z, hZ⟩ : ∃ Z, strOfNums (List.replicate m 0) = Z := ⟨_, rfl⟩
    have hZs : Z.size = m := by rw [← hZ, strOfNums_size, List.length_replicate]
    have HZs := Lib.hid hZs
    clear hZs
    go_wp2_with (at_make; refine wpList_make_full _ rfl _ _ 25 rfl N 5 i0 (.int .u8 0) 1 Tryd.underlying25 hi hz0 hz1 .i64 .i64 _ _ m rfl rfl rfl rfl (by rw [hz2]; omega) (by unfold maxLen; omega) (by omega) ?_; intro W1 hown hgr; rw [zeros_list] at hown; have hcv := own_string (P := Tryd.prog) Tryd.underlying25 Tryd.underlying5 Tryd.underlying9 hown; rw [hZ] at hcv)
    have hS1 : Sm W1 g Kc Fc [] ((0 : Nat) : Int) := hn0.kept (hgr.block g hn0.lt (by simp))
    have hB1 : Below N w W1 := hB0.grown hgr (by omega) (fun k e => by cases e)
    have hZs := HZs.out
    clear hcv hown
    by_cases hbig : 16777216 < m
    · have d5 : decide ((16777216 : Int) < (m : Int)) = true := decide_eq_true (by omega)
      have d6 : (16777216 : Int) < (m : Int) := by omega
      obtain ⟨r1, hr1, hM1⟩ := hS1
      have e0 : absorb Kc Fc [] = (Fc, []) := absorb_less _ _ _ (by decide)
      have hl1 : (absorb Kc Fc []).1.length = 8 := by rw [e0]; rfl
      have Hhr := Lib.hid hr1
      have HZ2 := Lib.hid hZs
      clear hr1 e0 hZs hZ
      refine (Write_long g _ r1 Z 0 hl1 (by omega) (by rw [HZ2.out]; omega) (by rw [HZ2.out]; omega) _ hM1).mono ?_
      rintro e W2 ⟨rfl, rfl⟩
      go_wp2_with fail
      refine (Len_calls g _ r1 _ hl1 _ hM1).mono ?_
      rintro e W3 ⟨rfl, rfl⟩
      go_wp2_with fail
      refine (Sum_calls g Kc Fc [] 0 Fc_len Kc_len rfl (by omega) _ ⟨r1, Hhr.out, hM1⟩ (hL.at hB1).cst).mono ?_
      rintro e W4 ⟨rfl, hb4⟩
      replace hb4 := bst hN hB1 hb4
      go_wp2_with fail
      refine (Sum1_calls ⟨#[]⟩ Kc Fc (by decide) _ (hL.at hb4)).mono ?_
      rintro e W5 ⟨rfl, hb5⟩
      replace hb5 := bst hN hb4 hb5
      go_wp2
      go_ret
      exact ⟨rfl, by rw [hN]; exact hb5⟩
    · have d5 : decide ((16777216 : Int) < (m : Int)) = false := decide_eq_false (by omega)
      have d6 : ¬ (16777216 : Int) < (m : Int) := by omega
      refine (Write_calls g Kc Fc [] Z 0 Fc_len Kc_len (by omega) _ hS1 (hL.at hB1).cst).mono ?_
      rintro e W2 ⟨rfl, hS2, hg2⟩
      rw [show 0 + Z.size = m by omega] at hS2
      have hB2 := bsg hN hB1 hg2 hgN
      obtain ⟨q, hq⟩ : ∃ q : Nat, q = 16777216 - m + 1 := ⟨_, rfl⟩
      have hw1 : IntKind.i64.wrap (16777216 - (m : Int)) = 16777216 - (m : Int) := by rw [i64_w]; unfold wrap64; omega
      have hw2 : IntKind.i64.wrap (16777216 - (m : Int) + 1) = (q : Int) := by rw [i64_w]; unfold wrap64; omega
      obtain ⟨Y, hY⟩ : ∃ Y, strOfNums (List.replicate q 0) = Y := ⟨_, rfl⟩
      have hYs : Y.size = q := by rw [← hY, strOfNums_size, List.length_replicate]
      have HYs := Lib.hid hYs
      have Hq := Lib.hid hq
      have hqb : q ≤ 17000000 := by omega
      have hBs2 := hB2.size
      clear hYs hq hZs hZ
      go_wp2_with (at_make; refine wpList_make_full _ rfl _ _ 25 rfl N 5 i0 (.int .u8 0) 1 Tryd.underlying25 hi hz0 hz1 .i64 .i64 _ _ q rfl rfl rfl rfl (by rw [hz2]; omega) (by unfold maxLen; omega) (by omega) ?_; intro W3 hown3 hgr3; rw [zeros_list] at hown3; have hcv3 := own_string (P := Tryd.prog) Tryd.underlying25 Tryd.underlying5 Tryd.underlying9 hown3; rw [hY] at hcv3)
      have hS3 : Sm W3 g Kc Fc ([] ++ Z.data.toList) (m : Int) := hS2.kept (hgr3.block g hS2.lt (by simp))
      have hB3 : Below N w W3 := hB2.grown hgr3 (by omega) (fun k e => by cases e)
      obtain ⟨r3, hr3, hM3⟩ := hS3
      have hl3 := absorb_len Kc _ Fc ([] ++ Z.data.toList) (Nat.le_refl _) Fc_len
      have Hhr := Lib.hid hr3
      clear hr3 hcv3 hown3
      refine (Write_long g _ r3 Y m hl3 (by omega) (by rw [HYs.out]; omega) (by have := Hq.out; rw [HYs.out]; omega) _ hM3).mono ?_
      rintro e W4 ⟨rfl, rfl⟩
      go_wp2_with fail
      refine (Len_calls g _ r3 _ hl3 _ hM3).mono ?_
      rintro e W5 ⟨rfl, rfl⟩
      go_wp2
      go_ret
      exact ⟨rfl, by rw [hN]; exact hB3⟩
  · by_cases h1 : n < 16700000
    all_goals
      first
        | (have d1 : decide (n < 16700000) = true := decide_eq_true h1
           go_wp2_with fail)
        | (have d1 : decide (n < 16700000) = false := decide_eq_false h1
           have d2 : decide (17000000 < n) = true := decide_eq_true (by omega)
           have d3 : 17000000 < n := by omega
           go_wp2_with fail)
      go_ret
      exact ⟨rfl, by rw [hN]; exact hb1⟩

end Go.Proofs.YtfjkilgdfnnpiaaDoor.H
