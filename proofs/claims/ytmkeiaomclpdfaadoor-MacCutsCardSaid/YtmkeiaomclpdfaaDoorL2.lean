/- MacCuts: the walk. -/
import Derived.Test.YtmkeiaomclpdfaaDoorL1
namespace Go.Proofs.YtmkeiaomclpdfaaDoor.H
open Go.RowKit Go.Shelf Go.Proofs.YtmkeiaomclpdfaaDoorW.PrintWords Go.Proofs.YtmkeiaomclpdfaaDoorW.PrintLast Go.Proofs.YtmkeiaomclpdfaaDoorW.PrintMore Go.Proofs.YtmkeiaomclpdfaaDoor.Plain Go.Proofs.YtmkeiaomclpdfaaDoor.RowOf Go.Proofs.YtmkeiaomclpdfaaDoor.Le
attribute [local go_sem] Oper.semAt_some min2_int min_two
set_option linter.unusedVariables false
set_option linter.unusedSimpArgs false

set_option maxRecDepth 100000 in
set_option maxHeartbeats 1000000 in
theorem MacCuts_walk (key : ByteArray) (A : Option Addr) (len cap : Nat) (l0 : List ByteArray) (w : World) (hT : Tabs w Kc Fc) (hlen : l0.length = len) (hcap : len ≤ cap) (hA0 : Strs w A l0) (hsz0 : ∀ s ∈ l0, s.size ≤ 140737488351232) (hll0 : len ≤ 140737488351232 ∧ (A = none → cap = 0)) (hk : key.size ≤ 140737488351232) :
    Calls Tryd.prog 5 #[.string key, .slice A len cap] w fun e w' => e = .returned (.bool true) ∧ Below w.heap.size w w' := by
  obtain ⟨hll, hnil⟩ := hll0
  obtain ⟨c, hc, hcs⟩ := cut_f key
  have Hc := Lib.hid hc
  clear hc
  obtain ⟨N, hN⟩ : ∃ N, w.heap.size = N := ⟨_, rfl⟩
  have hL := Low.mk' hN hT
  rw [hN]
  obtain ⟨m, hm⟩ : ∃ m : Nat, m = min len 20 := ⟨_, rfl⟩
  have hmi : min (len : Int) 20 = (m : Int) := by omega
  obtain ⟨l, hl⟩ : ∃ l, l0.take m = l := ⟨_, rfl⟩
  have hlm : l.length = m := by rw [← hl, List.length_take]; omega
  have hA : Strs w A l := by rw [← hl]; exact hA0.take m
  have hsz : ∀ s ∈ l, s.size ≤ 140737488351232 := fun s hs => hsz0 s (by rw [← hl] at hs; exact List.mem_of_mem_take hs)
  have Hsz := Lib.hid hsz
  have m0 : (0 : Int) ≤ (m : Int) := by omega
  have m1 : (m : Int) ≤ (cap : Int) := by omega
  have hm20 : m ≤ 20 := by omega
  have Hm := Lib.hid hm
  have Hnil := Lib.hid hnil
  clear hsz hsz0 hA0 hl hm hnil
  go_enter Tryd.func5, Tryd.ntmps5
  go_wp2_with fail
  refine (shown_calls _ hT).mono ?_
  rintro e w1 ⟨rfl, hb1⟩
  rw [hN] at hb1
  clear hmi
  by_cases h20 : (len : Int) ≤ 20
  case' pos =>
    go_wp2_with fail
    have e20 : len = m := by have := Hm.out; omega
    rw [show Value.slice A len cap = Value.slice A m cap by rw [e20]]
    clear e20
  case' neg =>
    have h20b : (20 : Int) < (len : Int) := by omega
    have m20 : (20 : Int) ≤ (cap : Int) := by omega
    go_wp2_with fail
    have e20 : 20 = m := by have := Hm.out; omega
    rw [show Value.slice A 20 cap = Value.slice A m cap by rw [e20]]
    clear e20
  all_goals
    go_loopw [6, 7] (fun va vi wr => ∃ (j : Nat) (T : ByteArray), va = .string T ∧ vi = .int .i64 j ∧ j ≤ m ∧ T.data.toList = flat (l.take j) ∧ T.size ≤ 2000 ∧ Below N w wr) (fun _ vi _ => m - (intOf vi).toNat)
    case atStart => exact ⟨0, ⟨#[]⟩, rfl, rfl, Nat.zero_le _, rfl, by decide, hb1⟩
    case round =>
      clear hb1
      obtain ⟨j, T, rfl, rfl, hj, hTd, hTs, hB⟩ := hrel
      have hAr := hA.below (Nat.le_of_eq hN) hB
      by_cases hjm : j = m
      · have d1 : decide ((j : Int) < (m : Int)) = false := decide_eq_false (by omega)
        rw [List.take_of_length_le (by omega)] at hTd
        have HTd := Lib.hid hTd
        have hfl : (flat l).length ≤ 2000 := by rw [← hTd, ← ba_size]; exact hTs
        clear hTd
        go_wp2_with fail
        refine (cut_calls key c _ Hc.out hN hB).mono ?_
        rintro e w2 ⟨rfl, hb2⟩
        go_wp2_with fail
        refine (Mac1 c T (by omega) (by omega) _ (hL.at hb2)).mono ?_
        rintro e w3 ⟨rfl, hb3⟩
        replace hb3 := bst hN hb2 hb3
        obtain ⟨M, hM⟩ : ∃ M : ByteArray, (⟨(macL c.data.toList T.data.toList).toArray⟩ : ByteArray) = M := ⟨_, rfl⟩
        rw [hM]
        have hM32 : ((M.size : Int) == 32) = true := by
          rw [show M.size = 32 by rw [← hM, ba_size, ba_mk, macL_len]]
          rfl
        have HM := Lib.hid hM
        clear hM
        go_wp2_with fail
        refine (cut_calls key c _ Hc.out hN hb3).mono ?_
        rintro e w4 ⟨rfl, hb4⟩
        have hmac := Mac_calls c A cap l (by omega) (by omega) (by omega) w4 (hA.below (Nat.le_of_eq hN) hb4) Hnil.out (hL.at hb4)
        rw [hlm, ← HTd.out, HM.out] at hmac
        go_wp2_with fail
        refine hmac.mono ?_
        rintro e w5 ⟨rfl, hb5⟩
        replace hb5 := bst hN hb4 hb5
        go_wp2_with fail
        refine (cut_calls key c _ Hc.out hN hb5).mono ?_
        rintro e w6 ⟨rfl, hb6⟩
        have hmac2 := Mac2 c T ⟨#[]⟩ (by omega) (by show T.size + 0 ≤ _; omega) w6 (hL.at hb6)
        rw [show (⟨#[]⟩ : ByteArray).data.toList = [] from rfl, List.append_nil, HM.out] at hmac2
        clear hmac
        go_wp2_with fail
        refine hmac2.mono ?_
        rintro e w7 ⟨rfl, hb7⟩
        replace hb7 := bst hN hb6 hb7
        go_wp2
        go_ret
        exact ⟨rfl, hb7⟩
      · have d1 : decide ((j : Int) < (m : Int)) = true := decide_eq_true (by omega)
        have d3 : (j : Int) < (m : Int) := by omega
        have d4 : (0 : Int) ≤ (j : Int) := by omega
        have hjl : j < l.length := by omega
        obtain ⟨b, o, rfl, hbl, hcs2⟩ : ∃ b o, A = some ⟨b, o, none⟩ ∧ b < wr.heap.size ∧ ∀ (j : Nat) (x : ByteArray), l[j]? = some x → wr.cell? ⟨b, o + j, none⟩ = some (.string x) := by
          rcases hAr with h | h
          · rw [h] at hjl
            cases hjl
          · exact h
        have hft := flat_take l j hjl
        obtain ⟨s, hs⟩ : ∃ s, l[j] = s := ⟨_, rfl⟩
        have hs2 : l[j]? = some s := by rw [← hs]; exact List.getElem?_eq_getElem hjl
        rw [hs] at hft
        have hcell := hcs2 j s hs2
        have hss := Hsz.out s (List.mem_of_getElem? hs2)
        clear hcs2 hs hs2 hAr
        have h63 := eq_false (show ¬ (9223372036854775807 < T.size + s.size) by omega)
        obtain ⟨U, hU⟩ : ∃ U, T ++ s = U := ⟨_, rfl⟩
        have hUd : U.data.toList = flat (l.take (j + 1)) := by rw [← hU, ba_app, hft, hTd]
        have hUs : T.size + s.size = U.size := by rw [← hU, ByteArray.size_append]
        have HUd := Lib.hid hUd
        clear hft hTd hUd
        by_cases hlong : 2000 < U.size
        · have d5 : decide ((2000 : Int) < (U.size : Int)) = true := decide_eq_true (by omega)
          have d6 : (2000 : Int) < (U.size : Int) := by omega
          go_wp2_with fail
          go_ret
          exact ⟨rfl, hB⟩
        · have d5 : decide ((2000 : Int) < (U.size : Int)) = false := decide_eq_false (by omega)
          have d6 : ¬ (2000 : Int) < (U.size : Int) := by omega
          go_wp2
          exact ⟨⟨j + 1, U, rfl, by go_num, by omega, HUd.out, by omega, hB⟩, by simp [intOf]; omega⟩

end Go.Proofs.YtmkeiaomclpdfaaDoor.H
