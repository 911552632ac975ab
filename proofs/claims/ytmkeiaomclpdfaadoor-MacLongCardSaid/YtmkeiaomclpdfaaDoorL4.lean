/- MacLong, MacLess: the walks. -/
import Derived.Test.YtmkeiaomclpdfaaDoorG15
namespace Go.Proofs.YtmkeiaomclpdfaaDoor.H
open Go.RowKit Go.Shelf Go.Proofs.YtmkeiaomclpdfaaDoorW.PrintWords Go.Proofs.YtmkeiaomclpdfaaDoorW.PrintLast Go.Proofs.YtmkeiaomclpdfaaDoorW.PrintMore Go.Proofs.YtmkeiaomclpdfaaDoor.Plain Go.Proofs.YtmkeiaomclpdfaaDoor.RowOf Go.Proofs.YtmkeiaomclpdfaaDoor.Le
attribute [local go_sem] Oper.semAt_some
set_option linter.unusedVariables false
set_option linter.unusedSimpArgs false

set_option maxRecDepth 100000 in
theorem MacLong_walk (n : Int) (w : World) (hT : Tabs w Kc Fc) (hn : (Lit.int .i64 n).wf = true) :
    Calls Tryd.prog 8 #[.int .i64 n] w fun e w' => e = .returned (.bool true) ∧ Below w.heap.size w w' := by
  obtain ⟨N, hN⟩ : ∃ N, w.heap.size = N := ⟨_, rfl⟩
  have hL := Low.mk' hN hT
  rw [hN]
  by_cases hbad : n < 0 ∨ 8160 < n
  · go_enter Tryd.func8, Tryd.ntmps8
    go_wp2_with fail
    refine (shown_calls _ hT).mono ?_
    rintro e w1 ⟨rfl, hb1⟩
    rw [hN] at hb1
    have hx := Expand_bad ⟨#[107]⟩ ⟨#[108]⟩ n hbad w1
    go_wp2_with fail
    refine hx.mono ?_
    rintro e w2 ⟨rfl, hb2⟩
    replace hb2 := bst hN hb1 hb2
    clear hx
    by_cases h1 : n < 0
    all_goals
      first
        | (have d1 : decide (n < 0) = true := decide_eq_true h1
           go_wp2_with fail)
        | (have d1 : decide (n < 0) = false := decide_eq_false h1
           have d2 : decide (8160 < n) = true := decide_eq_true (by omega)
           have d3 : 8160 < n := by omega
           go_wp2_with fail)
      go_ret
      exact ⟨rfl, hb2⟩
  · obtain ⟨m, rfl⟩ : ∃ m : Nat, n = (m : Int) := ⟨n.toNat, by omega⟩
    have hm : m ≤ 8160 := by omega
    have d1 : decide ((m : Int) < 0) = false := decide_eq_false (by omega)
    have d2 : decide ((8160 : Int) < (m : Int)) = false := decide_eq_false (by omega)
    have d3 : ¬ (8160 : Int) < (m : Int) := by omega
    have d4 : ¬ (m : Int) < 0 := by omega
    have hx := fun W hW => Expand_calls ⟨#[107]⟩ ⟨#[108]⟩ m (by decide) (by decide) hm W hW
    obtain ⟨E, hE⟩ : ∃ E : ByteArray, (⟨(expd (⟨#[107]⟩ : ByteArray).data.toList (⟨#[108]⟩ : ByteArray).data.toList m).toArray⟩ : ByteArray) = E := ⟨_, rfl⟩
    have hEs : ((E.size : Int) == (m : Int)) = true := by
      rw [show E.size = m by rw [← hE, ba_size, ba_mk, expd_len _ _ _ hm]]
      exact beq_self_eq_true _
    rw [hE] at hx
    have Hx := Lib.hid hx
    clear hx hE
    go_enter Tryd.func8, Tryd.ntmps8
    go_wp2_with fail
    refine (shown_calls _ hT).mono ?_
    rintro e w1 ⟨rfl, hb1⟩
    rw [hN] at hb1
    go_wp2_with fail
    refine (Hx.out _ (hL.at hb1)).mono ?_
    rintro e w2 ⟨rfl, hb2⟩
    replace hb2 := bst hN hb1 hb2
    go_wp2
    go_ret
    exact ⟨rfl, hb2⟩

set_option maxRecDepth 100000 in
theorem MacLess_walk (key label : ByteArray) (n m : Int) (w : World) (hT : Tabs w Kc Fc) (hk : key.size ≤ 140737488351232) (hl : label.size ≤ 140737488351232) (hn : (Lit.int .i64 n).wf = true) (hm : (Lit.int .i64 m).wf = true) :
    Calls Tryd.prog 7 #[.string key, .string label, .int .i64 n, .int .i64 m] w fun e w' => e = .returned (.bool true) ∧ Below w.heap.size w w' := by
  obtain ⟨N, hN⟩ : ∃ N, w.heap.size = N := ⟨_, rfl⟩
  have hL := Low.mk' hN hT
  rw [hN]
  by_cases hin : 0 ≤ n ∧ n ≤ m ∧ m ≤ 1000
  · obtain ⟨c, hc, hcs⟩ := cut_f key
    have Hc := Lib.hid hc
    obtain ⟨d, hd, hds⟩ := cut_f label
    have Hd := Lib.hid hd
    clear hc hd
    obtain ⟨p, rfl⟩ : ∃ p : Nat, n = (p : Int) := ⟨n.toNat, by omega⟩
    obtain ⟨q, rfl⟩ : ∃ q : Nat, m = (q : Int) := ⟨m.toNat, by omega⟩
    have hpq : p ≤ q := by omega
    have hq : q ≤ 8160 := by omega
    have d1 : decide ((p : Int) < 0) = false := decide_eq_false (by omega)
    have d2 : decide ((q : Int) < (p : Int)) = false := decide_eq_false (by omega)
    have d3 : decide ((1000 : Int) < (q : Int)) = false := decide_eq_false (by omega)
    have d4 : ¬ (p : Int) < 0 := by omega
    have d5 : ¬ (q : Int) < (p : Int) := by omega
    have d6 : ¬ (1000 : Int) < (q : Int) := by omega
    have hx := fun W hW => Expand_calls c d p (by omega) (by omega) (by omega) W hW
    have hy := fun W hW => Expand_calls c d q (by omega) (by omega) hq W hW
    obtain ⟨A, hA⟩ : ∃ A : ByteArray, (⟨(expd c.data.toList d.data.toList p).toArray⟩ : ByteArray) = A := ⟨_, rfl⟩
    obtain ⟨B, hB⟩ : ∃ B : ByteArray, (⟨(expd c.data.toList d.data.toList q).toArray⟩ : ByteArray) = B := ⟨_, rfl⟩
    have hAs : A.size = p := by rw [← hA, ba_size, ba_mk, expd_len _ _ _ (by omega)]
    have hBs : B.size = q := by rw [← hB, ba_size, ba_mk, expd_len _ _ _ hq]
    have e1 : ((A.size : Int) == (p : Int)) = true := by rw [hAs]; exact beq_self_eq_true _
    have e2 : ((B.size : Int) == (q : Int)) = true := by rw [hBs]; exact beq_self_eq_true _
    have e3 : (p : Int) ≤ (B.size : Int) := by omega
    have e4 : (0 : Int) ≤ (p : Int) := by omega
    have e5 : B.extract 0 p = A := by
      refine ba_ext ?_
      rw [ba_ex, ← hB, ← hA, ba_mk, ba_mk, List.drop_zero, expd_take _ _ _ _ hpq]
    rw [hA] at hx
    rw [hB] at hy
    have Hx := Lib.hid hx
    have Hy := Lib.hid hy
    clear hx hy hA hB hAs hBs hin
    go_enter Tryd.func7, Tryd.ntmps7
    go_wp2_with fail
    refine (shown_calls _ hT).mono ?_
    rintro e w1 ⟨rfl, hb1⟩
    rw [hN] at hb1
    go_wp2_with fail
    refine (cut_calls key c _ Hc.out hN hb1).mono ?_
    rintro e w2 ⟨rfl, hb2⟩
    go_wp2_with fail
    refine (cut_calls label d _ Hd.out hN hb2).mono ?_
    rintro e w3 ⟨rfl, hb3⟩
    go_wp2_with fail
    refine (Hx.out _ (hL.at hb3)).mono ?_
    rintro e w4 ⟨rfl, hb4⟩
    replace hb4 := bst hN hb3 hb4
    go_wp2_with fail
    refine (cut_calls key c _ Hc.out hN hb4).mono ?_
    rintro e w5 ⟨rfl, hb5⟩
    go_wp2_with fail
    refine (cut_calls label d _ Hd.out hN hb5).mono ?_
    rintro e w6 ⟨rfl, hb6⟩
    go_wp2_with fail
    refine (Hy.out _ (hL.at hb6)).mono ?_
    rintro e w7 ⟨rfl, hb7⟩
    replace hb7 := bst hN hb6 hb7
    go_wp2
    go_ret
    exact ⟨rfl, hb7⟩
  · go_enter Tryd.func7, Tryd.ntmps7
    go_wp2_with fail
    refine (shown_calls _ hT).mono ?_
    rintro e w1 ⟨rfl, hb1⟩
    rw [hN] at hb1
    by_cases h1 : n < 0
    · have d1 : decide (n < 0) = true := decide_eq_true h1
      go_wp2_with fail
      go_ret
      exact ⟨rfl, hb1⟩
    · have d1 : decide (n < 0) = false := decide_eq_false h1
      by_cases h2 : m < n
      · have d2 : decide (m < n) = true := decide_eq_true h2
        go_wp2_with fail
        go_ret
        exact ⟨rfl, hb1⟩
      · have d2 : decide (m < n) = false := decide_eq_false h2
        have d3 : decide (1000 < m) = true := decide_eq_true (by omega)
        have d4 : 1000 < m := by omega
        go_wp2_with fail
        go_ret
        exact ⟨rfl, hb1⟩

end Go.Proofs.YtmkeiaomclpdfaaDoor.H
