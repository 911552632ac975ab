/- MacExpands: the walk. -/
import Derived.Test.YtmkeiaomclpdfaaDoorG15
namespace Go.Proofs.YtmkeiaomclpdfaaDoor.H
open Go.RowKit Go.Shelf Go.Proofs.YtmkeiaomclpdfaaDoorW.PrintWords Go.Proofs.YtmkeiaomclpdfaaDoorW.PrintLast Go.Proofs.YtmkeiaomclpdfaaDoorW.PrintMore Go.Proofs.YtmkeiaomclpdfaaDoor.Plain Go.Proofs.YtmkeiaomclpdfaaDoor.RowOf Go.Proofs.YtmkeiaomclpdfaaDoor.Le
attribute [local go_sem] Oper.semAt_some
set_option linter.unusedVariables false
set_option linter.unusedSimpArgs false

theorem Extract_calls (salt s : ByteArray) (hk : salt.size ≤ 1099511627776) (hs : s.size ≤ 1099511620000) (w : World) (hT : Tabs w Kc Fc) :
    Calls Tryd.prog 17 #[.string salt, .string s] w fun e w' => e = .returned (.string ⟨(macL salt.data.toList s.data.toList).toArray⟩) ∧ Below w.heap.size w w' := by
  have h := Mac1 salt s hk hs w hT
  go_enter Tryd.func17, Tryd.ntmps17
  go_wp2_with fail
  refine h.mono ?_
  rintro e w1 ⟨rfl, hb1⟩
  go_wp2
  go_ret
  exact ⟨rfl, hb1⟩

set_option maxRecDepth 100000 in
set_option maxHeartbeats 1000000 in
theorem MacExpands_some (key label salt : ByteArray) (n : Int) (S : ByteArray → ByteArray → ByteArray) (Er : Int) (hn : n ≤ 200 ∨ 8160 < n)
    (hx : ∀ (c d : ByteArray) (W : World), c.size ≤ 500 → d.size ≤ 500 → Tabs W Kc Fc → Calls Tryd.prog 15 #[.string c, .string d, .int .i64 n] W fun e w' => e = .returned (.tuple #[.string (S c d), .int .i64 Er]) ∧ Below W.heap.size W w')
    (hy : ∀ (c d : ByteArray) (W : World), c.size ≤ 500 → d.size ≤ 500 → Glob W 1 Kc → Calls Tryd.prog 16 #[.string c, .string d, .int .i64 n] W fun e w' => e = .returned (.tuple #[.string (S c d), .int .i64 Er]) ∧ Below W.heap.size W w')
    (w : World) (hT : Tabs w Kc Fc) (hG : Glob w 1 Kc) :
    Calls Tryd.prog 9 #[.string key, .string label, .string salt, .int .i64 n] w fun e w' => e = .returned (.bool true) ∧ Below w.heap.size w w' := by
  obtain ⟨c, hc, hcs⟩ := cut_f key
  have Hc := Lib.hid hc
  obtain ⟨d, hd, hds⟩ := cut_f label
  have Hd := Lib.hid hd
  obtain ⟨s, hs, hss⟩ := cut_f salt
  have Hs := Lib.hid hs
  have Hx := Lib.hid hx
  have Hy := Lib.hid hy
  clear hc hd hs hx hy
  obtain ⟨N, hN⟩ : ∃ N, w.heap.size = N := ⟨_, rfl⟩
  have hL := Low.mk' hN hT
  have hgK : 1 < N := by rw [← hN]; exact hG.lt
  rw [hN]
  go_enter Tryd.func9, Tryd.ntmps9
  go_wp2_with fail
  refine (shown_calls _ hT).mono ?_
  rintro e w1 ⟨rfl, hb1⟩
  rw [hN] at hb1
  by_cases h1 : 200 < n
  case' pos =>
    have d1 : decide (200 < n) = true := decide_eq_true h1
    have d2 : decide (n ≤ 8160) = false := decide_eq_false (by omega)
    have d3 : ¬ n ≤ 8160 := by omega
    clear hn
    go_wp2_with fail
  case' neg =>
    have d1 : decide (200 < n) = false := decide_eq_false h1
    clear hn
    go_wp2_with fail
  all_goals
    refine (cut_calls key c _ Hc.out hN hb1).mono ?_
    rintro e w2 ⟨rfl, hb2⟩
    go_wp2_with fail
    refine (cut_calls label d _ Hd.out hN hb2).mono ?_
    rintro e w3 ⟨rfl, hb3⟩
    go_wp2_with fail
    refine (Hx.out c d _ hcs hds (hL.at hb3)).mono ?_
    rintro e w4 ⟨rfl, hb4⟩
    replace hb4 := bst hN hb3 hb4
    go_wp2_with fail
    refine (cut_calls key c _ Hc.out hN hb4).mono ?_
    rintro e w5 ⟨rfl, hb5⟩
    go_wp2_with fail
    refine (cut_calls label d _ Hd.out hN hb5).mono ?_
    rintro e w6 ⟨rfl, hb6⟩
    go_wp2_with fail
    refine (Hy.out c d _ hcs hds (hG.below hb6 hgK)).mono ?_
    rintro e w7 ⟨rfl, hb7⟩
    replace hb7 := bst hN hb6 hb7
    go_wp2_with fail
    refine (cut_calls salt s _ Hs.out hN hb7).mono ?_
    rintro e w8 ⟨rfl, hb8⟩
    go_wp2_with fail
    refine (cut_calls key c _ Hc.out hN hb8).mono ?_
    rintro e w9 ⟨rfl, hb9⟩
    go_wp2_with fail
    refine (Extract_calls s c (by omega) (by omega) _ (hL.at hb9)).mono ?_
    rintro e w10 ⟨rfl, hb10⟩
    replace hb10 := bst hN hb9 hb10
    go_wp2_with fail
    refine (cut_calls salt s _ Hs.out hN hb10).mono ?_
    rintro e w11 ⟨rfl, hb11⟩
    go_wp2_with fail
    refine (cut_calls key c _ Hc.out hN hb11).mono ?_
    rintro e w12 ⟨rfl, hb12⟩
    go_wp2_with fail
    refine (refMac_calls s c (by omega) (by omega) _ (hG.below hb12 hgK)).mono ?_
    rintro e w13 ⟨rfl, hb13⟩
    replace hb13 := bst hN hb12 hb13
    go_wp2
    go_ret
    exact ⟨rfl, hb13⟩

theorem MacExpands_none (key label salt : ByteArray) (n : Int) (h1 : 200 < n) (h2 : n ≤ 8160) (w : World) (hT : Tabs w Kc Fc) :
    Calls Tryd.prog 9 #[.string key, .string label, .string salt, .int .i64 n] w fun e w' => e = .returned (.bool true) ∧ Below w.heap.size w w' := by
  have d1 : decide (200 < n) = true := decide_eq_true h1
  have d2 : decide (n ≤ 8160) = true := decide_eq_true h2
  go_enter Tryd.func9, Tryd.ntmps9
  go_wp2_with fail
  refine (shown_calls _ hT).mono ?_
  rintro e w1 ⟨rfl, hb1⟩
  go_wp2
  go_ret
  exact ⟨rfl, hb1⟩

theorem MacExpands_walk (key label salt : ByteArray) (n : Int) (w : World) (hT : Tabs w Kc Fc) (hG : Glob w 1 Kc) (hk : key.size ≤ 140737488351232) (hl : label.size ≤ 140737488351232) (hs : salt.size ≤ 140737488351232) (hn : (Lit.int .i64 n).wf = true) :
    Calls Tryd.prog 9 #[.string key, .string label, .string salt, .int .i64 n] w fun e w' => e = .returned (.bool true) ∧ Below w.heap.size w w' := by
  by_cases hbad : n < 0 ∨ 8160 < n
  · exact MacExpands_some key label salt n (fun _ _ => ⟨#[]⟩) 2 (by omega) (fun c d W _ _ _ => Expand_bad c d n hbad W) (fun c d W _ _ _ => refExpand_bad c d n hbad W) w hT hG
  · by_cases h200 : 200 < n
    · exact MacExpands_none key label salt n h200 (by omega) w hT
    · obtain ⟨m, rfl⟩ : ∃ m : Nat, n = (m : Int) := ⟨n.toNat, by omega⟩
      exact MacExpands_some key label salt m (fun c d => ⟨(expd c.data.toList d.data.toList m).toArray⟩) 0 (by omega) (fun c d W h1 h2 h3 => Expand_calls c d m (by omega) (by omega) (by omega) W h3) (fun c d W h1 h2 h3 => refExpand_calls c d m (by omega) (by omega) (by omega) W h3) w hT hG

end Go.Proofs.YtmkeiaomclpdfaaDoor.H
