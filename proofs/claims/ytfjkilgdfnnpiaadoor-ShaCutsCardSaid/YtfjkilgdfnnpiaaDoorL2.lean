/- ShaNone, ShaWrites, ShaAdds: the walks. -/
import Derived.Test.YtfjkilgdfnnpiaaDoorL1
import Derived.Test.YtfjkilgdfnnpiaaDoorStrs
namespace Go.Proofs.YtfjkilgdfnnpiaaDoor.H
open Go.RowKit Go.Shelf Go.Proofs.YtfjkilgdfnnpiaaDoorW.PrintWords Go.Proofs.YtfjkilgdfnnpiaaDoorW.PrintLast Go.Proofs.YtfjkilgdfnnpiaaDoorW.PrintMore Go.Proofs.YtfjkilgdfnnpiaaDoor.Plain Go.Proofs.YtfjkilgdfnnpiaaDoor.RowOf Go.Proofs.YtfjkilgdfnnpiaaDoor.Le
attribute [local go_sem] Oper.semAt_some
set_option linter.unusedVariables false
set_option linter.unusedSimpArgs false

theorem bst {N : Nat} {w W W2 : World} (hN : w.heap.size = N) (hb : Below N w W) (h2 : Below W.heap.size W W2) : Below N w W2 := hb.trans (h2.mono (by have := hb.size; omega))
theorem bsg {N g : Nat} {w W W2 : World} (hN : w.heap.size = N) (hb : Below N w W) (h2 : W.grownBy W2 (some g)) (hg : N ≤ g) : Below N w W2 := hb.grown h2 (by have := hb.size; omega) (fun k e => by cases e; exact hg)
theorem Sha_nil (s : ByteArray) (h : s = ⟨#[]⟩) : (Sha s.data.toList) = Sha [] := by rw [h]
/-- The tables' blocks lie below N. -/
structure Low (w : World) (N : Nat) : Prop where
  t : Tabs w Kc Fc
  h1 : 2 < N
  h2 : 0 < N
theorem Low.mk' {w : World} {N : Nat} (hN : w.heap.size = N) (hT : Tabs w Kc Fc) : Low w N := ⟨hT, by rw [← hN]; exact hT.cst.lt, by rw [← hN]; exact hT.fst.lt⟩
theorem Low.at {w W : World} {N : Nat} (h : Low w N) (hb : Below N w W) : Tabs W Kc Fc := h.t.below hb h.h1 h.h2

set_option maxRecDepth 100000 in
theorem ShaNone_walk (s : ByteArray) (w : World) (hT : Tabs w Kc Fc) (hs : s.size ≤ 140737488351232) :
    Calls Tryd.prog 9 #[.string s] w fun e w' => e = .returned (.bool true) ∧ Below w.heap.size w w' := by
  obtain ⟨N, hN⟩ : ∃ N, w.heap.size = N := ⟨_, rfl⟩
  have hL := Low.mk' hN hT
  go_enter Tryd.func9, Tryd.ntmps9
  go_wp2_with fail
  refine (shown_calls _ hT).mono ?_
  rintro e w1 ⟨rfl, hb1⟩
  rw [hN] at hb1
  go_wp2_with fail
  refine (Write_nil s _).mono ?_
  rintro e w2 ⟨rfl, rfl⟩
  go_wp2_with fail
  refine (Sum_nil _).mono ?_
  rintro e w3 ⟨rfl, rfl⟩
  go_wp2_with fail
  refine (Len_nil _).mono ?_
  rintro e w4 ⟨rfl, rfl⟩
  go_wp2_with fail
  refine (Add_none none 0 Kc Fc _ (hL.at hb1)).mono ?_
  rintro e w5 ⟨rfl, hb5⟩
  replace hb5 := bst hN hb1 hb5
  go_wp2_with fail
  refine (Sum1_calls ⟨#[]⟩ Kc Fc (by decide) _ (hL.at hb5)).mono ?_
  rintro e w6 ⟨rfl, hb6⟩
  replace hb6 := bst hN hb5 hb6
  go_wp2
  go_ret
  exact ⟨rfl, by rw [hN]; exact hb6⟩

set_option maxRecDepth 100000 in
set_option maxHeartbeats 1000000 in
theorem ShaWrites_walk (A : Option Addr) (len cap : Nat) (l : List ByteArray) (w : World) (hT : Tabs w Kc Fc) (hG : Glob w 1 Kc) (hlen : l.length = len) (hcap : len ≤ cap) (hA : Strs w A l) (hsz : ∀ s ∈ l, s.size ≤ 140737488351232) (hll : len ≤ 140737488351232) :
    Calls Tryd.prog 7 #[.slice A len cap] w fun e w' => e = .returned (.bool true) ∧ Below w.heap.size w w' := by
  subst hlen
  obtain ⟨N, hN⟩ : ∃ N, w.heap.size = N := ⟨_, rfl⟩
  have hL := Low.mk' hN hT
  have hgK : 1 < N := by rw [← hN]; exact hG.lt
  have Hsz := Lib.hid hsz
  clear hsz
  go_enter Tryd.func7, Tryd.ntmps7
  go_wp2_with fail
  refine (shown_calls _ hT).mono ?_
  rintro e w1 ⟨rfl, hb1⟩
  rw [hN] at hb1
  obtain ⟨g, hg⟩ : ∃ g, w1.heap.size = g := ⟨_, rfl⟩
  have hgN : N ≤ g := by have := hb1.size; omega
  have hn0 := new_sm w1 Kc Fc
  have hB0 : Below N w (w1.alloc (.cells (Fc.map (Value.int .u32) ++ sumR ⟨#[]⟩ 0).toArray 47)) := hb1.alloc (by omega) _
  rw [hg] at hn0
  go_wp2_with (go_at_call 15; refine (New_calls Fc Fc_len _ (hL.at hb1).fst).mono ?_; rintro e w' ⟨rfl, rfl⟩; rw [hg])
  generalize w1.alloc (.cells (Fc.map (Value.int .u32) ++ sumR ⟨#[]⟩ 0).toArray 47) = W0 at *
  go_loopw [5, 6] (fun va vi wr => ∃ (j : Nat) (T : ByteArray), va = .string T ∧ vi = .int .i64 j ∧ j ≤ l.length ∧ j ≤ 10 ∧ T.size ≤ 1000 ∧ Sm wr g Kc Fc T.data.toList (T.size : Int) ∧ Below N w wr) (fun _ vi _ => l.length - (intOf vi).toNat)
  case atStart => exact ⟨0, ⟨#[]⟩, rfl, rfl, Nat.zero_le _, by omega, by decide, hn0, hB0⟩
  case round =>
    clear hn0 hB0
    obtain ⟨j, T, rfl, rfl, hj, hj10, hTs, hS, hB⟩ := hrel
    by_cases hgo : j < l.length ∧ j < 10
    · obtain ⟨hjl, hj1⟩ := hgo
      have d1 : decide ((j : Int) < (l.length : Int)) = true := decide_eq_true (by omega)
      have d2 : decide ((j : Int) < 10) = true := decide_eq_true (by omega)
      have d3 : (j : Int) < (l.length : Int) := by omega
      have d4 : (0 : Int) ≤ (j : Int) := by omega
      have hA2 := hA.below (Nat.le_of_eq hN) hB
      obtain ⟨b, o, rfl, hbl, hcs⟩ : ∃ b o, A = some ⟨b, o, none⟩ ∧ b < wr.heap.size ∧ ∀ (j : Nat) (x : ByteArray), l[j]? = some x → wr.cell? ⟨b, o + j, none⟩ = some (.string x) := by
        rcases hA2 with h | h
        · rw [h] at hjl
          cases hjl
        · exact h
      obtain ⟨s, hs⟩ : ∃ s, l[j]? = some s := ⟨_, List.getElem?_eq_getElem hjl⟩
      have hcell := hcs j s hs
      have hss := Hsz.out s (List.mem_of_getElem? hs)
      clear hcs hs hA2
      have hw1 : IntKind.i64.wrap ((T.size : Int) + (s.size : Int)) = (T.size : Int) + (s.size : Int) := by rw [i64_w]; unfold wrap64; omega
      by_cases hlong : 1000 < T.size + s.size
      · have d5 : decide ((1000 : Int) < (T.size : Int) + (s.size : Int)) = true := decide_eq_true (by omega)
        have d6 : (1000 : Int) < (T.size : Int) + (s.size : Int) := by omega
        go_wp2_with fail
        go_ret
        exact ⟨rfl, by rw [hN]; exact hB⟩
      · have d5 : decide ((1000 : Int) < (T.size : Int) + (s.size : Int)) = false := decide_eq_false (by omega)
        have d6 : ¬ (1000 : Int) < (T.size : Int) + (s.size : Int) := by omega
        have h63 := eq_false (show ¬ (9223372036854775807 < T.size + s.size) by omega)
        obtain ⟨U, hU⟩ : ∃ U, T ++ s = U := ⟨_, rfl⟩
        have hUd : U.data.toList = T.data.toList ++ s.data.toList := by rw [← hU, ba_app]
        have hUs : T.size + s.size = U.size := by rw [← hU, ByteArray.size_append]
        have hT1 := hL.at hB
        go_wp2_with fail
        refine (Write_calls g Kc Fc _ s T.size Fc_len Kc_len (by omega) _ hS hT1.cst).mono ?_
        rintro e w2 ⟨rfl, hS2, hg2⟩
        rw [← hUd, hUs] at hS2
        obtain ⟨r2, hr2, hM2⟩ := hS2
        have hB2 := bsg hN hB hg2 hgN
        have hl2 := absorb_len Kc _ Fc U.data.toList (Nat.le_refl _) Fc_len
        clear hU hUd h63
        go_wp2_with fail
        refine (Len_calls g _ r2 _ hl2 _ hM2).mono ?_
        rintro e w3 ⟨rfl, rfl⟩
        go_wp2_with fail
        refine (Sum_calls g Kc Fc _ U.size Fc_len Kc_len (ba_size U) (by omega) _ ⟨r2, hr2, hM2⟩ (hL.at hB2).cst).mono ?_
        rintro e w4 ⟨rfl, hb4⟩
        have hM4 := RowX.below hM2 hb4 (RowX.lt hM2)
        replace hb4 := bst hN hB2 hb4
        go_wp2_with fail
        refine (refSum_calls Kc U (by omega) Kc_len _ (hG.below hb4 hgK)).mono ?_
        rintro e w5 ⟨rfl, hb5⟩
        have hM5 := RowX.below hM4 hb5 (RowX.lt hM4)
        replace hb5 := bst hN hb4 hb5
        go_wp2
        exact ⟨⟨j + 1, U, rfl, by go_num, by omega, by omega, by omega, ⟨r2, hr2, hM5⟩, hb5⟩, by simp [intOf]; omega⟩
    · obtain ⟨r2, hr2, hM2⟩ := hS
      have hl2 := absorb_len Kc _ Fc T.data.toList (Nat.le_refl _) Fc_len
      by_cases hjl : j < l.length
      all_goals
        first
          | (have d1 : decide ((j : Int) < (l.length : Int)) = true := decide_eq_true (by omega)
             have d2 : decide ((j : Int) < 10) = false := decide_eq_false (by omega)
             go_wp2_with fail)
          | (have d1 : decide ((j : Int) < (l.length : Int)) = false := decide_eq_false (by omega)
             go_wp2_with fail)
        refine (Len_calls g _ r2 _ hl2 _ hM2).mono ?_
        rintro e w3 ⟨rfl, rfl⟩
        go_wp2_with fail
        refine (Sum_calls g Kc Fc _ T.size Fc_len Kc_len (ba_size T) (by omega) _ ⟨r2, hr2, hM2⟩ (hL.at hB).cst).mono ?_
        rintro e w4 ⟨rfl, hb4⟩
        replace hb4 := bst hN hB hb4
        go_wp2_with fail
        refine (refSum_calls Kc T (by omega) Kc_len _ (hG.below hb4 hgK)).mono ?_
        rintro e w5 ⟨rfl, hb5⟩
        replace hb5 := bst hN hb4 hb5
        go_wp2
        go_ret
        exact ⟨rfl, by rw [hN]; exact hb5⟩

end Go.Proofs.YtfjkilgdfnnpiaaDoor.H
