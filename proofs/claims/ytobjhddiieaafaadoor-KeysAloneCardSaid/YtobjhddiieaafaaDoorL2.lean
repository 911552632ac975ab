/- KeysSubs: the walk. -/
import Derived.Test.YtobjhddiieaafaaDoorL1
import Derived.Test.YtobjhddiieaafaaDoorKR
namespace Go.Proofs.YtobjhddiieaafaaDoor.S
open Go.Proofs.YtobjhddiieaafaaDoor.H Go.Proofs.YtobjhddiieaafaaDoor.M
open Go.RowKit Go.Shelf Go.Proofs.YtobjhddiieaafaaDoorW.PrintWords Go.Proofs.YtobjhddiieaafaaDoorW.PrintLast Go.Proofs.YtobjhddiieaafaaDoorW.PrintMore Go.Proofs.YtobjhddiieaafaaDoor.Plain Go.Proofs.YtobjhddiieaafaaDoor.RowOf Go.Proofs.YtobjhddiieaafaaDoor.Le
attribute [local go_sem] Oper.semAt_some max2_int min2_int max_two min_two
set_option linter.unusedVariables false
set_option linter.unusedSimpArgs false
set_option maxRecDepth 100000

set_option maxHeartbeats 8000000 in
theorem cut_calls (A0 : Option Addr) (n c0 : Nat) (hn : n ≤ c0) (w : World) :
    Calls Tryd.prog 9 #[.slice A0 n c0] w fun e w' => e = .returned (.slice A0 (min n 30) c0) ∧ Below w.heap.size w w' := by
  have HB := Aside0.mk (Below.refl w.heap.size w)
  obtain ⟨m, hm⟩ : ∃ m, min n 30 = m := ⟨_, rfl⟩
  have hji2_ : (if 30 < (n : Int) then 30 else (n : Int)) = (m : Int) := by split <;> omega
  have c1 : (0 : Int) ≤ (m : Int) := by omega
  have c2 : (m : Int) ≤ (n : Int) := by omega
  obtain ⟨i06, hi06, _, hsz6, _⟩ := info_parts info24
  have hcut6 := cut_to (P := Tryd.prog) 30 24 .i64 Tryd.underlying30 hi06 A0 n c0 (m : Int) c1 c2 hn
  rw [Int.toNat_natCast] at hcut6
  rw [hm]
  clear hi06 hsz6
  go_enter Tryd.func9, Tryd.ntmps9
  go_wp2
  go_ret
  exact ⟨rfl, by repeat (first | (with_reducible first | exact HB.out | apply below_alloc | apply pw_below_drewN | apply below_drew1) | exact HB.out)⟩

theorem right_size {g : Int} {s : ByteArray} (h : rightB [⟨g, s⟩] = true) : s.size = 32 := by
  rw [right1] at h
  simp at h
  omega
theorem KeysSubs_good (g : Int) (s : ByteArray) (hr : rightB [⟨g, s⟩] = true) (hs : s.size = 32) (w : World) (hT : Tabs w Kc Fc) (hG : Glob w 0 Kc) :
    Calls Tryd.prog 3 #[.agg #[.int .u32 g, .string s]] w fun e w' => e = .returned (.bool true) ∧ Below w.heap.size w w' := by
  obtain ⟨N, hN⟩ : ∃ N, w.heap.size = N := ⟨_, rfl⟩
  have hL := Low.mk' hN hT
  have hgK : 0 < N := by rw [← hN]; exact hG.lt
  go_enter Tryd.func3, Tryd.ntmps3
  go_wp2_with fail
  have hb0 : Below N w (w.alloc (.cells #[.int .u32 g, .string s] 24)) := (Below.refl N w).alloc (by omega) _
  have hs0 : (w.alloc (.cells #[.int .u32 g, .string s] 24)).heap.size = N + 1 := by rw [World.size_alloc, hN]
  have hk0 : KBox (w.alloc (.cells #[.int .u32 g, .string s] 24)) N g s := by rw [← hN]; exact World.alloc_heap_new _ _
  generalize w.alloc (.cells #[.int .u32 g, .string s] 24) = W0 at *
  refine (shown_ok W0).mono ?_
  rintro e w1 ⟨rfl, hb1⟩
  rw [hs0] at hb1
  have hk1 := hk0.kept hb1 (Nat.lt_succ_self N)
  have hB1 : Below N w w1 := hb0.trans (hb1.mono (by omega))
  have hS1 : N < w1.heap.size := (Array.getElem?_eq_some_iff.1 hk1).1
  clear hb0 hk0 hb1
  obtain ⟨c0, c1, _⟩ := box2_at hk1
  go_wp2_with fail
  refine (Subs_calls g s hr hs w1 (hL.at hB1)).mono ?_
  rintro e w2 ⟨rfl, hb2⟩
  have hk2 := hk1.kept hb2 hS1
  have hB2 := bst hN hB1 hb2
  clear c0 c1 hk1 hB1 hb2
  obtain ⟨c0, c1, _⟩ := box2_at hk2
  go_wp2_with fail
  refine (RSubs_calls g s hr hs w2 (hG.below hB2 hgK)).mono ?_
  rintro e w3 ⟨rfl, hb3⟩
  have hB3 := bst hN hB2 hb3
  clear c0 c1
  go_wp2
  go_ret
  exact ⟨by simp, by rw [hN]; exact hB3⟩

theorem KeysSubs_bad (g : Int) (s : ByteArray) (hr : rightB [⟨g, s⟩] = false) (w : World) (hT : Tabs w Kc Fc) (hG : Glob w 0 Kc) :
    Calls Tryd.prog 3 #[.agg #[.int .u32 g, .string s]] w fun e w' => e = .returned (.bool true) ∧ Below w.heap.size w w' := by
  obtain ⟨N, hN⟩ : ∃ N, w.heap.size = N := ⟨_, rfl⟩
  have hL := Low.mk' hN hT
  have hgK : 0 < N := by rw [← hN]; exact hG.lt
  go_enter Tryd.func3, Tryd.ntmps3
  go_wp2_with fail
  have hb0 : Below N w (w.alloc (.cells #[.int .u32 g, .string s] 24)) := (Below.refl N w).alloc (by omega) _
  have hs0 : (w.alloc (.cells #[.int .u32 g, .string s] 24)).heap.size = N + 1 := by rw [World.size_alloc, hN]
  have hk0 : KBox (w.alloc (.cells #[.int .u32 g, .string s] 24)) N g s := by rw [← hN]; exact World.alloc_heap_new _ _
  generalize w.alloc (.cells #[.int .u32 g, .string s] 24) = W0 at *
  refine (shown_ok W0).mono ?_
  rintro e w1 ⟨rfl, hb1⟩
  rw [hs0] at hb1
  have hk1 := hk0.kept hb1 (Nat.lt_succ_self N)
  have hB1 : Below N w w1 := hb0.trans (hb1.mono (by omega))
  have hS1 : N < w1.heap.size := (Array.getElem?_eq_some_iff.1 hk1).1
  clear hb0 hk0 hb1
  obtain ⟨c0, c1, _⟩ := box2_at hk1
  go_wp2_with fail
  refine (Subs_bad g s hr w1).mono ?_
  rintro e w2 ⟨rfl, hb2⟩
  have hk2 := hk1.kept hb2 hS1
  have hB2 := bst hN hB1 hb2
  clear c0 c1 hk1 hB1 hb2
  obtain ⟨c0, c1, _⟩ := box2_at hk2
  go_wp2_with fail
  refine (RSubs_bad g s hr w2).mono ?_
  rintro e w3 ⟨rfl, hb3⟩
  have hB3 := bst hN hB2 hb3
  clear c0 c1
  go_wp2
  go_ret
  exact ⟨by simp, by rw [hN]; exact hB3⟩

theorem KeysSubs_walk (g : Int) (s : ByteArray) (w : World) (hT : Tabs w Kc Fc) (hG : Glob w 0 Kc) :
    Calls Tryd.prog 3 #[.agg #[.int .u32 g, .string s]] w fun e w' => e = .returned (.bool true) ∧ Below w.heap.size w w' := by
  by_cases h : rightB [⟨g, s⟩] = true
  · exact KeysSubs_good g s h (right_size h) w hT hG
  · exact KeysSubs_bad g s (Bool.eq_false_iff.2 h) w hT hG

theorem KeysSubs_row (g : Int) (s : ByteArray) (w : World) (hT : Tabs w Kc Fc) (hG : Glob w 0 Kc) (_ : (Lit.int .u32 g).wf = true) (_ : s.size ≤ maxLen) :
    Calls Tryd.prog 3 #[.agg #[.int .u32 g, .string s]] w fun e w' => e = .returned (.bool true) ∧ Below w.heap.size w w' := KeysSubs_walk g s w hT hG
end Go.Proofs.YtobjhddiieaafaaDoor.S
