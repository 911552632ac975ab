/- KeysAlone: the walk. -/
import Derived.Test.YtobjhddiieaafaaDoorL2
namespace Go.Proofs.YtobjhddiieaafaaDoor.S
open Go.Proofs.YtobjhddiieaafaaDoor.H Go.Proofs.YtobjhddiieaafaaDoor.M
open Go.RowKit Go.Shelf Go.Proofs.YtobjhddiieaafaaDoorW.PrintWords Go.Proofs.YtobjhddiieaafaaDoorW.PrintLast Go.Proofs.YtobjhddiieaafaaDoorW.PrintMore Go.Proofs.YtobjhddiieaafaaDoor.Plain Go.Proofs.YtobjhddiieaafaaDoor.RowOf Go.Proofs.YtobjhddiieaafaaDoor.Le
attribute [local go_sem] Oper.semAt_some max2_int min2_int max_two min_two
set_option linter.unusedVariables false
set_option linter.unusedSimpArgs false
set_option maxRecDepth 100000

set_option maxHeartbeats 3000000 in
theorem KeysAlone_good (g : Int) (s : ByteArray) (hr : rightB [⟨g, s⟩] = true) (X Y : ByteArray) (hX : X.size = 32) (hY : Y.size = 32) (hq : ∀ W : World, Tabs W Kc Fc → Calls Tryd.prog 6 #[.agg #[.int .u32 g, .string s]] W fun e w' => e = .returned (.tuple #[.string X, .string Y, .int .i64 0]) ∧ Below W.heap.size W w') (A0 : Option Addr) (n c0 : Nat) (L : List S24) (w : World) (hT : Tabs w Kc Fc) (hn : n ≤ c0) (hLn : L.length = min n 30) (hC : Kd.C k24 w A0 L.length L) :
    Calls Tryd.prog 4 #[.agg #[.int .u32 g, .string s], .slice A0 n c0] w fun e w' => e = .returned (.bool true) ∧ Below w.heap.size w w' := by
  obtain ⟨N, hN⟩ : ∃ N, w.heap.size = N := ⟨_, rfl⟩
  have hL := Low.mk' hN hT
  obtain ⟨av, ae, had⟩ : ∃ a e, addOf L ⟨g, s⟩ = (a, e) := ⟨_, _, rfl⟩
  have hl : L.length ≤ 400 := by omega
  have hc : L.length ≤ c0 := by omega
  have HL := Lib.hid hLn
  have Had := Lib.hid had
  have HC := Lib.hid hC
  clear hLn had hC
  go_enter Tryd.func4, Tryd.ntmps4
  go_wp2_with fail
  have hb0 : Below N w (w.alloc (.cells #[.int .u32 g, .string s] 24)) := (Below.refl N w).alloc (by omega) _
  have hs0 : (w.alloc (.cells #[.int .u32 g, .string s] 24)).heap.size = N + 1 := by rw [World.size_alloc, hN]
  have hk0 : KBox (w.alloc (.cells #[.int .u32 g, .string s] 24)) N g s := by rw [← hN]; exact World.alloc_heap_new _ _
  generalize w.alloc (.cells #[.int .u32 g, .string s] 24) = W0 at *
  refine (shown_ok W0).mono ?_
  rintro e w1 ⟨rfl, hb1⟩
  rw [hs0] at hb1
  have hk1 := hk0.kept hb1 (Nat.lt_succ_self N)
  have hB1 : Below N w w1 := hb0.trans (hb1.mono (by omega))
  have hS1 : N < w1.heap.size := (Array.getElem?_eq_some_iff.1 hk1).1
  clear hb0 hk0 hb1
  obtain ⟨c0_, c1_, _⟩ := box2_at hk1
  go_wp2_with fail
  refine (hq w1 (hL.at hB1)).mono ?_
  rintro e w2 ⟨rfl, hb2⟩
  have hk2 := hk1.kept hb2 hS1
  have hB2 := bst hN hB1 hb2
  clear c0_ c1_ hk1 hB1 hb2 hS1
  go_upto_region 3 with fail
  have hB3 : Below N w w2.drew := hB2.trans ((Below.drew (Below.refl w2.heap.size w2)).mono (by have := hB2.size; omega))
  have hk3 : KBox w2.drew N g s := hk2
  clear hB2 hk2
  refine start_ (n := 4) (S := fun V_ => KBox V_ N g s ∧ Below N w V_) (ds := [3]) #[false, false, false, false] (by kernel_rfl) rfl rfl ⟨hk3, hB3⟩ (fun hHeld => ?_)
  generalize w2.drew = W3 at hHeld hk3 hB3 ⊢
  refine pure_ (i := 0) (N := some 19) (v := ?_) (a' := ?_) #[true, false, false, false] rfl rfl (by kernel_rfl) (fun _ _ _ h => h) (Or.inl ⟨by rfl, ?_⟩) ?_ ?_
  rotate_left
  · intro w'
    go_simp
    try (with_reducible rfl)
  rotate_left
  · simp only [Act.put, List.setIfInBounds_toArray, List.set_cons_zero, List.set_cons_succ, i64_w, i32_w]
    rfl
  refine take_ (i := 2) (N := some 21) (v := ?_) (a' := ?_) #[true, false, true, false] rfl rfl (by kernel_rfl) (fun _ _ _ h => h) (Or.inl ⟨by rfl, ?_⟩) hHeld ?_ ?_
  rotate_left
  · intro w' hS_
    obtain ⟨d0, d1, d2⟩ := box2_at hS_.1
    go_simp
    try (with_reducible rfl)
  rotate_left
  · simp only [Act.put, List.setIfInBounds_toArray, List.set_cons_zero, List.set_cons_succ, i64_w, i32_w]
    rfl
  refine one_ (i := 1) (N := some 20) #[true, true, true, false] rfl rfl (by kernel_rfl) (by decide) (fun K hK => ?_)
  refine goes_ Tryd.func9 (by kernel_rfl) rfl #[.slice A0 n c0] (by rfl) rfl rfl (by (try simp only [List.map_toArray, List.map_cons, List.map_nil]); first | done | rfl) ?_
  refine (cut_calls _ _ _ hn _).mono ?_
  rintro r w4 ⟨rfl, hb4⟩
  refine ⟨_, rfl, ?_⟩
  rw [← HL.out]
  have hk4 := hk3.kept hb4 (Array.getElem?_eq_some_iff.1 hk3).1
  have hB4 := bst hN hB3 hb4
  refine hK.out _ _ ⟨hk4, hB4⟩ (fun _ => ?_)
  clear hK K
  clear hk3 hB3 hb4
  have hC4 := Kd.C_below HC.out (hB4.mono (by omega))
  refine last_ (i := 3) (N := some 22) #[true, true, true, true] rfl rfl (by kernel_rfl) (by decide) (fun K hK => ?_)
  refine goes_ Tryd.func8 (by kernel_rfl) rfl #[.slice A0 L.length c0, .agg #[.int .u32 g, .string s]] (by rfl) rfl rfl (by (try simp only [List.map_toArray, List.map_cons, List.map_nil]); first | done | rfl) ?_
  refine (keys_Add.calls A0 c0 L g s av ae _ hC4 hc (by rw [keys_Add.f, if_pos (by omega), Had.out])).mono ?_
  rintro r w5 ⟨v5, rfl, hv5, hb5⟩
  refine ⟨_, rfl, ?_⟩
  have hk5 := hk4.kept hb5 (Array.getElem?_eq_some_iff.1 hk4).1
  have hB5 := bst hN hB4 hb5
  refine hK.out _ _ ?_
  clear hK K hHeld
  clear hk4 hB4 hb5 hv5 hC4
  refine done_ (by kernel_rfl) ?_
  have hS5 : N < w5.heap.size := (Array.getElem?_eq_some_iff.1 hk5).1
  obtain ⟨c0_, c1_, _⟩ := box2_at hk5
  go_wp2_with fail
  refine (hq w5 (hL.at hB5)).mono ?_
  rintro e w6 ⟨rfl, hb6⟩
  have hk6 := hk5.kept hb6 hS5
  have hB6 := bst hN hB5 hb6
  clear c0_ c1_ hk5 hB5 hb6 hS5
  obtain ⟨c0_, c1_, _⟩ := box2_at hk6
  go_wp2_with fail
  refine (Right1 g s true hr w6 _ rfl).mono ?_
  rintro e w7 ⟨rfl, hb7⟩
  have hB7 := bst hN hB6 hb7
  clear c0_ c1_ hk6 hB6 hb7
  go_wp2
  go_ret
  exact ⟨by simp [hX, hY], by rw [hN]; exact hB7⟩

set_option maxHeartbeats 3000000 in
theorem KeysAlone_bad (g : Int) (s : ByteArray) (hr : rightB [⟨g, s⟩] = false) (A0 : Option Addr) (n c0 : Nat) (L : List S24) (w : World) (hT : Tabs w Kc Fc) (hn : n ≤ c0) (hLn : L.length = min n 30) (hC : Kd.C k24 w A0 L.length L) :
    Calls Tryd.prog 4 #[.agg #[.int .u32 g, .string s], .slice A0 n c0] w fun e w' => e = .returned (.bool true) ∧ Below w.heap.size w w' := by
  obtain ⟨N, hN⟩ : ∃ N, w.heap.size = N := ⟨_, rfl⟩
  have hL := Low.mk' hN hT
  obtain ⟨av, ae, had⟩ : ∃ a e, addOf L ⟨g, s⟩ = (a, e) := ⟨_, _, rfl⟩
  have hl : L.length ≤ 400 := by omega
  have hc : L.length ≤ c0 := by omega
  have HL := Lib.hid hLn
  have Had := Lib.hid had
  have HC := Lib.hid hC
  clear hLn had hC
  go_enter Tryd.func4, Tryd.ntmps4
  go_wp2_with fail
  have hb0 : Below N w (w.alloc (.cells #[.int .u32 g, .string s] 24)) := (Below.refl N w).alloc (by omega) _
  have hs0 : (w.alloc (.cells #[.int .u32 g, .string s] 24)).heap.size = N + 1 := by rw [World.size_alloc, hN]
  have hk0 : KBox (w.alloc (.cells #[.int .u32 g, .string s] 24)) N g s := by rw [← hN]; exact World.alloc_heap_new _ _
  generalize w.alloc (.cells #[.int .u32 g, .string s] 24) = W0 at *
  refine (shown_ok W0).mono ?_
  rintro e w1 ⟨rfl, hb1⟩
  rw [hs0] at hb1
  have hk1 := hk0.kept hb1 (Nat.lt_succ_self N)
  have hB1 : Below N w w1 := hb0.trans (hb1.mono (by omega))
  have hS1 : N < w1.heap.size := (Array.getElem?_eq_some_iff.1 hk1).1
  clear hb0 hk0 hb1
  obtain ⟨c0_, c1_, _⟩ := box2_at hk1
  go_wp2_with fail
  refine (Subs_bad g s hr w1).mono ?_
  rintro e w2 ⟨rfl, hb2⟩
  have hk2 := hk1.kept hb2 hS1
  have hB2 := bst hN hB1 hb2
  clear c0_ c1_ hk1 hB1 hb2 hS1
  go_upto_region 3 with fail
  have hB3 : Below N w w2.drew := hB2.trans ((Below.drew (Below.refl w2.heap.size w2)).mono (by have := hB2.size; omega))
  have hk3 : KBox w2.drew N g s := hk2
  clear hB2 hk2
  refine start_ (n := 4) (S := fun V_ => KBox V_ N g s ∧ Below N w V_) (ds := [3]) #[false, false, false, false] (by kernel_rfl) rfl rfl ⟨hk3, hB3⟩ (fun hHeld => ?_)
  generalize w2.drew = W3 at hHeld hk3 hB3 ⊢
  refine pure_ (i := 0) (N := some 19) (v := ?_) (a' := ?_) #[true, false, false, false] rfl rfl (by kernel_rfl) (fun _ _ _ h => h) (Or.inl ⟨by rfl, ?_⟩) ?_ ?_
  rotate_left
  · intro w'
    go_simp
    try (with_reducible rfl)
  rotate_left
  · simp only [Act.put, List.setIfInBounds_toArray, List.set_cons_zero, List.set_cons_succ, i64_w, i32_w]
    rfl
  refine take_ (i := 2) (N := some 21) (v := ?_) (a' := ?_) #[true, false, true, false] rfl rfl (by kernel_rfl) (fun _ _ _ h => h) (Or.inl ⟨by rfl, ?_⟩) hHeld ?_ ?_
  rotate_left
  · intro w' hS_
    obtain ⟨d0, d1, d2⟩ := box2_at hS_.1
    go_simp
    try (with_reducible rfl)
  rotate_left
  · simp only [Act.put, List.setIfInBounds_toArray, List.set_cons_zero, List.set_cons_succ, i64_w, i32_w]
    rfl
  refine one_ (i := 1) (N := some 20) #[true, true, true, false] rfl rfl (by kernel_rfl) (by decide) (fun K hK => ?_)
  refine goes_ Tryd.func9 (by kernel_rfl) rfl #[.slice A0 n c0] (by rfl) rfl rfl (by (try simp only [List.map_toArray, List.map_cons, List.map_nil]); first | done | rfl) ?_
  refine (cut_calls _ _ _ hn _).mono ?_
  rintro r w4 ⟨rfl, hb4⟩
  refine ⟨_, rfl, ?_⟩
  rw [← HL.out]
  have hk4 := hk3.kept hb4 (Array.getElem?_eq_some_iff.1 hk3).1
  have hB4 := bst hN hB3 hb4
  refine hK.out _ _ ⟨hk4, hB4⟩ (fun _ => ?_)
  clear hK K
  clear hk3 hB3 hb4
  have hC4 := Kd.C_below HC.out (hB4.mono (by omega))
  refine last_ (i := 3) (N := some 22) #[true, true, true, true] rfl rfl (by kernel_rfl) (by decide) (fun K hK => ?_)
  refine goes_ Tryd.func8 (by kernel_rfl) rfl #[.slice A0 L.length c0, .agg #[.int .u32 g, .string s]] (by rfl) rfl rfl (by (try simp only [List.map_toArray, List.map_cons, List.map_nil]); first | done | rfl) ?_
  refine (keys_Add.calls A0 c0 L g s av ae _ hC4 hc (by rw [keys_Add.f, if_pos (by omega), Had.out])).mono ?_
  rintro r w5 ⟨v5, rfl, hv5, hb5⟩
  refine ⟨_, rfl, ?_⟩
  have hk5 := hk4.kept hb5 (Array.getElem?_eq_some_iff.1 hk4).1
  have hB5 := bst hN hB4 hb5
  refine hK.out _ _ ?_
  clear hK K hHeld
  clear hk4 hB4 hb5 hv5 hC4
  refine done_ (by kernel_rfl) ?_
  have hS5 : N < w5.heap.size := (Array.getElem?_eq_some_iff.1 hk5).1
  obtain ⟨c0_, c1_, _⟩ := box2_at hk5
  go_wp2_with fail
  refine (Subs_bad g s hr w5).mono ?_
  rintro e w6 ⟨rfl, hb6⟩
  have hk6 := hk5.kept hb6 hS5
  have hB6 := bst hN hB5 hb6
  clear c0_ c1_ hk5 hB5 hb6 hS5
  obtain ⟨c0_, c1_, _⟩ := box2_at hk6
  go_wp2_with fail
  refine (Right1 g s false hr w6 _ rfl).mono ?_
  rintro e w7 ⟨rfl, hb7⟩
  have hB7 := bst hN hB6 hb7
  clear c0_ c1_ hk6 hB6 hb7
  go_wp2
  go_ret
  exact ⟨by simp, by rw [hN]; exact hB7⟩

theorem KeysAlone_walk (g : Int) (s : ByteArray) (A0 : Option Addr) (n c0 : Nat) (L : List S24) (w : World) (hT : Tabs w Kc Fc) (hn : n ≤ c0) (hLn : L.length = min n 30) (hC : Kd.C k24 w A0 L.length L) :
    Calls Tryd.prog 4 #[.agg #[.int .u32 g, .string s], .slice A0 n c0] w fun e w' => e = .returned (.bool true) ∧ Below w.heap.size w w' := by
  by_cases h : rightB [⟨g, s⟩] = true
  · exact KeysAlone_good g s h _ _ (subK_size ⟨#[115, 101, 97, 108]⟩ g s) (subK_size ⟨#[98, 105, 110, 100]⟩ g s) (fun W hW => Subs_calls g s h (right_size h) W hW) A0 n c0 L w hT hn hLn hC
  · exact KeysAlone_bad g s (Bool.eq_false_iff.2 h) A0 n c0 L w hT hn hLn hC

theorem KeysAlone_row (g : Int) (s : ByteArray) (A0 : Option Addr) (n c0 : Nat) (L : List S24) (w : World) (hT : Tabs w Kc Fc) (hn : n ≤ c0) (hLn : L.length = min n 30) (hC : Kd.C k24 w A0 L.length L) (_ : (Lit.int .u32 g).wf = true) (_ : s.size ≤ maxLen) :
    Calls Tryd.prog 4 #[.agg #[.int .u32 g, .string s], .slice A0 n c0] w fun e w' => e = .returned (.bool true) ∧ Below w.heap.size w w' := KeysAlone_walk g s A0 n c0 L w hT hn hLn hC
end Go.Proofs.YtobjhddiieaafaaDoor.S
