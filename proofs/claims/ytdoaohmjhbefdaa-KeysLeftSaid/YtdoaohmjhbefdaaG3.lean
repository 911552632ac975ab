/- keys.Add: the walk. -/
import Derived.Test.YtdoaohmjhbefdaaC3
namespace Go.Proofs.Ytdoaohmjhbefdaa.H
open Go.RowKit Go.Shelf Go.Proofs.YtdoaohmjhbefdaaW.PrintWords Go.Proofs.YtdoaohmjhbefdaaW.PrintLast Go.Proofs.YtdoaohmjhbefdaaW.PrintMore Go.Proofs.Ytdoaohmjhbefdaa.CopyK
attribute [local go_sem] Oper.semAt_some
set_option linter.unusedVariables false
set_option linter.unusedSimpArgs false

/-- A ring with a key more. -/
def addL (l : List S25) (k : S25) : List S25 := l.take (placeOf l k.f0).1.toNat ++ [k] ++ l.drop (placeOf l k.f0).1.toNat
def addOf (l : List S25) (k : S25) : List S25 × Int := if (placeOf l k.f0).2 = false ∧ rightB l = true ∧ rightB (addL l k) = true then (addL l k, 0) else ([], 40)
def keys_Add.f (l : List S25) (g : Int) (s : ByteArray) : Option (List S25 × Int) := if l.length ≤ 100000 then some (addOf l ⟨g, s⟩) else none

theorem idx_lo (p : S25 → Bool) (l : List S25) : -1 ≤ idx p l := by
  unfold idx
  split <;> omega
theorem place_le (l : List S25) (g : Int) : ∃ i : Nat, (placeOf l g).1 = (i : Int) ∧ i ≤ l.length := by
  unfold placeOf
  have := idx_range (fun x => decide (g ≤ x.f0)) l
  split
  · exact ⟨l.length, rfl, Nat.le_refl _⟩
  · exact ⟨(idx (fun x => decide (g ≤ x.f0)) l).toNat, by show idx _ l = _; omega, by omega⟩

set_option maxRecDepth 100000 in
set_option maxHeartbeats 4000000 in
theorem keys_Add.calls (A0 : Option Addr) (c0 : Nat) (l0 : List (S25)) (a1_0 : Int) (a1_1 : ByteArray) (r1 : List (S25)) (r2 : Int) (w : World) (hr0 : Kd.C k25 w A0 l0.length l0) (hc0 : l0.length ≤ c0) (h : keys_Add.f l0 a1_0 a1_1 = some (r1, r2)) :
    Calls Try.prog 10 #[.slice A0 l0.length c0, .agg #[.int .u32 a1_0, .string a1_1]] w fun e w' => ∃ v0_ : Value, e = .returned (.tuple #[v0_, .int .i64 r2]) ∧ Kd.R k25 25 w' w.heap.size (fun _ => True) v0_ r1 ∧ Below w.heap.size w w' := by
  have hsz : l0.length ≤ 100000 := by
    unfold keys_Add.f at h
    split at h
    · assumption
    · cases h
  rw [keys_Add.f, if_pos hsz] at h
  replace h := Option.some.inj h
  obtain ⟨k, hk⟩ : ∃ k : S25, k = ⟨a1_0, a1_1⟩ := ⟨_, rfl⟩
  have hk0 : a1_0 = k.f0 := by rw [hk]
  have hk1 : a1_1 = k.f1 := by rw [hk]
  rw [← hk] at h
  clear hk
  subst hk0
  subst hk1
  obtain ⟨i, hi, hil⟩ := place_le l0 k.f0
  obtain ⟨th, hth⟩ : ∃ th, (placeOf l0 k.f0).2 = th := ⟨_, rfl⟩
  have hpl : keys_place.f l0 k.f0 = some ((i : Int), th) := by rw [keys_place.f, if_pos (by omega), ← hi, ← hth]
  have hout : addL l0 k = l0.take i ++ [k] ++ l0.drop i := by rw [addL, hi, Int.toNat_natCast]
  have hR1 : ∀ l : List S25, l.length ≤ 200000 → keys_Right.f l = some (rightB l) := fun l hl => by rw [keys_Right.f, if_pos (by omega)]
  have hol : (l0.take i ++ [k] ++ l0.drop i).length = l0.length + 1 := by
    rw [List.length_append, List.length_append, List.length_take, List.length_drop]
    simp only [List.length_cons, List.length_nil]
    omega
  have hC1 := Kd.C_below hr0 ((Below.refl _ w).alloc (Nat.le_refl _) (elt k))
  have hbx : (w.alloc (elt k)).heap[w.heap.size]? = some (elt k) := World.alloc_heap_new w _
  have hpc := fun W hW => keys_place.calls A0 c0 l0 k.f0 (i : Int) th W (Kd.C_below hr0 hW) hc0 hpl
  rw [addOf, hth, hout] at h
  have HH := Lib.hid h
  have HR := Lib.hid hR1
  have Hol := Lib.hid hol
  have Hr0 := Lib.hid hr0
  have Hbx := Lib.hid hbx
  have Hpc := Lib.hid hpc
  have hi0 : (0 : Int) ≤ (i : Int) := by omega
  have hb0 := box2_at hbx
  obtain ⟨d0, d1, d2⟩ := hb0
  unfold elt at d0 d1 d2
  have hBw : Below w.heap.size w (w.alloc (elt k)) := (Below.refl _ w).alloc (Nat.le_refl _) _
  unfold elt at hBw
  clear h hR1 hol hr0 hbx hpc hC1 hout hpl hth hi
  go_enter Try.func10, Try.ntmps10
  go_upto_region 2 with (go_at_call 23; refine (Hpc.out _ hBw).mono ?_; rintro e w1 ⟨rfl, hb1⟩)
  clear d0 d1 d2
  have s1 := hb1.size
  have hbx1 : w1.heap[w.heap.size]? = some (elt k) := (hb1.block _ (by rw [World.size_alloc]; omega)).trans Hbx.out
  have hB1 : Below w.heap.size w w1 := hBw.trans (hb1.mono (by rw [World.size_alloc]; omega))
  have hC1 := Kd.C_below Hr0.out hB1
  obtain ⟨wb, hwb⟩ : ∃ wb, w.heap.size = wb := ⟨_, rfl⟩
  rw [hwb] at hbx1 hB1 ⊢
  have Hwb := Lib.hid hwb
  clear hb1 s1 Hbx Hpc hBw hwb
  refine start_ (n := 7) (S := fun W => W.heap[wb]? = some (elt k) ∧ Kd.C k25 W A0 l0.length l0) (ds := [5]) #[false, false, false, false, false, false, false] (by kernel_rfl) rfl rfl ⟨hbx1, Kd.C_below hC1 (Below.drew (Below.refl _ _))⟩ (fun hHeld => ?_)
  have hB2 := hB1.drew
  generalize w1.drew = W0 at hHeld hB2 ⊢
  have hwbl := (Array.getElem?_eq_some_iff.1 hHeld.1).1
  clear hbx1 hB1 hC1
  refine pure_ (i := 0) (N := some 16) (v := ?_) (a' := ?_) #[true, false, false, false, false, false, false] rfl rfl (by kernel_rfl) (fun _ _ _ h => h) (Or.inl ⟨by rfl, ?_⟩) ?_ ?_
  rotate_left
  · intro w'
    go_simp
    try (with_reducible rfl)
  rotate_left
  · simp only [Act.put, List.setIfInBounds_toArray, List.set_cons_zero, List.set_cons_succ, i64_w, i32_w]
    rfl
  refine pure_ (i := 2) (N := some 18) (v := ?_) (a' := ?_) #[true, false, true, false, false, false, false] rfl rfl (by kernel_rfl) (fun _ _ _ h => h) (Or.inl ⟨by rfl, ?_⟩) ?_ ?_
  rotate_left
  · intro w'
    go_simp
    try (with_reducible rfl)
  rotate_left
  · simp only [Act.put, List.setIfInBounds_toArray, List.set_cons_zero, List.set_cons_succ, i64_w, i32_w]
    rfl
  refine take_ (i := 3) (N := some 19) (v := ?_) (a' := ?_) #[true, false, true, true, false, false, false] rfl rfl (by kernel_rfl) (fun _ _ _ h => h) (Or.inl ⟨by rfl, ?_⟩) hHeld ?_ ?_
  rotate_left
  · intro w' hS_
    obtain ⟨d0, d1, d2⟩ := box2_at hS_.1
    go_simp
    try (with_reducible rfl)
  rotate_left
  · simp only [Act.put, List.setIfInBounds_toArray, List.set_cons_zero, List.set_cons_succ, i64_w, i32_w]
    rfl
  refine two_ (i := 1) (j := 4) (Ni := some 17) (Nj := some 20) #[true, true, true, true, false, false, false] #[true, false, true, true, true, false, false] rfl rfl rfl rfl (by kernel_rfl) (by decide) (by decide) (fun K hK => ?one) (fun K hK => ?two)
  case' one =>
    refine goes_ Try.func25 (by kernel_rfl) rfl #[.slice A0 l0.length c0] (by rfl) rfl rfl (by (try simp only [List.map_toArray, List.map_cons, List.map_nil]); first | done | rfl) ?_
    refine (clone_calls A0 c0 l0 _ hHeld.2 (by omega)).mono ?_
    rintro e w2 ⟨v, rfl, hv, hb2⟩
    refine ⟨_, rfl, ?_⟩
    have hx2 := (hb2.block wb (Array.getElem?_eq_some_iff.1 hHeld.1).1).trans hHeld.1
    have hC2 := Kd.C_below hHeld.2 hb2
    refine hK.out _ _ ⟨hx2, hC2⟩ (fun hHeld1 => ?_)
    clear hK K
    refine one_ (i := 4) (N := some 20) #[true, true, true, true, true, false, false] rfl rfl (by kernel_rfl) (by decide) (fun K hK => ?_)
    refine event_step (v := .slice (some ⟨w2.heap.size, 0, none⟩) 1 1) (w1 := w2.alloc (elt k)) (by rfl) (by unfold elt; first | (go_simp; done) | (go_simp; rfl)) ?_
    have hgb : (w2.alloc (elt k)).heap[w2.heap.size]? = some (elt k) := World.alloc_heap_new _ _
    have hv3 : Kd.R k25 25 (w2.alloc (elt k)) wb (fun _ => True) v l0 := Kd.R_below (Kd.R_lower hv (by omega)) ((Below.refl _ _).alloc (Nat.le_refl _) _)
    have hvB : v.ownBlock ≠ some w2.heap.size := fun e => by
      have := own_lt (own25 hv) _ e
      omega
    have hB3 : Below wb w (w2.alloc (elt k)) := (hB2.trans (hb2.mono (by omega))).alloc (by have := hb2.size; omega) _
    refine hK.out _ _ ⟨(Below.heap_alloc _ _ _ (Array.getElem?_eq_some_iff.1 hx2).1).trans hx2, Kd.C_below hC2 ((Below.refl _ _).alloc (Nat.le_refl _) _)⟩ (fun hHeld2 => ?_)
    have hws : wb ≤ (w2.alloc (elt k)).heap.size := by have := hb2.size; rw [World.size_alloc]; omega
    clear hK K hHeld1 hHeld hx2 hC2 hv hb2
    generalize w2.heap.size = gb at *
    generalize w2.alloc (elt k) = w3 at *
  case' two =>
    refine event_step (v := .slice (some ⟨W0.heap.size, 0, none⟩) 1 1) (w1 := W0.alloc (elt k)) (by rfl) (by unfold elt; first | (go_simp; done) | (go_simp; rfl)) ?_
    have hgb0 : (W0.alloc (elt k)).heap[W0.heap.size]? = some (elt k) := World.alloc_heap_new _ _
    have hx1 := (Below.heap_alloc W0 (elt k) _ (Array.getElem?_eq_some_iff.1 hHeld.1).1).trans hHeld.1
    have hC1 := Kd.C_below hHeld.2 ((Below.refl _ _).alloc (Nat.le_refl _) (elt k))
    refine hK.out _ _ ⟨hx1, hC1⟩ (fun hHeld1 => ?_)
    clear hK K
    have hB2' : Below wb w (W0.alloc (elt k)) := hB2.alloc (by omega) _
    refine one_ (i := 1) (N := some 17) #[true, true, true, true, true, false, false] rfl rfl (by kernel_rfl) (by decide) (fun K hK => ?_)
    refine goes_ Try.func25 (by kernel_rfl) rfl #[.slice A0 l0.length c0] (by rfl) rfl rfl (by (try simp only [List.map_toArray, List.map_cons, List.map_nil]); first | done | rfl) ?_
    refine (clone_calls A0 c0 l0 _ hC1 (by omega)).mono ?_
    rintro e w3 ⟨v, rfl, hv, hb2⟩
    refine ⟨_, rfl, ?_⟩
    have hgb := (hb2.block W0.heap.size (by rw [World.size_alloc]; omega)).trans hgb0
    have hv3 : Kd.R k25 25 w3 wb (fun _ => True) v l0 := Kd.R_lower hv (by rw [World.size_alloc]; omega)
    have hvB : v.ownBlock ≠ some W0.heap.size := fun e => by
      have := own_base (own25 hv) _ e
      rw [World.size_alloc] at this
      omega
    have hB3 : Below wb w w3 := hB2'.trans (hb2.mono (by rw [World.size_alloc]; omega))
    refine hK.out _ _ ⟨(hb2.block _ (Array.getElem?_eq_some_iff.1 hx1).1).trans hx1, Kd.C_below hC1 hb2⟩ (fun hHeld2 => ?_)
    have hws : wb ≤ w3.heap.size := by have := hb2.size; rw [World.size_alloc] at this; omega
    clear hK K hHeld1 hHeld hx1 hC1 hv hb2 hB2' hgb0
    generalize W0.heap.size = gb at *
  all_goals
    refine last_ (i := 5) (N := some 21) #[true, true, true, true, true, true, false] rfl rfl (by kernel_rfl) (by decide) (fun K hK => ?_)
    refine goes_ Try.func24 (by kernel_rfl) rfl #[v, .int .i64 (i : Int), .slice (some ⟨gb, 0, none⟩) 1 1] (by rfl) rfl rfl (by (try simp only [List.map_toArray, List.map_cons, List.map_nil]); first | done | rfl) ?_
    refine (insert_calls v gb i k l0 wb w w3 hv3 hvB hgb hil (by omega) hB3 hws).mono ?_
    rintro e w4 ⟨v4, rfl, hv4, hB4⟩
    refine ⟨_, rfl, ?_⟩
    refine hK.out _ _ ?_
    clear hK K hv3 hvB hgb hHeld2 hB3 hws
    refine pure_ (i := 6) (N := some 8) (v := ?_) (a' := ?_) #[true, true, true, true, true, true, true] rfl rfl (by kernel_rfl) (fun _ _ _ h => h) (Or.inl ⟨by rfl, ?_⟩) ?_ ?_
    rotate_left
    · intro w'
      go_simp
      try (with_reducible rfl)
    rotate_left
    · simp only [Act.put, List.setIfInBounds_toArray, List.set_cons_zero, List.set_cons_succ, List.getElem_toArray, List.getElem_cons_succ, List.getElem_cons_zero, i64_w, i32_w]
      rfl
    refine done_ (by kernel_rfl) ?_
    have hBe : Below w.heap.size w w4 := by rw [Hwb.out]; exact hB4
    have hC4 := Kd.C_below Hr0.out hBe
    obtain ⟨A4, c4, rfl, hl4, hC5⟩ := Kd.R_reads hv4
    have hRl := fun W hW => keys_Right.calls A0 c0 l0 (rightB l0) W (Kd.C_below hC4 hW) hc0 (HR.out l0 (by omega))
    have hRo := fun W hW => keys_Right.calls A4 c4 _ (rightB (l0.take i ++ [k] ++ l0.drop i)) W (Kd.C_below hC5 hW) hl4 (HR.out _ (by rw [Hol.out]; omega))
    have hv5 : Kd.R k25 25 w4 w.heap.size (fun _ => True) (.slice A4 (l0.take i ++ [k] ++ l0.drop i).length c4) (l0.take i ++ [k] ++ l0.drop i) := by rw [Hwb.out]; exact hv4
    have h4s := hBe.size
    obtain ⟨ol, hole⟩ : ∃ ol, l0.take i ++ [k] ++ l0.drop i = ol := ⟨_, rfl⟩
    rw [hole] at hv5 hRo hl4
    have HHo := HH.out
    rw [hole] at HHo
    obtain ⟨b1, hb1⟩ : ∃ b1, rightB l0 = b1 := ⟨_, rfl⟩
    obtain ⟨b2, hb2⟩ : ∃ b2, rightB ol = b2 := ⟨_, rfl⟩
    rw [hb1] at HHo hRl
    rw [hb2] at HHo hRo
    rw [hole]
    have Hv5 := Lib.hid hv5
    have HRl := Lib.hid hRl
    have HRo := Lib.hid hRo
    have HC5 := Lib.hid hC5
    clear hv5 hRl hRo hb1 hb2 hC5 hC4 hv4 HH Hol hole
    cases th with
    | true =>
      rw [if_neg (by simp)] at HHo
      obtain ⟨rfl, rfl⟩ := Prod.mk.inj HHo
      clear HHo
      go_wp2
      go_ret2
      exact ⟨_, rfl, Kd.R_nil _ _ _ _ _, hBe⟩
    | false =>
      cases b1 with
      | false =>
        rw [if_neg (by simp)] at HHo
        obtain ⟨rfl, rfl⟩ := Prod.mk.inj HHo
        clear HHo
        go_wp2_with (go_at_call 18; refine (HRl.out _ (Below.refl _ _)).mono ?_; rintro e w5 ⟨rfl, hb5⟩)
        go_ret2
        exact ⟨_, rfl, Kd.R_nil _ _ _ _ _, hBe.trans (hb5.mono h4s)⟩
      | true =>
        cases b2 with
        | false =>
          rw [if_neg (by simp)] at HHo
          obtain ⟨rfl, rfl⟩ := Prod.mk.inj HHo
          clear HHo
          go_wp2_with fail
          refine (HRl.out _ (Below.refl _ _)).mono ?_
          rintro e w5 ⟨rfl, hb5⟩
          go_wp2_with fail
          refine (HRo.out _ hb5).mono ?_
          rintro e w6 ⟨rfl, hb6⟩
          go_wp2
          go_ret2
          exact ⟨_, rfl, Kd.R_nil _ _ _ _ _, (hBe.trans (hb5.mono h4s)).trans (hb6.mono (by have := hb5.size; omega))⟩
        | true =>
          rw [if_pos ⟨rfl, rfl, rfl⟩] at HHo
          obtain ⟨rfl, rfl⟩ := Prod.mk.inj HHo
          clear HHo
          go_wp2_with fail
          refine (HRl.out _ (Below.refl _ _)).mono ?_
          rintro e w5 ⟨rfl, hb5⟩
          go_wp2_with fail
          refine (HRo.out _ hb5).mono ?_
          rintro e w6 ⟨rfl, hb6⟩
          go_wp2
          go_ret2
          exact ⟨_, rfl, Kd.R_below (Kd.R_below Hv5.out hb5) hb6, (hBe.trans (hb5.mono h4s)).trans (hb6.mono (by have := hb5.size; omega))⟩

end Go.Proofs.Ytdoaohmjhbefdaa.H
