/- A key's subkeys: the walks of keys.Subs and of the reference's. -/
import Derived.Test.YtobjhddiieaafaaDoorM15
import Derived.Test.YtobjhddiieaafaaDoorK3
import Derived.Test.YtobjhddiieaafaaDoorH3
import Derived.Test.YtobjhddiieaafaaDoorH3
namespace Go.Proofs.YtobjhddiieaafaaDoor.S
open Go.Proofs.YtobjhddiieaafaaDoor.H Go.Proofs.YtobjhddiieaafaaDoor.M
open Go.RowKit Go.Shelf Go.Proofs.YtobjhddiieaafaaDoorW.PrintWords Go.Proofs.YtobjhddiieaafaaDoorW.PrintLast Go.Proofs.YtobjhddiieaafaaDoorW.PrintMore Go.Proofs.YtobjhddiieaafaaDoor.Plain Go.Proofs.YtobjhddiieaafaaDoor.RowOf Go.Proofs.YtobjhddiieaafaaDoor.Le
attribute [local go_sem] Oper.semAt_some
set_option linter.unusedVariables false
set_option linter.unusedSimpArgs false
set_option maxRecDepth 100000

theorem one_C {W : World} {N : Nat} {g : Int} {s : ByteArray} (h : W.heap[N]? = some (.cells #[.int .u32 g, .string s] 24 (0, 0))) : Kd.C k24 W (some ⟨N, 0, none⟩) 1 [⟨g, s⟩] := by
  obtain ⟨h0, h1, _⟩ := box2_at h
  refine ⟨rfl, by decide, fun _ => ⟨_, rfl, fun j p hj => ?_⟩⟩
  match j, hj with
  | 0, hj =>
    cases hj
    refine ⟨[.int .u32 g, .string s], rfl, ⟨[.int .u32 g], [.string s], rfl, rfl, rfl⟩, fun i u hu => ?_⟩
    match i, hu with
    | 0, hu => cases hu; exact h0
    | 1, hu => cases hu; exact h1
  | j + 1, hj => cases hj
theorem right1 (g : Int) (s : ByteArray) : rightB [⟨g, s⟩] = (decide (0 < g) && ((s.size : Int) == 32)) := by
  simp [rightB, gens, okK]
theorem rright1 (g : Int) (s : ByteArray) : sphragisref04_Right.f 2 [⟨g, s⟩] = some (rightB [⟨g, s⟩]) := by
  rw [right1]
  unfold sphragisref04_Right.f
  rw [if_neg (by simp)]
  rw [sphragisref04_Right.l0, if_pos (by simp), if_pos (by omega)]
  show (if g ≤ 0 then _ else _) = _
  by_cases h1 : g ≤ 0
  · rw [if_pos h1, decide_eq_false (by omega)]
    rfl
  · rw [if_neg h1, decide_eq_true (by omega)]
    show (if (s.size : Int) = 32 then _ else _) = _
    by_cases h2 : (s.size : Int) = 32
    · rw [if_pos h2, h2]
      rw [sphragisref04_Right.l0, if_neg (by unfold wrap64; simp)]
      rfl
    · rw [if_neg h2, beq_eq_false_iff_ne.2 h2]
      rfl
theorem Right1 (g : Int) (s : ByteArray) (b : Bool) (hb : rightB [⟨g, s⟩] = b) (w : World) (N : Nat) (hN : w.heap.size = N) :
    Calls Tryd.prog 10 #[.slice (some ⟨N, 0, none⟩) 1 1] (w.alloc (.cells #[.int .u32 g, .string s] 24)) fun e w' => e = .returned (.bool b) ∧ Below w.heap.size w w' := by
  subst hN
  have h := keys_Right.calls (some ⟨w.heap.size, 0, none⟩) 1 [⟨g, s⟩] b (w.alloc (.cells #[.int .u32 g, .string s] 24)) (one_C (World.alloc_heap_new w _)) (Nat.le_refl 1) (by rw [keys_Right.f, if_pos (show [(⟨g, s⟩ : S24)].length ≤ 5864062014805 by simp), hb])
  refine h.mono ?_
  rintro e w' ⟨he, hb2⟩
  have hb1 : Below w.heap.size w (w.alloc (.cells #[.int .u32 g, .string s] 24)) := (Below.refl _ w).alloc (Nat.le_refl _) _
  exact ⟨he, hb1.trans (hb2.mono hb1.size)⟩
theorem RRight1 (g : Int) (s : ByteArray) (b : Bool) (hb : rightB [⟨g, s⟩] = b) (w : World) (N : Nat) (hN : w.heap.size = N) :
    Calls Tryd.prog 15 #[.slice (some ⟨N, 0, none⟩) 1 1] (w.alloc (.cells #[.int .u32 g, .string s] 24)) fun e w' => e = .returned (.bool b) ∧ Below w.heap.size w w' := by
  subst hN
  have h := sphragisref04_Right.calls 2 (some ⟨w.heap.size, 0, none⟩) 1 [⟨g, s⟩] b (w.alloc (.cells #[.int .u32 g, .string s] 24)) (one_C (World.alloc_heap_new w _)) (Nat.le_refl 1) (by rw [rright1, hb])
  refine h.mono ?_
  rintro e w' ⟨he, nd, rfl⟩
  have hb1 : Below w.heap.size w (w.alloc (.cells #[.int .u32 g, .string s] 24)) := (Below.refl _ w).alloc (Nat.le_refl _) _
  exact ⟨he, pw_below_drewN hb1 nd⟩

/-- The box of a key. -/
def KBox (w : World) (N : Nat) (g : Int) (s : ByteArray) : Prop := w.heap[N]? = some (.cells #[.int .u32 g, .string s] 24 (0, 0))
theorem KBox.kept {w w2 : World} {N M : Nat} {g : Int} {s : ByteArray} (h : KBox w N g s) (hb : Below M w w2) (hM : N < M) : KBox w2 N g s := (hb.block N hM).trans h

theorem shown_true : sphragislaw04_shown.f 200 = some true := by decide +kernel
theorem shown_ok (w : World) : Calls Tryd.prog 5 #[] w fun e w' => e = .returned (.bool true) ∧ Below w.heap.size w w' :=
  sphragislaw04_shown.calls 200 true w shown_true

/-- A generation's four bytes, and the two subkeys. -/
def lab (g : Int) : ByteArray := strOfNums [g % 256, g / 256 % 256, g / 65536 % 256, g / 16777216 % 256]
theorem lab_size (g : Int) : (lab g).size = 4 := by
  rw [ba_size]
  simp [lab, strOfNums]
def subK (p : ByteArray) (g : Int) (s : ByteArray) : ByteArray := ⟨(expd s.data.toList (p ++ lab g).data.toList 32).toArray⟩
theorem subK_size (p : ByteArray) (g : Int) (s : ByteArray) : (subK p g s).size = 32 := by
  rw [ba_size, subK, ba_mk, expd_len _ _ _ (by decide)]
theorem conv4 (W : World) (a b c d : Int) : (convert 41 9 (.slice (some ⟨W.heap.size, 0, none⟩) 4 4)).run Tryd.prog (W.alloc (.cells #[.int .u8 a, .int .u8 b, .int .u8 c, .int .u8 d] 5 (0, 0))) = .ok (.string (strOfNums [a, b, c, d])) (W.alloc (.cells #[.int .u8 a, .int .u8 b, .int .u8 c, .int .u8 d] 5 (0, 0))) :=
  own_string (base := 0) (e' := 5) (n := 4) (xs := [a, b, c, d]) Tryd.underlying41 Tryd.underlying5 Tryd.underlying9 ⟨rfl, .inr ⟨_, 4, _, rfl, Nat.zero_le _, World.alloc_heap_new W _, by decide, by decide, rfl, rfl⟩⟩

set_option maxHeartbeats 2000000 in
theorem Subs_calls (g : Int) (s : ByteArray) (hr : rightB [⟨g, s⟩] = true) (hs : s.size = 32) (w : World) (hT : Tabs w Kc Fc) :
    Calls Tryd.prog 6 #[.agg #[.int .u32 g, .string s]] w fun e w' => e = .returned (.tuple #[.string (subK ⟨#[115, 101, 97, 108]⟩ g s), .string (subK ⟨#[98, 105, 110, 100]⟩ g s), .int .i64 0]) ∧ Below w.heap.size w w' := by
  obtain ⟨N, hN⟩ : ∃ N, w.heap.size = N := ⟨_, rfl⟩
  have hL := Low.mk' hN hT
  go_enter Tryd.func6, Tryd.ntmps6
  go_wp2_with fail
  have hb0 : Below N w (w.alloc (.cells #[.int .u32 g, .string s] 24)) := (Below.refl N w).alloc (by omega) _
  have hs0 : (w.alloc (.cells #[.int .u32 g, .string s] 24)).heap.size = N + 1 := by rw [World.size_alloc, hN]
  have hk0 : KBox (w.alloc (.cells #[.int .u32 g, .string s] 24)) N g s := by rw [← hN]; exact World.alloc_heap_new _ _
  generalize w.alloc (.cells #[.int .u32 g, .string s] 24) = W0 at *
  refine (Right1 g s true hr W0 (N + 1) hs0).mono ?_
  rintro e w1 ⟨rfl, hb1⟩
  rw [hs0] at hb1
  have hk1 := hk0.kept hb1 (Nat.lt_succ_self N)
  have hB1 : Below N w w1 := hb0.trans (hb1.mono (by omega))
  clear hb0 hk0 hb1
  obtain ⟨c0, c1, _⟩ := box2_at hk1
  have hcv := conv4 w1 (g % 256) (g / 256 % 256) (g / 65536 % 256) (g / 16777216 % 256)
  obtain ⟨o, ho⟩ : ∃ o : ByteArray, strOfNums [g % 256, g / 256 % 256, g / 65536 % 256, g / 16777216 % 256] = o := ⟨_, rfl⟩
  have hos : o.size = 4 := by rw [← ho]; exact lab_size g
  rw [ho] at hcv
  obtain ⟨u, hu⟩ : ∃ u : ByteArray, (⟨#[115, 101, 97, 108]⟩ : ByteArray) ++ o = u := ⟨_, rfl⟩
  obtain ⟨v, hv⟩ : ∃ v : ByteArray, (⟨#[98, 105, 110, 100]⟩ : ByteArray) ++ o = v := ⟨_, rfl⟩
  have hus : u.size = 8 := by rw [← hu, ByteArray.size_append, hos]; rfl
  have hvs : v.size = 8 := by rw [← hv, ByteArray.size_append, hos]; rfl
  have h63 := eq_false (show ¬ (9223372036854775807 < 4 + o.size) by omega)
  have hb2 : Below N w (w1.alloc (.cells #[.int .u8 (g % 256), .int .u8 (g / 256 % 256), .int .u8 (g / 65536 % 256), .int .u8 (g / 16777216 % 256)] 5)) := hB1.alloc (by have := hB1.size; omega) _
  have hk2 : KBox (w1.alloc (.cells #[.int .u8 (g % 256), .int .u8 (g / 256 % 256), .int .u8 (g / 65536 % 256), .int .u8 (g / 16777216 % 256)] 5)) N g s := by
    have hl := (Array.getElem?_eq_some_iff.1 hk1).1
    exact (((Below.refl w1.heap.size w1).alloc (Nat.le_refl _) _).block N hl).trans hk1
  obtain ⟨d0, d1, _⟩ := box2_at hk2
  have hN2 : N < (w1.alloc (.cells #[.int .u8 (g % 256), .int .u8 (g / 256 % 256), .int .u8 (g / 65536 % 256), .int .u8 (g / 16777216 % 256)] 5)).heap.size := (Array.getElem?_eq_some_iff.1 hk2).1
  have HO := Lib.hid ho
  have hNs := hB1.size
  clear ho
  go_wp2_with fail
  refine (Expand_calls s u 32 (by omega) (by omega) (by decide) _ (hL.at hb2)).mono ?_
  rintro e w3 ⟨rfl, hb3⟩
  obtain ⟨X, hX⟩ : ∃ X : ByteArray, (⟨(expd s.data.toList u.data.toList 32).toArray⟩ : ByteArray) = X := ⟨_, rfl⟩
  rw [hX]
  have hk3 := hk2.kept hb3 hN2
  have hB3 := bst hN hb2 hb3
  obtain ⟨e0, e1, _⟩ := box2_at hk3
  have HX := Lib.hid hX
  clear hX hb3 hcv hb2 hk2 d0 d1 c0 c1 hk1 hN2
  go_wp2_with fail
  refine (Expand_calls s v 32 (by omega) (by omega) (by decide) _ (hL.at hB3)).mono ?_
  rintro e w4 ⟨rfl, hb4⟩
  obtain ⟨Y, hY⟩ : ∃ Y : ByteArray, (⟨(expd s.data.toList v.data.toList 32).toArray⟩ : ByteArray) = Y := ⟨_, rfl⟩
  rw [hY]
  have hB4 := bst hN hB3 hb4
  have HY := Lib.hid hY
  clear hY hb4 e0 e1 hk3
  go_wp2
  go_ret3
  refine ⟨?_, by rw [hN]; exact hB4⟩
  show Ending.returned (.tuple #[.string X, .string Y, .int .i64 0]) = _
  rw [subK, subK, lab, HO.out, hu, hv, HX.out, HY.out]

set_option maxHeartbeats 2000000 in
theorem RSubs_calls (g : Int) (s : ByteArray) (hr : rightB [⟨g, s⟩] = true) (hs : s.size = 32) (w : World) (hG : Glob w 0 Kc) :
    Calls Tryd.prog 7 #[.agg #[.int .u32 g, .string s]] w fun e w' => e = .returned (.tuple #[.string (subK ⟨#[115, 101, 97, 108]⟩ g s), .string (subK ⟨#[98, 105, 110, 100]⟩ g s), .int .i64 0]) ∧ Below w.heap.size w w' := by
  obtain ⟨N, hN⟩ : ∃ N, w.heap.size = N := ⟨_, rfl⟩
  have hgK : 0 < N := by rw [← hN]; exact hG.lt
  go_enter Tryd.func7, Tryd.ntmps7
  go_wp2_with fail
  have hb0 : Below N w (w.alloc (.cells #[.int .u32 g, .string s] 24)) := (Below.refl N w).alloc (by omega) _
  have hs0 : (w.alloc (.cells #[.int .u32 g, .string s] 24)).heap.size = N + 1 := by rw [World.size_alloc, hN]
  have hk0 : KBox (w.alloc (.cells #[.int .u32 g, .string s] 24)) N g s := by rw [← hN]; exact World.alloc_heap_new _ _
  generalize w.alloc (.cells #[.int .u32 g, .string s] 24) = W0 at *
  refine (RRight1 g s true hr W0 (N + 1) hs0).mono ?_
  rintro e w1 ⟨rfl, hb1⟩
  rw [hs0] at hb1
  have hk1 := hk0.kept hb1 (Nat.lt_succ_self N)
  have hB1 : Below N w w1 := hb0.trans (hb1.mono (by omega))
  clear hb0 hk0 hb1
  obtain ⟨c0, c1, _⟩ := box2_at hk1
  have hcv := conv4 w1 (g % 256) (g / 256 % 256) (g / 65536 % 256) (g / 16777216 % 256)
  obtain ⟨o, ho⟩ : ∃ o : ByteArray, strOfNums [g % 256, g / 256 % 256, g / 65536 % 256, g / 16777216 % 256] = o := ⟨_, rfl⟩
  have hos : o.size = 4 := by rw [← ho]; exact lab_size g
  rw [ho] at hcv
  obtain ⟨u, hu⟩ : ∃ u : ByteArray, (⟨#[115, 101, 97, 108]⟩ : ByteArray) ++ o = u := ⟨_, rfl⟩
  obtain ⟨v, hv⟩ : ∃ v : ByteArray, (⟨#[98, 105, 110, 100]⟩ : ByteArray) ++ o = v := ⟨_, rfl⟩
  have hus : u.size = 8 := by rw [← hu, ByteArray.size_append, hos]; rfl
  have hvs : v.size = 8 := by rw [← hv, ByteArray.size_append, hos]; rfl
  have h63 := eq_false (show ¬ (9223372036854775807 < 4 + o.size) by omega)
  have hb2 : Below N w (w1.alloc (.cells #[.int .u8 (g % 256), .int .u8 (g / 256 % 256), .int .u8 (g / 65536 % 256), .int .u8 (g / 16777216 % 256)] 5)) := hB1.alloc (by have := hB1.size; omega) _
  have hk2 : KBox (w1.alloc (.cells #[.int .u8 (g % 256), .int .u8 (g / 256 % 256), .int .u8 (g / 65536 % 256), .int .u8 (g / 16777216 % 256)] 5)) N g s := by
    have hl := (Array.getElem?_eq_some_iff.1 hk1).1
    exact (((Below.refl w1.heap.size w1).alloc (Nat.le_refl _) _).block N hl).trans hk1
  obtain ⟨d0, d1, _⟩ := box2_at hk2
  have hN2 : N < (w1.alloc (.cells #[.int .u8 (g % 256), .int .u8 (g / 256 % 256), .int .u8 (g / 65536 % 256), .int .u8 (g / 16777216 % 256)] 5)).heap.size := (Array.getElem?_eq_some_iff.1 hk2).1
  have HO := Lib.hid ho
  have hNs := hB1.size
  clear ho
  go_wp2_with fail
  refine (refExpand_calls s u 32 (by omega) (by omega) (by decide) _ (hG.below hb2 hgK)).mono ?_
  rintro e w3 ⟨rfl, hb3⟩
  obtain ⟨X, hX⟩ : ∃ X : ByteArray, (⟨(expd s.data.toList u.data.toList 32).toArray⟩ : ByteArray) = X := ⟨_, rfl⟩
  rw [hX]
  have hk3 := hk2.kept hb3 hN2
  have hB3 := bst hN hb2 hb3
  obtain ⟨e0, e1, _⟩ := box2_at hk3
  have HX := Lib.hid hX
  clear hX hb3 hcv hb2 hk2 d0 d1 c0 c1 hk1 hN2
  go_wp2_with fail
  refine (refExpand_calls s v 32 (by omega) (by omega) (by decide) _ (hG.below hB3 hgK)).mono ?_
  rintro e w4 ⟨rfl, hb4⟩
  obtain ⟨Y, hY⟩ : ∃ Y : ByteArray, (⟨(expd s.data.toList v.data.toList 32).toArray⟩ : ByteArray) = Y := ⟨_, rfl⟩
  rw [hY]
  have hB4 := bst hN hB3 hb4
  have HY := Lib.hid hY
  clear hY hb4 e0 e1 hk3
  go_wp2
  go_ret3
  refine ⟨?_, by rw [hN]; exact hB4⟩
  show Ending.returned (.tuple #[.string X, .string Y, .int .i64 0]) = _
  rw [subK, subK, lab, HO.out, hu, hv, HX.out, HY.out]

set_option maxHeartbeats 2000000 in
theorem Subs_bad (g : Int) (s : ByteArray) (hr : rightB [⟨g, s⟩] = false) (w : World) :
    Calls Tryd.prog 6 #[.agg #[.int .u32 g, .string s]] w fun e w' => e = .returned (.tuple #[.string ⟨#[]⟩, .string ⟨#[]⟩, .int .i64 40]) ∧ Below w.heap.size w w' := by
  obtain ⟨N, hN⟩ : ∃ N, w.heap.size = N := ⟨_, rfl⟩
  go_enter Tryd.func6, Tryd.ntmps6
  go_wp2_with fail
  have hb0 : Below N w (w.alloc (.cells #[.int .u32 g, .string s] 24)) := (Below.refl N w).alloc (by omega) _
  have hs0 : (w.alloc (.cells #[.int .u32 g, .string s] 24)).heap.size = N + 1 := by rw [World.size_alloc, hN]
  have hk0 : KBox (w.alloc (.cells #[.int .u32 g, .string s] 24)) N g s := by rw [← hN]; exact World.alloc_heap_new _ _
  generalize w.alloc (.cells #[.int .u32 g, .string s] 24) = W0 at *
  refine (Right1 g s false hr W0 (N + 1) hs0).mono ?_
  rintro e w1 ⟨rfl, hb1⟩
  rw [hs0] at hb1
  have hk1 := hk0.kept hb1 (Nat.lt_succ_self N)
  have hB1 : Below N w w1 := hb0.trans (hb1.mono (by omega))
  clear hb0 hk0 hb1
  go_wp2
  go_ret3
  exact ⟨rfl, by rw [hN]; exact hB1⟩

set_option maxHeartbeats 2000000 in
theorem RSubs_bad (g : Int) (s : ByteArray) (hr : rightB [⟨g, s⟩] = false) (w : World) :
    Calls Tryd.prog 7 #[.agg #[.int .u32 g, .string s]] w fun e w' => e = .returned (.tuple #[.string ⟨#[]⟩, .string ⟨#[]⟩, .int .i64 40]) ∧ Below w.heap.size w w' := by
  obtain ⟨N, hN⟩ : ∃ N, w.heap.size = N := ⟨_, rfl⟩
  go_enter Tryd.func7, Tryd.ntmps7
  go_wp2_with fail
  have hb0 : Below N w (w.alloc (.cells #[.int .u32 g, .string s] 24)) := (Below.refl N w).alloc (by omega) _
  have hs0 : (w.alloc (.cells #[.int .u32 g, .string s] 24)).heap.size = N + 1 := by rw [World.size_alloc, hN]
  have hk0 : KBox (w.alloc (.cells #[.int .u32 g, .string s] 24)) N g s := by rw [← hN]; exact World.alloc_heap_new _ _
  generalize w.alloc (.cells #[.int .u32 g, .string s] 24) = W0 at *
  refine (RRight1 g s false hr W0 (N + 1) hs0).mono ?_
  rintro e w1 ⟨rfl, hb1⟩
  rw [hs0] at hb1
  have hk1 := hk0.kept hb1 (Nat.lt_succ_self N)
  have hB1 : Below N w w1 := hb0.trans (hb1.mono (by omega))
  clear hb0 hk0 hb1
  go_wp2
  go_ret3
  exact ⟨rfl, by rw [hN]; exact hB1⟩

end Go.Proofs.YtobjhddiieaafaaDoor.S
