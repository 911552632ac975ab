/- mac.Mac: the walk. -/
import Derived.Test.YtmkeiaomclpdfaaDoorG12
import Derived.Laws.AppendOwnNone
namespace Go.Proofs.YtmkeiaomclpdfaaDoor.H
open Go.RowKit Go.Shelf Go.Proofs.YtmkeiaomclpdfaaDoorW.PrintWords Go.Proofs.YtmkeiaomclpdfaaDoorW.PrintLast Go.Proofs.YtmkeiaomclpdfaaDoorW.PrintMore Go.Proofs.YtmkeiaomclpdfaaDoor.Plain Go.Proofs.YtmkeiaomclpdfaaDoor.RowOf Go.Proofs.YtmkeiaomclpdfaaDoor.Le
attribute [local go_sem] Oper.semAt_some
set_option linter.unusedVariables false
set_option linter.unusedSimpArgs false

theorem info9 : (Tryd.prog.info? 9).map (fun i => (i.zero, i.size, i.bytes)) = some (some (.string ⟨#[]⟩), 1, 16) := by kernel_rfl
theorem strs_cells {W : World} {g T : Nat} {cs : Array Value} {fz : Nat × Nat} (l : List ByteArray) (h : W.heap[g]? = some (.cells cs T fz)) (hc : ∀ (j : Nat) (x : ByteArray), l[j]? = some x → cs[j]? = some (.string x)) : Strs W (some ⟨g, 0, none⟩) l := by
  refine .inr ⟨g, 0, rfl, (Array.getElem?_eq_some_iff.1 h).1, fun j x hj => ?_⟩
  rw [Nat.zero_add, Lib.cell_of_heap h]
  exact hc j x hj
theorem strs_own {W : World} {B T : Nat} {v : Value} (l : List ByteArray) (hl : l ≠ []) (h : W.ownsRow B T 1 v l.length (l.map Value.string)) : ∃ g c, v = .slice (some ⟨g, 0, none⟩) l.length c ∧ Strs W (some ⟨g, 0, none⟩) l := by
  obtain ⟨h1, h2 | ⟨g, cap, cur, hv, hg, hh, hc, hm, hs, ht⟩⟩ := h
  · exact absurd (List.length_eq_zero_iff.1 h2.2) hl
  · refine ⟨g, cap, hv, strs_cells l hh (fun j x hj => ?_)⟩
    have hlt : j < l.length := (List.getElem?_eq_some_iff.1 hj).1
    have e : (cur.toList.take (l.length * 1))[j]? = some (.string x) := by rw [ht, List.getElem?_map, hj]; rfl
    rw [List.getElem?_take, if_pos (by omega), Array.getElem?_toList] at e
    exact e
theorem flat_cons (x : ByteArray) (l : List ByteArray) : flat (x :: l) = x.data.toList ++ flat l := by simp [flat]
theorem flat_two (x y : ByteArray) : flat [x, y] = x.data.toList ++ y.data.toList := by simp [flat]

set_option maxRecDepth 100000 in
set_option maxHeartbeats 1000000 in
theorem Mac_calls (key : ByteArray) (A : Option Addr) (cp : Nat) (l : List ByteArray) (hk : key.size ≤ 1099511627776) (hfl : (flat l).length ≤ 1099511620000) (hll : l.length ≤ 1099511620000) (w : World) (hA : Strs w A l) (hn : A = none → cp = 0) (hT : Tabs w Kc Fc) :
    Calls Tryd.prog 11 #[.string key, .slice A l.length cp] w fun e w' => e = .returned (.string ⟨(macL key.data.toList (flat l)).toArray⟩) ∧ Below w.heap.size w w' := by
  obtain ⟨N, hN⟩ : ∃ N, w.heap.size = N := ⟨_, rfl⟩
  have hL := Low.mk' hN hT
  obtain ⟨i0, hi, hz0, hz1, hz2⟩ := info_parts info9
  rw [hN]
  obtain ⟨m, hm⟩ : ∃ m, l.length = m := ⟨_, rfl⟩
  rw [hm]
  have hm0 : (0 : Int) ≤ (m : Int) := by omega
  have Hm := Lib.hid hm
  clear hm
  go_enter Tryd.func11, Tryd.ntmps11
  go_wp2_with fail
  refine (part_calls key 54 54 rfl hk _ hT).mono ?_
  rintro e w1 ⟨rfl, hb1⟩
  rw [hN] at hb1
  have hA1 := hA.below (Nat.le_of_eq hN) hb1
  obtain ⟨X, hX⟩ : ∃ X : ByteArray, (⟨(kxor 54 key.data.toList).toArray⟩ : ByteArray) = X := ⟨_, rfl⟩
  rw [hX]
  have hXl : X.data.toList = kxor 54 key.data.toList := by rw [← hX, ba_mk]
  have hXs : X.size = 64 := by rw [ba_size, hXl, kxor_len]
  have hfx : (flat (X :: l)).length ≤ 1099511627776 := by rw [flat_cons, List.length_append, ← ba_size]; omega
  have HXl := Lib.hid hXl
  have hn1N : N ≤ w1.heap.size := by have := hb1.size; omega
  have hb2 : Below N w (w1.alloc (.cells #[.string X] 9)) := hb1.alloc (by omega) _
  have hA2 : Strs (w1.alloc (.cells #[.string X] 9)) A l := hA1.below (Nat.le_refl _) ((Below.refl _ w1).alloc (Nat.le_refl _) _)
  have hown : (w1.alloc (.cells #[.string X] 9)).ownsRow N 9 1 (.slice (some ⟨w1.heap.size, 0, none⟩) 1 1) 1 [.string X] :=
    ⟨rfl, .inr ⟨w1.heap.size, 1, _, rfl, hn1N, World.alloc_heap_new w1 _, by decide, by decide, rfl, rfl⟩⟩
  have hs2 : N ≤ (w1.alloc (.cells #[.string X] 9)).heap.size := by rw [World.size_alloc]; omega
  clear hX hXl hA hA1 hb1 hXs
  have key2 : ∀ (v2 : Value) (w2 : World), w2.ownsRow N 9 1 v2 (1 + m) ([.string X] ++ l.map Value.string) → ∃ g c, v2 = .slice (some ⟨g, 0, none⟩) (X :: l).length c ∧ Strs w2 (some ⟨g, 0, none⟩) (X :: l) := by
    intro v2 w2 h
    refine strs_own (B := N) (T := 9) (X :: l) (by simp) ?_
    have e : (X :: l).length = 1 + m := by rw [List.length_cons, Hm.out, Nat.add_comm]
    rw [e]
    exact h
  have Key2 := Lib.hid key2
  clear key2
  cases A
  case' none =>
    obtain rfl := hn rfl
    have hl0 : l = [] := by
      rcases hA2 with h | ⟨b, o, h, _⟩
      · exact h
      · cases h
    have hm00 : m = 0 := by rw [← Hm.out, hl0]; rfl
    subst hm00
    have Hl0 := Lib.hid hl0
    clear hA2 hl0
    go_wp2_with (at_builtin; refine wpList_append_own_none _ rfl _ _ 29 rfl N 9 i0 1 Tryd.underlying29 hi _ 1 _ rfl hown rfl ?_)
    obtain ⟨g, c, hv, hS⟩ := Key2.out _ _ (by rw [Hl0.out]; exact hown)
    rw [hv]
    generalize w1.alloc (.cells #[.string X] 9) = w2 at *
  case' some ad =>
    have hc : ∀ (j : Nat) (u : Value), (l.map Value.string)[j]? = some u → (w1.alloc (.cells #[.string X] 9)).cell? (ad.add j) = some u := by
      intro j u hj
      rw [List.getElem?_map, Option.map_eq_some_iff] at hj
      obtain ⟨x, hx, rfl⟩ := hj
      rcases hA2 with h | ⟨b, o, h, _, h3⟩
      · rw [h] at hx; cases hx
      · obtain rfl := Option.some.inj h
        have := h3 j x hx
        rwa [show (⟨b, o, none⟩ : Addr).add j = ⟨b, o + j, none⟩ by simp [Addr.add]]
    have Hc := Lib.hid hc
    clear hc
    go_wp2_with (at_builtin; refine wpList_append_own _ rfl _ _ 29 rfl N 9 i0 (.string ⟨#[]⟩) 1 16 Tryd.underlying29 hi hz0 hz1 hz2 rfl (by decide) _ 1 _ rfl hown ad m cp (l.map Value.string) rfl ?c0 Hc.out ?c2 ?c3 ?c4 hs2 ?_)
    case c0 => rw [List.length_map, Hm.out, Nat.mul_one]
    case c2 =>
      intro u hu
      obtain ⟨x, _, rfl⟩ := List.mem_map.1 hu
      rfl
    case c3 => have := Hm.out; unfold maxLen; omega
    case c4 => have := Hm.out; omega
    intro v2 w2 hown2 hgr2 _
    obtain ⟨g, c, hv, hS⟩ := Key2.out _ _ hown2
    rw [hv]
    replace hb2 := hb2.grown hgr2 hs2 (fun k hk => by simp only [Value.ownBlock, Option.some.injEq] at hk; omega)
  · have hs3 := hb2.size
    go_wp2_with fail
    refine (Add_strs (some ⟨g, 0, none⟩) c (X :: l) Kc Fc hfx (by rw [List.length_cons]; omega) _ hS (hL.at hb2)).mono ?_
    rintro e w3 ⟨rfl, hb3⟩
    replace hb3 := bst hN hb2 hb3
    obtain ⟨I, hI⟩ : ∃ I : ByteArray, (⟨(sum Kc Fc (flat (X :: l))).toArray⟩ : ByteArray) = I := ⟨_, rfl⟩
    rw [hI]
    have hIl : I.data.toList = sum Kc Fc (kxor 54 key.data.toList ++ flat l) := by rw [← hI, ba_mk, flat_cons, HXl.out]
    have HIl := Lib.hid hIl
    clear hI hIl hfx hS
    go_wp2_with fail
    refine (part_calls key 92 92 rfl hk _ (hL.at hb3)).mono ?_
    rintro e w4 ⟨rfl, hb4⟩
    replace hb4 := bst hN hb3 hb4
    obtain ⟨Y, hY⟩ : ∃ Y : ByteArray, (⟨(kxor 92 key.data.toList).toArray⟩ : ByteArray) = Y := ⟨_, rfl⟩
    rw [hY]
    have hYl : Y.data.toList = kxor 92 key.data.toList := by rw [← hY, ba_mk]
    have hfl2 : flat [Y, I] = kxor 92 key.data.toList ++ sum Kc Fc (kxor 54 key.data.toList ++ flat l) := by rw [flat_two, hYl, HIl.out]
    have hfl3 : (flat [Y, I]).length ≤ 1099511627776 := by rw [hfl2, List.length_append, kxor_len, sum_len]; omega
    have hfin : (⟨(sum Kc Fc (flat [Y, I])).toArray⟩ : ByteArray) = ⟨(macL key.data.toList (flat l)).toArray⟩ := by rw [hfl2, macL]
    have Hfin := Lib.hid hfin
    clear hY hYl hfl2 hfin
    obtain ⟨n4, hn4⟩ : ∃ n4, w4.heap.size = n4 := ⟨_, rfl⟩
    have hn4N : N ≤ n4 := by have := hb4.size; omega
    have hb5 : Below N w (w4.alloc (.cells #[.string Y, .string I] 9)) := hb4.alloc (by omega) _
    have hS5 : Strs (w4.alloc (.cells #[.string Y, .string I] 9)) (some ⟨n4, 0, none⟩) [Y, I] := by
      refine strs_cells (cs := #[.string Y, .string I]) (T := 9) (fz := (0, 0)) [Y, I] (by rw [← hn4]; exact World.alloc_heap_new w4 _) (fun j x hj => ?_)
      match j, hj with
      | 0, hj => simp at hj; subst hj; rfl
      | 1, hj => simp at hj; subst hj; rfl
    go_wp2_with fail
    refine (Add_strs (some ⟨n4, 0, none⟩) 2 [Y, I] Kc Fc hfl3 (by show 2 ≤ _; omega) _ hS5 (hL.at hb5)).mono ?_
    rintro e w6 ⟨rfl, hb6⟩
    replace hb6 := bst hN hb5 hb6
    rw [Hfin.out]
    go_wp2
    go_ret
    exact ⟨rfl, hb6⟩
  · have hs3 := hb2.size
    go_wp2_with fail
    refine (Add_strs (some ⟨g, 0, none⟩) c (X :: l) Kc Fc hfx (by rw [List.length_cons]; omega) _ hS (hL.at hb2)).mono ?_
    rintro e w3 ⟨rfl, hb3⟩
    replace hb3 := bst hN hb2 hb3
    obtain ⟨I, hI⟩ : ∃ I : ByteArray, (⟨(sum Kc Fc (flat (X :: l))).toArray⟩ : ByteArray) = I := ⟨_, rfl⟩
    rw [hI]
    have hIl : I.data.toList = sum Kc Fc (kxor 54 key.data.toList ++ flat l) := by rw [← hI, ba_mk, flat_cons, HXl.out]
    have HIl := Lib.hid hIl
    clear hI hIl hfx hS
    go_wp2_with fail
    refine (part_calls key 92 92 rfl hk _ (hL.at hb3)).mono ?_
    rintro e w4 ⟨rfl, hb4⟩
    replace hb4 := bst hN hb3 hb4
    obtain ⟨Y, hY⟩ : ∃ Y : ByteArray, (⟨(kxor 92 key.data.toList).toArray⟩ : ByteArray) = Y := ⟨_, rfl⟩
    rw [hY]
    have hYl : Y.data.toList = kxor 92 key.data.toList := by rw [← hY, ba_mk]
    have hfl2 : flat [Y, I] = kxor 92 key.data.toList ++ sum Kc Fc (kxor 54 key.data.toList ++ flat l) := by rw [flat_two, hYl, HIl.out]
    have hfl3 : (flat [Y, I]).length ≤ 1099511627776 := by rw [hfl2, List.length_append, kxor_len, sum_len]; omega
    have hfin : (⟨(sum Kc Fc (flat [Y, I])).toArray⟩ : ByteArray) = ⟨(macL key.data.toList (flat l)).toArray⟩ := by rw [hfl2, macL]
    have Hfin := Lib.hid hfin
    clear hY hYl hfl2 hfin
    obtain ⟨n4, hn4⟩ : ∃ n4, w4.heap.size = n4 := ⟨_, rfl⟩
    have hn4N : N ≤ n4 := by have := hb4.size; omega
    have hb5 : Below N w (w4.alloc (.cells #[.string Y, .string I] 9)) := hb4.alloc (by omega) _
    have hS5 : Strs (w4.alloc (.cells #[.string Y, .string I] 9)) (some ⟨n4, 0, none⟩) [Y, I] := by
      refine strs_cells (cs := #[.string Y, .string I]) (T := 9) (fz := (0, 0)) [Y, I] (by rw [← hn4]; exact World.alloc_heap_new w4 _) (fun j x hj => ?_)
      match j, hj with
      | 0, hj => simp at hj; subst hj; rfl
      | 1, hj => simp at hj; subst hj; rfl
    go_wp2_with fail
    refine (Add_strs (some ⟨n4, 0, none⟩) 2 [Y, I] Kc Fc hfl3 (by show 2 ≤ _; omega) _ hS5 (hL.at hb5)).mono ?_
    rintro e w6 ⟨rfl, hb6⟩
    replace hb6 := bst hN hb5 hb6
    rw [Hfin.out]
    go_wp2
    go_ret
    exact ⟨rfl, hb6⟩

end Go.Proofs.YtmkeiaomclpdfaaDoor.H
