/- What the mac's laws share; MacMacs, MacEqual: the walks. -/
import Derived.Test.YtmkeiaomclpdfaaDoorG13
import Derived.Test.YtmkeiaomclpdfaaDoorH1
namespace Go.Proofs.YtmkeiaomclpdfaaDoor.H
open Go.RowKit Go.Shelf Go.Proofs.YtmkeiaomclpdfaaDoorW.PrintWords Go.Proofs.YtmkeiaomclpdfaaDoorW.PrintLast Go.Proofs.YtmkeiaomclpdfaaDoorW.PrintMore Go.Proofs.YtmkeiaomclpdfaaDoor.Plain Go.Proofs.YtmkeiaomclpdfaaDoor.RowOf Go.Proofs.YtmkeiaomclpdfaaDoor.Le
attribute [local go_sem] Oper.semAt_some
set_option linter.unusedVariables false
set_option linter.unusedSimpArgs false

/-- mac.Mac of texts that were just laid. -/
theorem MacN (key : ByteArray) (l : List ByteArray) (cs : Array Value) (n : Nat) (hcs : cs = (l.map Value.string).toArray) (hn : l.length = n) (hk : key.size ≤ 1099511627776) (hfl : (flat l).length ≤ 1099511620000) (hll : n ≤ 1099511620000) (w : World) (hT : Tabs w Kc Fc) :
    Calls Tryd.prog 11 #[.string key, .slice (some ⟨w.heap.size, 0, none⟩) n n] (w.alloc (.cells cs 9)) fun e w' => e = .returned (.string ⟨(macL key.data.toList (flat l)).toArray⟩) ∧ Below w.heap.size w w' := by
  subst hcs hn
  have hb : Below w.heap.size w (w.alloc (.cells (l.map Value.string).toArray 9)) := (Below.refl _ w).alloc (Nat.le_refl _) _
  refine (Mac_calls key (some ⟨w.heap.size, 0, none⟩) l.length l hk hfl hll _ (strs_cells l (World.alloc_heap_new w _) (fun j x hj => ?_)) (fun h => by cases h) (hT.grown hb)).mono ?_
  · rw [List.getElem?_toArray, List.getElem?_map, hj]
    rfl
  · rintro e w' ⟨he, hb2⟩
    exact ⟨he, hb.trans (hb2.mono hb.size)⟩
theorem Mac1 (key x : ByteArray) (hk : key.size ≤ 1099511627776) (hx : x.size ≤ 1099511620000) (w : World) (hT : Tabs w Kc Fc) :
    Calls Tryd.prog 11 #[.string key, .slice (some ⟨w.heap.size, 0, none⟩) 1 1] (w.alloc (.cells #[.string x] 9)) fun e w' => e = .returned (.string ⟨(macL key.data.toList x.data.toList).toArray⟩) ∧ Below w.heap.size w w' := by
  have e : flat [x] = x.data.toList := by simp [flat]
  have h := MacN key [x] #[.string x] 1 rfl rfl hk (by rw [e, ← ba_size]; exact hx) (by decide) w hT
  rw [e] at h
  exact h
theorem Mac2 (key x y : ByteArray) (hk : key.size ≤ 1099511627776) (hx : x.size + y.size ≤ 1099511620000) (w : World) (hT : Tabs w Kc Fc) :
    Calls Tryd.prog 11 #[.string key, .slice (some ⟨w.heap.size, 0, none⟩) 2 2] (w.alloc (.cells #[.string x, .string y] 9)) fun e w' => e = .returned (.string ⟨(macL key.data.toList (x.data.toList ++ y.data.toList)).toArray⟩) ∧ Below w.heap.size w w' := by
  have e : flat [x, y] = x.data.toList ++ y.data.toList := flat_two x y
  have h := MacN key [x, y] #[.string x, .string y] 2 rfl rfl hk (by rw [e, List.length_append, ← ba_size, ← ba_size]; exact hx) (by decide) w hT
  rw [e] at h
  exact h
theorem Mac3 (key x y z : ByteArray) (hk : key.size ≤ 1099511627776) (hx : x.size + y.size + z.size ≤ 1099511620000) (w : World) (hT : Tabs w Kc Fc) :
    Calls Tryd.prog 11 #[.string key, .slice (some ⟨w.heap.size, 0, none⟩) 3 3] (w.alloc (.cells #[.string x, .string y, .string z] 9)) fun e w' => e = .returned (.string ⟨(macL key.data.toList (x.data.toList ++ y.data.toList ++ z.data.toList)).toArray⟩) ∧ Below w.heap.size w w' := by
  have e : flat [x, y, z] = x.data.toList ++ y.data.toList ++ z.data.toList := by simp [flat]
  have h := MacN key [x, y, z] #[.string x, .string y, .string z] 3 rfl rfl hk (by rw [e, List.length_append, List.length_append, ← ba_size, ← ba_size, ← ba_size]; exact hx) (by decide) w hT
  rw [e] at h
  exact h

set_option maxRecDepth 100000 in
theorem shown_calls (w : World) (hT : Tabs w Kc Fc) : Calls Tryd.prog 10 #[] w fun e w' => e = .returned (.bool true) ∧ Below w.heap.size w w' := by
  have hs := Mac2 ⟨#[74, 101, 102, 101]⟩ ⟨#[119, 104, 97, 116, 32, 100, 111, 32, 121, 97, 32, 119, 97, 110, 116, 32]⟩ ⟨#[102, 111, 114, 32, 110, 111, 116, 104, 105, 110, 103, 63]⟩ (by decide) (by decide) w hT
  have he : macL (⟨#[74, 101, 102, 101]⟩ : ByteArray).data.toList ((⟨#[119, 104, 97, 116, 32, 100, 111, 32, 121, 97, 32, 119, 97, 110, 116, 32]⟩ : ByteArray).data.toList ++ (⟨#[102, 111, 114, 32, 110, 111, 116, 104, 105, 110, 103, 63]⟩ : ByteArray).data.toList) = [91, 220, 193, 70, 191, 96, 117, 78, 106, 4, 36, 38, 8, 149, 117, 199, 90, 0, 63, 8, 157, 39, 57, 131, 157, 236, 88, 185, 100, 236, 56, 67] := jefe
  rw [he] at hs
  obtain ⟨X, hX⟩ : ∃ X : ByteArray, (⟨([91, 220, 193, 70, 191, 96, 117, 78, 106, 4, 36, 38, 8, 149, 117, 199, 90, 0, 63, 8, 157, 39, 57, 131, 157, 236, 88, 185, 100, 236, 56, 67] : List UInt8).toArray⟩ : ByteArray) = X := ⟨_, rfl⟩
  rw [hX] at hs
  have h1 : ((X.size : Int) == 32) = true := by rw [← hX]; rfl
  have h2 : (8 : Int) ≤ (X.size : Int) := by rw [← hX]; decide
  have h3 : (X.extract 0 8).toList = [91, 220, 193, 70, 191, 96, 117, 78] := by rw [Lib.toList_data, ba_ex, ← hX]; rfl
  have h4 : ((X.extract 0 8).toList == [91, 220, 193, 70, 191, 96, 117, 78]) = true := by rw [h3]; rfl
  have h5 : X.extract 0 8 = ⟨#[91, 220, 193, 70, 191, 96, 117, 78]⟩ := ba_ext (by rw [ba_ex, ← hX]; rfl)
  clear hX he
  go_enter Tryd.func10, Tryd.ntmps10
  go_wp2_with fail
  refine hs.mono ?_
  rintro e w1 ⟨rfl, hb1⟩
  go_wp2
  go_ret
  exact ⟨rfl, hb1⟩

theorem cut_f (s : ByteArray) : ∃ c, sphragislaw03_cut.f s = some c ∧ c.size ≤ 500 := by
  unfold sphragislaw03_cut.f
  have h : mn (s.size : Int) 500 ≤ 500 ∧ 0 ≤ mn (s.size : Int) 500 ∧ mn (s.size : Int) 500 ≤ (s.size : Int) := by unfold mn; split <;> omega
  rw [if_pos h.2.1, if_pos h.2.2]
  exact ⟨_, rfl, by rw [ByteArray.size_extract]; omega⟩
theorem cut_calls (s c : ByteArray) (w : World) (h : sphragislaw03_cut.f s = some c) {N : Nat} {w0 : World} (hN : w0.heap.size = N) (hb : Below N w0 w) :
    Calls Tryd.prog 12 #[.string s] w fun e w' => e = .returned (.string c) ∧ Below N w0 w' := by
  refine (sphragislaw03_cut.calls s c w h).mono ?_
  rintro e w' ⟨he, hb2⟩
  exact ⟨he, bst hN hb hb2⟩

set_option maxRecDepth 100000 in
theorem MacMacs_walk (key s : ByteArray) (w : World) (hT : Tabs w Kc Fc) (hG : Glob w 1 Kc) (hk : key.size ≤ 140737488351232) (hs : s.size ≤ 140737488351232) :
    Calls Tryd.prog 3 #[.string key, .string s] w fun e w' => e = .returned (.bool true) ∧ Below w.heap.size w w' := by
  obtain ⟨c, hc, hcs⟩ := cut_f key
  have Hc := Lib.hid hc
  obtain ⟨d, hd, hds⟩ := cut_f s
  have Hd := Lib.hid hd
  clear hc hd
  obtain ⟨N, hN⟩ : ∃ N, w.heap.size = N := ⟨_, rfl⟩
  have hL := Low.mk' hN hT
  have hgK : 1 < N := by rw [← hN]; exact hG.lt
  rw [hN]
  go_enter Tryd.func3, Tryd.ntmps3
  go_wp2_with fail
  refine (shown_calls _ hT).mono ?_
  rintro e w1 ⟨rfl, hb1⟩
  rw [hN] at hb1
  go_wp2_with fail
  refine (cut_calls key c _ Hc.out hN hb1).mono ?_
  rintro e w2 ⟨rfl, hb2⟩
  go_wp2_with fail
  refine (cut_calls s d _ Hd.out hN hb2).mono ?_
  rintro e w3 ⟨rfl, hb3⟩
  go_wp2_with fail
  refine (Mac1 c d (by omega) (by omega) _ (hL.at hb3)).mono ?_
  rintro e w4 ⟨rfl, hb4⟩
  replace hb4 := bst hN hb3 hb4
  go_wp2_with fail
  refine (cut_calls key c _ Hc.out hN hb4).mono ?_
  rintro e w5 ⟨rfl, hb5⟩
  go_wp2_with fail
  refine (cut_calls s d _ Hd.out hN hb5).mono ?_
  rintro e w6 ⟨rfl, hb6⟩
  go_wp2_with fail
  refine (refMac_calls c d (by omega) (by omega) _ (hG.below hb6 hgK)).mono ?_
  rintro e w7 ⟨rfl, hb7⟩
  replace hb7 := bst hN hb6 hb7
  go_wp2
  go_ret
  exact ⟨rfl, hb7⟩

/-- What mac.Equal has gathered. -/
def orD (a b : List UInt8) : Nat → Nat
  | 0 => 0
  | j + 1 => orD a b j ||| ((a.getD j 0).toNat ^^^ (b.getD j 0).toNat)
theorem orD_lt (a b : List UInt8) (j : Nat) : orD a b j < 256 := by
  induction j with
  | zero => show 0 < 256; decide
  | succ j ih => exact Nat.or_lt_two_pow (n := 8) ih (Nat.xor_lt_two_pow (UInt8.toNat_lt _) (UInt8.toNat_lt _))
theorem xor_zero_iff (x y : Nat) : x ^^^ y = 0 ↔ x = y := by
  constructor
  · intro h
    have h2 : (x ^^^ y) ^^^ y = 0 ^^^ y := by rw [h]
    rwa [Nat.xor_assoc, Nat.xor_self, Nat.xor_zero, Nat.zero_xor] at h2
  · rintro rfl
    exact Nat.xor_self _
theorem orD_zero (a b : List UInt8) (j : Nat) : orD a b j = 0 ↔ ∀ i, i < j → a.getD i 0 = b.getD i 0 := by
  induction j with
  | zero => simp [orD]
  | succ j ih =>
    rw [orD, Nat.or_eq_zero_iff, ih, xor_zero_iff]
    constructor
    · rintro ⟨h1, h2⟩ i hi
      by_cases he : i = j
      · rw [he]; exact UInt8.toNat_inj.1 h2
      · exact h1 i (by omega)
    · intro h
      exact ⟨fun i hi => h i (by omega), by rw [h j (by omega)]⟩
theorem orD_eq (a b : List UInt8) (n : Nat) (hn : n = min a.length b.length) : (orD a b n = 0 ∧ a.length = b.length) ↔ a = b := by
  rw [orD_zero]
  constructor
  · rintro ⟨h1, h2⟩
    refine List.ext_getElem h2 (fun i hi hj => ?_)
    have := h1 i (by omega)
    rwa [List.getD_eq_getElem?_getD, List.getD_eq_getElem?_getD, List.getElem?_eq_getElem hi, List.getElem?_eq_getElem hj] at this
  · rintro rfl
    exact ⟨fun _ _ => rfl, rfl⟩

set_option maxRecDepth 100000 in
set_option maxHeartbeats 1000000 in
theorem Equal_calls (a b : ByteArray) (r : Bool) (hr : r = true ↔ a = b) (ha : a.size ≤ 140737488351232) (hb : b.size ≤ 140737488351232) (w : World) :
    Calls Tryd.prog 14 #[.string a, .string b] w fun e w' => e = .returned (.bool r) ∧ Below w.heap.size w w' := by
  obtain ⟨N, hN⟩ : ∃ N, w.heap.size = N := ⟨_, rfl⟩
  rw [hN]
  obtain ⟨m, hm⟩ : ∃ m : Nat, m = min a.size b.size := ⟨_, rfl⟩
  have hmi : min (a.size : Int) (b.size : Int) = (m : Int) := by omega
  have hma : m ≤ a.size := by omega
  have hmb : m ≤ b.size := by omega
  have hE := orD_eq a.data.toList b.data.toList m (by rw [← ba_size, ← ba_size]; exact hm)
  rw [← ba_size, ← ba_size] at hE
  have hab : a.data.toList = b.data.toList ↔ a = b := ⟨ba_ext, fun h => by rw [h]⟩
  have HE := Lib.hid (hE.trans (hab.trans hr.symm))
  have Hm := Lib.hid hm
  clear hm hE hab hr
  go_enter Tryd.func14, Tryd.ntmps14
  go_wp2
  clear hmi
  go_loopw [5, 12] (fun vx vi wr => ∃ j : Nat, vx = .int .u8 ((orD a.data.toList b.data.toList j : Nat) : Int) ∧ vi = .int .i64 j ∧ j ≤ m ∧ Below N w wr) (fun _ vi _ => m - (intOf vi).toNat)
  case atStart => exact ⟨0, rfl, rfl, Nat.zero_le _, Below.refl _ _⟩
  case round =>
    obtain ⟨j, rfl, rfl, hj, hB⟩ := hrel
    by_cases hjm : j = m
    · subst hjm
      have d1 : decide ((j : Int) < (j : Int)) = false := decide_eq_false (by omega)
      obtain ⟨x, hx⟩ : ∃ x, orD a.data.toList b.data.toList j = x := ⟨_, rfl⟩
      rw [hx]
      have HE2 := HE.out
      rw [hx] at HE2
      have HE3 := Lib.hid HE2
      clear HE HE2 hx
      by_cases hx0 : x = 0
      · subst hx0
        have d2 : (((0 : Nat) : Int) == 0) = true := rfl
        by_cases hs : a.size = b.size
        · have d3 : ((a.size : Int) == (b.size : Int)) = true := by rw [hs]; exact beq_self_eq_true _
          have hr : r = true := HE3.out.1 ⟨rfl, hs⟩
          subst hr
          clear hs
          go_wp2
          go_ret
          exact ⟨rfl, hB⟩
        · have d3 : ((a.size : Int) == (b.size : Int)) = false := beq_eq_false_iff_ne.2 (by omega)
          have hr : r = false := Bool.eq_false_iff.2 (fun h => hs (HE3.out.2 h).2)
          subst hr
          go_wp2
          go_ret
          exact ⟨rfl, hB⟩
      · have d2 : ((x : Int) == 0) = false := beq_eq_false_iff_ne.2 (by omega)
        have hr : r = false := Bool.eq_false_iff.2 (fun h => hx0 (HE3.out.2 h).1)
        subst hr
        go_wp2
        go_ret
        exact ⟨rfl, hB⟩
    · have d1 : decide ((j : Int) < (m : Int)) = true := decide_eq_true (by omega)
      have e1 : (j : Int) < (m : Int) := by omega
      have e2 : (0 : Int) ≤ (j : Int) := by omega
      have e3 : (j : Int) < (a.size : Int) := by omega
      have e4 : (j : Int) < (b.size : Int) := by omega
      have e5 : j < a.size := by omega
      have e6 : j < b.size := by omega
      have hst : bits .or .u8 ((orD a.data.toList b.data.toList j : Nat) : Int) (bits .xor .u8 (a[j].toNat : Int) (b[j].toNat : Int)) = ((orD a.data.toList b.data.toList (j + 1) : Nat) : Int) := by
        have h1 : a.data.toList.getD j 0 = a[j] := by
          rw [List.getD_eq_getElem?_getD, List.getElem?_eq_getElem (by rw [← ba_size]; exact e5)]
          rfl
        have h2 : b.data.toList.getD j 0 = b[j] := by
          rw [List.getD_eq_getElem?_getD, List.getElem?_eq_getElem (by rw [← ba_size]; exact e6)]
          rfl
        rw [orD, h1, h2, u8_xor_nat _ _ (UInt8.toNat_lt _) (UInt8.toNat_lt _), u8_or_nat _ _ (orD_lt _ _ _) (Nat.xor_lt_two_pow (n := 8) (UInt8.toNat_lt _) (UInt8.toNat_lt _))]
      have Hst := Lib.hid hst
      clear hst
      go_upto_region 5 with (fail)
      go_quiet (fail)
      go_wp2
      exact ⟨⟨j + 1, by rw [← Hst.out], by go_num, by omega, (by apply pw_below_drewN; exact hB)⟩, by simp [intOf]; omega⟩

set_option maxRecDepth 100000 in
theorem MacEqual_walk (a b : ByteArray) (w : World) (hT : Tabs w Kc Fc) (ha : a.size ≤ 140737488351232) (hb : b.size ≤ 140737488351232) :
    Calls Tryd.prog 6 #[.string a, .string b] w fun e w' => e = .returned (.bool true) ∧ Below w.heap.size w w' := by
  obtain ⟨N, hN⟩ : ∃ N, w.heap.size = N := ⟨_, rfl⟩
  rw [hN]
  obtain ⟨r, hr⟩ : ∃ r, (a.toList == b.toList) = r := ⟨_, rfl⟩
  have hr2 : r = true ↔ a = b := by
    rw [← hr, beq_iff_eq, Lib.toList_data, Lib.toList_data]
    exact ⟨ba_ext, fun h => by rw [h]⟩
  have Hr2 := Lib.hid hr2
  clear hr2
  go_enter Tryd.func6, Tryd.ntmps6
  go_wp2_with fail
  refine (shown_calls _ hT).mono ?_
  rintro e w1 ⟨rfl, hb1⟩
  rw [hN] at hb1
  go_wp2_with fail
  refine (Equal_calls a b r Hr2.out ha hb _).mono ?_
  rintro e w2 ⟨rfl, hb2⟩
  replace hb2 := bst hN hb1 hb2
  go_wp2_with fail
  refine (Equal_calls a a true ⟨fun _ => rfl, fun _ => rfl⟩ ha ha _).mono ?_
  rintro e w3 ⟨rfl, hb3⟩
  replace hb3 := bst hN hb2 hb3
  go_wp2
  go_ret
  exact ⟨rfl, hb3⟩

end Go.Proofs.YtmkeiaomclpdfaaDoor.H
