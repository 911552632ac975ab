/- sha.Add, sha.Sum: the walks. -/
import Derived.Test.YtmkeiaomclpdfaaDoorG8
namespace Go.Proofs.YtmkeiaomclpdfaaDoor.H
open Go.RowKit Go.Shelf Go.Proofs.YtmkeiaomclpdfaaDoorW.PrintWords Go.Proofs.YtmkeiaomclpdfaaDoorW.PrintLast Go.Proofs.YtmkeiaomclpdfaaDoorW.PrintMore Go.Proofs.YtmkeiaomclpdfaaDoor.Plain Go.Proofs.YtmkeiaomclpdfaaDoor.RowOf Go.Proofs.YtmkeiaomclpdfaaDoor.Le
attribute [local go_sem] Oper.semAt_some
set_option linter.unusedVariables false
set_option linter.unusedSimpArgs false

/-- What sums rest upon: the two tables. -/
structure Tabs (W : World) (K F : List Int) : Prop where
  hK : K.length = 64
  hF : F.length = 8
  cst : Glob W 2 K
  fst : Glob W 0 F
theorem Tabs.below {W W' : World} {K F : List Int} {n : Nat} (h : Tabs W K F) (hb : Below n W W') (h1 : 2 < n) (h2 : 0 < n) : Tabs W' K F := ⟨h.hK, h.hF, h.cst.below hb h1, h.fst.below hb h2⟩
theorem Tabs.grown {W W' : World} {K F : List Int} (h : Tabs W K F) (hb : Below W.heap.size W W') : Tabs W' K F := h.below hb h.cst.lt h.fst.lt

/-- Texts behind each other. -/
def flat (l : List ByteArray) : List UInt8 := (l.map (·.data.toList)).flatten
theorem flat_snoc (l : List ByteArray) (s : ByteArray) : flat (l ++ [s]) = flat l ++ s.data.toList := by simp [flat]
theorem flat_take (l : List ByteArray) (j : Nat) (h : j < l.length) : flat (l.take (j + 1)) = flat (l.take j) ++ (l[j]).data.toList := by
  rw [List.take_succ_eq_append_getElem h, flat_snoc]
theorem flat_le (l : List ByteArray) (j : Nat) : (flat (l.take j)).length ≤ (flat l).length := by
  have h : flat l = flat (l.take j) ++ flat (l.drop j) := by
    unfold flat
    rw [← List.flatten_append, ← List.map_append, List.take_append_drop]
  rw [h, List.length_append]
  omega

theorem new_sm (w : World) (K F : List Int) : Sm (w.alloc (.cells (F.map (Value.int .u32) ++ sumR ⟨#[]⟩ 0).toArray 59)) w.heap.size K F [] ((0 : Nat) : Int) := by
  have e : absorb K F [] = (F, []) := absorb_less _ _ _ (by decide)
  refine ⟨⟨#[]⟩, by rw [e], ?_⟩
  rw [e]
  exact World.alloc_heap_new w _

set_option maxRecDepth 100000 in
set_option maxHeartbeats 2000000 in
theorem Add_calls (b o c : Nat) (l : List ByteArray) (K F : List Int) (hl : (flat l).length ≤ 1099511627776) (hll : l.length ≤ 1099511627776) (w : World) (hb : b < w.heap.size) (hc : ∀ (j : Nat) (x : ByteArray), l[j]? = some x → w.cell? ⟨b, o + j, none⟩ = some (.string x)) (hT : Tabs w K F) :
    Calls Tryd.prog 18 #[.slice (some ⟨b, o, none⟩) l.length c] w fun e w' => e = .returned (.string ⟨(sum K F (flat l)).toArray⟩) ∧ Below w.heap.size w w' := by
  obtain ⟨N, hN⟩ : ∃ N, w.heap.size = N := ⟨_, rfl⟩
  have Hc := Lib.hid hc
  have hn0 := new_sm w K F
  have hB0 : Below N w (w.alloc (.cells (F.map (Value.int .u32) ++ sumR ⟨#[]⟩ 0).toArray 59)) := by
    rw [← hN]
    exact (Below.refl _ w).alloc (Nat.le_refl _) _
  rw [hN] at hn0 hb
  clear hc
  go_enter Tryd.func18, Tryd.ntmps18
  go_wp2_with (go_at_call 26; refine (New_calls F hT.hF _ hT.fst).mono ?_; rintro e w' ⟨rfl, rfl⟩; rw [hN])
  generalize w.alloc (.cells (F.map (Value.int .u32) ++ sumR ⟨#[]⟩ 0).toArray 59) = W0 at *
  go_loopw [9] (fun vi wr => ∃ j : Nat, vi = .int .i64 j ∧ j ≤ l.length ∧ Sm wr N K F (flat (l.take j)) (((flat (l.take j)).length : Nat) : Int) ∧ Below N w wr) (fun vi _ => l.length - (intOf vi).toNat)
  case atStart => exact ⟨0, rfl, Nat.zero_le _, hn0, hB0⟩
  case round =>
    clear hn0 hB0
    obtain ⟨j, rfl, hj, hS, hB⟩ := hrel
    have hsz := hB.size
    have hTr : Tabs wr K F := hT.grown (by rw [hN]; exact hB)
    by_cases hjl : j = l.length
    · subst hjl
      rw [List.take_of_length_le (Nat.le_refl _)] at hS
      go_wp2_with (go_at_call 28; refine (Sum_calls N K F (flat l) _ hT.hF hT.hK rfl (by omega) _ hS hTr.cst).mono ?_; rintro e w' ⟨rfl, hb4⟩)
      go_ret
      refine ⟨rfl, ?_⟩
      rw [hN]
      exact hB.trans (hb4.mono (by omega))
    · have hlt : j < l.length := by omega
      have hltd : decide ((j : Int) < (l.length : Int)) = true := decide_eq_true (by omega)
      have hj0 : (0 : Int) ≤ (j : Int) := by omega
      have hji : (j : Int) < (l.length : Int) := by omega
      have hft := flat_take l j hlt
      have hfl := flat_le l (j + 1)
      rw [hft, List.length_append, ← ba_size] at hfl
      have hcell : wr.cell? ⟨b, o + j, none⟩ = some (.string l[j]) := (hB.cell (p := ⟨b, o + j, none⟩) hb).trans (Hc.out j _ (List.getElem?_eq_getElem hlt))
      obtain ⟨s, hs⟩ : ∃ s, l[j] = s := ⟨_, rfl⟩
      rw [hs] at hft hfl hcell
      obtain ⟨T, hTe⟩ : ∃ T, flat (l.take j) = T := ⟨_, rfl⟩
      rw [hTe] at hft hfl hS
      have Hft := Lib.hid hft
      clear hft hTe hs
      have hw2 : IntKind.i64.wrap ((T.length : Int) + (s.size : Int)) = (T.length : Int) + (s.size : Int) := by rw [i64_w]; unfold wrap64; omega
      go_wp2_with (go_at_call 27; refine (takes_any N K F T s _ hT.hF hT.hK (by omega) _ hS hTr.cst).mono ?_; rintro e w2 ⟨rfl, ⟨r2, hr2, hS2⟩, hg2⟩; have hl2 := absorb_len K (T ++ s.data.toList).length F (T ++ s.data.toList) (Nat.le_refl _) hT.hF; have c9 := hS2.cell9 hl2; have f9 := RowX.frozen hS2 9)
      have hS3 := Summ.set9 hS2 hl2 ((T.length : Int) + (s.size : Int))
      have hB2 : Below N w w2 := hB.grown hg2 (by omega) (fun k e => by cases e; omega)
      have hB3 : Below N w (w2.setCell ⟨N, 9, none⟩ (.int .i64 ((T.length : Int) + (s.size : Int)))) := hB2.setCell (p := ⟨N, 9, none⟩) (Nat.le_refl _) _
      have hle : (((T ++ s.data.toList).length : Nat) : Int) = (T.length : Int) + (s.size : Int) := by rw [List.length_append, ← ba_size]; omega
      refine ⟨⟨j + 1, by go_num, by omega, ?_, hB3⟩, by simp [intOf]; omega⟩
      rw [Hft.out, hle]
      exact ⟨r2, hr2, hS3⟩
set_option maxRecDepth 100000 in
set_option maxHeartbeats 2000000 in
theorem Add_none (A0 : Option Addr) (c : Nat) (K F : List Int) (w : World) (hT : Tabs w K F) :
    Calls Tryd.prog 18 #[.slice A0 0 c] w fun e w' => e = .returned (.string ⟨(sum K F []).toArray⟩) ∧ Below w.heap.size w w' := by
  obtain ⟨N, hN⟩ : ∃ N, w.heap.size = N := ⟨_, rfl⟩
  have hn0 := new_sm w K F
  have hB0 : Below N w (w.alloc (.cells (F.map (Value.int .u32) ++ sumR ⟨#[]⟩ 0).toArray 59)) := by
    rw [← hN]
    exact (Below.refl _ w).alloc (Nat.le_refl _) _
  rw [hN] at hn0
  have hT0 := hT.grown (by rw [hN]; exact hB0)
  go_enter Tryd.func18, Tryd.ntmps18
  go_wp2_with (go_at_call 26; refine (New_calls F hT.hF _ hT.fst).mono ?_; rintro e w' ⟨rfl, rfl⟩; rw [hN])
  generalize w.alloc (.cells (F.map (Value.int .u32) ++ sumR ⟨#[]⟩ 0).toArray 59) = W0 at *
  go_loopw [9] (fun vi wr => vi = .int .i64 0 ∧ wr = W0) (fun vi _ => 0)
  case atStart => exact ⟨rfl, rfl⟩
  case round =>
    obtain ⟨rfl, rfl⟩ := hrel
    go_wp2_with (go_at_call 28; refine (Sum_calls N K F [] 0 hT.hF hT.hK rfl (by omega) _ hn0 hT0.cst).mono ?_; rintro e w' ⟨rfl, hb4⟩)
    go_ret
    refine ⟨rfl, ?_⟩
    rw [hN]
    exact hB0.trans (hb4.mono (by have := hB0.size; omega))
set_option maxRecDepth 100000 in
set_option maxHeartbeats 2000000 in
theorem Sum1_calls (s : ByteArray) (K F : List Int) (hs : s.size ≤ 1099511627776) (w : World) (hT : Tabs w K F) :
    Calls Tryd.prog 29 #[.string s] w fun e w' => e = .returned (.string ⟨(sum K F s.data.toList).toArray⟩) ∧ Below w.heap.size w w' := by
  obtain ⟨N, hN⟩ : ∃ N, w.heap.size = N := ⟨_, rfl⟩
  have hB0 : Below N w (w.alloc (.cells #[.string s] 9)) := by
    rw [← hN]
    exact (Below.refl _ w).alloc (Nat.le_refl _) _
  have hbox := Boxed.new w 9 (.string s)
  rw [hN] at hbox
  have hT0 := hT.grown (by rw [hN]; exact hB0)
  have hf : flat [s] = s.data.toList := by simp [flat]
  go_enter Tryd.func29, Tryd.ntmps29
  go_wp2_with fail
  generalize w.alloc (.cells #[.string s] 9) = W0 at *
  refine (Add_calls N 0 1 [s] K F (by rw [hf, ← ba_size]; exact hs) (by show 1 ≤ _; omega) W0 hbox.lt (fun j x hj => ?_) hT0).mono ?_
  · match j, hj with
    | 0, hj =>
      obtain rfl := Option.some.inj hj
      exact hbox.cell
  rw [hf]
  rintro e w' ⟨rfl, hb4⟩
  go_wp2
  go_ret
  refine ⟨rfl, ?_⟩
  rw [hN]
  exact hB0.trans (hb4.mono (by have := hB0.size; omega))

end Go.Proofs.YtmkeiaomclpdfaaDoor.H
