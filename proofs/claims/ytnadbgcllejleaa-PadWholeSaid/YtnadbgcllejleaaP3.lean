/- Plain facts of the laws of a text's parts. -/
import Derived.Test.YtnadbgcllejleaaP1
import Derived.Test.YtnadbgcllejleaaH5
import Derived.Test.YtnadbgcllejleaaH5
set_option maxRecDepth 100000
set_option linter.unusedSimpArgs false
set_option linter.unusedVariables false
namespace Go.Proofs.Ytnadbgcllejleaa.H
open Go.RowKit Go.Proofs.YtnadbgcllejleaaW.PrintWords Go.Proofs.YtnadbgcllejleaaW.PrintLast Go.Proofs.YtnadbgcllejleaaW.PrintMore Go.Proofs.Ytnadbgcllejleaa.Le Go.Proofs.Ytnadbgcllejleaa.Bits

theorem mn_nat (a b : Nat) : mn (a : Int) (b : Int) = ((min a b : Nat) : Int) := by
  unfold mn
  split <;> omega

theorem refcut_l (s : ByteArray) (hs : s.size ≤ 5000) (m : Nat) : ∀ (i k : Nat) (acc : List ByteArray), m < k → s.size ≤ i + m → i ≤ 100000 → acc.length ≤ i →
    sphragisref05_Cut.l0 k s acc (i : Int) = some (acc ++ pch m (s.data.toList.drop i)) := by
  have hL : s.data.toList.length = s.size := (ba_size s).symm
  induction m with
  | zero =>
    intro i k acc hk hi h1 h2
    obtain ⟨k, rfl⟩ : ∃ j, k = j + 1 := ⟨k - 1, by omega⟩
    simp only [sphragisref05_Cut.l0]
    have c1 : ¬ ((i : Int) < (s.size : Int)) := by omega
    rw [if_neg c1, pch, List.append_nil]
  | succ m ih =>
    intro i k acc hk hi h1 h2
    obtain ⟨k, rfl⟩ : ∃ j, k = j + 1 := ⟨k - 1, by omega⟩
    simp only [sphragisref05_Cut.l0]
    by_cases hlt : i < s.size
    · have c1 : (i : Int) < (s.size : Int) := by omega
      have c2 : (0 : Int) ≤ (i : Int) := by omega
      have k1 : m < k := by omega
      have k2 : s.size ≤ i + 198 + m := by omega
      have k3 : acc.length < 8796093022208 := by omega
      have k4 : (acc ++ [s.extract i (min s.size (i + 198))]).length ≤ i + 198 := by simp; omega
      have k5 : ¬ (s.data.toList.drop i).length = 0 := by rw [List.length_drop]; omega
      have k6 : i + 198 ≤ 100000 := by omega
      have c3 : (i : Int) ≤ ((min s.size (i + 198) : Nat) : Int) := by omega
      have c4 : ((min s.size (i + 198) : Nat) : Int) ≤ (s.size : Int) := by omega
      have e1 : s.extract i (min s.size (i + 198)) = ⟨((s.data.toList.drop i).take 198).toArray⟩ := by
        apply ba_ext
        rw [ba_ex, ba_mk, List.drop_take]
        by_cases h : s.size ≤ i + 198
        · have q1 : min s.size (i + 198) = s.size := by omega
          have q2 : (s.data.toList.drop i).length ≤ s.size - i := by rw [List.length_drop]; omega
          have q3 : (s.data.toList.drop i).length ≤ 198 := by rw [List.length_drop]; omega
          rw [q1, List.take_of_length_le q2, List.take_of_length_le q3]
        · have q1 : min s.size (i + 198) - i = 198 := by omega
          rw [q1]
      have w1 : wrap64 ((i : Int) + 198) = ((i + 198 : Nat) : Int) := by unfold wrap64; omega
      rw [if_pos c1, if_pos c2, w1, mn_nat, if_pos c3, if_pos c4, if_pos k3, Int.toNat_natCast, Int.toNat_natCast, ih (i + 198) k _ k1 k2 k6 k4]
      rw [pch, if_neg k5, e1, List.drop_drop, List.append_assoc]
      rfl
    · have c1 : ¬ ((i : Int) < (s.size : Int)) := by omega
      have k5 : (s.data.toList.drop i).length = 0 := by rw [List.length_drop]; omega
      rw [if_neg c1, pch, if_pos k5, List.append_nil]

theorem refcut_eq (s : ByteArray) (hs : s.size ≤ 5000) : sphragisref05_Cut.f 6000 s = some (pch s.size s.data.toList) := by
  unfold sphragisref05_Cut.f
  have := refcut_l s hs s.size 0 6000 [] (by omega) (by omega) (by omega) (by simp)
  simpa using this

theorem cut_eq (s : ByteArray) (hs : s.size ≤ 5000) : pad_Cut.f s = some (pch s.size s.data.toList) := by
  unfold pad_Cut.f
  rw [if_pos (by omega)]

theorem same_l (l : List ByteArray) (h : l.length ≤ 100000) (m : Nat) : ∀ (i k : Nat), m < k → i + m = l.length → sphragisref05_Same.l0 k l l (i : Int) = some true := by
  induction m with
  | zero =>
    intro i k hk hi
    obtain ⟨k, rfl⟩ : ∃ j, k = j + 1 := ⟨k - 1, by omega⟩
    simp only [sphragisref05_Same.l0]
    rw [if_neg (by omega)]
  | succ m ih =>
    intro i k hk hi
    obtain ⟨k, rfl⟩ : ∃ j, k = j + 1 := ⟨k - 1, by omega⟩
    simp only [sphragisref05_Same.l0]
    have c1 : (i : Int) < (l.length : Int) := by omega
    have c2 : (0 : Int) ≤ (i : Int) := by omega
    have k1 : m < k := by omega
    have k2 : i + 1 + m = l.length := by omega
    have w1 : wrap64 ((i : Int) + 1) = ((i + 1 : Nat) : Int) := by unfold wrap64; omega
    rw [if_pos c1, if_pos c2, if_pos c1, if_pos trivial, w1]
    exact ih (i + 1) k k1 k2

theorem mono_up {α β : Type} (f : Nat → Option β) (hm : ∀ k, LeO (f k) (f (k + 1))) {j k : Nat} (h : j ≤ k) {r : β} (hr : f j = some r) : f k = some r := by
  induction h with
  | refl => exact hr
  | step _ ih => exact hm _ _ ih

theorem shown_up : sphragislaw05_shown.f 6000 = some true := mono_up (α := Unit) sphragislaw05_shown.f sphragislaw05_shown.mono (by decide) shown_true

theorem cut5000 (s : ByteArray) : (0 : Int) ≤ mn (s.size : Int) 5000 ∧ mn (s.size : Int) 5000 ≤ (s.size : Int) ∧ (s.extract 0 (mn (s.size : Int) 5000).toNat).size ≤ 5000 := by
  rw [show (5000 : Int) = ((5000 : Nat) : Int) from rfl, mn_nat, Int.toNat_natCast, ByteArray.size_extract]
  omega

theorem PadCuts : sphragislaw05_PadCuts.Pure := by
  intro s hs
  refine ⟨6000, ?_⟩
  unfold sphragislaw05_PadCuts.f
  obtain ⟨c1, c2, c3⟩ := cut5000 s
  rw [shown_up]
  simp only [Option.bind_some]
  rw [if_pos c1, if_pos c2]
  generalize s.extract 0 (mn (s.size : Int) 5000).toNat = t at *
  have hl : (pch t.size t.data.toList).length ≤ 5000 := by
    have := pch_len t.size t.data.toList
    rw [← ba_size] at this
    omega
  rw [cut_eq t c3, refcut_eq t c3]
  simp only [Option.bind_some, if_true]
  unfold sphragisref05_Same.f
  rw [if_pos rfl]
  have := same_l (pch t.size t.data.toList) (by omega) (pch t.size t.data.toList).length 0 6000 (by omega) (by omega)
  rw [show ((0 : Nat) : Int) = 0 from rfl] at this
  rw [this]
  rfl

/-- The parts behind each other are the text; each is no more than may be, none is empty, and only the last one is short. -/
theorem pch_good (k : Nat) : ∀ L : List UInt8, L.length ≤ k → ((pch k L).map (·.data.toList)).flatten = L ∧ ∀ (i : Nat) (x : ByteArray), (pch k L)[i]? = some x → x.size ≤ 198 ∧ 0 < x.size ∧ (i + 1 < (pch k L).length → x.size = 198) := by
  induction k with
  | zero =>
    intro L h
    obtain rfl : L = [] := List.eq_nil_of_length_eq_zero (by omega)
    simp [pch]
  | succ k ih =>
    intro L h
    rw [pch]
    by_cases h0 : L.length = 0
    · rw [if_pos h0]
      obtain rfl : L = [] := List.eq_nil_of_length_eq_zero h0
      simp
    · rw [if_neg h0]
      obtain ⟨i1, i2⟩ := ih (L.drop 198) (by rw [List.length_drop]; omega)
      refine ⟨?_, ?_⟩
      · rw [List.map_cons, List.flatten_cons, i1, ba_mk, List.take_append_drop]
      · intro i x hx
        cases i with
        | zero =>
          rw [List.getElem?_cons_zero] at hx
          obtain rfl := Option.some.inj hx
          rw [ba_size, ba_mk, List.length_take]
          refine ⟨by omega, by omega, fun h1 => ?_⟩
          by_cases h198 : L.length ≤ 198
          · rw [List.drop_eq_nil_of_le h198, pch_nil] at h1
            simp at h1
          · omega
        | succ i =>
          rw [List.getElem?_cons_succ] at hx
          obtain ⟨j1, j2, j3⟩ := i2 i x hx
          refine ⟨j1, j2, fun h1 => j3 ?_⟩
          rw [List.length_cons] at h1
          omega

theorem rd_get (l : List ByteArray) (i : Nat) (h : i < l.length) : rdOf ByteArray.empty l (i : Int) = l[i] := by
  unfold rdOf
  rw [Int.toNat_natCast, List.getD_eq_getElem?_getD, List.getElem?_eq_getElem h]
  rfl

theorem whole_l (t : ByteArray) (l : List ByteArray) (ht : t.size ≤ 5000) (hfl : (l.map (·.data.toList)).flatten = t.data.toList) (hl : l.length ≤ 5000)
    (hg : ∀ (i : Nat) (x : ByteArray), l[i]? = some x → x.size ≤ 198 ∧ 0 < x.size ∧ (i + 1 < l.length → x.size = 198)) (m : Nat) : ∀ (i k : Nat) (acc : ByteArray), m < k → i + m = l.length → acc.data.toList = ((l.take i).map (·.data.toList)).flatten → acc.size ≤ 5000 + 198 * i →
    sphragislaw05_PadWhole.l0 k t true l acc (i : Int) = some true := by
  induction m with
  | zero =>
    intro i k acc hk hi ha hsz
    obtain ⟨k, rfl⟩ : ∃ j, k = j + 1 := ⟨k - 1, by omega⟩
    simp only [sphragislaw05_PadWhole.l0]
    have c1 : ¬ ((i : Int) < (l.length : Int)) := by omega
    rw [List.take_of_length_le (by omega), hfl] at ha
    rw [if_neg c1, if_pos trivial, ba_ext ha]
    simp
  | succ m ih =>
    intro i k acc hk hi ha hsz
    obtain ⟨k, rfl⟩ : ∃ j, k = j + 1 := ⟨k - 1, by omega⟩
    simp only [sphragislaw05_PadWhole.l0]
    have hi2 : i < l.length := by omega
    obtain ⟨g1, g2, g3⟩ := hg i l[i] (List.getElem?_eq_getElem hi2)
    have c1 : (i : Int) < (l.length : Int) := by omega
    have c2 : (0 : Int) ≤ (i : Int) := by omega
    have k1 : m < k := by omega
    have k2 : i + 1 + m = l.length := by omega
    have c5 : acc.size + l[i].size ≤ 9223372036854775807 := by omega
    have k3 : (acc ++ l[i]).data.toList = ((l.take (i + 1)).map (·.data.toList)).flatten := by
      rw [ba_app, ha, List.take_succ_eq_append_getElem hi2, List.map_append, List.flatten_append]
      simp only [List.map_cons, List.map_nil, List.flatten_cons, List.flatten_nil, List.append_nil]
    have k4 : (acc ++ l[i]).size ≤ 5000 + 198 * (i + 1) := by rw [ByteArray.size_append]; omega
    have hne : l[i].toList ≠ [] := by
      intro e
      rw [Lib.toList_data] at e
      rw [ba_size, e] at g2
      cases g2
    have hlast : i + 1 < l.length ∨ ¬ i + 1 < l.length := by omega
    have hw2 : ((l.length : Int) - 1 < 9223372036854775808) := by omega
    have w1 : wrap64 ((i : Int) + 1) = ((i + 1 : Nat) : Int) := by clear c5; unfold wrap64; omega
    have w2 : wrap64 ((l.length : Int) - 1) = ((l.length - 1 : Nat) : Int) := by clear c5 w1; unfold wrap64; omega
    rw [if_pos c1, if_pos c2, rd_get l i hi2, pad_yes _ g1]
    simp only [Option.bind_some, if_true]
    rw [if_neg hne, w1, w2]
    rcases hlast with h | h
    · have d1 : (i : Int) < ((l.length - 1 : Nat) : Int) := by clear w1 w2; omega
      have d2 : (l[i].size : Int) = 198 := by rw [g3 h]; rfl
      rw [if_pos d1, if_pos d2, if_pos c5]
      exact ih (i + 1) k _ k1 k2 k3 k4
    · have d1 : ¬ (i : Int) < ((l.length - 1 : Nat) : Int) := by clear w1 w2; omega
      rw [if_neg d1, if_pos c5]
      exact ih (i + 1) k _ k1 k2 k3 k4

theorem PadWhole : sphragislaw05_PadWhole.Pure := by
  intro s hs
  refine ⟨6000, ?_⟩
  unfold sphragislaw05_PadWhole.f
  obtain ⟨c1, c2, c3⟩ := cut5000 s
  rw [shown_up]
  simp only [Option.bind_some]
  rw [if_pos c1, if_pos c2]
  generalize s.extract 0 (mn (s.size : Int) 5000).toNat = t at *
  have hl : (pch t.size t.data.toList).length ≤ 5000 := by
    have := pch_len t.size t.data.toList
    rw [← ba_size] at this
    omega
  rw [cut_eq t c3]
  simp only [Option.bind_some]
  obtain ⟨g1, g2⟩ := pch_good t.size t.data.toList (by rw [← ba_size]; exact Nat.le_refl _)
  exact whole_l t _ c3 g1 hl g2 _ 0 6000 _ (by omega) (Nat.zero_add _) (by simp) (by decide)
end Go.Proofs.Ytnadbgcllejleaa.H
