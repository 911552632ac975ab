/- Plain facts of further laws of the bodies. -/
import Derived.Test.YtnadbgcllejleaaP1
import Derived.Test.YtnadbgcllejleaaH2
import Derived.Test.YtnadbgcllejleaaH2
import Derived.Test.YtnadbgcllejleaaH3
import Derived.Test.YtnadbgcllejleaaH4
set_option maxRecDepth 100000
set_option linter.unusedSimpArgs false
set_option linter.unusedVariables false
namespace Go.Proofs.Ytnadbgcllejleaa.H
open Go.RowKit Go.Proofs.YtnadbgcllejleaaW.PrintWords Go.Proofs.YtnadbgcllejleaaW.PrintLast Go.Proofs.YtnadbgcllejleaaW.PrintMore Go.Proofs.Ytnadbgcllejleaa.Le Go.Proofs.Ytnadbgcllejleaa.Bits

theorem refunpad_l (s : ByteArray) (n : Nat) (hs : s.size = 200) (hn : n ≤ 198) (m : Nat) : ∀ (i k : Nat), m < k → i + m = 200 → 2 + n ≤ i →
    sphragisref05_Unpad.l0 k s (n : Int) (i : Int) = some (if (s.data.toList.drop i).all (· == 0) = true then (s.extract 2 (2 + n), 0) else (⟨#[]⟩, 50)) := by
  have hL : s.data.toList.length = 200 := by rw [← ba_size]; exact hs
  induction m with
  | zero =>
    intro i k hk hi h2
    obtain ⟨k, rfl⟩ : ∃ j, k = j + 1 := ⟨k - 1, by omega⟩
    simp only [sphragisref05_Unpad.l0]
    have c1 : ¬ ((i : Int) < (s.size : Int)) := by omega
    have c2 : (2 : Int) ≤ ((2 + n : Nat) : Int) := by omega
    have c3 : ((2 + n : Nat) : Int) ≤ (s.size : Int) := by omega
    have c4 : s.data.toList.length ≤ i := by omega
    have w2 : wrap64 (2 + (n : Int)) = ((2 + n : Nat) : Int) := by unfold wrap64; omega
    rw [if_neg c1, w2, List.drop_eq_nil_of_le c4, if_pos c2, if_pos c3, Int.toNat_natCast]
    rfl
  | succ m ih =>
    intro i k hk hi h2
    obtain ⟨k, rfl⟩ : ∃ j, k = j + 1 := ⟨k - 1, by omega⟩
    simp only [sphragisref05_Unpad.l0]
    have c1 : (i : Int) < (s.size : Int) := by omega
    have c2 : (0 : Int) ≤ (i : Int) := by omega
    have k1 : m < k := by omega
    have k2 : i + 1 + m = 200 := by omega
    have k3 : i < s.data.toList.length := by omega
    have k4 : 2 + n ≤ i + 1 := by omega
    have w4 : wrap64 ((i : Int) + 1) = ((i + 1 : Nat) : Int) := by unfold wrap64; omega
    rw [if_pos c1, if_pos c2, w4, bt_getD, ih (i + 1) k k1 k2 k4, drop_getD (L := s.data.toList) (i := i) k3]
    simp only [List.all_cons, Bool.and_eq_true, beq_iff_eq]
    have hz := byte_zero (b := s.data.toList.getD i 0)
    by_cases h0 : s.data.toList.getD i 0 = 0
    · have h1 : ((s.data.toList.getD i 0).toNat : Int) = 0 := by rw [hz.2 h0]; rfl
      rw [if_pos h1]
      simp only [h0, true_and]
    · have h1 : ¬ ((s.data.toList.getD i 0).toNat : Int) = 0 := fun e => h0 (hz.1 (by exact_mod_cast e))
      rw [if_neg h1, if_neg (fun h => h0 h.1)]

theorem refunpad_eq (s : ByteArray) : sphragisref05_Unpad.f 300 s = some (unp s.data.toList) := by
  unfold sphragisref05_Unpad.f
  by_cases hl : s.size = 200
  · have hL : s.data.toList.length = 200 := by rw [← ba_size]; exact hl
    rw [if_pos (by omega), if_pos (by omega), if_pos (by omega), nOf_ref]
    generalize hn : nOf s.data.toList = n
    by_cases h1 : n ≤ 198
    · rw [if_neg (by omega)]
      have e1 : wrap64 (2 + (n : Int)) = ((2 + n : Nat) : Int) := by unfold wrap64; omega
      have := refunpad_l s n hl h1 (198 - n) (2 + n) 300 (by clear e1; omega) (by clear e1; omega) (by clear e1; omega)
      rw [e1, this]
      unfold unp isPad
      rw [hn, hL]
      simp only [Nat.add_zero, decide_true, Bool.true_and, h1, true_and]
      congr 1
      by_cases hz : (s.data.toList.drop (2 + n)).all (· == 0) = true
      · rw [if_pos hz, if_pos hz]
        congr 1
        apply ba_ext
        rw [ba_ex, ba_mk, List.drop_take]
        congr 1
        clear e1
        omega
      · rw [if_neg hz, if_neg hz]
    · rw [if_pos (by omega)]
      unfold unp isPad
      rw [hn]
      simp [h1]
  · rw [if_neg (by omega)]
    unfold unp isPad
    have hL : s.data.toList.length ≠ 200 := by rw [← ba_size]; exact hl
    rw [if_neg (by rw [Bool.and_eq_true, Bool.and_eq_true, decide_eq_true_iff]; exact fun h => hL h.1.1)]

theorem PadUnpads : sphragislaw05_PadUnpads.Pure := by
  intro s hs
  refine ⟨300, ?_⟩
  unfold sphragislaw05_PadUnpads.f
  rw [shown_true, unpad_eq, refunpad_eq]
  simp

theorem mk_data (s : ByteArray) : (⟨s.data.toList.toArray⟩ : ByteArray) = s := ba_ext (by rw [ba_mk])

theorem unp_fst_size {L : List UInt8} : (unp L).1.size ≤ 198 := by
  unfold unp
  split
  · rename_i h
    rw [ba_size, ba_mk]
    exact (pad_unp h).2
  · exact Nat.zero_le _

theorem PadBack : sphragislaw05_PadBack.Pure := by
  intro s b hs hb
  refine ⟨300, ?_⟩
  unfold sphragislaw05_PadBack.f
  rw [shown_true]
  have hz : (unp b.data.toList).2 = 0 ∧ padL (unp b.data.toList).1.data.toList = b.data.toList ∨ (unp b.data.toList).2 = 50 ∧ (unp b.data.toList).1 = ⟨#[]⟩ := by
    by_cases h : isPad b.data.toList = true
    · rw [unp_ok h]
      exact .inl ⟨rfl, by rw [ba_mk]; exact (pad_unp h).1⟩
    · rw [unp_no h]
      exact .inr ⟨rfl, rfl⟩
  have hw := pad_yes (unp b.data.toList).1 unp_fst_size
  by_cases h : s.size ≤ 198
  · have hl : s.data.toList.length ≤ 198 := by rw [← ba_size]; exact h
    have hsz : (⟨(padL s.data.toList).toArray⟩ : ByteArray).size = 200 := by rw [ba_size, ba_mk, padL_length hl]
    rw [pad_yes s h]
    simp only [Option.bind_some]
    rw [unpad_eq, unpad_eq, ba_mk, unp_pad hl, mk_data]
    simp only [Option.bind_some]
    rw [hw, hsz]
    simp only [Option.bind_some]
    generalize unp b.data.toList = z at *
    rcases hz with ⟨h1, h2⟩ | ⟨h1, h2⟩
    · simp [h1, h2, Lib.toList_data]
    · simp [h1, h2]
  · rw [pad_no s (by omega)]
    simp only [Option.bind_some]
    rw [unpad_eq, unpad_eq]
    simp only [Option.bind_some]
    rw [hw]
    simp only [Option.bind_some]
    have : (s.size : Int) > 198 := by omega
    simp [this]

theorem PadTurns : sphragislaw05_PadTurns.Pure := by
  intro s at_ c hs hat hc
  refine ⟨300, ?_⟩
  unfold sphragislaw05_PadTurns.f
  rw [shown_true]
  have hc2 := bounds_u8 hc
  by_cases h : s.size ≤ 198
  · have hl : s.data.toList.length ≤ 198 := by rw [← ba_size]; exact h
    rw [pad_yes s h]
    simp only [Option.bind_some]
    have hsz : (⟨(padL s.data.toList).toArray⟩ : ByteArray).size = 200 := by rw [ba_size, ba_mk, padL_length hl]
    have hdat : (⟨(padL s.data.toList).toArray⟩ : ByteArray).data.toList = padL s.data.toList := ba_mk _
    generalize hB : (⟨(padL s.data.toList).toArray⟩ : ByteArray) = B at *
    rw [hsz]
    simp only [if_true]
    by_cases a0 : at_ < 0
    · rw [if_pos a0]
    · rw [if_neg a0]
      by_cases a1 : at_ ≥ 200
      · rw [if_pos (by exact_mod_cast a1)]
      · obtain ⟨i, rfl⟩ := Int.eq_ofNat_of_zero_le (show 0 ≤ at_ by omega)
        have i1 : i < 200 := by omega
        have c1 : ¬ ((i : Int) ≥ ((200 : Nat) : Int)) := by omega
        have c2 : (0 : Int) ≤ (i : Int) := by omega
        have c3 : (i : Int) < ((200 : Nat) : Int) := by omega
        have c4 : (i : Int) ≤ ((200 : Nat) : Int) := by omega
        rw [if_neg c1, if_pos c2, if_pos c3, bt_getD]
        by_cases hbc : ((B.data.toList.getD i 0).toNat : Int) = c
        · rw [if_pos hbc]
        · rw [if_neg hbc, if_pos c4]
          have w1 : wrap64 ((i : Int) + 1) = ((i + 1 : Nat) : Int) := by unfold wrap64; omega
          have s1 : (strOfNums [c]).size = 1 := by rw [strOfNums_size]; rfl
          have s2 : (B.extract 0 i).size = i := by rw [ByteArray.size_extract]; omega
          have s3 : (B.extract (i + 1) 200).size = 199 - i := by rw [ByteArray.size_extract]; omega
          have d1 : (0 : Int) ≤ ((i + 1 : Nat) : Int) := by omega
          have d2 : ((i + 1 : Nat) : Int) ≤ ((200 : Nat) : Int) := by omega
          have d3 : (B.extract 0 i).size + (strOfNums [c]).size ≤ 9223372036854775807 := by rw [s1, s2]; omega
          have d4 : (B.extract 0 i).size + (strOfNums [c]).size + (B.extract (i + 1) 200).size ≤ 9223372036854775807 := by rw [s1, s2, s3]; omega
          rw [w1]
          simp only [Option.bind_some, Int.toNat_natCast]
          rw [if_pos d3, if_pos d1, if_pos d2, if_pos d4, unpad_eq]
          have hX : ((B.extract 0 i) ++ strOfNums [c] ++ (B.extract (i + 1) 200)).data.toList = (padL s.data.toList).take i ++ [UInt8.ofNat c.toNat] ++ (padL s.data.toList).drop (i + 1) := by
            have hlen := padL_length hl
            rw [ba_app, ba_app, ba_ex, ba_ex, hdat, List.drop_zero, List.take_of_length_le (l := padL s.data.toList) (i := 200) (by rw [hlen]; exact Nat.le_refl _)]
            rfl
          rw [hX]
          rw [hdat] at hbc
          generalize hP : (padL s.data.toList).take i ++ [UInt8.ofNat c.toNat] ++ (padL s.data.toList).drop (i + 1) = P
          have hPi : P.getD i 0 = UInt8.ofNat c.toNat := by
            have hlen := padL_length hl
            rw [← hP, List.getD_eq_getElem?_getD, List.append_assoc, List.getElem?_append_right (by rw [List.length_take]; omega)]
            have : i - ((padL s.data.toList).take i).length = 0 := by rw [List.length_take]; omega
            rw [this]
            rfl
          by_cases hp : isPad P = true
          · rw [unp_ok hp]
            simp only [Option.bind_some, if_true]
            have hne : (⟨((P.drop 2).take (nOf P)).toArray⟩ : ByteArray).toList ≠ s.toList := by
              intro e
              rw [Lib.toList_data, Lib.toList_data, ba_mk] at e
              have h1 := (pad_unp hp).1
              rw [e] at h1
              rw [← h1] at hPi
              apply hbc
              rw [hPi, UInt8.toNat_ofNat']
              omega
            generalize (⟨((P.drop 2).take (nOf P)).toArray⟩ : ByteArray) = z at hne ⊢
            simp [hne]
          · rw [unp_no hp]
            simp
  · rw [pad_no s (by omega)]
    simp

theorem PadSizes_aux (m : Nat) (h : m ≠ 200) : pad_Unpad.f 299 (strOfNums (List.replicate m 0)) = some (⟨#[]⟩, 50) := by
  unfold pad_Unpad.f
  have : (strOfNums (List.replicate m 0)).size = m := by rw [strOfNums_size, List.length_replicate]
  rw [if_neg (by omega)]

theorem PadSizes : sphragislaw05_PadSizes.Pure := by
  intro s t n hs ht hn
  refine ⟨300, ?_⟩
  have hn2 := bounds_i64 hn
  unfold sphragislaw05_PadSizes.f
  rw [shown_true]
  have fin : sphragislaw05_PadSizes.j0 300 n true false = some true := by
    simp only [sphragislaw05_PadSizes.j0, Bool.false_eq_true, if_false]
    by_cases n0 : n < 0
    · rw [if_pos n0]
    · by_cases n1 : n > 1000
      · rw [if_neg n0, if_pos n1]
      · by_cases n2 : n = 200
        · rw [if_neg n0, if_neg n1, if_pos n2]
        · rw [if_neg n0, if_neg n1, if_neg n2, if_pos (by omega), if_pos (by omega), PadSizes_aux n.toNat (by omega)]
          rfl
  by_cases h : s.size ≤ 198
  · by_cases h2 : t.size ≤ 198
    · have e1 : (⟨(padL s.data.toList).toArray⟩ : ByteArray).size = 200 := by rw [ba_size, ba_mk, padL_length (by rw [← ba_size]; exact h)]
      have e2 : (⟨(padL t.data.toList).toArray⟩ : ByteArray).size = 200 := by rw [ba_size, ba_mk, padL_length (by rw [← ba_size]; exact h2)]
      rw [pad_yes s h, pad_yes t h2]
      simp only [Option.bind_some, if_true]
      rw [e1, e2]
      simpa using fin
    · rw [pad_yes s h, pad_no t (by omega)]
      simpa using fin
  · by_cases h2 : t.size ≤ 198
    · rw [pad_no s (by omega), pad_yes t h2]
      simpa using fin
    · rw [pad_no s (by omega), pad_no t (by omega)]
      simpa using fin
end Go.Proofs.Ytnadbgcllejleaa.H
