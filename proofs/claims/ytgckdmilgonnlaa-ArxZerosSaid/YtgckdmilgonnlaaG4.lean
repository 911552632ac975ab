/- The program's stream: the walk. -/
import Derived.Test.YtgckdmilgonnlaaG3c
import Derived.Test.YtgckdmilgonnlaaBuilder
import Derived.Laws.BitsAllLaws
namespace Go.Proofs.Ytgckdmilgonnlaa.H
open Go.RowKit Go.Shelf Go.Proofs.YtgckdmilgonnlaaW.PrintWords Go.Proofs.YtgckdmilgonnlaaW.PrintLast Go.Proofs.YtgckdmilgonnlaaW.PrintMore Go.Proofs.Ytgckdmilgonnlaa.Le Go.Proofs.Ytgckdmilgonnlaa.RowOf
attribute [local go_sem] Oper.semAt_some min2_int min_two
set_option linter.unusedVariables false
set_option linter.unusedSimpArgs false

theorem wds_length (k : Nat) : ∀ t : ByteArray, t.size ≤ k → (wds k t).length = t.size / 4 := by
  induction k with
  | zero => intro t h; rw [wds, show t.size = 0 by omega]; rfl
  | succ k ih =>
    intro t h
    rw [wds]
    split
    · rw [show t.size / 4 = 0 by omega]; rfl
    · have hx : (t.extract 4 t.size).size = t.size - 4 := by rw [ByteArray.size_extract]; omega
      rw [List.length_cons, ih _ (by omega), hx]
      omega
theorem strOfNums_size (l : List Int) : (strOfNums l).size = l.length := by
  unfold strOfNums
  simp [ByteArray.size]
theorem allW_len (key : ByteArray) (n : Int) (nonce : ByteArray) (hk : key.size = 32) (hn : nonce.size = 12) : (allW (tx key n nonce)).length = 16 := by
  have h4 : (strOfNums (wb n)).size = 4 := strOfNums_size _
  simp only [allW, tx, List.map_cons, List.map_nil, List.flatten_cons, List.flatten_nil, List.append_nil, List.length_append]
  rw [wds_length _ _ (Nat.le_refl _), wds_length _ _ (Nat.le_refl _), wds_length _ _ (Nat.le_refl _), wds_length _ _ (Nat.le_refl _), h4, hk, hn]
  rfl
/-- The bytes of a block of the stream. -/
def kb (key : ByteArray) (n : Nat) (nonce : ByteArray) : ByteArray := refBlock (allW (tx key (n : Int) nonce))
theorem kb_size (key : ByteArray) (n : Nat) (nonce : ByteArray) : (kb key n nonce).size = 64 := by
  rw [kb, refBlock, strOfNums_size, outB_length]
theorem kb_block (key : ByteArray) (n : Nat) (nonce : ByteArray) (hk : key.size = 32) (hn : nonce.size = 12) : arx_Block.f key (n : Int) nonce = some (kb key n nonce, 0) := by
  rw [arx_Block.f, if_pos ⟨hk, hn⟩, if_pos (allW_len _ _ _ hk hn), kb]
def xorB (key nonce s : ByteArray) (i : Nat) : UInt8 := s.data.toList.getD i 0 ^^^ (kb key (i / 64) nonce).data.toList.getD (i % 64) 0
def xorL (key nonce s : ByteArray) : List UInt8 := (List.range s.size).map (xorB key nonce s)
def arx_Xor.f (key nonce s : ByteArray) : Option (ByteArray × Int) :=
  if key.size = 32 ∧ nonce.size = 12 ∧ s.size ≤ 1048576 then some (⟨(xorL key nonce s).toArray⟩, 0) else some (⟨#[]⟩, 2)
theorem xorL_length (key nonce s : ByteArray) : (xorL key nonce s).length = s.size := by simp [xorL]
theorem xorL_take (key nonce s : ByteArray) (i : Nat) (h : i < s.size) : (xorL key nonce s).take (i + 1) = (xorL key nonce s).take i ++ [xorB key nonce s i] := by
  rw [List.take_succ_eq_append_getElem (by rw [xorL_length]; exact h)]
  simp [xorL]

theorem xor_next (key nonce s p K : ByteArray) (n j : Nat) (hK : kb key n nonce = K) (hKs : K.size = 64) (hj : j < p.size) (hjk : j < K.size) (hp : p.data.toList = (s.data.toList.drop (64 * n)).take p.size ∧ 64 * n + p.size ≤ s.size) :
    Lib.byteCells ((xorL key nonce s).take (64 * n + j)) ++ [.int .u8 (bits .xor .u8 (p[j].toNat : Int) (K[j].toNat : Int))] = Lib.byteCells ((xorL key nonce s).take (64 * n + (j + 1))) := by
  rw [show 64 * n + (j + 1) = 64 * n + j + 1 by omega, xorL_take _ _ _ _ (by omega), Lib.byteCells_append]
  congr 1
  show [_] = [Value.int .u8 ((xorB key nonce s (64 * n + j)).toNat : Int)]
  have e1 : s.data.toList.getD (64 * n + j) 0 = p[j] := by
    have h1 : p[j] = p.data.toList[j]'(by rw [← ba_size]; exact hj) := rfl
    rw [h1]
    simp only [hp.1, List.getElem_take, List.getElem_drop]
    rw [List.getD_eq_getElem?_getD, List.getElem?_eq_getElem (by rw [← ba_size]; omega)]
    rfl
  have e2 : (kb key ((64 * n + j) / 64) nonce).data.toList.getD ((64 * n + j) % 64) 0 = K[j] := by
    rw [show (64 * n + j) / 64 = n by omega, show (64 * n + j) % 64 = j by omega, hK]
    rw [List.getD_eq_getElem?_getD, List.getElem?_eq_getElem (by rw [← ba_size]; omega)]
    rfl
  rw [xorB, e1, e2, UInt8.toNat_xor, u8_xor_nat _ _ (UInt8.toNat_lt _) (UInt8.toNat_lt _)]
theorem builder_below {T e B b : Nat} {bs : List Value} {w w' : World} (h : Lib.IsBuilder T e B b bs w) (hb : Below w.heap.size w w') : Lib.IsBuilder T e B b bs w' := by
  have key : ∀ p, Lib.BuilderAt T e B b p bs w → Lib.BuilderAt T e B b p bs w' := by
    rintro p ⟨hB, v, hbk, hown, hne⟩
    refine ⟨hB, v, (hb.block b (Array.getElem?_eq_some_iff.1 hbk).1).trans hbk, ?_, hne⟩
    exact hown.kept (row := none) ⟨hb.os, hb.tape, hb.output, hb.size, fun k hk _ => hb.block k hk⟩ (by
      cases v.ownBlock with
      | none => exact .inl rfl
      | some k => exact .inr (by simp))
  exact h.imp (key _) (key _)

set_option maxRecDepth 100000 in
set_option maxHeartbeats 2000000 in
theorem arx_Xor.calls (a0 a1 a2 : ByteArray) (r1 : ByteArray) (r2 : Int) (w : World) (h : arx_Xor.f a0 a1 a2 = some (r1, r2)) :
    Calls Try.prog 15 #[.string a0, .string a1, .string a2] w fun e w' => e = .returned (.tuple #[.string r1, .int .i64 r2]) ∧ Below w.heap.size w w' := by
  unfold arx_Xor.f at h
  by_cases hk : a0.size = 32
  · by_cases hn : a1.size = 12
    · have hk1 : ((a0.size : Int) == 32) = true := by rw [hk]; rfl
      have hn1 : ((a1.size : Int) == 12) = true := by rw [hn]; rfl
      have hk2 : ((a0.size : Int) != 32) = false := by rw [hk]; rfl
      have hn2 : ((a1.size : Int) != 12) = false := by rw [hn]; rfl
      by_cases hs : a2.size ≤ 1048576
      · rw [if_pos ⟨hk, hn, hs⟩] at h
        simp only [Option.some.injEq, Prod.mk.injEq] at h
        obtain ⟨rfl, rfl⟩ := h
        have hs1 : decide ((1048576 : Int) < (a2.size : Int)) = false := decide_eq_false (by omega)
        have hs2 : decide ((a2.size : Int) > 1048576) = false := decide_eq_false (by omega)
        have Hk := Lib.hid hk
        have Hn := Lib.hid hn
        clear hk hn
        go_enter Try.func15, Try.ntmps15
        go_wp2
        have hB0 := Lib.fresh_isBuilder 52 5 w
        go_loopw [2, 9] (fun vs vn wr => ∃ (n : Nat) (t : ByteArray), vs = .string t ∧ vn = .int .u32 n ∧ 64 * n ≤ a2.size + 63 ∧ t.data.toList = a2.data.toList.drop (64 * n) ∧ Lib.IsBuilder 52 5 w.heap.size w.heap.size (Lib.byteCells ((xorL a0 a1 a2).take (64 * n))) wr ∧ Below w.heap.size w wr) (fun vs _ _ => match vs with | .string t => t.size | _ => 0)
        case atStart => exact ⟨0, a2, rfl, rfl, by omega, by rw [Nat.mul_zero, List.drop_zero], by rw [Nat.mul_zero, List.take_zero]; exact hB0, (Below.refl _ w).alloc (Nat.le_refl _) _⟩
        case round =>
          clear hB0
          obtain ⟨n, t, rfl, rfl, hn64, ht, hb, hB⟩ := hrel
          have hts : t.size = a2.size - 64 * n := by rw [ba_size, ht, List.length_drop, ← ba_size]
          have hBw := hB.size
          by_cases ht0 : t = ⟨#[]⟩
          · subst ht0
            have h0 : a2.size ≤ 64 * n := by
              have : (⟨#[]⟩ : ByteArray).size = 0 := rfl
              omega
            rw [List.take_of_length_le (by rw [xorL_length]; exact h0)] at hb
            clear hts ht
            go_wp2_with (go_at_call 26; refine (Try.Builder_String_any w.heap.size w.heap.size _ _ hb hBw).mono ?_; rintro e w' ⟨rfl, hb2⟩)
            go_ret2
            exact ⟨rfl, hB.trans hb2⟩
          · have hpos : 0 < t.size := by
              rcases Nat.eq_zero_or_pos t.size with h | h
              · rw [ba_size] at h
                exact absurd (ba_ext (b := ⟨#[]⟩) (List.eq_nil_of_length_eq_zero h)) ht0
              · exact h
            have hL : t.toList ≠ [] := by
              intro h
              rw [Lib.toList_data] at h
              rw [ba_size, h] at hpos
              cases hpos
            have hne : (t.toList == ([] : List UInt8)) = false := beq_eq_false_iff_ne.2 hL
            have hne2 : (t.toList != ([] : List UInt8)) = true := bne_iff_ne.2 hL
            have HK := kb_size a0 n a1
            have HKB := Lib.hid (kb_block a0 n a1 Hk.out Hn.out)
            obtain ⟨K, hK⟩ : ∃ K, kb a0 n a1 = K := ⟨_, rfl⟩
            rw [hK] at HK HKB
            have HKe := Lib.hid hK
            have HKs := Lib.hid HK
            have Hts := Lib.hid hts
            have Ht := Lib.hid ht
            have hn2 : (n : Int) < 4294967295 := by omega
            have hn0 : (0 : Int) ≤ (n : Int) := by omega
            clear hK HK hL ht0 hts ht
            by_cases h64 : t.size ≤ 64
            · have hc0 : ¬ (K.size < t.size) := by rw [HKs.out]; omega
              have hc1 : ¬ ((K.size : Int) < (t.size : Int)) := by omega
              go_upto_region 9 with (go_at_call 13; refine (arx_Block.calls _ _ _ _ _ _ HKB.out).mono ?_; rintro e w' ⟨rfl, hbk⟩)
              have hPs : t.size ≤ K.size := by omega
              have hPd : t.data.toList = (a2.data.toList.drop (64 * n)).take t.size ∧ 64 * n + t.size ≤ a2.size := by
                have := Hts.out
                rw [← Ht.out, List.take_of_length_le (by rw [← ba_size]; omega)]
                exact ⟨rfl, by omega⟩
              have HPd := Lib.hid hPd
              clear hPd
              have hBk := hB.trans (hbk.mono hBw)
              have hb1 : Lib.IsBuilder 52 5 w.heap.size w.heap.size (Lib.byteCells ((xorL a0 a1 a2).take (64 * n))) w' := builder_below hb hbk
              clear hb hB hbk
              go_wp2
              go_loopw [47] (fun vj wi => ∃ j : Nat, vj = .int .i64 j ∧ j ≤ t.size ∧ Lib.IsBuilder 52 5 w.heap.size w.heap.size (Lib.byteCells ((xorL a0 a1 a2).take (64 * n + j))) wi ∧ Below w.heap.size w wi) (fun vj _ => t.size - (intOf vj).toNat)
              case atStart => exact ⟨0, rfl, by omega, hb1, hBk⟩
              case round =>
                clear hb1 hBk
                obtain ⟨j, rfl, hj, hb1, hBk⟩ := hrel
                by_cases hje : j = t.size
                · subst hje
                  go_wp2
                  have hts := Hts.out
                  refine ⟨⟨n + 1, ByteArray.empty, rfl, by go_num, by omega, ?_, ?_, hBk⟩, ?_⟩
                  · rw [List.drop_eq_nil_of_le (by rw [← ba_size]; omega)]
                    rfl
                  · rw [List.take_of_length_le (by rw [xorL_length]; omega)] at hb1
                    rw [List.take_of_length_le (by rw [xorL_length]; omega)]
                    exact hb1
                  · exact hpos
                · have hjl : decide ((j : Int) < (t.size : Int)) = true := decide_eq_true (by omega)
                  have hj0 : (0 : Int) ≤ (j : Int) := by omega
                  have hj1 : (j : Int) < (t.size : Int) := by omega
                  have hj2 : (j : Int) < (K.size : Int) := by omega
                  go_upto_region 12 with (fail)
                  go_still_tail 7, (by kernel_rfl)
                  change wpList _ _ _ _ _ wr.drew
                  have hbd : Lib.IsBuilder 52 5 w.heap.size w.heap.size (Lib.byteCells ((xorL a0 a1 a2).take (64 * n + j))) wr.drew := hb1
                  have hBd := hBk.drew
                  have hlen : (Lib.byteCells ((xorL a0 a1 a2).take (64 * n + j))).length + 1 ≤ 140737488355328 := by
                    rw [Lib.byteCells_length, List.length_take, xorL_length]
                    omega
                  have hbs := hBd.size
                  clear hb1 hBk
                  go_wp2_with (go_at_call 25; refine (Bld.WriteByte w.heap.size w.heap.size _ _ _ hbd hlen hbs).mono ?_; rintro e w2 ⟨rfl, hb2, hbl2⟩)
                  exact ⟨⟨j + 1, by go_num, by omega, by
                    rw [← xor_next a0 a1 a2 t K n j HKe.out HKs.out (by omega) (by omega) HPd.out]
                    exact .inr hb2, hBd.trans hbl2⟩, by simp [intOf]; omega⟩
            · have hc0 : (K.size < t.size) := by rw [HKs.out]; omega
              have hc1 : ((K.size : Int) < (t.size : Int)) := by omega
              go_upto_region 9 with (go_at_call 13; refine (arx_Block.calls _ _ _ _ _ _ HKB.out).mono ?_; rintro e w' ⟨rfl, hbk⟩)
              have hPs : (t.extract 0 K.size).size ≤ K.size := by rw [ByteArray.size_extract]; omega
              generalize hPe : t.extract 0 K.size = p at *
              have hPd : p.data.toList = (a2.data.toList.drop (64 * n)).take p.size ∧ 64 * n + p.size ≤ a2.size := by
                have h1 := Hts.out
                have h2 := HKs.out
                have h3 : p.size = 64 := by rw [← hPe, ByteArray.size_extract]; omega
                rw [← Ht.out, h3, ← hPe, ba_ex, h2, List.drop_zero]
                exact ⟨rfl, by omega⟩
              have hp64 : p.size ≤ 64 := by rw [← hPe, ByteArray.size_extract]; have := HKs.out; omega
              have HPd := Lib.hid hPd
              have HPe := Lib.hid hPe
              clear hPe hPd
              have hBk := hB.trans (hbk.mono hBw)
              have hb1 : Lib.IsBuilder 52 5 w.heap.size w.heap.size (Lib.byteCells ((xorL a0 a1 a2).take (64 * n))) w' := builder_below hb hbk
              clear hb hB hbk
              go_wp2
              go_loopw [47] (fun vj wi => ∃ j : Nat, vj = .int .i64 j ∧ j ≤ p.size ∧ Lib.IsBuilder 52 5 w.heap.size w.heap.size (Lib.byteCells ((xorL a0 a1 a2).take (64 * n + j))) wi ∧ Below w.heap.size w wi) (fun vj _ => p.size - (intOf vj).toNat)
              case atStart => exact ⟨0, rfl, by omega, hb1, hBk⟩
              case round =>
                clear hb1 hBk
                obtain ⟨j, rfl, hj, hb1, hBk⟩ := hrel
                by_cases hje : j = p.size
                · subst hje
                  go_wp2
                  have hts := Hts.out
                  have hKs := HKs.out
                  have hp64 : p.size = 64 := by rw [← HPe.out, ByteArray.size_extract]; omega
                  refine ⟨⟨n + 1, _, rfl, by go_num, by omega, ?_, ?_, hBk⟩, ?_⟩
                  · rw [ba_ex, hp64, Ht.out, List.take_of_length_le (by rw [List.length_drop, ← ba_size]; omega), List.drop_drop]
                    rfl
                  · rw [hp64] at hb1
                    exact hb1
                  · show (t.extract p.size t.size).size < t.size
                    rw [ByteArray.size_extract]
                    omega
                · have hjl : decide ((j : Int) < (p.size : Int)) = true := decide_eq_true (by omega)
                  have hj0 : (0 : Int) ≤ (j : Int) := by omega
                  have hj1 : (j : Int) < (p.size : Int) := by omega
                  have hj2 : (j : Int) < (K.size : Int) := by omega
                  go_upto_region 12 with (fail)
                  go_still_tail 7, (by kernel_rfl)
                  change wpList _ _ _ _ _ wr.drew
                  have hbd : Lib.IsBuilder 52 5 w.heap.size w.heap.size (Lib.byteCells ((xorL a0 a1 a2).take (64 * n + j))) wr.drew := hb1
                  have hBd := hBk.drew
                  have hlen : (Lib.byteCells ((xorL a0 a1 a2).take (64 * n + j))).length + 1 ≤ 140737488355328 := by
                    rw [Lib.byteCells_length, List.length_take, xorL_length]
                    omega
                  have hbs := hBd.size
                  clear hb1 hBk
                  go_wp2_with (go_at_call 25; refine (Bld.WriteByte w.heap.size w.heap.size _ _ _ hbd hlen hbs).mono ?_; rintro e w2 ⟨rfl, hb2, hbl2⟩)
                  exact ⟨⟨j + 1, by go_num, by omega, by
                    rw [← xor_next a0 a1 a2 p K n j HKe.out HKs.out (by omega) (by omega) HPd.out]
                    exact .inr hb2, hBd.trans hbl2⟩, by simp [intOf]; omega⟩
      · rw [if_neg (fun h => hs h.2.2)] at h
        simp only [Option.some.injEq, Prod.mk.injEq] at h
        obtain ⟨rfl, rfl⟩ := h
        have hs1 : decide ((1048576 : Int) < (a2.size : Int)) = true := decide_eq_true (by omega)
        have hs2 : decide ((a2.size : Int) > 1048576) = true := decide_eq_true (by omega)
        go_enter Try.func15, Try.ntmps15
        go_wp2
        go_ret2
        exact ⟨rfl, Below.refl _ _⟩
    · rw [if_neg (fun h => hn h.2.1)] at h
      simp only [Option.some.injEq, Prod.mk.injEq] at h
      obtain ⟨rfl, rfl⟩ := h
      have hk1 : ((a0.size : Int) == 32) = true := by rw [hk]; rfl
      have hk2 : ((a0.size : Int) != 32) = false := by rw [hk]; rfl
      have hn1 : ((a1.size : Int) == 12) = false := beq_eq_false_iff_ne.2 (by omega)
      have hn2 : ((a1.size : Int) != 12) = true := bne_iff_ne.2 (by omega)
      go_enter Try.func15, Try.ntmps15
      go_wp2
      go_ret2
      exact ⟨rfl, Below.refl _ _⟩
  · rw [if_neg (fun h => hk h.1)] at h
    simp only [Option.some.injEq, Prod.mk.injEq] at h
    obtain ⟨rfl, rfl⟩ := h
    have hk1 : ((a0.size : Int) == 32) = false := beq_eq_false_iff_ne.2 (by omega)
    have hk2 : ((a0.size : Int) != 32) = true := bne_iff_ne.2 (by omega)
    go_enter Try.func15, Try.ntmps15
    go_wp2
    go_ret2
    exact ⟨rfl, Below.refl _ _⟩

end Go.Proofs.Ytgckdmilgonnlaa.H
