/- Plain facts of the stream's functions: the two blocks are one. -/
import Derived.Test.YtgckdmilgonnlaaG5
import Derived.Test.YtgckdmilgonnlaaBits
import Derived.Test.YtgckdmilgonnlaaH2
import Derived.Test.YtgckdmilgonnlaaH4
set_option maxRecDepth 100000
set_option linter.unusedSimpArgs false
set_option linter.unusedVariables false
namespace Go.Proofs.Ytgckdmilgonnlaa.H
open Go.RowKit Go.Proofs.YtgckdmilgonnlaaW.PrintWords Go.Proofs.YtgckdmilgonnlaaW.PrintLast Go.Proofs.YtgckdmilgonnlaaW.PrintMore Go.Proofs.Ytgckdmilgonnlaa.Le

theorem bt_getD (s : ByteArray) (i : Nat) : bt s (i : Int) = ((s.data.toList.getD i 0).toNat : Int) := by
  unfold bt
  rw [Int.toNat_natCast]
  by_cases h : i < s.size
  · rw [dif_pos h, List.getD_eq_getElem?_getD, List.getElem?_eq_getElem (by simpa using h)]
    rfl
  · rw [dif_neg h, List.getD_eq_getElem?_getD, List.getElem?_eq_none (by rw [← ba_size]; omega)]
    rfl

/-- The word of four bytes. -/
def w4 (a b c d : Int) : Int := Go.bits .or .u32 (Go.bits .or .u32 (Go.bits .or .u32 (a % 4294967296) (((b % 4294967296) * 256) % 4294967296)) (((c % 4294967296) * 65536) % 4294967296)) (((d % 4294967296) * 16777216) % 4294967296)
def wat (t : ByteArray) (i : Nat) : Int := w4 (bt t ((4 * i : Nat) : Int)) (bt t ((4 * i + 1 : Nat) : Int)) (bt t ((4 * i + 2 : Nat) : Int)) (bt t ((4 * i + 3 : Nat) : Int))
theorem wv_wat (t : ByteArray) (h : 4 ≤ t.size) : wv t = wat t 0 := by
  unfold wv arx_word.f
  rw [if_pos (by omega), if_pos (by omega), if_pos (by omega), if_pos (by omega)]
  rfl
theorem bt_extract (t : ByteArray) (j : Nat) : bt (t.extract 4 t.size) (j : Int) = bt t ((4 + j : Nat) : Int) := by
  rw [bt_getD, bt_getD, ba_ex, List.getD_eq_getElem?_getD, List.getD_eq_getElem?_getD]
  rw [List.take_of_length_le (by rw [← ba_size]; omega), List.getElem?_drop]
theorem wat_extract (t : ByteArray) (i : Nat) : wat (t.extract 4 t.size) i = wat t (i + 1) := by
  unfold wat
  rw [bt_extract, bt_extract, bt_extract, bt_extract]
  rw [show 4 + 4 * i = 4 * (i + 1) by omega, show 4 + (4 * i + 1) = 4 * (i + 1) + 1 by omega, show 4 + (4 * i + 2) = 4 * (i + 1) + 2 by omega, show 4 + (4 * i + 3) = 4 * (i + 1) + 3 by omega]
theorem wds_eq (k : Nat) : ∀ t : ByteArray, t.size ≤ k → wds k t = (List.range (t.size / 4)).map (wat t) := by
  induction k with
  | zero => intro t h; rw [wds, show t.size = 0 by omega]; rfl
  | succ k ih =>
    intro t h
    rw [wds]
    split
    · rw [show t.size / 4 = 0 by omega]; rfl
    · have hx : (t.extract 4 t.size).size = t.size - 4 := by rw [ByteArray.size_extract]; omega
      rw [ih _ (by omega), hx, show t.size / 4 = (t.size - 4) / 4 + 1 by omega, List.range_succ_eq_map, List.map_cons, wv_wat _ (by omega), List.map_map]
      refine congrArg (List.cons _) ?_
      apply List.map_congr_left
      intro i _
      exact wat_extract t i
theorem refword (t : ByteArray) (i : Nat) (h : 4 * i + 3 < t.size) (hb : t.size ≤ 1000) : sphragisref01_word.f t (wrap64 (4 * (i : Int))) = some (wat t i) := by
  have e0 : wrap64 (4 * (i : Int)) = ((4 * i : Nat) : Int) := by unfold wrap64; omega
  have e1 : wrap64 (((4 * i : Nat) : Int) + 1) = ((4 * i + 1 : Nat) : Int) := by unfold wrap64; omega
  have e2 : wrap64 (((4 * i : Nat) : Int) + 2) = ((4 * i + 2 : Nat) : Int) := by unfold wrap64; omega
  have e3 : wrap64 (((4 * i : Nat) : Int) + 3) = ((4 * i + 3 : Nat) : Int) := by unfold wrap64; omega
  unfold sphragisref01_word.f
  rw [e0, e1, e2, e3, if_pos (by omega), if_pos (by omega), if_pos (by omega), if_pos (by omega), if_pos (by omega), if_pos (by omega), if_pos (by omega), if_pos (by omega)]
  rfl

theorem w4_bytes (a b c d : Nat) (ha : a < 256) (hb : b < 256) (hc : c < 256) (hd : d < 256) : w4 a b c d = ((a + 256 * b + 65536 * c + 16777216 * d : Nat) : Int) := by
  unfold w4
  have e0 : (a : Int) % 4294967296 = (a : Int) := by omega
  have e1 : (((b : Int) % 4294967296) * 256) % 4294967296 = ((256 * b : Nat) : Int) := by omega
  have e2 : (((c : Int) % 4294967296) * 65536) % 4294967296 = ((65536 * c : Nat) : Int) := by omega
  have e3 : (((d : Int) % 4294967296) * 16777216) % 4294967296 = ((16777216 * d : Nat) : Int) := by omega
  rw [e0, e1, e2, e3]
  have o1 : a ||| 256 * b = a + 256 * b := by
    rw [Nat.or_comm, show 256 * b = 2 ^ 8 * b by omega, ← Nat.two_pow_add_eq_or_of_lt (show a < 2 ^ 8 by omega)]
    omega
  rw [u32_or_nat _ _ (by omega) (by omega), o1]
  have o2 : (a + 256 * b) ||| 65536 * c = a + 256 * b + 65536 * c := by
    rw [Nat.or_comm, show 65536 * c = 2 ^ 16 * c by omega, ← Nat.two_pow_add_eq_or_of_lt (show a + 256 * b < 2 ^ 16 by omega)]
    omega
  rw [u32_or_nat _ _ (by omega) (by omega), o2]
  have o3 : (a + 256 * b + 65536 * c) ||| 16777216 * d = a + 256 * b + 65536 * c + 16777216 * d := by
    rw [Nat.or_comm, show 16777216 * d = 2 ^ 24 * d by omega, ← Nat.two_pow_add_eq_or_of_lt (show a + 256 * b + 65536 * c < 2 ^ 24 by omega)]
    omega
  rw [u32_or_nat _ _ (by omega) (by omega), o3]
theorem wat_ctr (n : Int) (h0 : 0 ≤ n) (h1 : n < 4294967296) : wat (strOfNums (wb n)) 0 = n := by
  obtain ⟨m, rfl⟩ : ∃ m : Nat, n = (m : Int) := ⟨n.toNat, by omega⟩
  unfold wat
  rw [bt_getD, bt_getD, bt_getD, bt_getD]
  have e : ∀ x : Int, 0 ≤ x → x < 256 → (((UInt8.ofNat x.toNat).toNat : Nat) : Int) = x := by
    intro x h0 h1
    rw [UInt8.toNat_ofNat']
    omega
  show w4 ((UInt8.ofNat ((m : Int) % 256).toNat).toNat : Int) ((UInt8.ofNat ((m : Int) / 256 % 256).toNat).toNat : Int) ((UInt8.ofNat ((m : Int) / 65536 % 256).toNat).toNat : Int) ((UInt8.ofNat ((m : Int) / 16777216 % 256).toNat).toNat : Int) = _
  rw [e _ (by omega) (by omega), e _ (by omega) (by omega), e _ (by omega) (by omega), e _ (by omega) (by omega)]
  have := w4_bytes (m % 256) (m / 256 % 256) (m / 65536 % 256) (m / 16777216 % 256) (by omega) (by omega) (by omega) (by omega)
  refine Eq.trans ?_ (this.trans ?_)
  · congr 1
  · omega
theorem allW_eq (key : ByteArray) (n : Int) (nonce : ByteArray) (hk : key.size = 32) (hn : nonce.size = 12) (h0 : 0 ≤ n) (h1 : n < 4294967296) :
    allW (tx key n nonce) = [1634760805, 857760878, 2036477234, 1797285236] ++ (List.range 8).map (wat key) ++ [n] ++ (List.range 3).map (wat nonce) := by
  have h4 : (strOfNums (wb n)).size = 4 := strOfNums_size _
  simp only [allW, tx, List.map_cons, List.map_nil, List.flatten_cons, List.flatten_nil, List.append_nil]
  rw [wds_eq _ key (Nat.le_refl _), wds_eq _ nonce (Nat.le_refl _), wds_eq _ (strOfNums (wb n)) (Nat.le_refl _), h4, hk, hn]
  rw [show (List.range (4 / 4)).map (wat (strOfNums (wb n))) = [n] by
    show [wat (strOfNums (wb n)) 0] = [n]
    rw [wat_ctr n h0 h1]]
  have hc : wds (⟨#[101, 120, 112, 97, 110, 100, 32, 51, 50, 45, 98, 121, 116, 101, 32, 107]⟩ : ByteArray).size ⟨#[101, 120, 112, 97, 110, 100, 32, 51, 50, 45, 98, 121, 116, 101, 32, 107]⟩ = [1634760805, 857760878, 2036477234, 1797285236] := by decide +kernel
  rw [hc]
  simp only [List.append_assoc]
theorem state_l0 (key : ByteArray) (n : Int) (nonce : ByteArray) (hk : key.size = 32) (k : Nat) (L : List Int) (i : Nat) (hi : i < 8) (hL : L.length < 100) :
    sphragisref01_State.l0 (k + 1) key n nonce L (i : Int) = sphragisref01_State.l0 k key n nonce (L ++ [wat key i]) ((i + 1 : Nat) : Int) := by
  have e1 : wrap64 ((i : Int) + 1) = ((i + 1 : Nat) : Int) := by unfold wrap64; omega
  rw [sphragisref01_State.l0, if_pos (by omega), refword key i (by omega) (by omega)]
  simp only [Option.bind_some]
  rw [if_pos (by omega), e1]
theorem state_l1 (nonce : ByteArray) (hk : nonce.size = 12) (k : Nat) (L : List Int) (i : Nat) (hi : i < 3) (hL : L.length < 100) :
    sphragisref01_State.l1 (k + 1) nonce L (i : Int) = sphragisref01_State.l1 k nonce (L ++ [wat nonce i]) ((i + 1 : Nat) : Int) := by
  have e1 : wrap64 ((i : Int) + 1) = ((i + 1 : Nat) : Int) := by unfold wrap64; omega
  rw [sphragisref01_State.l1, if_pos (by omega), refword nonce i (by omega) (by omega)]
  simp only [Option.bind_some]
  rw [if_pos (by omega), e1]
theorem state_eq (key : ByteArray) (n : Int) (nonce : ByteArray) (hk : key.size = 32) (hn : nonce.size = 12) (h0 : 0 ≤ n) (h1 : n < 4294967296) : sphragisref01_State.f 20 key n nonce = some (allW (tx key n nonce)) := by
  rw [allW_eq key n nonce hk hn h0 h1]
  unfold sphragisref01_State.f
  rw [show (0 : Int) = ((0 : Nat) : Int) from rfl, show 20 = 19 + 1 from rfl, state_l0 key n nonce hk _ _ 0 (by omega) (by simp), show 19 = 18 + 1 from rfl, state_l0 key n nonce hk _ _ 1 (by omega) (by simp), show 18 = 17 + 1 from rfl, state_l0 key n nonce hk _ _ 2 (by omega) (by simp), show 17 = 16 + 1 from rfl, state_l0 key n nonce hk _ _ 3 (by omega) (by simp),
    show 16 = 15 + 1 from rfl, state_l0 key n nonce hk _ _ 4 (by omega) (by simp), show 15 = 14 + 1 from rfl, state_l0 key n nonce hk _ _ 5 (by omega) (by simp), show 14 = 13 + 1 from rfl, state_l0 key n nonce hk _ _ 6 (by omega) (by simp), show 13 = 12 + 1 from rfl, state_l0 key n nonce hk _ _ 7 (by omega) (by simp)]
  rw [show 12 = 11 + 1 from rfl, sphragisref01_State.l0, if_neg (by omega), if_pos (by simp)]
  rw [show (0 : Int) = ((0 : Nat) : Int) from rfl, show 11 = 10 + 1 from rfl, state_l1 nonce hn _ _ 0 (by omega) (by simp), show 10 = 9 + 1 from rfl, state_l1 nonce hn _ _ 1 (by omega) (by simp), show 9 = 8 + 1 from rfl, state_l1 nonce hn _ _ 2 (by omega) (by simp)]
  rw [show 8 = 7 + 1 from rfl, sphragisref01_State.l1, if_neg (by omega)]
  rfl

theorem block_eq (key : ByteArray) (n : Int) (nonce : ByteArray) (h0 : 0 ≤ n) (h1 : n < 4294967296) : sphragisref01_Block.f key n nonce = arx_Block.f key n nonce := by
  unfold sphragisref01_Block.f arx_Block.f
  by_cases h : key.size = 32 ∧ nonce.size = 12
  · rw [if_pos h, if_pos h, state_eq key n nonce h.1 h.2 h0 h1]
    rfl
  · rw [if_neg h, if_neg h]

end Go.Proofs.Ytgckdmilgonnlaa.H
