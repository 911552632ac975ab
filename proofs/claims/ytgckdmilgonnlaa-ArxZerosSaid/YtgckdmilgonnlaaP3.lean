/- Plain facts of two laws of the stream. -/
import Derived.Test.YtgckdmilgonnlaaP2
import Derived.Test.YtgckdmilgonnlaaH7
import Derived.Test.YtgckdmilgonnlaaH8
set_option maxRecDepth 100000
set_option linter.unusedSimpArgs false
set_option linter.unusedVariables false
namespace Go.Proofs.Ytgckdmilgonnlaa.H
open Go.RowKit Go.Proofs.YtgckdmilgonnlaaW.PrintWords Go.Proofs.YtgckdmilgonnlaaW.PrintLast Go.Proofs.YtgckdmilgonnlaaW.PrintMore Go.Proofs.Ytgckdmilgonnlaa.Le

theorem xor_some_yes (a0 a1 s : ByteArray) (h0 : a0.size = 32) (h1 : a1.size = 12) (hs : s.size ≤ 1048576) : arx_Xor.f a0 a1 s = some (⟨(xorL a0 a1 s).toArray⟩, 0) := by rw [arx_Xor.f, if_pos ⟨h0, h1, hs⟩]
theorem xorB_cong (key nonce s t : ByteArray) (i : Nat) (h : s.data.toList.getD i 0 = t.data.toList.getD i 0) : xorB key nonce s i = xorB key nonce t i := by rw [xorB, xorB, h]
theorem xorL_take_of (key nonce s t : ByteArray) (m : Nat) (hm : m ≤ s.size) (ht : t.size = m) (h : ∀ i, i < m → t.data.toList.getD i 0 = s.data.toList.getD i 0) : (xorL key nonce s).take m = xorL key nonce t := by
  symm
  apply xorL_ext
  · rw [List.length_take, xorL_length, ht]; omega
  · intro i hi
    rw [ht] at hi
    rw [List.getD_eq_getElem?_getD, List.getElem?_take, if_pos hi, ← List.getD_eq_getElem?_getD, xorL_get _ _ _ _ (by omega)]
    exact xorB_cong _ _ _ _ _ (h i hi).symm
theorem xorL_drop_of (key nonce s t : ByteArray) (m : Nat) (ht : t.size = s.size) (h : ∀ i, m ≤ i → t.data.toList.getD i 0 = s.data.toList.getD i 0) : (xorL key nonce s).drop m = (xorL key nonce t).drop m := by
  apply List.ext_getElem?
  intro i
  rw [List.getElem?_drop, List.getElem?_drop]
  unfold xorL
  rw [List.getElem?_map, List.getElem?_map, ht]
  by_cases hi : m + i < s.size
  · rw [List.getElem?_range hi]
    show some _ = some _
    rw [xorB_cong key nonce s t (m + i) (h (m + i) (by omega)).symm]
  · rw [List.getElem?_eq_none (by simpa using hi)]
    rfl

/-- A text with another byte at a place. -/
def oth (s : ByteArray) (at_ : Nat) (c : Int) : ByteArray := ((s.extract 0 at_) ++ (strOfNums [c])) ++ (s.extract (at_ + 1) s.size)
theorem oth_data (s : ByteArray) (m : Nat) (c : Int) (hm : m < s.size) : (oth s m c).data.toList = s.data.toList.take m ++ [UInt8.ofNat c.toNat] ++ s.data.toList.drop (m + 1) := by
  unfold oth
  rw [ba_app, ba_app, ba_ex, ba_ex, List.drop_zero, List.take_of_length_le (i := s.size) (by rw [← ba_size]; omega)]
  rfl
theorem oth_size (s : ByteArray) (m : Nat) (c : Int) (hm : m < s.size) : (oth s m c).size = s.size := by
  rw [ba_size, oth_data s m c hm, List.length_append, List.length_append, List.length_take, List.length_drop, List.length_singleton, ← ba_size]
  omega
theorem oth_lt (s : ByteArray) (m : Nat) (c : Int) (hm : m < s.size) (i : Nat) (hi : i < m) : (oth s m c).data.toList.getD i 0 = s.data.toList.getD i 0 := by
  have hl : (s.data.toList.take m).length = m := by rw [List.length_take, ← ba_size]; omega
  rw [oth_data s m c hm, List.append_assoc, List.getD_eq_getElem?_getD, List.getElem?_append_left (by omega), List.getElem?_take, if_pos hi, ← List.getD_eq_getElem?_getD]
theorem oth_at (s : ByteArray) (m : Nat) (c : Int) (hm : m < s.size) : (oth s m c).data.toList.getD m 0 = UInt8.ofNat c.toNat := by
  have hl : (s.data.toList.take m).length = m := by rw [List.length_take, ← ba_size]; omega
  rw [oth_data s m c hm, List.append_assoc, List.getD_eq_getElem?_getD, List.getElem?_append_right (by omega), hl, Nat.sub_self]
  rfl
theorem oth_gt (s : ByteArray) (m : Nat) (c : Int) (hm : m < s.size) (i : Nat) (hi : m + 1 ≤ i) : (oth s m c).data.toList.getD i 0 = s.data.toList.getD i 0 := by
  have hl : (s.data.toList.take m ++ [UInt8.ofNat c.toNat]).length = m + 1 := by rw [List.length_append, List.length_take, List.length_singleton, ← ba_size]; omega
  rw [oth_data s m c hm, List.getD_eq_getElem?_getD, List.getElem?_append_right (by omega), hl, List.getElem?_drop, show m + 1 + (i - (m + 1)) = i by omega, ← List.getD_eq_getElem?_getD]

theorem extract_take (L : List UInt8) (m : Nat) : ((⟨L.toArray⟩ : ByteArray).extract 0 m).toList = L.take m := by
  rw [Lib.toList_data, ba_ex, mk_data, List.drop_zero]
theorem extract_drop (L : List UInt8) (m : Nat) : ((⟨L.toArray⟩ : ByteArray).extract m (⟨L.toArray⟩ : ByteArray).size).toList = L.drop m := by
  rw [Lib.toList_data, ba_ex, mk_data, mk_size, List.take_of_length_le (Nat.le_refl _)]

theorem ArxBegins : sphragislaw01_ArxBegins.Pure := by
  intro a0 a1 a2 a3 a4 _ _ h2 _ h4
  obtain ⟨s, hc, hcs⟩ := cut_some a2 h2
  obtain ⟨u, rfl⟩ : ∃ u : UInt8, a4 = (u.toNat : Int) := by
    obtain ⟨c0, c1⟩ := wf8 h4
    exact ⟨UInt8.ofNat a4.toNat, by rw [UInt8.toNat_ofNat']; omega⟩
  refine ⟨1, ?_⟩
  unfold sphragislaw01_ArxBegins.f
  rw [hc, sphragislaw01_shown.f]
  simp only [Option.bind_some]
  by_cases h : a0.size = 32 ∧ a1.size = 12
  · have X := fun t hs => xor_some_yes a0 a1 t h.1 h.2 hs
    rw [X s (by omega)]
    simp only [Option.bind_some, if_true]
    by_cases hn : a3 < 0
    · rw [if_pos hn, sphragislaw01_ArxBegins.j0, if_pos rfl]
    · rw [if_neg hn, sphragislaw01_ArxBegins.j0]
      by_cases hg : a3 ≥ (s.size : Int)
      · rw [if_pos (decide_eq_true hg)]
      · rw [if_neg (by simpa using hg)]
        obtain ⟨m, rfl⟩ : ∃ m : Nat, a3 = (m : Int) := ⟨a3.toNat, by omega⟩
        have hm : m < s.size := by omega
        have hs1 : (s.extract 0 m).size = m := by rw [ByteArray.size_extract]; omega
        have hs2 : (strOfNums [(u.toNat : Int)]).size = 1 := strOfNums_size _
        have hs3 : (s.extract (m + 1) s.size).size = s.size - (m + 1) := by rw [ByteArray.size_extract]; omega
        rw [if_pos (by omega), if_pos (by omega), Int.toNat_natCast, X _ (by omega)]
        simp only [Option.bind_some]
        have hm2 : m < 2000000000 := by omega
        rw [hs1, hs2, if_pos (by omega), wrap_succ m hm2, Int.toNat_natCast, hs3]
        rw [if_pos (by omega), if_pos (by omega), if_pos (by omega)]
        have hoth : ((s.extract 0 m) ++ (strOfNums [(u.toNat : Int)])) ++ (s.extract (m + 1) s.size) = oth s m (u.toNat : Int) := rfl
        have hos := oth_size s m (u.toNat : Int) hm
        rw [hoth, X _ (by omega)]
        simp only [Option.bind_some, if_true]
        have e1 : (xorL a0 a1 s).take m = xorL a0 a1 (s.extract 0 m) := xorL_take_of _ _ _ _ _ (by omega) hs1 (fun i hi => by
          rw [ba_ex, List.drop_zero, List.getD_eq_getElem?_getD, List.getElem?_take, if_pos hi, ← List.getD_eq_getElem?_getD])
        have e2 : (xorL a0 a1 (oth s m (u.toNat : Int))).take m = xorL a0 a1 (s.extract 0 m) := xorL_take_of _ _ _ _ _ (by omega) hs1 (fun i hi => by
          rw [oth_lt _ _ _ hm _ hi, ba_ex, List.drop_zero, List.getD_eq_getElem?_getD, List.getElem?_take, if_pos hi, ← List.getD_eq_getElem?_getD])
        have e3 : (xorL a0 a1 s).drop (m + 1) = (xorL a0 a1 (oth s m (u.toNat : Int))).drop (m + 1) := xorL_drop_of _ _ _ _ _ hos (fun i hi => oth_gt _ _ _ hm _ hi)
        have z1 : (⟨(xorL a0 a1 (oth s m (u.toNat : Int))).toArray⟩ : ByteArray).size = s.size := by rw [mk_size, xorL_length, hos]
        have z2 : (⟨(xorL a0 a1 s).toArray⟩ : ByteArray).size = s.size := by rw [mk_size, xorL_length]
        rw [extract_take, extract_take, extract_drop, extract_drop, Lib.toList_data (⟨(xorL a0 a1 (s.extract 0 m)).toArray⟩), mk_data, e1, e2, e3, z1, z2]
        rw [if_pos rfl, if_pos rfl, if_pos (by omega), if_pos rfl, if_pos rfl, if_pos (by omega), if_pos (by omega), if_pos rfl, if_pos (by omega)]
        have hb : (Go.bits .xor .u8 (bt (⟨(xorL a0 a1 s).toArray⟩ : ByteArray) (m : Int)) (bt s (m : Int))) = (Go.bits .xor .u8 (bt (⟨(xorL a0 a1 (oth s m (u.toNat : Int))).toArray⟩ : ByteArray) (m : Int)) (u.toNat : Int)) := by
          rw [bt_getD, bt_getD, bt_getD, mk_data, mk_data, xorL_get _ _ _ _ hm, xorL_get _ _ _ _ (by omega), u8_xor_nat _ _ (UInt8.toNat_lt _) (UInt8.toNat_lt _), u8_xor_nat _ _ (UInt8.toNat_lt _) (UInt8.toNat_lt _), ← UInt8.toNat_xor, ← UInt8.toNat_xor]
          rw [xorB, xorB, oth_at _ _ _ hm, Int.toNat_natCast, UInt8.ofNat_toNat]
          congr 2
          rw [UInt8.xor_comm (s.data.toList.getD m 0), UInt8.xor_assoc, UInt8.xor_self, UInt8.xor_comm u, UInt8.xor_assoc, UInt8.xor_self]
        rw [hb]
        simp [hm]
  · have e1 : ∀ s, arx_Xor.f a0 a1 s = some (⟨#[]⟩, 2) := fun s => by rw [arx_Xor.f, if_neg (fun k => h ⟨k.1, k.2.1⟩)]
    rw [e1]
    simp only [Option.bind_some]
    rw [if_neg (by decide), sphragislaw01_ArxBegins.j0, if_pos rfl]

/-- So many bytes 0. -/
def zs (n : Nat) : ByteArray := strOfNums (List.replicate n 0)
theorem zs_size (n : Nat) : (zs n).size = n := by rw [zs, strOfNums_size, List.length_replicate]
theorem zs_get (n i : Nat) : (zs n).data.toList.getD i 0 = 0 := by
  have : (zs n).data.toList = List.replicate n (0 : UInt8) := by
    show (List.replicate n (0 : Int)).map _ = _
    rw [List.map_replicate]
    rfl
  rw [this, List.getD_eq_getElem?_getD, List.getElem?_replicate]
  split <;> rfl
def blocks (key nonce : ByteArray) : Nat → List UInt8
  | 0 => []
  | n + 1 => blocks key nonce n ++ (kb key n nonce).data.toList
theorem blocks_length (key nonce : ByteArray) (n : Nat) : (blocks key nonce n).length = 64 * n := by
  induction n with
  | zero => rfl
  | succ n ih => rw [blocks, List.length_append, ih, ← ba_size, kb_size]; omega
theorem blocks_get (key nonce : ByteArray) (n : Nat) : ∀ i, i < 64 * n → (blocks key nonce n).getD i 0 = (kb key (i / 64) nonce).data.toList.getD (i % 64) 0 := by
  induction n with
  | zero => intro i h; omega
  | succ n ih =>
    intro i h
    have hl := blocks_length key nonce n
    rw [blocks, List.getD_eq_getElem?_getD]
    by_cases hi : i < 64 * n
    · rw [List.getElem?_append_left (by omega), ← List.getD_eq_getElem?_getD, ih i hi]
    · rw [List.getElem?_append_right (by omega), hl, ← List.getD_eq_getElem?_getD, show i - 64 * n = i % 64 by omega, show i / 64 = n by omega]
theorem xor_zeros (key nonce : ByteArray) (n : Nat) : xorL key nonce (zs (64 * n)) = blocks key nonce n := by
  apply xorL_ext
  · rw [blocks_length, zs_size]
  · intro i hi
    rw [zs_size] at hi
    rw [blocks_get _ _ _ _ hi, xorB, zs_get, UInt8.zero_xor]

theorem zeros_l0 (key nonce : ByteArray) (hk : key.size = 32) (hn : nonce.size = 12) (n : Nat) (hn40 : n ≤ 40) (m : Nat) : ∀ (k i : Nat) (b : ByteArray), i + m = n → m < k → b.data.toList = blocks key nonce i →
    sphragislaw01_ArxZeros.l0 k key nonce (n : Int) true ⟨(blocks key nonce n).toArray⟩ 0 b (i : Int) = some true := by
  induction m with
  | zero =>
    intro k i b hi hk2 hb
    obtain ⟨k, rfl⟩ : ∃ j, k = j + 1 := ⟨k - 1, by omega⟩
    obtain rfl : i = n := by omega
    rw [sphragislaw01_ArxZeros.l0, if_neg (by omega), if_pos rfl, Lib.toList_data, Lib.toList_data, hb, mk_data]
    simp
  | succ m ih =>
    intro k i b hi hk2 hb
    obtain ⟨k, rfl⟩ : ∃ j, k = j + 1 := ⟨k - 1, by omega⟩
    have e1 : (i : Int) % 4294967296 = (i : Int) := by omega
    have hs1 : b.size = 64 * i := by rw [ba_size, hb, blocks_length]
    have hs2 := kb_size key i nonce
    rw [sphragislaw01_ArxZeros.l0, if_pos (by omega), e1, kb_block key i nonce hk hn]
    simp only [Option.bind_some, if_true]
    rw [if_pos (by omega), wrap_succ i (by omega)]
    exact ih k (i + 1) _ (by omega) (by omega) (by rw [ba_app, hb, blocks])
theorem zeros_l0_no (key nonce : ByteArray) (h : ¬ (key.size = 32 ∧ nonce.size = 12)) (n : Nat) (hn40 : n ≤ 40) (m : Nat) : ∀ (k i : Nat), i + m = n → m < k →
    sphragislaw01_ArxZeros.l0 k key nonce (n : Int) true ⟨#[]⟩ 2 ⟨#[]⟩ (i : Int) = some true := by
  induction m with
  | zero =>
    intro k i hi hk2
    obtain ⟨k, rfl⟩ : ∃ j, k = j + 1 := ⟨k - 1, by omega⟩
    rw [sphragislaw01_ArxZeros.l0, if_neg (by omega), if_pos rfl]
    simp
  | succ m ih =>
    intro k i hi hk2
    obtain ⟨k, rfl⟩ : ∃ j, k = j + 1 := ⟨k - 1, by omega⟩
    have e1 : (i : Int) % 4294967296 = (i : Int) := by omega
    have hb : arx_Block.f key (i : Int) nonce = some (⟨#[]⟩, 2) := by rw [arx_Block.f, if_neg h]
    have he : (⟨#[]⟩ : ByteArray) ++ (⟨#[]⟩ : ByteArray) = ⟨#[]⟩ := rfl
    have hz : (⟨#[]⟩ : ByteArray).size = 0 := rfl
    rw [sphragislaw01_ArxZeros.l0, if_pos (by omega), e1, hb]
    simp only [Option.bind_some, if_true]
    rw [if_pos (by omega), he, wrap_succ i (by omega)]
    exact ih k (i + 1) (by omega) (by omega)

theorem wrap_64 (n : Nat) (h : n ≤ 40) : wrap64 (64 * (n : Int)) = ((64 * n : Nat) : Int) := by unfold wrap64; omega
theorem ArxZeros : sphragislaw01_ArxZeros.Pure := by
  intro a0 a1 a2 _ _ _
  refine ⟨100, ?_⟩
  unfold sphragislaw01_ArxZeros.f
  rw [sphragislaw01_shown.f]
  simp only [Option.bind_some]
  by_cases h1 : a2 < 0
  · rw [if_pos h1, sphragislaw01_ArxZeros.j0, if_pos rfl]
  · rw [if_neg h1, sphragislaw01_ArxZeros.j0]
    by_cases h2 : a2 > 40
    · rw [if_pos (decide_eq_true h2)]
    · rw [if_neg (by simpa using h2)]
      obtain ⟨n, rfl⟩ : ∃ n : Nat, a2 = (n : Int) := ⟨a2.toNat, by omega⟩
      have hn40 : n ≤ 40 := by omega
      rw [wrap_64 n hn40]
      rw [if_pos (by omega), if_pos (by omega), Int.toNat_natCast, show strOfNums (List.replicate (64 * n) 0) = zs (64 * n) from rfl]
      by_cases h : a0.size = 32 ∧ a1.size = 12
      · rw [xor_some_yes a0 a1 _ h.1 h.2 (by rw [zs_size]; omega), xor_zeros]
        simp only [Option.bind_some]
        exact zeros_l0 a0 a1 h.1 h.2 n (by omega) n 99 0 _ (by omega) (by omega) rfl
      · have e1 : ∀ s, arx_Xor.f a0 a1 s = some (⟨#[]⟩, 2) := fun s => by rw [arx_Xor.f, if_neg (fun k => h ⟨k.1, k.2.1⟩)]
        rw [e1]
        simp only [Option.bind_some]
        exact zeros_l0_no a0 a1 h n (by omega) n 99 0 (by omega) (by omega)

end Go.Proofs.Ytgckdmilgonnlaa.H
