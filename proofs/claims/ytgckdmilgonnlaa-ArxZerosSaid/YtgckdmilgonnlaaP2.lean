/- Plain facts of the stream's laws. -/
import Derived.Test.YtgckdmilgonnlaaP1
import Derived.Test.YtgckdmilgonnlaaLSix
import Derived.Test.YtgckdmilgonnlaaH3
import Derived.Test.YtgckdmilgonnlaaH4
import Derived.Test.YtgckdmilgonnlaaH6
import Derived.Test.YtgckdmilgonnlaaH5
set_option maxRecDepth 100000
set_option linter.unusedSimpArgs false
set_option linter.unusedVariables false
namespace Go.Proofs.Ytgckdmilgonnlaa.H
open Go.RowKit Go.Proofs.YtgckdmilgonnlaaW.PrintWords Go.Proofs.YtgckdmilgonnlaaW.PrintLast Go.Proofs.YtgckdmilgonnlaaW.PrintMore Go.Proofs.Ytgckdmilgonnlaa.Le

theorem xorB_int (key nonce s : ByteArray) (i : Nat) : Go.bits .xor .u8 (bt s (i : Int)) (bt (kb key (i / 64) nonce) ((i % 64 : Nat) : Int)) = ((xorB key nonce s i).toNat : Int) := by
  rw [bt_getD, bt_getD, u8_xor_nat _ _ (UInt8.toNat_lt _) (UInt8.toNat_lt _), xorB, UInt8.toNat_xor]

theorem nums_bytes (l : List UInt8) : strOfNums (l.map fun b => (b.toNat : Int)) = ⟨l.toArray⟩ := by
  apply ba_ext
  rw [ba_mk]
  show (l.map fun b => (b.toNat : Int)).map (fun n => UInt8.ofNat n.toNat) = l
  rw [List.map_map]
  conv => rhs; rw [← List.map_id l]
  apply List.map_congr_left
  intro b _
  show UInt8.ofNat ((b.toNat : Int).toNat) = b
  rw [Int.toNat_natCast]
  exact UInt8.ofNat_toNat

theorem wrap_succ (i : Nat) (h : i < 2000000000) : wrap64 ((i : Int) + 1) = ((i + 1 : Nat) : Int) := by unfold wrap64; omega
theorem tmod_nat (i : Nat) : Int.tmod (i : Int) 64 = ((i % 64 : Nat) : Int) := by rw [Int.tmod_eq_emod_of_nonneg (by omega)]; omega
theorem tdiv_nat (i : Nat) (h : i < 2000000000) : (wrap64 (Int.tdiv (i : Int) 64)) % 4294967296 = ((i / 64 : Nat) : Int) := by
  have e1 : Int.tdiv (i : Int) 64 = ((i / 64 : Nat) : Int) := by rw [Int.tdiv_eq_ediv_of_nonneg (by omega)]; omega
  rw [e1]
  unfold wrap64
  omega
theorem empty_toList : ((⟨#[]⟩ : ByteArray).toList == ([] : List UInt8)) = true := by
  rw [Lib.toList_data]
  rfl
theorem refxor_l0 (key nonce s : ByteArray) (hk : key.size = 32) (hn : nonce.size = 12) (hs : s.size ≤ 1048576) (m : Nat) : ∀ (k i : Nat) (b : ByteArray), i + m = s.size → m < k → (i % 64 ≠ 0 → b = kb key (i / 64) nonce) →
    sphragisref01_Xor.l0 k key nonce s (((xorL key nonce s).take i).map fun b => (b.toNat : Int)) b (i : Int) = some (⟨(xorL key nonce s).toArray⟩, 0) := by
  induction m with
  | zero =>
    intro k i b hi hk2 hb
    obtain ⟨k, rfl⟩ : ∃ j, k = j + 1 := ⟨k - 1, by omega⟩
    rw [sphragisref01_Xor.l0, if_neg (by omega), nums_bytes, List.take_of_length_le (by rw [xorL_length]; omega)]
  | succ m ih =>
    intro k i b hi hk2 hb
    obtain ⟨k, rfl⟩ : ∃ j, k = j + 1 := ⟨k - 1, by omega⟩
    have h2b : i < 2000000000 := by omega
    have hlen : (((xorL key nonce s).take i).map fun b => (b.toNat : Int)).length < 140737488355328 := by
      rw [List.length_map, List.length_take, xorL_length]
      omega
    have hnext : (((xorL key nonce s).take i).map fun b => (b.toNat : Int)) ++ [Go.bits .xor .u8 (bt s (i : Int)) (bt (kb key (i / 64) nonce) ((i % 64 : Nat) : Int))] = ((xorL key nonce s).take (i + 1)).map fun b => (b.toNat : Int) := by
      rw [xorB_int, xorL_take _ _ _ _ (by omega), List.map_append]
      rfl
    have hdiv : (i + 1) % 64 ≠ 0 → (i + 1) / 64 = i / 64 := by omega
    have hblk := (block_eq key ((i / 64 : Nat) : Int) nonce (by omega) (by omega)).trans (kb_block key (i / 64) nonce hk hn)
    have hks := kb_size key (i / 64) nonce
    have hlt : (i : Int) < (s.size : Int) := by omega
    have hi0 : (0 : Int) ≤ (i : Int) := by omega
    have hm0 : (0 : Int) ≤ ((i % 64 : Nat) : Int) := by omega
    have hmk : ((i % 64 : Nat) : Int) < ((kb key (i / 64) nonce).size : Int) := by omega
    rw [sphragisref01_Xor.l0, if_pos hlt, tmod_nat]
    by_cases h0 : i % 64 = 0
    · rw [if_pos (by omega), tdiv_nat i h2b, hblk]
      simp only [Option.bind_some]
      rw [if_pos hi0, if_pos hm0, if_pos hmk, if_pos hlen, hnext, wrap_succ i h2b]
      exact ih k (i + 1) _ (by omega) (by omega) (fun h => by rw [hdiv h])
    · have hbe := hb h0
      subst hbe
      rw [if_neg (by omega), if_pos hi0, if_pos hm0, if_pos hmk, if_pos hlen, hnext, wrap_succ i h2b]
      exact ih k (i + 1) _ (by omega) (by omega) (fun h => by rw [hdiv h])

theorem refxor_eq (key nonce s : ByteArray) (k : Nat) (hk : s.size + 1 < k) : sphragisref01_Xor.f k key nonce s = arx_Xor.f key nonce s := by
  obtain ⟨k, rfl⟩ : ∃ j, k = j + 1 := ⟨k - 1, by omega⟩
  unfold sphragisref01_Xor.f arx_Xor.f
  by_cases h1 : key.size = 32
  · by_cases h2 : nonce.size = 12
    · rw [if_pos (by omega), if_pos (by omega)]
      by_cases h3 : s.size ≤ 1048576
      · have hd : decide ((s.size : Int) > 1048576) = false := decide_eq_false (by omega)
        rw [if_pos ⟨h1, h2, h3⟩, hd, sphragisref01_Xor.j0, if_neg (by decide)]
        have := refxor_l0 key nonce s h1 h2 h3 s.size k 0 ⟨#[]⟩ (by omega) (by omega) (fun h => absurd rfl h)
        rw [List.take_zero, List.map_nil] at this
        exact this
      · have hd : decide ((s.size : Int) > 1048576) = true := decide_eq_true (by omega)
        rw [if_neg (fun h => h3 h.2.2), hd, sphragisref01_Xor.j0, if_pos rfl]
    · rw [if_pos (by omega), if_neg (by omega), if_neg (fun h => h2 h.2.1), sphragisref01_Xor.j0, if_pos rfl]
  · rw [if_neg (by omega), if_neg (fun h => h1 h.1), sphragisref01_Xor.j0, if_pos rfl]

theorem cut_some (s : ByteArray) (h : s.size ≤ 140737488351232) : ∃ c, sphragislaw01_cut.f s = some c ∧ c.size ≤ 3000 := by
  unfold sphragislaw01_cut.f
  have h0 : 0 ≤ mn (s.size : Int) 3000 := by unfold mn; split <;> omega
  have h1 : mn (s.size : Int) 3000 ≤ (s.size : Int) := by unfold mn; split <;> omega
  have h2 : mn (s.size : Int) 3000 ≤ 3000 := by unfold mn; split <;> omega
  rw [if_pos h0, if_pos h1]
  exact ⟨_, rfl, by rw [ByteArray.size_extract]; omega⟩

theorem ArxBlocks : sphragislaw01_ArxBlocks.Pure := by
  intro a0 a1 a2 _ h1 _
  obtain ⟨h0, h2⟩ := wf32 h1
  unfold sphragislaw01_ArxBlocks.f
  rw [block_eq _ _ _ h0 h2]
  have : ∃ r, arx_Block.f a0 a1 a2 = some r := by
    unfold arx_Block.f
    by_cases h : a0.size = 32 ∧ a2.size = 12
    · rw [if_pos h, if_pos (allW_len _ _ _ h.1 h.2)]
      exact ⟨_, rfl⟩
    · rw [if_neg h]
      exact ⟨_, rfl⟩
  obtain ⟨r, hr⟩ := this
  rw [hr, sphragislaw01_shown.f]
  simp

theorem xor_some (a0 a1 s : ByteArray) : ∃ r, arx_Xor.f a0 a1 s = some r := by
  unfold arx_Xor.f
  split <;> exact ⟨_, rfl⟩

theorem ArxXors : sphragislaw01_ArxXors.Pure := by
  intro a0 a1 a2 _ _ h2
  obtain ⟨c, hc, hcs⟩ := cut_some a2 h2
  obtain ⟨r, hr⟩ := xor_some a0 a1 c
  refine ⟨4000, ?_⟩
  unfold sphragislaw01_ArxXors.f
  rw [hc]
  simp only [Option.bind_some]
  rw [refxor_eq _ _ _ _ (by omega), hr, sphragislaw01_shown.f]
  simp

theorem xorL_get (key nonce s : ByteArray) (i : Nat) (h : i < s.size) : (xorL key nonce s).getD i 0 = xorB key nonce s i := by
  rw [List.getD_eq_getElem?_getD, xorL, List.getElem?_map, List.getElem?_range h]
  rfl
theorem xorL_ext (key nonce s : ByteArray) (L : List UInt8) (h : L.length = s.size) (hg : ∀ i, i < s.size → L.getD i 0 = xorB key nonce s i) : xorL key nonce s = L := by
  apply List.ext_getElem (by rw [xorL_length, h])
  intro i h1 h2
  have := hg i (by omega)
  rw [List.getD_eq_getElem?_getD, List.getElem?_eq_getElem h2, Option.getD_some] at this
  rw [this]
  show ((List.range s.size).map (xorB key nonce s))[i]'(by simpa [xorL] using h1) = _
  rw [List.getElem_map, List.getElem_range]
theorem xor_xor (a b : UInt8) : (a ^^^ b) ^^^ b = a := by
  rw [UInt8.xor_assoc, UInt8.xor_self, UInt8.xor_zero]
theorem mk_data (L : List UInt8) : (⟨L.toArray⟩ : ByteArray).data.toList = L := rfl
theorem mk_size (L : List UInt8) : (⟨L.toArray⟩ : ByteArray).size = L.length := rfl
theorem xor_twice (key nonce s : ByteArray) : xorL key nonce ⟨(xorL key nonce s).toArray⟩ = s.data.toList := by
  apply xorL_ext
  · rw [mk_size, xorL_length, ba_size]
  · intro i hi
    rw [mk_size, xorL_length] at hi
    rw [xorB, mk_data, xorL_get _ _ _ _ hi, xorB, xor_xor]

theorem ArxTwice : sphragislaw01_ArxTwice.Pure := by
  intro a0 a1 a2 _ _ h2
  obtain ⟨c, hc, hcs⟩ := cut_some a2 h2
  unfold sphragislaw01_ArxTwice.f
  rw [hc, sphragislaw01_shown.f]
  simp only [Option.bind_some, if_true]
  by_cases h : a0.size = 32 ∧ a1.size = 12
  · have e1 : arx_Xor.f a0 a1 c = some (⟨(xorL a0 a1 c).toArray⟩, 0) := by rw [arx_Xor.f, if_pos ⟨h.1, h.2, by omega⟩]
    have e2 : arx_Xor.f a0 a1 ⟨(xorL a0 a1 c).toArray⟩ = some (c, 0) := by
      rw [arx_Xor.f, if_pos ⟨h.1, h.2, by rw [mk_size, xorL_length]; omega⟩, xor_twice]
    rw [e1]
    simp only [Option.bind_some]
    rw [e2]
    simp only [Option.bind_some, if_true]
    rw [if_pos (by omega), if_pos (by omega), mk_size, xorL_length]
    simp
  · have e1 : ∀ s, arx_Xor.f a0 a1 s = some (⟨#[]⟩, 2) := fun s => by rw [arx_Xor.f, if_neg (fun k => h ⟨k.1, k.2.1⟩)]
    rw [e1]
    simp only [Option.bind_some]
    rw [e1]
    simp only [Option.bind_some, if_true]
    by_cases h1 : a0.size = 32
    · rw [if_pos (by omega), if_neg (by omega), empty_toList]
    · rw [if_neg (by omega), empty_toList]

theorem rising12 : sphragislaw01_rising.f 40 12 = some ⟨#[0, 1, 2, 3, 4, 5, 6, 7, 8, 9, 10, 11]⟩ := by decide +kernel

theorem ArxLong : sphragislaw01_ArxLong.Pure := by
  intro a0 _
  refine ⟨41, ?_⟩
  unfold sphragislaw01_ArxLong.f
  rw [sphragislaw01_shown.f]
  simp only [Option.bind_some]
  by_cases h1 : a0 < 1048570
  · rw [if_pos h1, sphragislaw01_ArxLong.j0, if_pos rfl]
  · rw [if_neg h1, sphragislaw01_ArxLong.j0]
    by_cases h2 : a0 > 1100000
    · rw [if_pos (decide_eq_true h2)]
    · rw [if_neg (by simpa using h2), rising32, rising12]
      simp only [Option.bind_some]
      rw [if_pos (by omega), if_pos (by omega), arx_Xor.f]
      have hs : (strOfNums (List.replicate a0.toNat 0)).size = a0.toNat := by rw [strOfNums_size, List.length_replicate]
      by_cases h3 : a0 > 1048576
      · rw [if_neg (fun k => by have := k.2.2; omega)]
        simp only [Option.bind_some]
        rw [if_pos h3, if_pos trivial, if_pos trivial, empty_toList]
      · rw [if_pos ⟨rfl, rfl, by omega⟩]
        simp only [Option.bind_some]
        rw [if_neg h3, mk_size, xorL_length, hs]
        simp
        omega

end Go.Proofs.Ytgckdmilgonnlaa.H
