/- Plain facts of the roots' functions: the bytes, the next root. -/
import Derived.Test.YtfbfpjgnplhodaaLe
import Derived.Test.YtfbfpjgnplhodaaH5
import Derived.Test.YtfbfpjgnplhodaaH5
import Derived.Test.YtfbfpjgnplhodaaH6
import Derived.Test.YtfbfpjgnplhodaaH6
import Derived.Test.YtfbfpjgnplhodaaH7
import Derived.WalkSmall
set_option maxRecDepth 100000
set_option linter.unusedSimpArgs false
set_option linter.unusedVariables false
namespace Go.Proofs.Ytfbfpjgnplhodaa.H
open Go.RowKit Go.Proofs.YtfbfpjgnplhodaaW.PrintWords Go.Proofs.YtfbfpjgnplhodaaW.PrintLast Go.Proofs.YtfbfpjgnplhodaaW.PrintMore Go.Proofs.Ytfbfpjgnplhodaa.Le

theorem shown_true : sphragislaw15_shown.f 20 = some true := by decide +kernel

theorem shr_le (n : Int) (h0 : 0 ≤ n) (w : Nat) (hw : w ≤ 8) : strOfNums ((List.range w).map fun i : Nat => (shr .u64 n (8 * (i : Int))) % 256) = ⟨(le n.toNat w).toArray⟩ := by
  apply ba_ext
  rw [strOfNums_data, ba_mk, le_range]
  simp only [List.map_map]
  apply List.map_congr_left
  intro i hi
  have hi := List.mem_range.1 hi
  simp only [Function.comp_apply, shr]
  congr 1
  have e1 : min (8 * (i : Int)).toNat IntKind.u64.bits = 8 * i := by simp only [IntKind.bits]; omega
  rw [e1, show (2 : Int) ^ (8 * i) = ((256 ^ i : Nat) : Int) by rw [Int.pow_mul]; norm_cast]
  obtain ⟨m, rfl⟩ := Int.eq_ofNat_of_zero_le h0
  rw [Int.toNat_natCast]
  omega

theorem bytes8 (n : Int) (h0 : 0 ≤ n) : root_bytes.f 20 n 8 = some ⟨(le n.toNat 8).toArray⟩ := by
  have e : root_bytes.f 20 n 8 = some (strOfNums ((List.range 8).map fun i : Nat => (shr .u64 n (8 * (i : Int))) % 256)) := by kernel_rfl
  rw [e, shr_le n h0 8 (by omega)]
theorem bytes4 (n : Int) (h0 : 0 ≤ n) : root_bytes.f 20 n 4 = some ⟨(le n.toNat 4).toArray⟩ := by
  have e : root_bytes.f 20 n 4 = some (strOfNums ((List.range 4).map fun i : Nat => (shr .u64 n (8 * (i : Int))) % 256)) := by kernel_rfl
  rw [e, shr_le n h0 4 (by omega)]

theorem u64_of (x : Int) (h0 : 0 ≤ x) (h1 : x < 18446744073709551616) : IntKind.u64.wrap x = x := by
  rw [IntKind.wrap_u64]; omega

theorem put_l (m : Nat) : ∀ (n k : Nat) (acc : ByteArray) (i : Int), n < 18446744073709551616 → 0 ≤ i → i + m ≤ 100 → m < k → acc.size + m ≤ 1000 →
    sphragisref15_put.l0 k (n : Int) (i + m) acc i = some (acc ++ ⟨(le n m).toArray⟩) := by
  induction m with
  | zero =>
    intro n k acc i hn h0 hi hk ha
    obtain ⟨k, rfl⟩ : ∃ j, k = j + 1 := ⟨k - 1, by omega⟩
    simp only [sphragisref15_put.l0]
    rw [if_neg (by omega)]
    simp only [le]
    congr 1
    apply ba_ext
    rw [ba_app]
    simp
  | succ m ih =>
    intro n k acc i hn h0 hi hk ha
    obtain ⟨k, rfl⟩ : ∃ j, k = j + 1 := ⟨k - 1, by omega⟩
    simp only [sphragisref15_put.l0]
    rw [if_pos (by omega)]
    simp only [Option.bind_some]
    have hs : (strOfNums [(n : Int) % 256]).size = 1 := by rw [strOfNums_size]; rfl
    rw [if_pos (by omega)]
    have e1 : IntKind.u64.wrap (Int.tdiv (n : Int) 256) = ((n / 256 : Nat) : Int) := by
      rw [Int.tdiv_eq_ediv_of_nonneg (by omega), u64_of _ (by omega) (by omega)]
      omega
    have e2 : wrap64 (i + 1) = i + 1 := by unfold wrap64; omega
    rw [e1, e2, show i + ((m + 1 : Nat) : Int) = (i + 1) + (m : Int) by omega]
    rw [ih (n / 256) k _ (i + 1) (by omega) (by omega) (by omega) (by omega) (by rw [ByteArray.size_append, hs]; omega)]
    congr 1
    apply ba_ext
    simp only [ba_app, strOfNums_data, ba_mk, le, List.append_assoc, List.map_cons, List.map_nil, List.cons_append, List.nil_append]
    congr 3

theorem put_le (n : Int) (w : Nat) (h0 : 0 ≤ n) (h1 : n < 18446744073709551616) (hw : w ≤ 8) : sphragisref15_put.f 20 n w = some ⟨(le n.toNat w).toArray⟩ := by
  obtain ⟨m, rfl⟩ := Int.eq_ofNat_of_zero_le h0
  have := put_l w m 20 ⟨#[]⟩ 0 (by omega) (by omega) (by omega) (by omega) (by show 0 + w ≤ 1000; omega)
  rw [Int.zero_add] at this
  unfold sphragisref15_put.f
  rw [this]
  congr 1

/-- The bytes of a root. -/
def rb (c g n p : Nat) (tag : ByteArray) : List UInt8 := [115, 112, 104, 114] ++ le c 8 ++ le g 4 ++ le n 4 ++ le p 4 ++ tag.data.toList

theorem text_eq (c g n p : Int) (tag : ByteArray) (hc : 0 ≤ c) (hg : 0 ≤ g) (hn : 0 ≤ n) (hp : 0 ≤ p) (hg1 : g < 4294967296) (hn1 : n < 4294967296) (hp1 : p < 4294967296) (ht : tag.size ≤ 140737488355000) :
    root_text.f 20 c g n p tag = some ⟨(rb c.toNat g.toNat n.toNat p.toNat tag).toArray⟩ := by
  unfold root_text.f
  rw [u64_of g hg (by omega), u64_of n hn (by omega), u64_of p hp (by omega), bytes8 c hc, bytes4 g hg, bytes4 n hn, bytes4 p hp]
  simp only [Option.bind_some]
  unfold root_join.f strings_Join.f
  have hj : Lib.join ([(⟨#[115, 112, 104, 114]⟩ : ByteArray), ⟨(le c.toNat 8).toArray⟩, ⟨(le g.toNat 4).toArray⟩, ⟨(le n.toNat 4).toArray⟩, ⟨(le p.toNat 4).toArray⟩, tag].map (·.data.toList)) (⟨#[]⟩ : ByteArray).data.toList = rb c.toNat g.toNat n.toNat p.toNat tag := by
    simp only [List.map_cons, List.map_nil, ba_mk, Lib.join_cons, Lib.joinTail, List.nil_append, rb, List.flatten_cons, List.flatten_nil, List.append_nil, List.append_assoc]
  rw [hj, if_pos]
  · rfl
  · refine ⟨by simp, ?_⟩
    have : (rb c.toNat g.toNat n.toNat p.toNat tag).length = 24 + tag.size := by
      simp [rb]
      omega
    omega

theorem ref_eq (c g n p : Int) (tag : ByteArray) (hc : 0 ≤ c) (hg : 0 ≤ g) (hn : 0 ≤ n) (hp : 0 ≤ p) (hc1 : c < 18446744073709551616) (hg1 : g < 4294967296) (hn1 : n < 4294967296) (hp1 : p < 4294967296) (ht : tag.size ≤ 140737488355000)
    (hr : sphragisref15_Right.f c g n p tag = some true) :
    sphragisref15_Encode.f 20 c g n p tag = some (⟨(rb c.toNat g.toNat n.toNat p.toNat tag).toArray⟩, 0) := by
  unfold sphragisref15_Encode.f
  have s8 : (⟨(le c.toNat 8).toArray⟩ : ByteArray).size = 8 := by rw [ba_size, ba_mk, le_length]
  have sg : (⟨(le g.toNat 4).toArray⟩ : ByteArray).size = 4 := by rw [ba_size, ba_mk, le_length]
  have sn : (⟨(le n.toNat 4).toArray⟩ : ByteArray).size = 4 := by rw [ba_size, ba_mk, le_length]
  have sp : (⟨(le p.toNat 4).toArray⟩ : ByteArray).size = 4 := by rw [ba_size, ba_mk, le_length]
  rw [hr, u64_of g hg (by omega), u64_of n hn (by omega), u64_of p hp (by omega)]
  simp only [Option.bind_some, if_true]
  rw [show (8 : Int) = ((8 : Nat) : Int) from rfl, show (4 : Int) = ((4 : Nat) : Int) from rfl, put_le c 8 hc hc1 (by omega)]
  simp only [Option.bind_some]
  rw [if_pos (by omega), put_le g 4 hg (by omega) (by omega)]
  simp only [Option.bind_some]
  rw [if_pos (by omega), put_le n 4 hn (by omega) (by omega)]
  simp only [Option.bind_some]
  rw [if_pos (by omega), put_le p 4 hp (by omega) (by omega)]
  simp only [Option.bind_some]
  rw [if_pos (by omega), if_pos (by omega)]
  congr 2

/-- Which roots may be. -/
def right (c g n p : Int) (tag : ByteArray) : Bool := decide (0 < c ∧ 0 < g ∧ n ≤ 1000 ∧ 2 ≤ p ∧ tag.size = 32)

theorem right_eq (c g n p : Int) (tag : ByteArray) : root_Right.f c g n p tag = some (right c g n p tag) := by
  unfold root_Right.f rows_RightRef.f right
  by_cases h1 : c > 0 <;> by_cases h2 : g > 0 <;> by_cases h3 : n ≤ 1000 <;> by_cases h4 : p ≥ 2 <;> simp [h1, h2, h3, h4]
  · rw [Bool.eq_iff_iff]; simp; omega
  all_goals (first | omega | simp_all)

theorem right_ref (c g n p : Int) (tag : ByteArray) : sphragisref15_Right.f c g n p tag = some (right c g n p tag) := by
  unfold sphragisref15_Right.f sphragisref10_RightRef.f right
  by_cases h1 : c > 0 <;> by_cases h2 : g > 0 <;> by_cases h3 : n ≤ 1000 <;> by_cases h4 : p ≥ 2 <;> simp [h1, h2, h3, h4]
  · rw [Bool.eq_iff_iff]; simp; omega
  all_goals (first | omega | simp_all)

theorem right_iff {c g n p : Int} {tag : ByteArray} : right c g n p tag = true ↔ 0 < c ∧ 0 < g ∧ n ≤ 1000 ∧ 2 ≤ p ∧ tag.size = 32 := by simp [right]

theorem encode_yes {c g n p : Int} {tag : ByteArray} (hn : 0 ≤ n) (hg1 : g < 4294967296) (hp1 : p < 4294967296) (h : right c g n p tag = true) :
    root_Encode.f 20 c g n p tag = some (⟨(rb c.toNat g.toNat n.toNat p.toNat tag).toArray⟩, 0) := by
  obtain ⟨h1, h2, h3, h4, h5⟩ := right_iff.1 h
  unfold root_Encode.f
  rw [right_eq, h]
  simp only [Option.bind_some, if_true]
  rw [text_eq c g n p tag (by omega) (by omega) hn (by omega) hg1 (by omega) hp1 (by omega)]
  rfl
theorem encode_no {c g n p : Int} {tag : ByteArray} (h : right c g n p tag = false) : root_Encode.f 20 c g n p tag = some (⟨#[]⟩, 120) := by
  unfold root_Encode.f
  rw [right_eq, h]
  rfl
theorem ref_no {c g n p : Int} {tag : ByteArray} (h : right c g n p tag = false) : sphragisref15_Encode.f 20 c g n p tag = some (⟨#[]⟩, 120) := by
  unfold sphragisref15_Encode.f
  rw [right_ref, h]
  rfl

theorem RootBytes (c g n p : Int) (tag : ByteArray) (hc : 0 ≤ c) (hg : 0 ≤ g) (hn : 0 ≤ n) (hp : 0 ≤ p) (hc1 : c < 18446744073709551616) (hg1 : g < 4294967296) (hn1 : n < 4294967296) (hp1 : p < 4294967296) :
    sphragislaw15_RootBytes.f 20 c g n p tag = some true := by
  unfold sphragislaw15_RootBytes.f
  rw [shown_true, right_eq, right_ref]
  have hs : root_Slot.f c = some (c % 2) := by
    unfold root_Slot.f
    rw [and_one_u64 c hc (by omega)]
    congr 1
    omega
  have hm : Int.tmod c 2 % 4294967296 = c % 2 := by rw [Int.tmod_eq_emod_of_nonneg hc]; omega
  cases h : right c g n p tag with
  | true =>
    obtain ⟨h1, h2, h3, h4, h5⟩ := right_iff.1 h
    rw [encode_yes hn hg1 hp1 h, ref_eq c g n p tag hc hg hn hp hc1 hg1 hn1 hp1 (by omega) (by rw [right_ref, h]), hs]
    simp [hm]
  | false =>
    rw [encode_no h, ref_no h, hs]
    simp [hm]

theorem next_eq (c g n p : Int) (tag : ByteArray) (hc : 0 ≤ c) (hc1 : c < 18446744073709551616) :
    root_Next.f c g n p tag = some (if c = 18446744073709551615 then (0, 0, 0, 0, ⟨#[]⟩, 72) else if 0 ≤ n ∧ n ≤ 1000 ∧ right (c + 1) g n p tag = true then (c + 1, g, n, p, tag, 0) else (0, 0, 0, 0, ⟨#[]⟩, 120)) := by
  unfold root_Next.f
  have hw : IntKind.u64.wrap (c + 1) = if c = 18446744073709551615 then 0 else c + 1 := by
    rw [IntKind.wrap_u64]; split <;> omega
  rw [hw]
  by_cases e : c = 18446744073709551615
  · simp [e]
  · rw [if_neg e, if_neg e, if_neg (by omega)]
    by_cases h0 : n < 0
    · rw [if_pos h0, if_neg (by omega)]
    · rw [if_neg h0]
      by_cases h1 : n > 1000
      · rw [if_pos h1, if_neg (by omega)]
      · rw [if_neg h1, show n % 4294967296 = n by omega, right_eq]
        simp only [Option.bind_some]
        by_cases hr : right (c + 1) g n p tag = true
        · rw [if_pos hr, if_pos ⟨by omega, by omega, hr⟩]
        · rw [if_neg hr, if_neg (by intro h; exact hr h.2.2)]

theorem nextref_eq (c g n p : Int) (tag : ByteArray) (hc : 0 ≤ c) (hc1 : c < 18446744073709551616) :
    sphragisref15_Next.f 20 c g n p tag = some (if c = 18446744073709551615 then (0, 0, 0, 0, ⟨#[]⟩, 72) else if 0 ≤ n ∧ n ≤ 1000 ∧ right (c + 1) g n p tag = true then (c + 1, g, n, p, tag, 0) else (0, 0, 0, 0, ⟨#[]⟩, 120)) := by
  unfold sphragisref15_Next.f
  by_cases e : c = 18446744073709551615
  · simp [e]
  · rw [if_neg e, if_neg e]
    have hw : IntKind.u64.wrap (c + 1) = c + 1 := by rw [IntKind.wrap_u64]; omega
    by_cases h0 : n < 0
    · rw [if_pos h0, if_neg (by omega)]
      simp [sphragisref15_Next.j0]
    · rw [if_neg h0]
      by_cases h1 : n > 1000
      · rw [if_neg (by omega)]
        simp [sphragisref15_Next.j0, h1]
      · simp only [sphragisref15_Next.j0, show decide (n > 1000) = false by simp; omega, hw, show n % 4294967296 = n by omega, right_ref, Option.bind_some]
        by_cases hr : right (c + 1) g n p tag = true
        · have hif : 0 ≤ n ∧ n ≤ 1000 ∧ right (c + 1) g n p tag = true := ⟨by omega, by omega, hr⟩
          rw [if_pos hif]
          simp [hr]
        · have hif : ¬ (0 ≤ n ∧ n ≤ 1000 ∧ right (c + 1) g n p tag = true) := fun h => hr h.2.2
          rw [if_neg hif]
          simp [hr]

theorem RootNexts (c g n p : Int) (tag : ByteArray) (hc : 0 ≤ c) (hc1 : c < 18446744073709551616) : sphragislaw15_RootNexts.f 20 c g n p tag = some true := by
  unfold sphragislaw15_RootNexts.f
  rw [shown_true, next_eq c g n p tag hc hc1, nextref_eq c g n p tag hc hc1]
  simp

theorem rb_inj {c g n p c' g' n' p' : Nat} {tag tag' : ByteArray} (hc : c < 18446744073709551616) (hg : g < 4294967296) (hn : n < 4294967296) (hp : p < 4294967296)
    (hc' : c' < 18446744073709551616) (hg' : g' < 4294967296) (hn' : n' < 4294967296) (hp' : p' < 4294967296) (h : rb c g n p tag = rb c' g' n' p' tag') : c = c' ∧ g = g' ∧ n = n' ∧ p = p' ∧ tag = tag' := by
  unfold rb at h
  simp only [List.append_assoc, List.append_cancel_left_eq] at h
  obtain ⟨e1, h⟩ := List.append_inj h (by simp)
  obtain ⟨e2, h⟩ := List.append_inj h (by simp)
  obtain ⟨e3, h⟩ := List.append_inj h (by simp)
  obtain ⟨e4, h⟩ := List.append_inj h (by simp)
  exact ⟨le_inj hc hc' e1, le_inj hg hg' e2, le_inj hn hn' e3, le_inj hp hp' e4, ba_ext h⟩

theorem RootApart (c g n p c' g' n' p' : Int) (tag tag' : ByteArray) (hc1 : c < 18446744073709551616) (hg1 : g < 4294967296) (hn : 0 ≤ n) (hn1 : n < 4294967296) (hp1 : p < 4294967296)
    (hc1' : c' < 18446744073709551616) (hg1' : g' < 4294967296) (hn' : 0 ≤ n') (hn1' : n' < 4294967296) (hp1' : p' < 4294967296) :
    sphragislaw15_RootApart.f 20 c g n p tag c' g' n' p' tag' = some true := by
  unfold sphragislaw15_RootApart.f
  rw [shown_true]
  cases h : right c g n p tag with
  | false =>
    cases h' : right c' g' n' p' tag' with
    | false => rw [encode_no h, encode_no h']; simp
    | true => rw [encode_no h, encode_yes hn' hg1' hp1' h']; simp
  | true =>
    cases h' : right c' g' n' p' tag' with
    | false => rw [encode_yes hn hg1 hp1 h, encode_no h']; simp
    | true =>
      rw [encode_yes hn hg1 hp1 h, encode_yes hn' hg1' hp1' h']
      obtain ⟨h1, h2, h3, h4, h5⟩ := right_iff.1 h
      obtain ⟨h1', h2', h3', h4', h5'⟩ := right_iff.1 h'
      simp only [Option.bind_some, if_true]
      congr 1
      rw [beq_iff_eq, Bool.eq_iff_iff]
      simp only [Lib.toList_data, ba_mk, beq_iff_eq, Bool.and_eq_true]
      constructor
      · intro e
        obtain ⟨e1, e2, e3, e4, e5⟩ := rb_inj (by omega) (by omega) (by omega) (by omega) (by omega) (by omega) (by omega) (by omega) e
        exact ⟨by omega, by omega, by omega, by omega, by rw [e5]⟩
      · rintro ⟨rfl, rfl, rfl, rfl, e⟩
        rw [ba_ext e]
end Go.Proofs.Ytfbfpjgnplhodaa.H
