/- The page of bytes: what the reference's Decode answers is what the program's answers. -/
import Derived.Test.YtmeaiancebgkoaaFR
import Derived.Test.YtmeaiancebgkoaaQ3
import Derived.Test.YtmeaiancebgkoaaH19
set_option maxRecDepth 100000
set_option linter.unusedSimpArgs false
set_option linter.unusedVariables false
namespace Go.Proofs.Ytmeaiancebgkoaa.H
open Go.RowKit Go.Proofs.YtmeaiancebgkoaaW.PrintWords Go.Proofs.YtmeaiancebgkoaaW.PrintLast Go.Proofs.YtmeaiancebgkoaaW.PrintMore

/-- A byte, as a number. -/
def by1 (s : ByteArray) (i : Nat) : Nat := (bt s (i : Int)).toNat
theorem by1_lt (s : ByteArray) (i : Nat) : by1 s i < 256 := by
  have := bt_range s (i : Int)
  unfold by1
  omega
theorem bt_by1 (s : ByteArray) (i : Nat) : bt s (i : Int) = (by1 s i : Int) := by
  have := bt_range s (i : Int)
  unfold by1
  omega
theorem by1_get (s : ByteArray) (i : Nat) (h : i < s.data.toList.length) : by1 s i = (s.data.toList[i]).toNat := by
  have hs : (i : Int).toNat < s.size := by rw [ba_size, Int.toNat_natCast]; exact h
  unfold by1 bt
  rw [dif_pos hs, Int.toNat_natCast]
  rfl
theorem w64 (x : Int) (h0 : -9223372036854775808 ≤ x) (h1 : x < 9223372036854775808) : wrap64 x = x := by unfold wrap64; omega
theorem w_add (i : Nat) (c : Int) (n : Nat) (hc : c = (n : Int)) (h : i + n < 4611686018427387904) : wrap64 ((i : Int) + c) = ((i + n : Nat) : Int) := by
  subst hc
  rw [w64 _ (by omega) (by omega)]
  rfl
theorem w_by1 (s : ByteArray) (i : Nat) : wrap64 (bt s (i : Int)) = (by1 s i : Int) := by
  have := by1_lt s i
  rw [bt_by1, w64 _ (by omega) (by omega)]
theorem w_b1 (s : ByteArray) : wrap64 (bt s 1) = (by1 s 1 : Int) := w_by1 s 1
theorem w_b2 (s : ByteArray) : wrap64 (bt s 2) = (by1 s 2 : Int) := w_by1 s 2
theorem getR_l0 (t : ByteArray) (ht : t.size ≤ 8) : ∀ (i k : Nat), i ≤ t.size → i < k → sphragisref10_get.l0 k t (num (t.data.toList.drop i) : Int) ((i : Int) - 1) = some (num t.data.toList : Int)
  | 0, k, _, hk => by
    obtain ⟨k, rfl⟩ : ∃ j, k = j + 1 := ⟨k - 1, by omega⟩
    rw [sphragisref10_get.l0, if_neg (by omega), List.drop_zero]
  | i + 1, k, hi, hk => by
    obtain ⟨k, rfl⟩ : ∃ j, k = j + 1 := ⟨k - 1, by omega⟩
    have hil : i < t.data.toList.length := by rw [← ba_size]; omega
    have hd : t.data.toList.drop i = t.data.toList[i] :: t.data.toList.drop (i + 1) := List.drop_eq_getElem_cons hil
    have hn : num (t.data.toList.drop i) = by1 t i + 256 * num (t.data.toList.drop (i + 1)) := by rw [hd, num, by1_get t i hil]
    have hlt : num (t.data.toList.drop i) < 256 ^ 8 := by
      refine Nat.lt_of_lt_of_le (num_lt _) (Nat.pow_le_pow_right (by decide) ?_)
      rw [List.length_drop, ← ba_size]
      omega
    rw [show (256 : Nat) ^ 8 = 18446744073709551616 by decide] at hlt
    have hb := by1_lt t i
    rw [sphragisref10_get.l0, show (((i + 1 : Nat) : Int) - 1) = (i : Int) by omega, if_pos (by omega), if_pos (by omega), if_pos (by omega), bt_by1]
    have e1 : IntKind.u64.wrap (256 * (num (t.data.toList.drop (i + 1)) : Int)) = 256 * (num (t.data.toList.drop (i + 1)) : Int) := by rw [IntKind.wrap_u64]; omega
    have e2 : IntKind.u64.wrap (by1 t i : Int) = (by1 t i : Int) := by rw [IntKind.wrap_u64]; omega
    have e3 : IntKind.u64.wrap (256 * (num (t.data.toList.drop (i + 1)) : Int) + (by1 t i : Int)) = (num (t.data.toList.drop i) : Int) := by rw [IntKind.wrap_u64]; omega
    rw [e1, e2, e3, w64 _ (by omega) (by omega)]
    exact getR_l0 t ht i k (by omega) (by omega)
theorem getR_f (t : ByteArray) (ht : t.size ≤ 8) (k : Nat) (hk : 8 < k) : sphragisref10_get.f k t = some (num t.data.toList : Int) := by
  have h := getR_l0 t ht t.size k (Nat.le_refl _) (by omega)
  rw [ba_size, List.drop_length] at h
  unfold sphragisref10_get.f
  rw [w64 _ (by omega) (by omega), ba_size]
  exact h

/-- The number of so many bytes from here on. -/
def nm (s : ByteArray) (a b : Nat) : Nat := num (s.extract a b).data.toList
theorem nm_pow (s : ByteArray) (a b n : Nat) (h : b ≤ a + n) : nm s a b < 256 ^ n := by
  have h1 := num_lt (s.extract a b).data.toList
  have h2 : (s.extract a b).data.toList.length ≤ n := by rw [← ba_size, ByteArray.size_extract]; omega
  exact Nat.lt_of_lt_of_le h1 (Nat.pow_le_pow_right (by decide) h2)
theorem nm_lt (s : ByteArray) (a b : Nat) (h : b ≤ a + 8) : nm s a b < 18446744073709551616 := by
  have h1 := nm_pow s a b 8 h
  rw [show (256 : Nat) ^ 8 = 18446744073709551616 by decide] at h1
  exact h1
theorem nm_lt4 (s : ByteArray) (a b : Nat) (h : b ≤ a + 4) : nm s a b < 4294967296 := by
  have h1 := nm_pow s a b 4 h
  rw [show (256 : Nat) ^ 4 = 4294967296 by decide] at h1
  exact h1
theorem getR_nm (s : ByteArray) (a b : Nat) (h : b ≤ a + 8) (k : Nat) (hk : 8 < k) : sphragisref10_get.f k (s.extract a b) = some (nm s a b : Int) :=
  getR_f _ (by rw [ByteArray.size_extract]; omega) k hk
theorem nm_mod (s : ByteArray) (a b : Nat) (h : b ≤ a + 4) : (nm s a b : Int) % 4294967296 = (nm s a b : Int) := by
  have := nm_lt4 s a b h
  omega

def rowA (s : ByteArray) (i : Nat) : Row := ⟨nm s i (i + 8), nm s (i + 8) (i + 12), nm s (i + 12) (i + 16), s.extract (i + 17) (i + 17 + by1 s (i + 16))⟩
def rowsA (s : ByteArray) : Nat → Nat → List Row → List Row × Bool
  | 0, i, acc => (acc, (i : Int) == (s.size : Int))
  | n + 1, i, acc => if s.size < i + 17 then (acc, false) else if s.size < i + 17 + by1 s (i + 16) then (acc, false) else rowsA s n (i + 17 + by1 s (i + 16)) (acc ++ [rowA s i])
theorem rowA_in (s : ByteArray) (i : Nat) : rowIn (rowA s i) := by
  have h1 := nm_lt s i (i + 8) (by omega)
  have h2 := nm_lt4 s (i + 8) (i + 12) (by omega)
  have h3 := nm_lt4 s (i + 12) (i + 16) (by omega)
  unfold rowIn rowA
  simp only
  omega
theorem rowsA_in (s : ByteArray) : ∀ (n i : Nat) (acc : List Row), (∀ r ∈ acc, rowIn r) → (∀ r ∈ (rowsA s n i acc).1, rowIn r) ∧ (rowsA s n i acc).1.length ≤ acc.length + n
  | 0, i, acc, h => ⟨h, by show acc.length ≤ acc.length + 0; omega⟩
  | n + 1, i, acc, h => by
    rw [rowsA]
    split
    · exact ⟨h, by simp only; omega⟩
    · split
      · exact ⟨h, by simp only; omega⟩
      · have := rowsA_in s n (i + 17 + by1 s (i + 16)) (acc ++ [rowA s i]) (fun r hr => by
          rcases List.mem_append.1 hr with hr | hr
          · exact h r hr
          · rw [List.mem_singleton.1 hr]; exact rowA_in s i)
        refine ⟨this.1, ?_⟩
        have := this.2
        rw [List.length_append, List.length_singleton] at this
        omega
theorem leafR_l0 (s : ByteArray) (hs : s.size ≤ 140737488351232) (h1 : 1 < s.size) (kd x y lv np : Int) (nt : ByteArray) (m : Nat) : ∀ (k i j : Nat) (acc : List Row), i ≤ s.size → j + m = by1 s 1 → m + 9 < k → acc.length ≤ j →
    sphragisref10_leaf.l0 k s (i : Int) (j : Int) kd x y lv acc np nt = some (kd, x, y, lv, (rowsA s m i acc).1, ([] : List Ref), np, nt, (rowsA s m i acc).2) := by
  have hb1 := by1_lt s 1
  induction m with
  | zero =>
    intro k i j acc hi hj hk ha
    obtain ⟨k, rfl⟩ : ∃ j, k = j + 1 := ⟨k - 1, by omega⟩
    rw [sphragisref10_leaf.l0, if_pos (by omega), w_b1, if_neg (by omega)]
    rfl
  | succ m ih =>
    intro k i j acc hi hj hk ha
    obtain ⟨k, rfl⟩ : ∃ j, k = j + 1 := ⟨k - 1, by omega⟩
    have hv := by1_lt s (i + 16)
    have H := @ih
    clear ih
    rw [sphragisref10_leaf.l0, if_pos (by omega), w_b1, if_pos (by omega), rowsA]
    simp only [w_add i 17 17 rfl (by omega), w_add i 16 16 rfl (by omega), w_add i 12 12 rfl (by omega), w_add i 8 8 rfl (by omega), w_by1, w_add (i + 17) (by1 s (i + 16) : Int) (by1 s (i + 16)) rfl (by omega), Int.toNat_natCast]
    by_cases c1 : s.size < i + 17
    · rw [if_pos (by omega), if_pos c1]
    rw [if_neg (by omega), if_neg c1, if_pos (by omega), if_pos (by omega)]
    by_cases c2 : s.size < i + 17 + by1 s (i + 16)
    · rw [if_pos (by omega), if_pos c2]
    rw [if_neg (by omega), if_neg c2, if_pos (by omega), if_pos (by omega), if_pos (by omega), getR_nm s i (i + 8) (by omega) k (by omega), Option.bind_some,
      if_pos (by omega), if_pos (by omega), if_pos (by omega), getR_nm s (i + 8) (i + 12) (by omega) k (by omega), Option.bind_some,
      if_pos (by omega), if_pos (by omega), if_pos (by omega), getR_nm s (i + 12) (i + 16) (by omega) k (by omega), Option.bind_some,
      if_pos (by omega), if_pos (by omega), if_pos (by omega), if_pos (by omega), nm_mod s (i + 8) (i + 12) (by omega), nm_mod s (i + 12) (i + 16) (by omega), wrapS j (by omega)]
    exact H k (i + 17 + by1 s (i + 16)) (j + 1) (acc ++ [rowA s i]) (by omega) (by omega) (by omega) (by rw [List.length_append, List.length_singleton]; omega)

/-- The page that bytes may be: a leaf. -/
def leafA (s : ByteArray) : Pg × Bool :=
  if s.size < 38 then (⟨1, 0, 0, 0, [], [], 0, ⟨#[]⟩⟩, false)
  else (⟨1, 0, 0, 0, (rowsA s (by1 s 1) 38 []).1, [], nm s 2 6, if nm s 2 6 = 0 ∧ s.extract 6 38 = zeros 32 then ⟨#[]⟩ else s.extract 6 38⟩, (rowsA s (by1 s 1) 38 []).2)
theorem zeros_str : strOfNums (List.replicate 32 0) = zeros 32 := by decide +kernel
theorem eq_str (a b : ByteArray) : (a.toList == b.toList) = true ↔ a = b := by
  rw [beq_iff_eq, Lib.toList_data, Lib.toList_data]
  exact ⟨fun h => ba_ext h, fun h => by rw [h]⟩
theorem leafR_f (s : ByteArray) (hs : s.size ≤ 140737488351232) (k : Nat) (hk : 300 < k) :
    sphragisref10_leaf.f k s = some ((leafA s).1.k, (leafA s).1.x, (leafA s).1.y, (leafA s).1.lv, (leafA s).1.rows, (leafA s).1.kids, (leafA s).1.np, (leafA s).1.nt, (leafA s).2) := by
  unfold sphragisref10_leaf.f leafA
  by_cases h : s.size < 38
  · rw [if_pos (by omega), if_pos h]
  rw [if_neg (by omega), if_neg h, if_pos (by decide), if_pos (by omega), getR_nm s 2 6 (by omega) k (by omega), Option.bind_some, if_pos (by decide), if_pos (by omega), nm_mod s 2 6 (by omega), zeros_str]
  obtain ⟨k, rfl⟩ : ∃ j, k = j + 1 := ⟨k - 1, by omega⟩
  obtain ⟨k, rfl⟩ : ∃ j, k = j + 1 := ⟨k - 1, by omega⟩
  have hb1 := by1_lt s 1
  simp only [sphragisref10_leaf.j0, sphragisref10_leaf.j1]
  have hl := fun nt => leafR_l0 s hs (by omega) 1 0 0 0 (nm s 2 6) nt (by1 s 1) k 38 0 [] (by omega) (by omega) (by omega) (Nat.le_refl _)
  rw [show ((38 : Nat) : Int) = 38 from rfl, show ((0 : Nat) : Int) = 0 from rfl] at hl
  by_cases c1 : nm s 2 6 = 0
  · rw [if_pos (by omega), if_pos (by decide)]
    by_cases c2 : s.extract 6 38 = zeros 32
    · rw [if_pos ((eq_str _ _).2 c2), if_pos ⟨c1, c2⟩, hl]
    · rw [if_neg (fun h => c2 ((eq_str _ _).1 h)), if_neg (fun h => c2 h.2), hl]
  · rw [if_neg (by omega), if_neg (by decide), if_neg (fun h => c1 h.1), hl]

def kidA (s : ByteArray) (i : Nat) : Ref := ⟨nm s i (i + 4), s.extract (i + 4) (i + 36)⟩
def kidsA (s : ByteArray) : Nat → Nat → List Ref → List Ref
  | 0, _, acc => acc
  | n + 1, i, acc => kidsA s n (i + 36) (acc ++ [kidA s i])
theorem kidA_in (s : ByteArray) (i : Nat) : refIn (kidA s i) := by
  have h1 := nm_lt4 s i (i + 4) (by omega)
  unfold refIn kidA
  simp only
  omega
theorem kidsA_in (s : ByteArray) : ∀ (n i : Nat) (acc : List Ref), (∀ r ∈ acc, refIn r) → (∀ r ∈ kidsA s n i acc, refIn r) ∧ (kidsA s n i acc).length = acc.length + n
  | 0, i, acc, h => ⟨h, rfl⟩
  | n + 1, i, acc, h => by
    rw [kidsA]
    have := kidsA_in s n (i + 36) (acc ++ [kidA s i]) (fun r hr => by
      rcases List.mem_append.1 hr with hr | hr
      · exact h r hr
      · rw [List.mem_singleton.1 hr]; exact kidA_in s i)
    refine ⟨this.1, ?_⟩
    rw [this.2, List.length_append, List.length_singleton]
    omega
theorem innerR_l0 (s : ByteArray) (hs : s.size ≤ 10000) (kd x y lv np : Int) (nt : ByteArray) (m : Nat) : ∀ (k i : Nat) (acc : List Ref), i + 36 * m = s.size → m + 9 < k → acc.length + m ≤ 1000 →
    sphragisref10_inner.l0 k s (i : Int) kd x y lv acc np nt = some (kd, x, y, lv, ([] : List Row), kidsA s m i acc, np, nt, true) := by
  induction m with
  | zero =>
    intro k i acc hi hk ha
    obtain ⟨k, rfl⟩ : ∃ j, k = j + 1 := ⟨k - 1, by omega⟩
    rw [sphragisref10_inner.l0, if_neg (by omega)]
    rfl
  | succ m ih =>
    intro k i acc hi hk ha
    obtain ⟨k, rfl⟩ : ∃ j, k = j + 1 := ⟨k - 1, by omega⟩
    rw [sphragisref10_inner.l0]
    simp only [w_add i 4 4 rfl (by omega), w_add i 36 36 rfl (by omega), Int.toNat_natCast]
    rw [if_pos (by omega), if_pos (by omega), if_pos (by omega), if_pos (by omega), getR_nm s i (i + 4) (by omega) k (by omega), Option.bind_some,
      if_pos (by omega), if_pos (by omega), if_pos (by omega), if_pos (by omega), nm_mod s i (i + 4) (by omega)]
    exact ih k (i + 36) (acc ++ [kidA s i]) (by omega) (by omega) (by rw [List.length_append, List.length_singleton]; omega)
/-- Likewise: an inner page. -/
def innerA (s : ByteArray) : Pg × Bool :=
  if s.size < 11 ∨ s.size ≠ 11 + 36 * by1 s 1 then (⟨2, 0, 0, 0, [], [], 0, ⟨#[]⟩⟩, false)
  else (⟨2, nm s 3 7, nm s 7 11, by1 s 2, [], kidsA s (by1 s 1) 11 [], 0, ⟨#[]⟩⟩, true)
theorem innerR_f (s : ByteArray) (hs : s.size ≤ 140737488351232) (k : Nat) (hk : 300 < k) :
    sphragisref10_inner.f k s = some ((innerA s).1.k, (innerA s).1.x, (innerA s).1.y, (innerA s).1.lv, (innerA s).1.rows, (innerA s).1.kids, (innerA s).1.np, (innerA s).1.nt, (innerA s).2) := by
  have hb1 := by1_lt s 1
  have hb2 := by1_lt s 2
  obtain ⟨k, rfl⟩ : ∃ j, k = j + 1 := ⟨k - 1, by omega⟩
  unfold sphragisref10_inner.f innerA
  simp only [sphragisref10_inner.j0]
  by_cases h : s.size < 11
  · rw [if_pos (by omega), if_pos trivial, if_pos (.inl h)]
  have e1 : wrap64 (11 + wrap64 (36 * (by1 s 1 : Int))) = ((11 + 36 * by1 s 1 : Nat) : Int) := by
    rw [w64 (36 * (by1 s 1 : Int)) (by omega) (by omega), w64 _ (by omega) (by omega)]
    omega
  rw [if_neg (by omega), if_pos (by omega), w_b1, e1, w_b2]
  clear e1
  by_cases h2 : s.size = 11 + 36 * by1 s 1
  · have h3 : ¬ (s.size < 11 ∨ s.size ≠ 11 + 36 * by1 s 1) := by omega
    rw [if_neg h3, if_neg (by rw [bne_iff_ne]; omega), if_pos (by decide), if_pos (by omega), getR_nm s 3 7 (by omega) k (by omega), Option.bind_some,
      if_pos (by decide), if_pos (by omega), getR_nm s 7 11 (by omega) k (by omega), Option.bind_some, if_pos (by omega), nm_mod s 3 7 (by omega), nm_mod s 7 11 (by omega)]
    have hl := innerR_l0 s (by omega) 2 (nm s 3 7) (nm s 7 11) (by1 s 2) 0 ⟨#[]⟩ (by1 s 1) k 11 [] (by omega) (by omega) (by show 0 + _ ≤ 1000; omega)
    rw [show ((11 : Nat) : Int) = 11 from rfl] at hl
    rw [hl]
  · rw [if_pos (by rw [bne_iff_ne]; omega), if_pos (.inr h2)]

/-- The page of bytes. -/
def pickA (s : ByteArray) : Pg × Bool := if 0 < s.size ∧ by1 s 0 = 1 then leafA s else if 0 < s.size ∧ by1 s 0 = 2 then innerA s else (pgNil, false)
def decA (s : ByteArray) : Pg × Int := if (pickA s).2 = true ∧ rightP (pickA s).1 = true then ((pickA s).1, 0) else (pgNil, 90)
theorem leafA_in (s : ByteArray) : pageIn (leafA s).1 ∧ (leafA s).1.rows.length ≤ 255 ∧ (leafA s).1.kids.length = 0 := by
  have hb1 := by1_lt s 1
  have hz : (0 : Int) ≤ 0 ∧ (0 : Int) < 4294967296 := by decide
  have hl : (0 : Int) < 9223372036854775808 := by decide
  unfold leafA
  split
  · exact ⟨by decide, by decide, rfl⟩
  · obtain ⟨h1, h2⟩ := rowsA_in s (by1 s 1) 38 [] (fun _ h => by cases h)
    have h3 := nm_lt4 s 2 6 (by omega)
    rw [List.length_nil] at h2
    exact ⟨⟨hz, hz, ⟨Int.natCast_nonneg _, by simp only; omega⟩, hl, Nat.zero_le _, h1, fun _ h => by cases h⟩, by simp only; omega, rfl⟩
theorem innerA_in (s : ByteArray) : pageIn (innerA s).1 ∧ (innerA s).1.rows.length = 0 ∧ (innerA s).1.kids.length ≤ 255 := by
  have hb1 := by1_lt s 1
  have hb2 := by1_lt s 2
  have hz : (0 : Int) ≤ 0 ∧ (0 : Int) < 4294967296 := by decide
  unfold innerA
  split
  · exact ⟨by decide, rfl, by decide⟩
  · obtain ⟨h1, h2⟩ := kidsA_in s (by1 s 1) 11 [] (fun _ h => by cases h)
    have h3 := nm_lt4 s 3 7 (by omega)
    have h4 := nm_lt4 s 7 11 (by omega)
    rw [List.length_nil] at h2
    exact ⟨⟨⟨Int.natCast_nonneg _, by simp only; omega⟩, ⟨Int.natCast_nonneg _, by simp only; omega⟩, hz, by simp only; omega, by simp only; omega, (fun _ h => by cases h), h1⟩, rfl, by simp only; omega⟩
theorem decR_f (s : ByteArray) (hs : s.size ≤ 140737488351232) (k : Nat) (hk : 1000 < k) :
    sphragisref10_Decode.f k s = some ((decA s).1.k, (decA s).1.x, (decA s).1.y, (decA s).1.lv, (decA s).1.rows, (decA s).1.kids, (decA s).1.np, (decA s).1.nt, (decA s).2) := by
  obtain ⟨k, rfl⟩ : ∃ j, k = j + 1 := ⟨k - 1, by omega⟩
  obtain ⟨k, rfl⟩ : ∃ j, k = j + 1 := ⟨k - 1, by omega⟩
  have hb0 := by1_lt s 0
  have eb := bt_by1 s 0
  rw [show ((0 : Nat) : Int) = 0 from rfl] at eb
  have hfin : ∀ (q : Pg) (ok : Bool) (k : Nat), pageIn q → q.rows.length ≤ 255 → q.kids.length ≤ 255 → 500 < k →
      ((sphragisref10_Right.f k q.k q.x q.y q.lv q.rows q.kids q.np q.nt).bind fun t => (if ok = true then (if t = true then (some (q.k, q.x, q.y, q.lv, q.rows, q.kids, q.np, q.nt, 0)) else (some (0, 0, 0, 0, ([] : List Row), ([] : List Ref), 0, (⟨#[]⟩ : ByteArray), 90))) else (some (0, 0, 0, 0, ([] : List Row), ([] : List Ref), 0, (⟨#[]⟩ : ByteArray), (90 : Int)))))
        = (fun (d : Pg × Int) => some (d.1.k, d.1.x, d.1.y, d.1.lv, d.1.rows, d.1.kids, d.1.np, d.1.nt, d.2)) (if ok = true ∧ rightP q = true then (q, 0) else (pgNil, 90)) := by
    intro q ok k hq h1 h2 hk
    rw [rightR_f q hq k (by omega) (by omega) (by omega), Option.bind_some]
    cases ok <;> cases rightP q <;> rfl
  unfold sphragisref10_Decode.f
  unfold decA
  simp only [sphragisref10_Decode.j0, sphragisref10_Decode.j1]
  have hnil : ∀ k, 500 < k → sphragisref10_Right.f k 0 0 0 0 ([] : List Row) ([] : List Ref) 0 (⟨#[]⟩ : ByteArray) = some false := by
    intro k hk
    have := rightR_f pgNil (by decide) k (by decide) (by show 0 < k; omega) (by show 0 + 3 < k; omega)
    exact this
  by_cases h0 : 0 < s.size
  · rw [if_pos (by omega), if_pos (by omega), eb]
    by_cases h1 : by1 s 0 = 1
    · have hp : pickA s = leafA s := if_pos ⟨h0, h1⟩
      rw [hp, if_pos (by rw [beq_iff_eq]; omega), leafR_f s hs (k + 1) (by omega), Option.bind_some]
      obtain ⟨i1, i2, i3⟩ := leafA_in s
      exact hfin (leafA s).1 (leafA s).2 (k + 1) i1 i2 (by omega) (by omega)
    · rw [if_neg (by rw [beq_iff_eq]; omega), if_pos (by omega), if_pos (by omega)]
      by_cases h2 : by1 s 0 = 2
      · have hp : pickA s = innerA s := (if_neg (fun h => h1 h.2)).trans (if_pos ⟨h0, h2⟩)
        rw [hp, if_pos (by rw [beq_iff_eq]; omega), innerR_f s hs k (by omega), Option.bind_some]
        obtain ⟨i1, i2, i3⟩ := innerA_in s
        exact hfin (innerA s).1 (innerA s).2 k i1 (by omega) i3 (by omega)
      · have hp : pickA s = (pgNil, false) := (if_neg (fun h => h1 h.2)).trans (if_neg (fun h => h2 h.2))
        rw [hp, if_neg (by rw [beq_iff_eq]; omega), hnil k (by omega), Option.bind_some]
        rfl
  · have hp : pickA s = (pgNil, false) := (if_neg (fun h => h0 h.1)).trans (if_neg (fun h => h0 h.1))
    rw [hp, if_neg (by omega), if_neg (by decide), if_neg (by omega), if_neg (by decide), hnil k (by omega), Option.bind_some]
    rfl
end Go.Proofs.Ytmeaiancebgkoaa.H
