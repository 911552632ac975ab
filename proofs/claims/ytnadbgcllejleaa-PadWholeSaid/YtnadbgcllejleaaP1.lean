/- Plain facts of the bodies' functions. -/
import Derived.Test.YtnadbgcllejleaaLe
import Derived.Test.YtnadbgcllejleaaBits
import Derived.Test.YtnadbgcllejleaaH1
set_option maxRecDepth 100000
set_option linter.unusedSimpArgs false
set_option linter.unusedVariables false
namespace Go.Proofs.Ytnadbgcllejleaa.H
open Go.RowKit Go.Proofs.YtnadbgcllejleaaW.PrintWords Go.Proofs.YtnadbgcllejleaaW.PrintLast Go.Proofs.YtnadbgcllejleaaW.PrintMore Go.Proofs.Ytnadbgcllejleaa.Le Go.Proofs.Ytnadbgcllejleaa.Bits

/-- A text's body. -/
def padL (L : List UInt8) : List UInt8 := [UInt8.ofNat (L.length / 256), UInt8.ofNat (L.length % 256)] ++ L ++ List.replicate (198 - L.length) 0

theorem padL_length {L : List UInt8} (h : L.length ≤ 198) : (padL L).length = 200 := by
  simp [padL]
  omega

theorem repeat0 (n : Nat) : Lib.repeatL [0] n = List.replicate n 0 := by
  induction n with
  | zero => rfl
  | succ n ih => simp [Lib.repeatL, List.replicate_succ, ih]

theorem head2 (n : Nat) (h : n ≤ 198) : strOfNums [((n : Int) / 256) % 256, (n : Int) % 256] = ⟨#[UInt8.ofNat (n / 256), UInt8.ofNat (n % 256)]⟩ := by
  have e1 : (((n : Int) / 256) % 256).toNat = n / 256 := by omega
  have e2 : ((n : Int) % 256).toNat = n % 256 := by omega
  unfold strOfNums
  simp only [List.map_cons, List.map_nil, e1, e2]

theorem pad_yes (s : ByteArray) (h : s.size ≤ 198) : pad_Pad.f s = some (⟨(padL s.data.toList).toArray⟩, 0) := by
  unfold pad_Pad.f
  rw [if_neg (by omega)]
  simp only [Option.bind_some]
  rw [head2 _ h]
  have e1 : wrap64 (198 - (s.size : Int)) = ((198 - s.size : Nat) : Int) := by unfold wrap64; omega
  have s2 : (⟨#[UInt8.ofNat (s.size / 256), UInt8.ofNat (s.size % 256)]⟩ : ByteArray).size = 2 := rfl
  rw [if_pos (by omega), e1, strings_Repeat.f, if_pos ⟨by omega, by omega, by show 1 * _ ≤ _; omega⟩]
  simp only [Option.bind_some]
  rw [show ([0] : List UInt8) = [0] from rfl, repeat0, Int.toNat_natCast]
  have s3 : (⟨(List.replicate (198 - s.size) (0 : UInt8)).toArray⟩ : ByteArray).size = 198 - s.size := by rw [ba_size, ba_mk, List.length_replicate]
  rw [if_pos (by omega)]
  congr 2

theorem pad_no (s : ByteArray) (h : 198 < s.size) : pad_Pad.f s = some (⟨#[]⟩, 50) := by
  unfold pad_Pad.f
  rw [if_pos (by omega)]

theorem refpad_l (m : Nat) : ∀ (k : Nat) (x : ByteArray), m < k → x.size + m = 200 → sphragisref05_Pad.l0 k x = some (⟨(x.data.toList ++ List.replicate m 0).toArray⟩, 0) := by
  induction m with
  | zero =>
    intro k x hk hx
    obtain ⟨k, rfl⟩ : ∃ j, k = j + 1 := ⟨k - 1, by omega⟩
    simp only [sphragisref05_Pad.l0]
    rw [if_neg (by omega)]
    congr 2
    apply ba_ext
    simp
  | succ m ih =>
    intro k x hk hx
    obtain ⟨k, rfl⟩ : ∃ j, k = j + 1 := ⟨k - 1, by omega⟩
    simp only [sphragisref05_Pad.l0]
    have s1 : (x ++ (⟨#[0]⟩ : ByteArray)).size = x.size + 1 := by rw [ByteArray.size_append]; rfl
    rw [if_pos (by omega), if_pos (by omega), ih k _ (by omega) (by omega)]
    congr 2
    apply ba_ext
    simp only [ba_app, ba_mk, List.append_assoc]
    rfl

theorem refpad_yes (s : ByteArray) (h : s.size ≤ 198) : sphragisref05_Pad.f 300 s = some (⟨(padL s.data.toList).toArray⟩, 0) := by
  unfold sphragisref05_Pad.f
  rw [if_neg (by omega)]
  simp only [Option.bind_some]
  have e0 : wrap64 ((s.size : Int) / 256) = (s.size : Int) / 256 := by unfold wrap64; omega
  have s2 : (⟨#[UInt8.ofNat (s.size / 256), UInt8.ofNat (s.size % 256)]⟩ : ByteArray).size = 2 := rfl
  first | rw [e0] | skip
  rw [head2 _ h, if_pos (by omega), refpad_l (198 - s.size) 300 _ (by omega) (by rw [ByteArray.size_append]; omega)]
  congr 2

theorem refpad_no (s : ByteArray) (h : 198 < s.size) : sphragisref05_Pad.f 300 s = some (⟨#[]⟩, 50) := by
  unfold sphragisref05_Pad.f
  rw [if_pos (by omega)]

/-- The number ahead of a body. -/
def nOf (L : List UInt8) : Nat := 256 * (L.getD 0 0).toNat + (L.getD 1 0).toNat
def isPad (L : List UInt8) : Bool := decide (L.length = 200) && decide (nOf L ≤ 198) && (L.drop (2 + nOf L)).all (· == 0)
/-- The text of a body. -/
def unp (L : List UInt8) : ByteArray × Int := if isPad L = true then (⟨((L.drop 2).take (nOf L)).toArray⟩, 0) else (⟨#[]⟩, 50)

theorem bt_getD (s : ByteArray) (i : Nat) : bt s (i : Int) = ((s.data.toList.getD i 0).toNat : Int) := by
  unfold bt
  rw [Int.toNat_natCast]
  by_cases h : i < s.size
  · rw [dif_pos h, List.getD_eq_getElem?_getD, List.getElem?_eq_getElem (by simpa using h)]
    rfl
  · rw [dif_neg h, List.getD_eq_getElem?_getD, List.getElem?_eq_none (by rw [← ba_size]; omega)]
    rfl

theorem nOf_eq (s : ByteArray) : Go.bits .or .i64 (wrap64 ((wrap64 (bt s 0)) * 256)) (wrap64 (bt s 1)) = (nOf s.data.toList : Int) := by
  rw [show (0 : Int) = ((0 : Nat) : Int) from rfl, show (1 : Int) = ((1 : Nat) : Int) from rfl, bt_getD, bt_getD]
  unfold nOf
  have h0 := (s.data.toList.getD 0 0).toNat_lt
  have h1 := (s.data.toList.getD 1 0).toNat_lt
  generalize (s.data.toList.getD 0 0).toNat = a at *
  generalize (s.data.toList.getD 1 0).toNat = b at *
  have e1 : wrap64 (wrap64 (a : Int) * 256) = ((a * 256 : Nat) : Int) := by unfold wrap64; omega
  have e2 : wrap64 (b : Int) = (b : Int) := by unfold wrap64; omega
  rw [e1, e2, or_i64 _ _ (by omega) (by omega)]
  congr 1
  rw [show a * 256 = 2 ^ 8 * a by omega, ← Nat.two_pow_add_eq_or_of_lt (show b < 2 ^ 8 by omega)]

theorem nOf_ref (s : ByteArray) : wrap64 ((wrap64 (256 * (wrap64 (bt s 0)))) + (wrap64 (bt s 1))) = (nOf s.data.toList : Int) := by
  rw [show (0 : Int) = ((0 : Nat) : Int) from rfl, show (1 : Int) = ((1 : Nat) : Int) from rfl, bt_getD, bt_getD]
  unfold nOf
  have h0 := (s.data.toList.getD 0 0).toNat_lt
  have h1 := (s.data.toList.getD 1 0).toNat_lt
  unfold wrap64
  omega

theorem drop_getD {L : List UInt8} {i : Nat} (h : i < L.length) : L.drop i = L.getD i 0 :: L.drop (i + 1) := by
  rw [List.drop_eq_getElem_cons h, List.getD_eq_getElem?_getD, List.getElem?_eq_getElem h]
  rfl

theorem or_zero (a b : Nat) : (a ||| b = 0) ↔ a = 0 ∧ b = 0 := by
  constructor
  · intro h
    have h1 := (Nat.left_le_or : a ≤ a ||| b)
    have h2 := (Nat.right_le_or : b ≤ a ||| b)
    omega
  · rintro ⟨rfl, rfl⟩
    rfl

theorem byte_zero {b : UInt8} : b.toNat = 0 ↔ b = 0 := by
  constructor
  · intro h
    exact UInt8.toNat_inj.1 h
  · rintro rfl
    rfl

theorem unpad_l (s : ByteArray) (n : Nat) (hs : s.size = 200) (hn : n ≤ 198) (m : Nat) : ∀ (i acc k : Nat), m < k → i + m = 198 - n → acc < 256 →
    pad_Unpad.l0 k s (n : Int) (acc : Int) ((198 - n : Nat) : Int) (i : Int) = some (if acc = 0 ∧ (s.data.toList.drop (2 + n + i)).all (· == 0) = true then (s.extract 2 (2 + n), 0) else (⟨#[]⟩, 50)) := by
  have hL : s.data.toList.length = 200 := by rw [← ba_size]; exact hs
  have w2 : wrap64 (2 + (n : Int)) = ((2 + n : Nat) : Int) := by unfold wrap64; omega
  induction m with
  | zero =>
    intro i acc k hk hi ha
    obtain ⟨k, rfl⟩ : ∃ j, k = j + 1 := ⟨k - 1, by omega⟩
    simp only [pad_Unpad.l0]
    rw [if_neg (by omega), w2, List.drop_eq_nil_of_le (by omega)]
    by_cases h0 : acc = 0
    · subst h0
      rw [if_pos (by rfl), if_pos (by omega), if_pos (by omega), if_pos ⟨rfl, rfl⟩, Int.toNat_natCast]
    · rw [if_neg (by omega), if_neg (fun h => h0 h.1)]
  | succ m ih =>
    intro i acc k hk hi ha
    obtain ⟨k, rfl⟩ : ∃ j, k = j + 1 := ⟨k - 1, by omega⟩
    simp only [pad_Unpad.l0]
    have k1 : m < k := by omega
    have k2 : i + 1 + m = 198 - n := by omega
    have k3 : 2 + n + i < s.data.toList.length := by omega
    have w3 : wrap64 (((2 + n : Nat) : Int) + (i : Int)) = ((2 + n + i : Nat) : Int) := by unfold wrap64; omega
    have w4 : wrap64 ((i : Int) + 1) = ((i + 1 : Nat) : Int) := by unfold wrap64; omega
    have c1 : (i : Int) < ((198 - n : Nat) : Int) := by clear ih w2 w3 w4; omega
    have c2 : (0 : Int) ≤ ((2 + n + i : Nat) : Int) := Int.natCast_nonneg _
    have c3 : ((2 + n + i : Nat) : Int) < (s.size : Int) := by clear ih w2 w3 w4; omega
    rw [if_pos c1, w2, w3, if_pos c2, if_pos c3, w4, bt_getD]
    have hb := (s.data.toList.getD (2 + n + i) 0).toNat_lt
    rw [u8_or_nat _ _ ha hb, ih (i + 1) _ k k1 k2 (Nat.or_lt_two_pow (n := 8) ha hb)]
    rw [drop_getD (L := s.data.toList) (i := 2 + n + i) k3]
    congr 2
    rw [or_zero, byte_zero]
    simp only [List.all_cons, Bool.and_eq_true, beq_iff_eq, and_assoc, Nat.add_assoc]

theorem unpad_eq (s : ByteArray) : pad_Unpad.f 300 s = some (unp s.data.toList) := by
  unfold pad_Unpad.f
  by_cases hl : s.size = 200
  · have hL : s.data.toList.length = 200 := by rw [← ba_size]; exact hl
    rw [if_pos (by omega), if_pos (by omega), if_pos (by omega), nOf_eq]
    generalize hn : nOf s.data.toList = n
    by_cases h1 : n ≤ 198
    · rw [if_neg (by omega)]
      have e1 : wrap64 (198 - (n : Int)) = ((198 - n : Nat) : Int) := by unfold wrap64; omega
      have := unpad_l s n hl h1 (198 - n) 0 0 300 (by omega) (by omega) (by omega)
      rw [e1, show (0 : Int) = ((0 : Nat) : Int) from rfl, this]
      unfold unp isPad
      rw [hn, hL]
      simp only [Nat.add_zero, decide_true, Bool.true_and, h1, true_and]
      congr 1
      by_cases hz : (s.data.toList.drop (2 + n)).all (· == 0) = true
      · rw [if_pos hz, if_pos hz]
        congr 1
        apply ba_ext
        rw [ba_ex, ba_mk, List.drop_take]
        congr 1
        omega
      · rw [if_neg hz, if_neg hz]
    · rw [if_pos (by omega)]
      unfold unp isPad
      rw [hn]
      simp [h1]
  · rw [if_neg (by omega)]
    unfold unp isPad
    have hL : s.data.toList.length ≠ 200 := by rw [← ba_size]; exact hl
    rw [if_neg (by rw [Bool.and_eq_true, Bool.and_eq_true, decide_eq_true_iff]; exact fun h => hL h.1.1)]

theorem unp_ok {L : List UInt8} (h : isPad L = true) : unp L = (⟨((L.drop 2).take (nOf L)).toArray⟩, 0) := by rw [unp, if_pos h]
theorem unp_no {L : List UInt8} (h : ¬ isPad L = true) : unp L = (⟨#[]⟩, 50) := by rw [unp, if_neg h]

theorem isPad_iff {L : List UInt8} : isPad L = true ↔ L.length = 200 ∧ nOf L ≤ 198 ∧ ∀ x ∈ L.drop (2 + nOf L), x = 0 := by
  simp [isPad, and_assoc]

/-- What a body's text is filled up to is the body. -/
theorem pad_unp {L : List UInt8} (h : isPad L = true) : padL ((L.drop 2).take (nOf L)) = L ∧ ((L.drop 2).take (nOf L)).length ≤ 198 := by
  obtain ⟨h1, h2, h3⟩ := isPad_iff.1 h
  match L, h1 with
  | a :: b :: R, h1 =>
    have hR : R.length = 198 := by simpa using h1
    have hn : nOf (a :: b :: R) = 256 * a.toNat + b.toNat := rfl
    have hb := b.toNat_lt
    generalize nOf (a :: b :: R) = n at *
    have ea : n / 256 = a.toNat := by omega
    have eb : n % 256 = b.toNat := by omega
    have hd : (a :: b :: R).drop (2 + n) = R.drop n := by rw [Nat.add_comm]; rfl
    rw [hd] at h3
    have hl : (((a :: b :: R).drop 2).take n).length = n := by simp; omega
    refine ⟨?_, by omega⟩
    unfold padL
    rw [hl, ea, eb]
    have hz : List.replicate (198 - n) (0 : UInt8) = R.drop n := (List.eq_replicate_iff.2 ⟨by simp; omega, h3⟩).symm
    rw [hz]
    simp

theorem unp_pad {L : List UInt8} (h : L.length ≤ 198) : unp (padL L) = (⟨L.toArray⟩, 0) := by
  have hn : nOf (padL L) = L.length := by
    unfold nOf padL
    simp only [List.cons_append, List.nil_append, List.getD_cons_zero, List.getD_cons_succ, UInt8.toNat_ofNat']
    omega
  have hp : isPad (padL L) = true := by
    rw [isPad_iff, hn]
    refine ⟨padL_length h, h, ?_⟩
    have : (padL L).drop (2 + L.length) = List.replicate (198 - L.length) 0 := by
      rw [Nat.add_comm]
      unfold padL
      simp
    rw [this]
    intro x hx
    exact (List.mem_replicate.1 hx).2
  rw [unp_ok hp, hn]
  congr 2
  unfold padL
  simp

theorem shown_true : sphragislaw05_shown.f 300 = some true := by
  unfold sphragislaw05_shown.f
  rw [pad_yes _ (by decide)]
  simp only [Option.bind_some]
  rw [unpad_eq, ba_mk, unp_pad (by decide)]
  decide +kernel

theorem PadPads : sphragislaw05_PadPads.Pure := by
  intro s hs
  refine ⟨300, ?_⟩
  unfold sphragislaw05_PadPads.f
  rw [shown_true]
  by_cases h : s.size ≤ 198
  · rw [pad_yes s h, refpad_yes s h]
    simp
  · rw [pad_no s (by omega), refpad_no s (by omega)]
    simp
end Go.Proofs.Ytnadbgcllejleaa.H
