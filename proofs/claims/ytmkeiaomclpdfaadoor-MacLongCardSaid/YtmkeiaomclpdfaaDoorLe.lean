/- Numbers as bytes, the least first: plain facts. -/
import Derived.Laws.BytesArg
import Derived.Lib.Strings
namespace Go.Proofs.YtmkeiaomclpdfaaDoor.Le

/-- The bytes of a number, w of them, the least first. -/
def le (n : Nat) : Nat → List UInt8
  | 0 => []
  | w + 1 => UInt8.ofNat (n % 256) :: le (n / 256) w
/-- The number of bytes, the least first. -/
def num : List UInt8 → Nat
  | [] => 0
  | b :: l => b.toNat + 256 * num l

@[simp] theorem le_length (n w : Nat) : (le n w).length = w := by
  induction w generalizing n with
  | zero => rfl
  | succ w ih => simp [le, ih]

theorem num_lt (l : List UInt8) : num l < 256 ^ l.length := by
  induction l with
  | nil => simp [num]
  | cons b l ih =>
    have := b.toNat_lt
    simp only [num, List.length_cons, Nat.pow_succ]
    omega

theorem num_le (n w : Nat) : num (le n w) = n % 256 ^ w := by
  induction w generalizing n with
  | zero => simp [le, num, Nat.mod_one]
  | succ w ih =>
    simp only [le, num, ih]
    have h1 : (UInt8.ofNat (n % 256)).toNat = n % 256 := by
      rw [UInt8.toNat_ofNat']
      omega
    rw [h1, Nat.pow_succ, Nat.mul_comm (256 ^ w) 256, Nat.mod_mul]

theorem le_num (l : List UInt8) : le (num l) l.length = l := by
  induction l with
  | nil => rfl
  | cons b l ih =>
    have h := b.toNat_lt
    simp only [num, List.length_cons, le]
    have h1 : (b.toNat + 256 * num l) % 256 = b.toNat := by omega
    have h2 : (b.toNat + 256 * num l) / 256 = num l := by omega
    rw [h1, h2, ih]
    simp

theorem le_inj {a b w : Nat} (ha : a < 256 ^ w) (hb : b < 256 ^ w) (h : le a w = le b w) : a = b := by
  have := congrArg num h
  rwa [num_le, num_le, Nat.mod_eq_of_lt ha, Nat.mod_eq_of_lt hb] at this

theorem le_get (n w i : Nat) (h : i < w) : (le n w)[i]? = some (UInt8.ofNat (n / 256 ^ i % 256)) := by
  induction w generalizing n i with
  | zero => omega
  | succ w ih =>
    cases i with
    | zero => simp [le]
    | succ i =>
      simp only [le, List.getElem?_cons_succ]
      rw [ih (n / 256) i (by omega), Nat.div_div_eq_div_mul, ← Nat.pow_succ']

theorem le_range (n w : Nat) : le n w = (List.range w).map fun i => UInt8.ofNat (n / 256 ^ i % 256) := by
  apply List.ext_getElem?
  intro i
  by_cases h : i < w
  · rw [le_get n w i h]
    simp [h]
  · rw [List.getElem?_eq_none (by simp; omega), List.getElem?_eq_none (by simp; omega)]

theorem ba_ext {a b : ByteArray} (h : a.data.toList = b.data.toList) : a = b := ByteArray.ext (Array.toList_inj.1 h)
theorem ba_mk (l : List UInt8) : (⟨l.toArray⟩ : ByteArray).data.toList = l := by simp
theorem ba_size (a : ByteArray) : a.size = a.data.toList.length := by simp
theorem ba_app (a b : ByteArray) : (a ++ b).data.toList = a.data.toList ++ b.data.toList := by simp
theorem ba_ex (a : ByteArray) (i j : Nat) : (a.extract i j).data.toList = (a.data.toList.take j).drop i := by simp [Array.toList_extract, List.extract_eq_take_drop, List.drop_take]

end Go.Proofs.YtmkeiaomclpdfaaDoor.Le
