/- Plain facts of the sum: a text's parts and what it leaves behind. No program in sight. -/
import Derived.Test.YtmkeiaomclpdfaaDoorP1
import Derived.Test.YtmkeiaomclpdfaaDoorLe
set_option linter.unusedVariables false
namespace Go.Proofs.YtmkeiaomclpdfaaDoor.Plain
open Go Go.Proofs.YtmkeiaomclpdfaaDoorW.PrintWords Go.Proofs.YtmkeiaomclpdfaaDoor.Le

theorem byte_bt (s : ByteArray) (i : Nat) : byte s.data.toList i = bt s (i : Int) := by
  unfold byte bt
  by_cases h : i < s.size
  · have h2 : ((i : Int)).toNat < s.size := by simpa using h
    have h3 : i < s.data.toList.length := by rw [← ba_size]; exact h
    rw [dif_pos h2, List.getD_eq_getElem?_getD, List.getElem?_eq_getElem h3]
    rfl
  · have h2 : ¬ ((i : Int)).toNat < s.size := by simpa using h
    rw [dif_neg h2, List.getD_eq_getElem?_getD, List.getElem?_eq_none (by rw [← ba_size]; omega)]
    rfl
theorem lay_bt (K h : List Int) (s : ByteArray) : adds h (rounds K (fun i => bt s (i : Int)) h 64) = lay K h s.data.toList := by
  unfold lay
  rw [show (fun i : Nat => bt s (i : Int)) = byte s.data.toList from funext fun i => (byte_bt s i).symm]

/-- The words behind some parts. -/
def folds (K h : List Int) (l : List (Nat × ByteArray)) : List Int := l.foldl (fun h x => lay K h x.2.data.toList) h
theorem folds_snoc (K h : List Int) (l : List (Nat × ByteArray)) (x : Nat × ByteArray) : folds K h (l ++ [x]) = lay K (folds K h l) x.2.data.toList := by
  unfold folds
  rw [List.foldl_append]
  rfl
theorem folds_len (K : List Int) (l : List (Nat × ByteArray)) : ∀ h : List Int, h.length = 8 → (folds K h l).length = 8 := by
  induction l with
  | nil => exact fun _ h => h
  | cons x l ih => exact fun h hh => ih _ (lay_len _ _ _ hh)

/-- The first k whole parts of a text, and where each ends. -/
def prt (s : ByteArray) : Nat → List (Nat × ByteArray)
  | 0 => []
  | k + 1 => prt s k ++ [(64 * k + 64, s.extract (64 * k) (64 * k + 64))]
theorem prt_len (s : ByteArray) (k : Nat) : (prt s k).length = k := by
  induction k with
  | zero => rfl
  | succ k ih => rw [prt, List.length_append, ih]; rfl
theorem absorb_parts (K h : List Int) (s : ByteArray) (k : Nat) (hk : 64 * k ≤ s.size) : absorb K h s.data.toList = absorb K (folds K h (prt s k)) (s.data.toList.drop (64 * k)) := by
  induction k with
  | zero => rfl
  | succ k ih =>
    rw [ih (by omega), prt, folds_snoc, absorb_more _ _ (s.data.toList.drop (64 * k)) (by rw [List.length_drop, ← ba_size]; omega), List.drop_drop]
    have e : (s.extract (64 * k) (64 * k + 64)).data.toList = (s.data.toList.drop (64 * k)).take 64 := by
      rw [ba_ex, List.drop_take]
      congr 1
      omega
    rw [e, show 64 * k + 64 = 64 * (k + 1) by omega]
theorem absorb_end (K h : List Int) (s : ByteArray) (k : Nat) (hk : 64 * k ≤ s.size) (hl : s.size < 64 * k + 64) : absorb K h s.data.toList = (folds K h (prt s k), s.data.toList.drop (64 * k)) := by
  rw [absorb_parts K h s k hk, absorb_less _ _ _ (by rw [List.length_drop, ← ba_size]; omega)]

theorem cat_take (r s : ByteArray) (k : Nat) (hk : k = 64 - r.size) (hr : r.size < 64) : (r ++ s.extract 0 k).data.toList = (r.data.toList ++ s.data.toList).take 64 := by
  rw [ba_app, ba_ex, List.drop_zero, List.take_append, ← ba_size, hk]
  congr 1
  exact (List.take_of_length_le (by rw [← ba_size]; omega)).symm
theorem cat_drop (r s : ByteArray) (k : Nat) (hk : k = 64 - r.size) (hr : r.size < 64) : (s.extract k s.size).data.toList = (r.data.toList ++ s.data.toList).drop 64 := by
  have h1 : r.data.toList.drop 64 = [] := List.drop_eq_nil_of_le (by rw [← ba_size]; omega)
  have h2 : s.data.toList.take s.size = s.data.toList := List.take_of_length_le (by rw [← ba_size]; exact Nat.le_refl _)
  rw [ba_ex, h2, List.drop_append, h1, List.nil_append, ← ba_size, hk]

end Go.Proofs.YtmkeiaomclpdfaaDoor.Plain
