/- A mac, plainly. -/
import Derived.Test.YtmkeiaomclpdfaaDoorP5
import Derived.Laws.BitsAllLaws
set_option linter.unusedVariables false
namespace Go.Proofs.YtmkeiaomclpdfaaDoor.Plain
open Go Go.Proofs.YtmkeiaomclpdfaaDoorW.PrintWords

/-- A key, filled up. -/
def kpad (key : List UInt8) : List UInt8 :=
  if 64 < key.length then sum Kc Fc key ++ List.replicate 32 0 else key ++ List.replicate (64 - key.length) 0
/-- Each byte of it xor one. -/
def kxor (k : UInt8) (key : List UInt8) : List UInt8 := (kpad key).map (· ^^^ k)
def macL (key t : List UInt8) : List UInt8 := sum Kc Fc (kxor 92 key ++ sum Kc Fc (kxor 54 key ++ t))
theorem outs_len (h : List Int) (hh : h.length = 8) : (outs h).length = 32 := by
  match h, hh with
  | [a, b, c, d, e, f, g, i], _ => rfl
theorem sum_len (l : List UInt8) : (sum Kc Fc l).length = 32 := by
  rw [sum, outs_len _ (absorb_len _ _ _ _ (Nat.le_refl _) Fc_len)]
theorem kpad_len (key : List UInt8) : (kpad key).length = 64 := by
  unfold kpad
  split
  · rw [List.length_append, sum_len, List.length_replicate]
  · rw [List.length_append, List.length_replicate]; omega
theorem kxor_len (k : UInt8) (key : List UInt8) : (kxor k key).length = 64 := by rw [kxor, List.length_map, kpad_len]
theorem macL_len (key t : List UInt8) : (macL key t).length = 32 := sum_len _
theorem jefe1 : kxor 54 [74, 101, 102, 101] = jin1B := by kernel_rfl
theorem jefe2 : kxor 92 [74, 101, 102, 101] = jout1B := by kernel_rfl
theorem jefe : macL [74, 101, 102, 101] [119, 104, 97, 116, 32, 100, 111, 32, 121, 97, 32, 119, 97, 110, 116, 32, 102, 111, 114, 32, 110, 111, 116, 104, 105, 110, 103, 63] = [91, 220, 193, 70, 191, 96, 117, 78, 106, 4, 36, 38, 8, 149, 117, 199, 90, 0, 63, 8, 157, 39, 57, 131, 157, 236, 88, 185, 100, 236, 56, 67] := by
  rw [macL, jefe1, jefe2, jin_sum, jout_sum]
theorem xor_step (P : ByteArray) (k : UInt8) (L : List UInt8) (hL : L = P.data.toList.map (· ^^^ k)) (j : Nat) (hj : j < P.size) :
    L.take (j + 1) = L.take j ++ [P[j] ^^^ k] := by
  have h1 : P.size = P.data.toList.length := by simp
  rw [List.take_succ_eq_append_getElem (by rw [hL, List.length_map, ← h1]; exact hj)]
  congr 2
  simp only [hL, List.getElem_map]
  rfl
theorem xor_bits (a k : UInt8) : bits .xor .u8 (a.toNat : Int) (k.toNat : Int) = ((a ^^^ k).toNat : Int) := by
  rw [UInt8.toNat_xor, u8_xor_nat _ _ (UInt8.toNat_lt _) (UInt8.toNat_lt _)]

/-- The parts that a key expands to. -/
def lastL (key label : List UInt8) : Nat → List UInt8
  | 0 => []
  | k + 1 => macL key (lastL key label k ++ label ++ [UInt8.ofNat (k + 1)])
/-- Those parts, behind each other. -/
def outL (key label : List UInt8) : Nat → List UInt8
  | 0 => []
  | k + 1 => outL key label k ++ lastL key label (k + 1)
def expd (key label : List UInt8) (n : Nat) : List UInt8 := (outL key label 255).take n
theorem lastL_len (key label : List UInt8) (k : Nat) : (lastL key label (k + 1)).length = 32 := macL_len _ _
theorem lastL_le (key label : List UInt8) (k : Nat) : (lastL key label k).length ≤ 32 := by
  cases k with
  | zero => show 0 ≤ 32; omega
  | succ k => rw [lastL_len]; omega
theorem outL_len (key label : List UInt8) (k : Nat) : (outL key label k).length = 32 * k := by
  induction k with
  | zero => rfl
  | succ k ih => rw [outL, List.length_append, ih, lastL_len]; omega
theorem outL_pre (key label : List UInt8) (k d : Nat) : ∃ X, outL key label (k + d) = outL key label k ++ X := by
  induction d with
  | zero => exact ⟨[], by rw [List.append_nil]; rfl⟩
  | succ d ih =>
    obtain ⟨X, hX⟩ := ih
    exact ⟨X ++ lastL key label (k + d + 1), by rw [show k + (d + 1) = k + d + 1 by omega, outL, hX, List.append_assoc]⟩
theorem outL_take (key label : List UInt8) (k n : Nat) (hk : k ≤ 255) (hn : n ≤ 32 * k) : (outL key label k).take n = expd key label n := by
  obtain ⟨X, hX⟩ := outL_pre key label k (255 - k)
  rw [show k + (255 - k) = 255 by omega] at hX
  rw [expd, hX, List.take_append_of_le_length (by rw [outL_len]; exact hn)]
theorem expd_len (key label : List UInt8) (n : Nat) (hn : n ≤ 8160) : (expd key label n).length = n := by
  rw [expd, List.length_take, outL_len]
  omega
theorem expd_take (key label : List UInt8) (n m : Nat) (h : n ≤ m) : (expd key label m).take n = expd key label n := by
  rw [expd, expd, List.take_take, Nat.min_eq_left h]
end Go.Proofs.YtmkeiaomclpdfaaDoor.Plain
