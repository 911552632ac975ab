/- (*rows.reader).get: a number that is read, the least byte first: the walk. -/
import Derived.Test.YtmeaiancebgkoaaH7
import Derived.WalkKit
import Derived.OwnWalkIn
import Derived.Lib.Hide
import Derived.Lib.ConvBytes
import Derived.Lib.AtoiErrMem
import Derived.Laws.BitsAllLaws
import Derived.Laws.Bits64b
import Derived.Handy
namespace Go.Proofs.Ytmeaiancebgkoaa.H
open Go.RowKit Go.Proofs.YtmeaiancebgkoaaW.PrintWords Go.Proofs.YtmeaiancebgkoaaW.PrintLast Go.Proofs.YtmeaiancebgkoaaW.PrintMore
attribute [local go_sem] Oper.semAt_some
set_option linter.unusedVariables false
set_option linter.unusedSimpArgs false

theorem ba_size (b : ByteArray) : b.size = b.data.toList.length := (Array.length_toList).symm
theorem ba_mk (l : List UInt8) : (⟨l.toArray⟩ : ByteArray).data.toList = l := by simp
theorem u64_of (x : Int) (h0 : 0 ≤ x) (h1 : x < 18446744073709551616) : IntKind.u64.wrap x = x := by rw [IntKind.wrap_u64]; omega
theorem repeat_one (n : Nat) : Lib.repeatL [0] n = List.replicate n (0 : UInt8) := by
  induction n with
  | zero => rfl
  | succ n ih => rw [Lib.repeatL, ih]; rfl
/-- A number of bytes, the least first. -/
def num : List UInt8 → Nat
  | [] => 0
  | b :: l => b.toNat + 256 * num l
theorem num_append (l r : List UInt8) : num (l ++ r) = num l + 256 ^ l.length * num r := by
  induction l with
  | nil => simp [num]
  | cons b l ih =>
    rw [List.cons_append, num, ih, num, List.length_cons, Nat.pow_succ, Nat.mul_add]
    have : 256 ^ l.length * 256 * num r = 256 * (256 ^ l.length * num r) := by rw [Nat.mul_comm (256 ^ l.length) 256, Nat.mul_assoc]
    omega
theorem num_lt (l : List UInt8) : num l < 256 ^ l.length := by
  induction l with
  | nil => simp [num]
  | cons b l ih =>
    have := b.toNat_lt
    rw [num, List.length_cons, Nat.pow_succ]
    omega
/-- A byte more is laid over. -/
theorem num_or (l : List UInt8) (b : UInt8) (hl : l.length < 8) :
    bits .or .u64 (num l : Int) (IntKind.u64.wrap (IntKind.u64.wrap (b.toNat : Int) * 2 ^ (8 * l.length))) = (num (l ++ [b]) : Int) := by
  have hb := b.toNat_lt
  have hn := num_lt l
  have hp : (256 : Nat) ^ l.length = 2 ^ (8 * l.length) := by rw [Nat.pow_mul]
  rw [num_append, num, num, Nat.mul_zero, Nat.add_zero, hp]
  rw [hp] at hn
  generalize b.toNat = c at *
  have h7 : 2 ^ (8 * l.length) ≤ 2 ^ 56 := Nat.pow_le_pow_right (by omega) (by omega)
  have h2 : c * 2 ^ (8 * l.length) < 18446744073709551616 := by
    calc c * 2 ^ (8 * l.length) ≤ 255 * 2 ^ 56 := Nat.mul_le_mul (by omega) h7
      _ < 18446744073709551616 := by decide
  have h4 : num l < 18446744073709551616 := by
    have : (2 : Nat) ^ 56 < 18446744073709551616 := by decide
    omega
  have e2 : (c : Int) * 2 ^ (8 * l.length) = ((c * 2 ^ (8 * l.length) : Nat) : Int) := by push_cast; rfl
  have e1 : IntKind.u64.wrap (IntKind.u64.wrap (c : Int) * 2 ^ (8 * l.length)) = ((c * 2 ^ (8 * l.length) : Nat) : Int) := by
    rw [u64_of (c : Int) (by omega) (by omega), e2, u64_of _ (by omega) (by omega)]
  rw [e1, bits_or_u64_nat _ _ h4 h2, Nat.or_comm, Nat.mul_comm c, ← Nat.two_pow_add_eq_or_of_lt hn]
  omega
def rows_reader_get.f (s0_0 : ByteArray) (s0_1 : Bool) (a1 : Int) : Option (Int × ByteArray × Bool) :=
  if 0 ≤ a1 ∧ a1 ≤ 8 then (rows_reader_take.f s0_0 s0_1 a1).bind fun x => some ((num x.1.data.toList : Int), x.2.1, x.2.2) else none
theorem take_size {s t u : ByteArray} {b c : Bool} {n : Int} (h : rows_reader_take.f s b n = some (t, u, c)) : (t.size : Int) = n := by
  unfold rows_reader_take.f at h
  split at h
  · obtain ⟨z, hz, h⟩ := Option.bind_eq_some_iff.mp h
    cases h
    unfold strings_Repeat.f at hz
    split at hz
    · rename_i hb
      cases hz
      rw [ba_size, ba_mk, repeat_one, List.length_replicate]
      omega
    · cases hz
  · split at h
    · split at h
      · cases h
        rw [ByteArray.size_extract]
        omega
      · cases h
    · cases h

set_option maxRecDepth 100000 in
set_option maxHeartbeats 1000000 in
theorem rows_reader_get.calls (g : Nat) (s0_0 : ByteArray) (s0_1 : Bool) (a1 : Int) (r1 : Int) (r2 : ByteArray) (r3 : Bool) (w0 w : World) (hI : IsS66 w0 w g s0_0 s0_1) (hB : Below w0.heap.size w0 w) (h : rows_reader_get.f s0_0 s0_1 a1 = some (r1, r2, r3)) :
    Calls Try.prog 46 #[.pointer (some ⟨g, 0, none⟩), .int .i64 a1] w fun e w' => e = .returned (.int .u64 r1) ∧ IsS66 w0 w' g r2 r3 ∧ Below w0.heap.size w0 w' ∧ KeepBut w w' g none := by
  unfold rows_reader_get.f at h
  split at h
  · rename_i ha
    obtain ⟨⟨t, u, c⟩, ht, h⟩ := Option.bind_eq_some_iff.mp h
    cases h
    have Hts := Lib.hid (take_size ht)
    have hT := rows_reader_take.calls g s0_0 s0_1 a1 t u c w0 w hI hB ht
    clear ht hI
    go_enter Try.func46, Try.ntmps46
    go_wp2_with fail
    refine hT.mono ?_
    rintro e w1 ⟨rfl, hI1, hB1, hK1⟩
    have hts := Hts.out
    have ht8 : t.size ≤ 8 := by omega
    clear hts ha
    have hcv := Lib.run_convert_string_bytes (P := Try.prog) w1 9 43 5 t Try.underlying9 Try.underlying43 Try.underlying5
    have hbw := Lib.bytesWorld_below w1 5 t
    have hcell := Lib.bytesWorld_cell w1 5 t
    obtain ⟨C, hC⟩ : ∃ C, grownCap w1 t.size 0 5 = C := ⟨_, rfl⟩
    obtain ⟨M, hM⟩ : ∃ M, w1.heap.size = M := ⟨_, rfl⟩
    obtain ⟨W2, hW2⟩ : ∃ W2, Lib.bytesWorld w1 5 t = W2 := ⟨_, rfl⟩
    rw [hC, hM, hW2] at hcv
    rw [hW2, hM] at hbw hcell
    have hI2 : IsS66 w0 W2 g u c := hI1.below (by rw [hM]; exact hbw)
    have hB2 : Below w0.heap.size w0 W2 := below_step hB1 (by rw [hM]; exact hbw)
    have hK2 : KeepBut w W2 g none := hK1.trans (KeepBut.of_below (by rw [hM]; exact hbw) g none) (.inl rfl)
    clear hW2 hC hI1 hB1 hK1 hT hbw hM h hB
    have Hh := Lib.hid hI2
    clear hI2
    go_wp2
    go_loopw [5, 13] (fun v5 v13 wr => ∃ i : Nat, v13 = .int .i64 i ∧ i ≤ t.size ∧ v5 = .int .u64 (num (t.data.toList.take i) : Int) ∧ wr = W2) (fun _ v _ => t.size - (intOf v).toNat)
    case atStart => exact ⟨0, rfl, Nat.zero_le _, rfl, rfl⟩
    case round =>
      obtain ⟨i, rfl, hi, rfl, rfl⟩ := hrel
      by_cases hie : i = t.size
      · subst hie
        go_wp2
        go_ret
        exact ⟨by rw [List.take_of_length_le (by rw [ba_size]; exact Nat.le_refl _)]; rfl, Hh.out, hB2, hK2⟩
      · have hlt : decide ((i : Int) < (t.size : Int)) = true := decide_eq_true (by omega)
        have hi0 : (0 : Int) ≤ (i : Int) := by omega
        have hi1 : (i : Int) < (t.size : Int) := by omega
        have hc0 := hcell i (by omega)
        have hgd : t.data.toList.getD i 0 = t.data.toList[i]'(by rw [← ba_size]; omega) := by
          rw [List.getD_eq_getElem?_getD, List.getElem?_eq_getElem (by rw [← ba_size]; omega)]
          rfl
        have hor := num_or (t.data.toList.take i) (t.data.toList.getD i 0) (by rw [List.length_take]; omega)
        rw [List.length_take, Nat.min_eq_left (by rw [← ba_size]; omega)] at hor
        have htk : t.data.toList.take i ++ [t.data.toList.getD i 0] = t.data.toList.take (i + 1) := by
          rw [hgd, List.take_succ_eq_append_getElem]
        rw [htk] at hor
        clear hgd htk hcell
        obtain ⟨b, hb⟩ : ∃ b, t.data.toList.getD i 0 = b := ⟨_, rfl⟩
        rw [hb] at hc0 hor
        have Hor := Lib.hid hor
        clear hor hb
        go_wp2
        exact ⟨⟨i + 1, by go_num, by omega, by rw [Hor.out], trivial⟩, by simp [intOf]; omega⟩
  · cases h
end Go.Proofs.Ytmeaiancebgkoaa.H
