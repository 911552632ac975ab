/- A writer's put and ref: the walks. -/
import Derived.Test.YtmeaiancebgkoaaRB
import Derived.Test.YtmeaiancebgkoaaRT
import Derived.Deep.QuietTactic
import Derived.RangeFuncRecord
import Derived.Maps.AppendAt
import Derived.Lib.BufferKept
import Derived.Shelf.RegionOpen
namespace Go.Proofs.Ytmeaiancebgkoaa.H
open Go.RowKit Go.Shelf Go.Proofs.YtmeaiancebgkoaaW.PrintWords Go.Proofs.YtmeaiancebgkoaaW.PrintLast Go.Proofs.YtmeaiancebgkoaaW.PrintMore
attribute [local go_sem] Oper.semAt_some
set_option linter.unusedVariables false
set_option linter.unusedSimpArgs false

/-- A number's bytes, the least first. -/
def le (n : Nat) : Nat → List UInt8
  | 0 => []
  | w + 1 => le n w ++ [UInt8.ofNat (n / 256 ^ w)]
theorem le_length (n w : Nat) : (le n w).length = w := by
  induction w with
  | zero => rfl
  | succ w ih => rw [le, List.length_append, ih]; rfl
/-- A writer that holds these bytes. -/
def Wr (B b : Nat) (l : List UInt8) (w : World) : Prop := Lib.IsBuilder 55 5 B b (Lib.byteCells l) w
theorem Wr.drew {B b : Nat} {l : List UInt8} {w : World} (h : Wr B b l w) : Wr B b l w.drew := h
/-- What a writing leaves alone. -/
def WK (b : Nat) (w w' : World) : Prop := Lib.OthersKept 5 (some b) w w'

theorem byte_le (l : List UInt8) (n i : Nat) (c : Int) (hc : c = ((n / 256 ^ i % 256 : Nat) : Int)) : Lib.byteCells (l ++ le n i) ++ [.int .u8 c] = Lib.byteCells (l ++ le n (i + 1)) := by
  rw [le, ← List.append_assoc, Lib.byteCells_append (l ++ le n i)]
  congr 1
  show _ = [Value.int .u8 _]
  rw [UInt8.toNat_ofNat', hc]
theorem shr_le (n i : Nat) : (n : Int) / (2 ^ (8 * i) : Int) % 256 = ((n / 256 ^ i % 256 : Nat) : Int) := by
  have : (256 : Nat) ^ i = 2 ^ (8 * i) := by rw [Nat.pow_mul]
  rw [this, Int.natCast_emod, Int.natCast_ediv, Int.natCast_pow]
  rfl

set_option maxRecDepth 100000 in
set_option maxHeartbeats 1000000 in
theorem put_calls (B b : Nat) (l : List UInt8) (n k : Nat) (hk : k ≤ 8) (hn : n < 18446744073709551616) (hl : l.length ≤ 1000000) (w : World) (h : Wr B b l w) (hBw : B ≤ w.heap.size) :
    Calls Try.prog 29 #[.pointer (some ⟨b, 0, none⟩), .int .u64 n, .int .i64 k] w fun e w' => e = .returned (.tuple #[]) ∧ Wr B b (l ++ le n k) w' ∧ Below B w w' ∧ WK b w w' := by
  go_enter Try.func29, Try.ntmps29
  go_wp2
  go_loopw [8] (fun v wr => ∃ i : Nat, v = .int .i64 i ∧ i ≤ k ∧ Wr B b (l ++ le n i) wr ∧ Below B w wr ∧ WK b w wr) (fun v _ => k - (intOf v).toNat)
  case atStart => exact ⟨0, rfl, Nat.zero_le _, by rw [le, List.append_nil]; exact h, Below.refl _ _, Lib.OthersKept.refl _ _ _⟩
  case round =>
    obtain ⟨i, rfl, hi, hW, hB, hK⟩ := hrel
    by_cases hie : i = k
    · subst hie
      go_wp2
      go_end0
      exact ⟨rfl, hW, hB, hK⟩
    · have hlt : decide ((i : Int) < (k : Int)) = true := decide_eq_true (by omega)
      have hi0 : (0 : Int) ≤ 8 * (i : Int) := by omega
      have hi8 : wrap64 (8 * (i : Int)) = 8 * (i : Int) := by unfold wrap64; omega
      have hlen : (Lib.byteCells (l ++ le n i)).length + 1 ≤ 140737488355328 := by
        rw [Lib.byteCells_length, List.length_append, le_length]
        omega
      have hst := byte_le l n i
      have Hst := Lib.hid hst
      have HW := Lib.hid hW
      clear hst hW h
      go_upto_region 3 with fail
      refine start_ (n := 9) (S := fun _ => True) (ds := [8]) #[false, false, false, false, false, false, false, false, false] (by kernel_rfl) rfl rfl trivial (fun hHeld => ?_)
      refine pure_ (i := 0) (N := some 11) (v := ?_) (a' := ?_) #[true, false, false, false, false, false, false, false, false] rfl rfl (by kernel_rfl) (fun _ _ _ h => h) (Or.inl ⟨by rfl, ?_⟩) ?_ ?_
      rotate_left
      · intro w'
        go_simp
        try (with_reducible rfl)
      rotate_left
      · simp only [Act.put, List.setIfInBounds_toArray, List.set_cons_zero, List.set_cons_succ, i64_w, i32_w]
        rfl
      refine pure_ (i := 1) (N := some 12) (v := ?_) (a' := ?_) #[true, true, false, false, false, false, false, false, false] rfl rfl (by kernel_rfl) (fun _ _ _ h => h) (Or.inl ⟨by rfl, ?_⟩) ?_ ?_
      rotate_left
      · intro w'
        go_simp
        try (with_reducible rfl)
      rotate_left
      · simp only [Act.put, List.setIfInBounds_toArray, List.set_cons_zero, List.set_cons_succ, i64_w, i32_w]
        rfl
      refine pure_ (i := 2) (N := some 13) (v := ?_) (a' := ?_) #[true, true, true, false, false, false, false, false, false] rfl rfl (by kernel_rfl) (fun _ _ _ h => h) (Or.inl ⟨by rfl, ?_⟩) ?_ ?_
      rotate_left
      · intro w'
        go_simp
        try (with_reducible rfl)
      rotate_left
      · simp only [Act.put, List.setIfInBounds_toArray, List.set_cons_zero, List.set_cons_succ, i64_w, i32_w]
        rfl
      refine pure_ (i := 3) (N := some 14) (v := ?_) (a' := ?_) #[true, true, true, true, false, false, false, false, false] rfl rfl (by kernel_rfl) (fun _ _ _ h => h) (Or.inl ⟨by rfl, ?_⟩) ?_ ?_
      rotate_left
      · intro w'
        go_simp
        try (with_reducible rfl)
      rotate_left
      · simp only [Act.put, List.setIfInBounds_toArray, List.set_cons_zero, List.set_cons_succ, i64_w, i32_w]
        rfl
      refine pure_ (i := 4) (N := some 15) (v := ?_) (a' := ?_) #[true, true, true, true, true, false, false, false, false] rfl rfl (by kernel_rfl) (fun _ _ _ h => h) (Or.inl ⟨by rfl, ?_⟩) ?_ ?_
      rotate_left
      · intro w'
        go_simp
        try (with_reducible rfl)
      rotate_left
      · simp only [Act.put, List.setIfInBounds_toArray, List.set_cons_zero, List.set_cons_succ, i64_w, i32_w]
        rfl
      refine pure_ (i := 5) (N := some 16) (v := ?_) (a' := ?_) #[true, true, true, true, true, true, false, false, false] rfl rfl (by kernel_rfl) (fun _ _ _ h => h) (Or.inl ⟨by rfl, ?_⟩) ?_ ?_
      rotate_left
      · intro w'
        go_simp
        try (with_reducible rfl)
      rotate_left
      · simp only [Act.put, List.setIfInBounds_toArray, List.set_cons_zero, List.set_cons_succ, i64_w, i32_w]
        rfl
      refine pure_ (i := 6) (N := some 17) (v := ?_) (a' := ?_) #[true, true, true, true, true, true, true, false, false] rfl rfl (by kernel_rfl) (fun _ _ _ h => h) (Or.inl ⟨by rfl, ?_⟩) ?_ ?_
      rotate_left
      · intro w'
        go_simp
        try (with_reducible rfl)
      rotate_left
      · simp only [Act.put, List.setIfInBounds_toArray, List.set_cons_zero, List.set_cons_succ, i64_w, i32_w]
        rfl
      refine pure_ (i := 7) (N := some 18) (v := ?_) (a' := ?_) #[true, true, true, true, true, true, true, true, false] rfl rfl (by kernel_rfl) (fun _ _ _ h => h) (Or.inl ⟨by rfl, ?_⟩) ?_ ?_
      rotate_left
      · intro w'
        go_simp
        try (with_reducible rfl)
      rotate_left
      · simp only [Act.put, List.setIfInBounds_toArray, List.set_cons_zero, List.set_cons_succ, i64_w, i32_w]
        rfl
      refine last_ (i := 8) (N := some 19) #[true, true, true, true, true, true, true, true, true] rfl rfl (by kernel_rfl) (by decide) (fun K hK => ?_)
      refine goes_ Try.func43 (by kernel_rfl) rfl #[.pointer (some ⟨b, 0, none⟩), .int .u8 (IntKind.u8.wrap ((n : Int) / 2 ^ (8 * (i : Int)).toNat))] (by rfl) rfl rfl (by (try simp only [List.map_toArray, List.map_cons, List.map_nil]); first | done | rfl) ?_
      refine (Bld.WriteByteK B b _ _ _ HW.out.drew hlen (by have := hB.size; show B ≤ wr.heap.size; omega)).mono ?_
      rintro e w3 ⟨rfl, hb3, hbl3, hk3⟩
      rw [Hst.out _ (by rw [IntKind.wrap_u8', show (8 * (i : Int)).toNat = 8 * i by omega]; exact shr_le n i)] at hb3
      refine ⟨_, rfl, ?_⟩
      refine hK.out _ _ ?_
      clear hK K hHeld
      refine done_ (by kernel_rfl) ?_
      go_wp2
      exact ⟨⟨i + 1, by go_num, by omega, .inr hb3, hB.trans (((Below.drew (Below.refl _ wr)).mono (by have := hB.size; omega)).trans hbl3), (hK.drew).trans hk3⟩, by simp [intOf]; omega⟩

theorem Wr.below {B b : Nat} {l : List UInt8} {w w' : World} (h : Wr B b l w) (hb : Below w.heap.size w w') : Wr B b l w' := by
  have key : ∀ p, Lib.BuilderAt 55 5 B b p (Lib.byteCells l) w → Lib.BuilderAt 55 5 B b p (Lib.byteCells l) w' := by
    rintro p ⟨hB, v, hbk, hown, hne⟩
    refine ⟨hB, v, (hb.block b (Array.getElem?_eq_some_iff.1 hbk).1).trans hbk, ?_, hne⟩
    exact hown.kept (row := none) ⟨hb.os, hb.tape, hb.output, hb.size, fun k hk _ => hb.block k hk⟩ (by
      cases v.ownBlock with
      | none => exact .inl rfl
      | some k => exact .inr (by simp))
  exact h.imp (key _) (key _)
theorem Wr.lt {B b : Nat} {l : List UInt8} {w : World} (h : Wr B b l w) : b < w.heap.size := by
  rcases h with ⟨_, v, hbk, _⟩ | ⟨_, v, hbk, _⟩ <;> exact (Array.getElem?_eq_some_iff.1 hbk).1
theorem WK.block {b k T : Nat} {cs : Array Value} {w w' : World} (h : WK b w w') (hb : w.heap[k]? = some (.cells cs T (0, 0))) (hk : k ≠ b) (hT : T ≠ 5) : w'.heap[k]? = some (.cells cs T (0, 0)) :=
  h k _ hb (fun e => hk (Option.some.inj e)) (fun c fz e => by cases e; exact hT rfl)
theorem WK.of_below {b : Nat} {w w' : World} (h : Below w.heap.size w w') : WK b w w' := (Lib.OthersKept.refl _ _ w).below h

/-- The box of a ref. -/
def RBox (w : World) (N : Nat) (p : Int) (t : ByteArray) : Prop := w.heap[N]? = some (.cells #[.int .u32 p, .string t] 28 (0, 0))
theorem RBox.cells {w : World} {N : Nat} {p : Int} {t : ByteArray} (h : RBox w N p t) : w.cell? ⟨N, 0, none⟩ = some (.int .u32 p) ∧ w.cell? ⟨N, 1, none⟩ = some (.string t) := by
  have h' : w.heap[N]? = some (.cells #[.int .u32 p, .string t] 28 (0, 0)) := h
  refine ⟨?_, ?_⟩ <;> simp [World.cell?, h']
/-- A ref's bytes. -/
def refB (p : Nat) (t : ByteArray) : List UInt8 := le p 4 ++ (t.data.toList ++ List.replicate (32 - t.size) 0)
theorem refB_length (p : Nat) (t : ByteArray) (ht : t.size ≤ 32) : (refB p t).length = 36 := by
  rw [refB, List.length_append, List.length_append, le_length, List.length_replicate, ← ba_size]
  omega
theorem strCells_eq (s : ByteArray) : Lib.strCells s = Lib.byteCells s.data.toList := by
  first | rfl | simp [Lib.strCells, Lib.byteCells]

set_option maxRecDepth 100000 in
set_option maxHeartbeats 1000000 in
theorem ref_calls (B b : Nat) (l : List UInt8) (p : Nat) (t : ByteArray) (hp : p < 4294967296) (ht : t.size ≤ 32) (hl : l.length ≤ 900000) (w : World) (h : Wr B b l w) (hBw : B ≤ w.heap.size) :
    Calls Try.prog 30 #[.pointer (some ⟨b, 0, none⟩), .agg #[.int .u32 p, .string t]] w fun e w' => e = .returned (.tuple #[]) ∧ Wr B b (l ++ refB p t) w' ∧ Below B w w' ∧ WK b w w' := by
  obtain ⟨N, hN⟩ : ∃ N, w.heap.size = N := ⟨_, rfl⟩
  have hbN : b < N := by rw [← hN]; exact h.lt
  have hb0 : Below w.heap.size w (w.alloc (.cells #[.int .u32 p, .string t] 28)) := (Below.refl _ w).alloc (Nat.le_refl _) _
  have hr0 : RBox (w.alloc (.cells #[.int .u32 p, .string t] 28)) N p t := by rw [← hN]; exact World.alloc_heap_new _ _
  have hw0 : Wr B b l (w.alloc (.cells #[.int .u32 p, .string t] 28)) := h.below hb0
  have hB0 : Below B w (w.alloc (.cells #[.int .u32 p, .string t] 28)) := hb0.mono hBw
  have hk0 : WK b w (w.alloc (.cells #[.int .u32 p, .string t] 28)) := WK.of_below hb0
  obtain ⟨c0, c1⟩ := hr0.cells
  obtain ⟨z, hz⟩ : ∃ z : Nat, z = 32 - t.size := ⟨_, rfl⟩
  have hzw : wrap64 (32 - (t.size : Int)) = (z : Int) := by unfold wrap64; omega
  have HW0 := Lib.hid hw0
  clear hw0 h
  go_enter Try.func30, Try.ntmps30
  go_wp2_with fail
  generalize w.alloc (.cells #[.int .u32 p, .string t] 28) = W0 at *
  refine (put_calls B b l p 4 (by decide) (by omega) (by omega) W0 HW0.out (by have := hB0.size; omega)).mono ?_
  rintro e w1 ⟨rfl, hw1, hb1, hk1⟩
  have hr1 : RBox w1 N p t := hk1.block hr0 (by omega) (by decide)
  have hB1 := hB0.trans hb1
  have hK1 := hk0.trans hk1
  have HW1 := Lib.hid hw1
  clear c0 c1 hr0 hw1 hb1 hk1 hB0 hk0 HW0 hb0
  go_upto_region 2 with fail
  refine start_ (n := 12) (S := fun V_ => RBox V_ N p t) (ds := [11]) #[false, false, false, false, false, false, false, false, false, false, false, false] (by kernel_rfl) rfl rfl hr1 (fun hHeld => ?_)
  have hw1 := HW1.out.drew
  have hB2 : Below B w w1.drew := hB1.trans ((Below.drew (Below.refl _ w1)).mono (by have := hB1.size; omega))
  have hK2 : WK b w w1.drew := hK1.drew
  have hr2 : RBox w1.drew N p t := hr1
  clear hr1 hB1 hK1 HW1
  have HW1 := Lib.hid hw1
  clear hw1
  generalize w1.drew = W2 at *
  have h32 := hz
  clear hz
  refine pure_ (i := 0) (N := some 9) (v := ?_) (a' := ?_) #[true, false, false, false, false, false, false, false, false, false, false, false] rfl rfl (by kernel_rfl) (fun _ _ _ h => h) (Or.inl ⟨by rfl, ?_⟩) ?_ ?_
  rotate_left
  · intro w'
    go_simp
    try (with_reducible rfl)
  rotate_left
  · simp only [Act.put, List.setIfInBounds_toArray, List.set_cons_zero, List.set_cons_succ, i64_w, i32_w]
    rfl
  refine pure_ (i := 1) (N := some 10) (v := ?_) (a' := ?_) #[true, true, false, false, false, false, false, false, false, false, false, false] rfl rfl (by kernel_rfl) (fun _ _ _ h => h) (Or.inl ⟨by rfl, ?_⟩) ?_ ?_
  rotate_left
  · intro w'
    go_simp
    try (with_reducible rfl)
  rotate_left
  · simp only [Act.put, List.setIfInBounds_toArray, List.set_cons_zero, List.set_cons_succ, i64_w, i32_w]
    rfl
  refine pure_ (i := 2) (N := some 11) (v := ?_) (a' := ?_) #[true, true, true, false, false, false, false, false, false, false, false, false] rfl rfl (by kernel_rfl) (fun _ _ _ h => h) (Or.inl ⟨by rfl, ?_⟩) ?_ ?_
  rotate_left
  · intro w'
    go_simp
    try (with_reducible rfl)
  rotate_left
  · simp only [Act.put, List.setIfInBounds_toArray, List.set_cons_zero, List.set_cons_succ, i64_w, i32_w]
    rfl
  refine pure_ (i := 3) (N := some 12) (v := ?_) (a' := ?_) #[true, true, true, true, false, false, false, false, false, false, false, false] rfl rfl (by kernel_rfl) (fun _ _ _ h => h) (Or.inl ⟨by rfl, ?_⟩) ?_ ?_
  rotate_left
  · intro w'
    go_simp
    try (with_reducible rfl)
  rotate_left
  · simp only [Act.put, List.setIfInBounds_toArray, List.set_cons_zero, List.set_cons_succ, i64_w, i32_w]
    rfl
  refine take_ (i := 4) (N := some 13) (v := ?_) (a' := ?_) #[true, true, true, true, true, false, false, false, false, false, false, false] rfl rfl (by kernel_rfl) (fun _ _ _ h => h) (Or.inl ⟨by rfl, ?_⟩) hHeld ?_ ?_
  rotate_left
  · intro w' hS_
    obtain ⟨d0, d1⟩ := hS_.cells
    go_simp
    try (with_reducible rfl)
  rotate_left
  · simp only [Act.put, List.setIfInBounds_toArray, List.set_cons_zero, List.set_cons_succ, i64_w, i32_w]
    rfl
  refine pure_ (i := 5) (N := some 14) (v := ?_) (a' := ?_) #[true, true, true, true, true, true, false, false, false, false, false, false] rfl rfl (by kernel_rfl) (fun _ _ _ h => h) (Or.inl ⟨by rfl, ?_⟩) ?_ ?_
  rotate_left
  · intro w'
    go_simp
    try (with_reducible rfl)
  rotate_left
  · simp only [Act.put, List.setIfInBounds_toArray, List.set_cons_zero, List.set_cons_succ, i64_w, i32_w]
    rfl
  refine take_ (i := 6) (N := some 15) (v := ?_) (a' := ?_) #[true, true, true, true, true, true, true, false, false, false, false, false] rfl rfl (by kernel_rfl) (fun _ _ _ h => h) (Or.inl ⟨by rfl, ?_⟩) hHeld ?_ ?_
  rotate_left
  · intro w' hS_
    obtain ⟨d0, d1⟩ := hS_.cells
    go_simp
    try (with_reducible rfl)
  rotate_left
  · simp only [Act.put, List.setIfInBounds_toArray, List.set_cons_zero, List.set_cons_succ, i64_w, i32_w]
    rfl
  refine pure_ (i := 7) (N := some 16) (v := ?_) (a' := ?_) #[true, true, true, true, true, true, true, true, false, false, false, false] rfl rfl (by kernel_rfl) (fun _ _ _ h => h) (Or.inl ⟨by rfl, ?_⟩) ?_ ?_
  rotate_left
  · intro w'
    go_simp
    try (with_reducible rfl)
  rotate_left
  · simp only [Act.put, List.setIfInBounds_toArray, List.set_cons_zero, List.set_cons_succ, i64_w, i32_w]
    rfl
  refine pure_ (i := 8) (N := some 17) (v := ?_) (a' := ?_) #[true, true, true, true, true, true, true, true, true, false, false, false] rfl rfl (by kernel_rfl) (fun _ _ _ h => h) (Or.inl ⟨by rfl, ?_⟩) ?_ ?_
  rotate_left
  · intro w'
    go_simp
    try (with_reducible rfl)
  rotate_left
  · simp only [Act.put, List.setIfInBounds_toArray, List.set_cons_zero, List.set_cons_succ, i64_w, i32_w]
    rfl
  rw [hzw]
  refine one_ (i := 9) (N := some 18) #[true, true, true, true, true, true, true, true, true, true, false, false] rfl rfl (by kernel_rfl) (by decide) (fun K hK => ?_)
  refine goes_ Try.func44 (by kernel_rfl) rfl #[.string ⟨#[0]⟩, .int .i64 (z : Int)] (by rfl) rfl rfl (by (try simp only [List.map_toArray, List.map_cons, List.map_nil]); first | done | rfl) ?_
  refine (Try.strings_Repeat ⟨#[0]⟩ z W2 (by omega) (by show 1 * z ≤ _; omega)).mono ?_
  rintro e w3 ⟨rfl, hb3⟩
  refine ⟨_, rfl, ?_⟩
  have hr3 : RBox w3 N p t := (hb3.block N (Array.getElem?_eq_some_iff.1 hr2).1).trans hr2
  have hw3 := HW1.out.below hb3
  have hB3 := hB2.trans (hb3.mono (by have := hB2.size; omega))
  have hK3 : WK b w w3 := hK2.trans (WK.of_below hb3)
  obtain ⟨Z, hZ⟩ : ∃ Z : ByteArray, (⟨(Lib.repeatL (⟨#[0]⟩ : ByteArray).data.toList z).toArray⟩ : ByteArray) = Z := ⟨_, rfl⟩
  rw [hZ]
  have hZl : Z.data.toList = List.replicate z 0 := by rw [← hZ, ba_mk]; exact repeat_one z
  have hZs : Z.size = z := by rw [ba_size, hZl, List.length_replicate]
  refine hK.out _ _ hr3 (fun _ => ?_)
  clear hK K hr2 hB2 hK2 HW1 hb3 hHeld
  have h63 := eq_false (show ¬ (9223372036854775807 < t.size + Z.size) by omega)
  obtain ⟨U, hU⟩ : ∃ U, t ++ Z = U := ⟨_, rfl⟩
  have hUl : U.data.toList = t.data.toList ++ List.replicate z 0 := by rw [← hU, ← hZl]; simp
  have HU := Lib.hid hUl
  have HW3 := Lib.hid hw3
  have Hz := Lib.hid h32
  have hUs : U.size = 32 := by rw [ba_size, hUl, List.length_append, List.length_replicate, ← ba_size]; omega
  clear hUl hZl hZs hw3 h32 hZ
  refine pure_ (i := 10) (N := some 19) (v := ?_) (a' := ?_) #[true, true, true, true, true, true, true, true, true, true, true, false] rfl rfl (by kernel_rfl) (fun _ _ _ h => h) (Or.inl ⟨by rfl, ?_⟩) ?_ ?_
  rotate_left
  · intro w'
    go_simp
    try (with_reducible rfl)
  rotate_left
  · simp only [Act.put, List.setIfInBounds_toArray, List.set_cons_zero, List.set_cons_succ, i64_w, i32_w]
    rfl
  refine last_ (i := 11) (N := some 20) #[true, true, true, true, true, true, true, true, true, true, true, true] rfl rfl (by kernel_rfl) (by decide) (fun K hK => ?_)
  refine goes_ Try.func32 (by kernel_rfl) rfl #[.pointer (some ⟨b, 0, none⟩), .string U] (by rfl) rfl rfl (by (try simp only [List.map_toArray, List.map_cons, List.map_nil]); first | done | rfl) ?_
  refine (Bld.WriteStringK B b _ U w3 HW3.out (by rw [Lib.byteCells_length, List.length_append, le_length]; omega) (by have := hB3.size; omega)).mono ?_
  rintro e w4 ⟨rfl, hw4, hb4, hk4⟩
  refine ⟨_, rfl, ?_⟩
  refine hK.out _ _ ?_
  clear hK K
  refine done_ (by kernel_rfl) ?_
  have hw5 : Wr B b (l ++ refB p t) w4 := by
    refine .inr ?_
    have e : Lib.byteCells (l ++ le p 4) ++ Lib.strCells U = Lib.byteCells (l ++ refB p t) := by
      rw [strCells_eq, ← Lib.byteCells_append, HU.out, Hz.out, refB, List.append_assoc]
    rw [← e]
    exact hw4
  have hB5 := hB3.trans hb4
  have hK5 : WK b w w4 := hK3.trans hk4
  have HW5 := Lib.hid hw5
  clear hw5 hw4 hb4 hk4 HW3 HU hU
  go_wp2
  go_end0
  exact ⟨rfl, HW5.out, hB5, hK5⟩
end Go.Proofs.Ytmeaiancebgkoaa.H
