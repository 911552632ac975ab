/- The sum, in plain words: the words of a part, its rounds, what is laid to eight words, and what a text leaves behind. No program in sight. -/
import Derived.Test.YtobjhddiieaafaaDoorWMore
import Derived.Test.YtobjhddiieaafaaDoorWWords
import Derived.Laws.BytesArg
import Derived.Lib.Strings
import Derived.RowKit
import Derived.RangeFuncRecord
import Derived.RangeFuncBox
import Derived.WalkKit
set_option linter.unusedVariables false
namespace Go.Proofs.YtobjhddiieaafaaDoor.Plain
open Go Go.Proofs.YtobjhddiieaafaaDoorW.PrintWords

theorem or_comm (x y : Int) : Go.bits .or .u32 x y = Go.bits .or .u32 y x := by
  unfold Go.bits
  simp only [BitVec.or_comm]
/-- A word, turned right. -/
def rotr (x : Int) (n : Nat) : Int := Go.bits .or .u32 (shr .u32 x (n : Int)) (shl .u32 x ((32 - n : Nat) : Int))
def xor3 (x y z : Int) : Int := Go.bits .xor .u32 (Go.bits .xor .u32 x y) z
def sg0 (x : Int) : Int := xor3 (rotr x 7) (rotr x 18) (shr .u32 x 3)
def sg1 (x : Int) : Int := xor3 (rotr x 17) (rotr x 19) (shr .u32 x 10)
def big0 (x : Int) : Int := xor3 (rotr x 2) (rotr x 13) (rotr x 22)
def big1 (x : Int) : Int := xor3 (rotr x 6) (rotr x 11) (rotr x 25)
def ch (x y z : Int) : Int := Go.bits .xor .u32 (Go.bits .and .u32 x y) (Go.bits .and .u32 (Go.bits .xor .u32 4294967295 x) z)
def maj (x y z : Int) : Int := xor3 (Go.bits .and .u32 x y) (Go.bits .and .u32 x z) (Go.bits .and .u32 y z)

/-- The word at a place. -/
def at_ (l : List Int) (i : Nat) : Int := l.getD i 0
/-- Four bytes, the greatest first. -/
def be (f : Nat → Int) (t : Nat) : Int :=
  Go.bits .or .u32 (Go.bits .or .u32 (Go.bits .or .u32 (shl .u32 (f (4 * t)) 24) (shl .u32 (f (4 * t + 1)) 16)) (shl .u32 (f (4 * t + 2)) 8)) (f (4 * t + 3))
def word (f : Nat → Int) (l : List Int) (t : Nat) : Int :=
  if t < 16 then be f t else (at_ l (t - 16) + at_ l (t - 7) + sg0 (at_ l (t - 15)) + sg1 (at_ l (t - 2))) % 4294967296
/-- The first words of a part. -/
def sched (f : Nat → Int) : Nat → List Int
  | 0 => []
  | t + 1 => sched f t ++ [word f (sched f t) t]
theorem sched_len (f : Nat → Int) (t : Nat) : (sched f t).length = t := by
  induction t with
  | zero => rfl
  | succ t ih => rw [sched, List.length_append, ih]; rfl
theorem sched_at (f : Nat → Int) (n t : Nat) (h : t < n) : at_ (sched f n) t = word f (sched f t) t := by
  induction n with
  | zero => omega
  | succ n ih =>
    unfold at_ at ih ⊢
    rw [sched, List.getD_eq_getElem?_getD]
    by_cases e : t = n
    · subst e
      rw [List.getElem?_append_right (by rw [sched_len]; omega), sched_len, Nat.sub_self]
      rfl
    · rw [List.getElem?_append_left (by rw [sched_len]; omega), ← List.getD_eq_getElem?_getD]
      exact ih (by omega)
theorem sched_back (f : Nat → Int) (n t : Nat) (h : t < n) : at_ (sched f n) t = at_ (sched f (t + 1)) t := by
  rw [sched_at f n t h, sched_at f (t + 1) t (by omega)]

/-- A round. -/
def rnd (q : List Int) (k w : Int) : List Int :=
  match q with
  | [a, b, c, d, e, f, g, i] =>
    let x := (i + big1 e + ch e f g + k + w) % 4294967296
    let y := (big0 a + maj a b c) % 4294967296
    [(x + y) % 4294967296, a, b, c, (d + x) % 4294967296, e, f, g]
  | _ => q
def rounds (K : List Int) (f : Nat → Int) (h : List Int) : Nat → List Int
  | 0 => h
  | t + 1 => rnd (rounds K f h t) (at_ K t) (at_ (sched f 64) t)
theorem rnd_len (q : List Int) (k w : Int) (h : q.length = 8) : (rnd q k w).length = 8 := by
  match q, h with
  | [a, b, c, d, e, f, g, i], _ => rfl
theorem rounds_len (K : List Int) (f : Nat → Int) (h : List Int) (hh : h.length = 8) (t : Nat) : (rounds K f h t).length = 8 := by
  induction t with
  | zero => exact hh
  | succ t ih => exact rnd_len _ _ _ ih
def adds (h l : List Int) : List Int := List.zipWith (fun x y => (x + y) % 4294967296) h l
theorem adds_len (h l : List Int) (hh : h.length = 8) (hl : l.length = 8) : (adds h l).length = 8 := by rw [adds, List.length_zipWith, hh, hl]; rfl
/-- The byte at a place. -/
def byte (l : List UInt8) (i : Nat) : Int := ((l.getD i 0).toNat : Int)
/-- 64 bytes, laid to eight words. -/
def lay (K : List Int) (h : List Int) (s : List UInt8) : List Int := adds h (rounds K (byte s) h 64)
theorem lay_len (K h : List Int) (s : List UInt8) (hh : h.length = 8) : (lay K h s).length = 8 := adds_len _ _ hh (rounds_len _ _ _ hh _)

/-- What a text leaves behind: the words, and what is left over. -/
def absorb (K : List Int) (h : List Int) (s : List UInt8) : List Int × List UInt8 :=
  if s.length < 64 then (h, s) else absorb K (lay K h (s.take 64)) (s.drop 64)
termination_by s.length
decreasing_by rw [List.length_drop]; omega
theorem absorb_less (K h : List Int) (s : List UInt8) (hs : s.length < 64) : absorb K h s = (h, s) := by rw [absorb, if_pos hs]
theorem absorb_more (K h : List Int) (s : List UInt8) (hs : 64 ≤ s.length) : absorb K h s = absorb K (lay K h (s.take 64)) (s.drop 64) := by rw [absorb, if_neg (by omega)]
theorem absorb_rest (K : List Int) (n : Nat) : ∀ (h : List Int) (s : List UInt8), s.length ≤ n → (absorb K h s).2.length < 64 ∧ (absorb K h s).2.length = s.length % 64 := by
  induction n with
  | zero =>
    intro h s hs
    rw [absorb_less _ _ _ (by omega)]
    exact ⟨by show s.length < 64; omega, by show s.length = _; omega⟩
  | succ n ih =>
    intro h s hs
    by_cases hl : s.length < 64
    · rw [absorb_less _ _ _ hl]
      exact ⟨hl, (Nat.mod_eq_of_lt hl).symm⟩
    · rw [absorb_more _ _ _ (by omega)]
      have hd : (s.drop 64).length = s.length - 64 := List.length_drop
      have := ih (lay K h (s.take 64)) (s.drop 64) (by omega)
      exact ⟨this.1, by rw [this.2, hd]; omega⟩
theorem absorb_len (K : List Int) (n : Nat) : ∀ (h : List Int) (s : List UInt8), s.length ≤ n → h.length = 8 → (absorb K h s).1.length = 8 := by
  induction n with
  | zero => intro h s hs hh; rw [absorb_less _ _ _ (by omega)]; exact hh
  | succ n ih =>
    intro h s hs hh
    by_cases hl : s.length < 64
    · rw [absorb_less _ _ _ hl]; exact hh
    · rw [absorb_more _ _ _ (by omega)]
      exact ih _ _ (by rw [List.length_drop]; omega) (lay_len _ _ _ hh)
/-- A text behind another one. -/
theorem absorb_append (K : List Int) (n : Nat) : ∀ (h : List Int) (s t : List UInt8), s.length ≤ n → absorb K h (s ++ t) = absorb K (absorb K h s).1 ((absorb K h s).2 ++ t) := by
  induction n with
  | zero =>
    intro h s t hs
    rw [absorb_less K h s (by omega)]
  | succ n ih =>
    intro h s t hs
    by_cases hl : s.length < 64
    · rw [absorb_less K h s hl]
    · rw [absorb_more K h s (by omega), absorb_more K h (s ++ t) (by rw [List.length_append]; omega), List.take_append_of_le_length (by omega), List.drop_append_of_le_length (by omega)]
      exact ih _ _ _ (by rw [List.length_drop]; omega)

/-- The bytes of eight words. -/
def be4 (w : Int) : List UInt8 := [UInt8.ofNat (w / 16777216 % 256).toNat, UInt8.ofNat (w / 65536 % 256).toNat, UInt8.ofNat (w / 256 % 256).toNat, UInt8.ofNat (w % 256).toNat]
def outs (h : List Int) : List UInt8 := (h.map be4).flatten
/-- What a text of n bytes is filled up with. -/
def size8 (n : Nat) : List UInt8 := (List.range 8).map fun i => UInt8.ofNat (n * 8 / 256 ^ (7 - i) % 256)
def fill (n : Nat) : List UInt8 := 128 :: (List.replicate ((119 - n % 64) % 64) 0 ++ size8 n)
theorem fill_len (n : Nat) : (n + (fill n).length) % 64 = 0 := by
  unfold fill size8
  rw [List.length_cons, List.length_append, List.length_replicate, List.length_map, List.length_range]
  omega
def sum (K F : List Int) (s : List UInt8) : List UInt8 := outs (absorb K F (s ++ fill s.length)).1
/-- The sum, out of what the text has left behind. -/
theorem sum_eq (K F : List Int) (s : List UInt8) : sum K F s = outs (absorb K (absorb K F s).1 ((absorb K F s).2 ++ fill s.length)).1 := by
  rw [sum, absorb_append K s.length F s _ (Nat.le_refl _)]

end Go.Proofs.YtobjhddiieaafaaDoor.Plain

namespace Go.Proofs.YtobjhddiieaafaaDoor.Le

/-- The bytes of a number, w of them, the least first. -/
def le (n : Nat) : Nat → List UInt8
  | 0 => []
  | w + 1 => UInt8.ofNat (n % 256) :: le (n / 256) w
/-- The number of bytes, the least first. -/
def num : List UInt8 → Nat
  | [] => 0
  | b :: l => b.toNat + 256 * num l

@[simp] theorem le_length (n w : Nat) : (le n w).length = w := by
  induction w generalizing n with
  | zero => rfl
  | succ w ih => simp [le, ih]

theorem num_lt (l : List UInt8) : num l < 256 ^ l.length := by
  induction l with
  | nil => simp [num]
  | cons b l ih =>
    have := b.toNat_lt
    simp only [num, List.length_cons, Nat.pow_succ]
    omega

theorem num_le (n w : Nat) : num (le n w) = n % 256 ^ w := by
  induction w generalizing n with
  | zero => simp [le, num, Nat.mod_one]
  | succ w ih =>
    simp only [le, num, ih]
    have h1 : (UInt8.ofNat (n % 256)).toNat = n % 256 := by
      rw [UInt8.toNat_ofNat']
      omega
    rw [h1, Nat.pow_succ, Nat.mul_comm (256 ^ w) 256, Nat.mod_mul]

theorem le_num (l : List UInt8) : le (num l) l.length = l := by
  induction l with
  | nil => rfl
  | cons b l ih =>
    have h := b.toNat_lt
    simp only [num, List.length_cons, le]
    have h1 : (b.toNat + 256 * num l) % 256 = b.toNat := by omega
    have h2 : (b.toNat + 256 * num l) / 256 = num l := by omega
    rw [h1, h2, ih]
    simp

theorem le_inj {a b w : Nat} (ha : a < 256 ^ w) (hb : b < 256 ^ w) (h : le a w = le b w) : a = b := by
  have := congrArg num h
  rwa [num_le, num_le, Nat.mod_eq_of_lt ha, Nat.mod_eq_of_lt hb] at this

theorem le_get (n w i : Nat) (h : i < w) : (le n w)[i]? = some (UInt8.ofNat (n / 256 ^ i % 256)) := by
  induction w generalizing n i with
  | zero => omega
  | succ w ih =>
    cases i with
    | zero => simp [le]
    | succ i =>
      simp only [le, List.getElem?_cons_succ]
      rw [ih (n / 256) i (by omega), Nat.div_div_eq_div_mul, ← Nat.pow_succ']

theorem le_range (n w : Nat) : le n w = (List.range w).map fun i => UInt8.ofNat (n / 256 ^ i % 256) := by
  apply List.ext_getElem?
  intro i
  by_cases h : i < w
  · rw [le_get n w i h]
    simp [h]
  · rw [List.getElem?_eq_none (by simp; omega), List.getElem?_eq_none (by simp; omega)]

theorem ba_ext {a b : ByteArray} (h : a.data.toList = b.data.toList) : a = b := ByteArray.ext (Array.toList_inj.1 h)
theorem ba_mk (l : List UInt8) : (⟨l.toArray⟩ : ByteArray).data.toList = l := by simp
theorem ba_size (a : ByteArray) : a.size = a.data.toList.length := by simp
theorem ba_app (a b : ByteArray) : (a ++ b).data.toList = a.data.toList ++ b.data.toList := by simp
theorem ba_ex (a : ByteArray) (i j : Nat) : (a.extract i j).data.toList = (a.data.toList.take j).drop i := by simp [Array.toList_extract, List.extract_eq_take_drop, List.drop_take]

end Go.Proofs.YtobjhddiieaafaaDoor.Le

set_option linter.unusedVariables false
namespace Go.Proofs.YtobjhddiieaafaaDoor.Plain
open Go Go.Proofs.YtobjhddiieaafaaDoorW.PrintWords Go.Proofs.YtobjhddiieaafaaDoor.Le

theorem byte_bt (s : ByteArray) (i : Nat) : byte s.data.toList i = bt s (i : Int) := by
  unfold byte bt
  by_cases h : i < s.size
  · have h2 : ((i : Int)).toNat < s.size := by simpa using h
    have h3 : i < s.data.toList.length := by rw [← ba_size]; exact h
    rw [dif_pos h2, List.getD_eq_getElem?_getD, List.getElem?_eq_getElem h3]
    rfl
  · have h2 : ¬ ((i : Int)).toNat < s.size := by simpa using h
    rw [dif_neg h2, List.getD_eq_getElem?_getD, List.getElem?_eq_none (by rw [← ba_size]; omega)]
    rfl
theorem lay_bt (K h : List Int) (s : ByteArray) : adds h (rounds K (fun i => bt s (i : Int)) h 64) = lay K h s.data.toList := by
  unfold lay
  rw [show (fun i : Nat => bt s (i : Int)) = byte s.data.toList from funext fun i => (byte_bt s i).symm]

/-- The words behind some parts. -/
def folds (K h : List Int) (l : List (Nat × ByteArray)) : List Int := l.foldl (fun h x => lay K h x.2.data.toList) h
theorem folds_snoc (K h : List Int) (l : List (Nat × ByteArray)) (x : Nat × ByteArray) : folds K h (l ++ [x]) = lay K (folds K h l) x.2.data.toList := by
  unfold folds
  rw [List.foldl_append]
  rfl
theorem folds_len (K : List Int) (l : List (Nat × ByteArray)) : ∀ h : List Int, h.length = 8 → (folds K h l).length = 8 := by
  induction l with
  | nil => exact fun _ h => h
  | cons x l ih => exact fun h hh => ih _ (lay_len _ _ _ hh)

/-- The first k whole parts of a text, and where each ends. -/
def prt (s : ByteArray) : Nat → List (Nat × ByteArray)
  | 0 => []
  | k + 1 => prt s k ++ [(64 * k + 64, s.extract (64 * k) (64 * k + 64))]
theorem prt_len (s : ByteArray) (k : Nat) : (prt s k).length = k := by
  induction k with
  | zero => rfl
  | succ k ih => rw [prt, List.length_append, ih]; rfl
theorem absorb_parts (K h : List Int) (s : ByteArray) (k : Nat) (hk : 64 * k ≤ s.size) : absorb K h s.data.toList = absorb K (folds K h (prt s k)) (s.data.toList.drop (64 * k)) := by
  induction k with
  | zero => rfl
  | succ k ih =>
    rw [ih (by omega), prt, folds_snoc, absorb_more _ _ (s.data.toList.drop (64 * k)) (by rw [List.length_drop, ← ba_size]; omega), List.drop_drop]
    have e : (s.extract (64 * k) (64 * k + 64)).data.toList = (s.data.toList.drop (64 * k)).take 64 := by
      rw [ba_ex, List.drop_take]
      congr 1
      omega
    rw [e, show 64 * k + 64 = 64 * (k + 1) by omega]
theorem absorb_end (K h : List Int) (s : ByteArray) (k : Nat) (hk : 64 * k ≤ s.size) (hl : s.size < 64 * k + 64) : absorb K h s.data.toList = (folds K h (prt s k), s.data.toList.drop (64 * k)) := by
  rw [absorb_parts K h s k hk, absorb_less _ _ _ (by rw [List.length_drop, ← ba_size]; omega)]

theorem cat_take (r s : ByteArray) (k : Nat) (hk : k = 64 - r.size) (hr : r.size < 64) : (r ++ s.extract 0 k).data.toList = (r.data.toList ++ s.data.toList).take 64 := by
  rw [ba_app, ba_ex, List.drop_zero, List.take_append, ← ba_size, hk]
  congr 1
  exact (List.take_of_length_le (by rw [← ba_size]; omega)).symm
theorem cat_drop (r s : ByteArray) (k : Nat) (hk : k = 64 - r.size) (hr : r.size < 64) : (s.extract k s.size).data.toList = (r.data.toList ++ s.data.toList).drop 64 := by
  have h1 : r.data.toList.drop 64 = [] := List.drop_eq_nil_of_le (by rw [← ba_size]; omega)
  have h2 : s.data.toList.take s.size = s.data.toList := List.take_of_length_le (by rw [← ba_size]; exact Nat.le_refl _)
  rw [ba_ex, h2, List.drop_append, h1, List.nil_append, ← ba_size, hk]

end Go.Proofs.YtobjhddiieaafaaDoor.Plain

namespace Go.Proofs.YtobjhddiieaafaaDoor.RowOf
open Go Go.RowKit

/-- The word at a place. -/
def wrd (xs : List Int) (i : Nat) : Int := xs.getD i 0

/-- A type whose blocks are known whole. -/
def wholeT : TypeId := 91
/-- The cells of the block g (of type t) begin with the words of a list. -/
def Row (W : World) (g : Nat) (t : TypeId) (xs : List Int) : Prop := ∃ cur : Array Value, W.heap[g]? = some (.cells cur t (0, 0)) ∧ ∃ rest, (t = wholeT → rest = []) ∧ cur.toList = xs.map (Value.int .u32) ++ rest
theorem row_exact {W : World} {g : Nat} {xs : List Int} (h : Row W g wholeT xs) : W.heap[g]? = some (.cells (xs.map (Value.int .u32)).toArray wholeT (0, 0)) := by
  obtain ⟨cur, h1, rest, h2, h3⟩ := h
  rw [h1, h2 rfl, List.append_nil] at *
  rw [← h3]

theorem Row.lt {W : World} {g t : Nat} {xs : List Int} (h : Row W g t xs) : g < W.heap.size := by
  obtain ⟨cur, h1, _⟩ := h
  exact (Array.getElem?_eq_some_iff.1 h1).1
theorem Row.cell {W : World} {g t : Nat} {xs : List Int} (h : Row W g t xs) (i : Nat) (hi : i < xs.length) : W.cell? ⟨g, i, none⟩ = some (.int .u32 (wrd xs i)) := by
  unfold wrd
  obtain ⟨cur, h1, rest, h0, h2⟩ := h
  have hc : cur[i]? = some (.int .u32 (xs.getD i 0)) := by
    rw [← Array.getElem?_toList, h2, List.getElem?_append_left (by simpa using hi), List.getElem?_map, List.getElem?_eq_getElem hi, List.getD_eq_getElem?_getD, List.getElem?_eq_getElem hi]
    rfl
  simp [World.cell?, h1, hc]
theorem Row.frozen {W : World} {g t : Nat} {xs : List Int} (h : Row W g t xs) (i : Nat) : W.frozen? ⟨g, i, none⟩ = false := by
  obtain ⟨cur, h1, _⟩ := h
  simp [World.frozen?, h1]
theorem Row.set {W : World} {g t : Nat} {xs : List Int} (h : Row W g t xs) (i : Nat) (hi : i < xs.length) (v : Int) : Row (W.setCell ⟨g, i, none⟩ (.int .u32 v)) g t (xs.set i v) := by
  obtain ⟨cur, h1, rest, h0, h2⟩ := h
  refine ⟨cur.setIfInBounds i (.int .u32 v), ?_, rest, h0, ?_⟩
  · simp [World.setCell, Array.getElem?_modify, h1]
  · rw [Array.toList_setIfInBounds, h2, List.set_append_left _ _ (by simpa using hi), List.map_set]
theorem Row.kept {W W' : World} {g t : Nat} {xs : List Int} (h : Row W g t xs) (he : W'.heap[g]? = W.heap[g]?) : Row W' g t xs := by
  obtain ⟨cur, h1, h2⟩ := h
  exact ⟨cur, he.trans h1, h2⟩
theorem Row.far {W : World} {g t : Nat} {xs : List Int} (h : Row W g t xs) {p : Addr} (hp : g ≠ p.block) (v : Value) : Row (W.setCell p v) g t xs := h.kept (Below.heap_setCell _ _ _ _ hp)
theorem Row.below {W W' : World} {g t n : Nat} {xs : List Int} (h : Row W g t xs) (hb : Below n W W') (hg : g < n) : Row W' g t xs := h.kept (hb.block g hg)
theorem Row.alloc {W : World} {g t : Nat} {xs : List Int} (h : Row W g t xs) (o : Obj) : Row (W.alloc o) g t xs := h.kept (Below.heap_alloc _ _ _ h.lt)
theorem gb_of_below {w w' : World} (h : Below w.heap.size w w') (row : Option Nat) : w.grownBy w' row := ⟨h.os, h.tape, h.output, h.size, fun k hk _ => h.block k hk⟩
theorem gb_trans {a b c : World} {row : Option Nat} (h : a.grownBy b row) (k : b.grownBy c row) : a.grownBy c row := by
  obtain ⟨h1, h2, h3, h4, h5⟩ := h
  obtain ⟨k1, k2, k3, k4, k5⟩ := k
  exact ⟨k1.trans h1, k2.trans h2, k3.trans h3, Nat.le_trans h4 k4, fun j hj hr => (k5 j (Nat.lt_of_lt_of_le hj h4) hr).trans (h5 j hj hr)⟩
theorem gb_set (W : World) (g i : Nat) (v : Value) : W.grownBy (W.setCell ⟨g, i, none⟩ v) (some g) :=
  ⟨rfl, rfl, rfl, by simp [World.setCell], fun k _ hr => Below.heap_setCell _ _ _ _ (fun e => hr (by rw [e]))⟩
theorem gb_set_new {w W : World} {row : Option Nat} (h : w.grownBy W row) {b : Nat} (hb : w.heap.size ≤ b) (i : Nat) (v : Value) : w.grownBy (W.setCell ⟨b, i, none⟩ v) row := by
  obtain ⟨h1, h2, h3, h4, h5⟩ := h
  exact ⟨h1, h2, h3, Nat.le_trans h4 (by simp [World.setCell]), fun k hk hr => (Below.heap_setCell _ _ _ _ (by show k ≠ b; omega)).trans (h5 k hk hr)⟩
end Go.Proofs.YtobjhddiieaafaaDoor.RowOf
