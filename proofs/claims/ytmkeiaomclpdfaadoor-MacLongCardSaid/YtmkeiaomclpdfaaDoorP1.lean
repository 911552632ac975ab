/- The sum, in plain words: the words of a part, its rounds, what is laid to eight words, and what a text leaves behind. No program in sight. -/
import Derived.Test.YtmkeiaomclpdfaaDoorWMore
import Derived.Test.YtmkeiaomclpdfaaDoorWWords
set_option linter.unusedVariables false
namespace Go.Proofs.YtmkeiaomclpdfaaDoor.Plain
open Go Go.Proofs.YtmkeiaomclpdfaaDoorW.PrintWords

theorem or_comm (x y : Int) : Go.bits .or .u32 x y = Go.bits .or .u32 y x := by
  unfold Go.bits
  simp only [BitVec.or_comm]
/-- A word, turned right. -/
def rotr (x : Int) (n : Nat) : Int := Go.bits .or .u32 (shr .u32 x (n : Int)) (shl .u32 x ((32 - n : Nat) : Int))
def xor3 (x y z : Int) : Int := Go.bits .xor .u32 (Go.bits .xor .u32 x y) z
def sg0 (x : Int) : Int := xor3 (rotr x 7) (rotr x 18) (shr .u32 x 3)
def sg1 (x : Int) : Int := xor3 (rotr x 17) (rotr x 19) (shr .u32 x 10)
def big0 (x : Int) : Int := xor3 (rotr x 2) (rotr x 13) (rotr x 22)
def big1 (x : Int) : Int := xor3 (rotr x 6) (rotr x 11) (rotr x 25)
def ch (x y z : Int) : Int := Go.bits .xor .u32 (Go.bits .and .u32 x y) (Go.bits .and .u32 (Go.bits .xor .u32 4294967295 x) z)
def maj (x y z : Int) : Int := xor3 (Go.bits .and .u32 x y) (Go.bits .and .u32 x z) (Go.bits .and .u32 y z)

/-- The word at a place. -/
def at_ (l : List Int) (i : Nat) : Int := l.getD i 0
/-- Four bytes, the greatest first. -/
def be (f : Nat → Int) (t : Nat) : Int :=
  Go.bits .or .u32 (Go.bits .or .u32 (Go.bits .or .u32 (shl .u32 (f (4 * t)) 24) (shl .u32 (f (4 * t + 1)) 16)) (shl .u32 (f (4 * t + 2)) 8)) (f (4 * t + 3))
def word (f : Nat → Int) (l : List Int) (t : Nat) : Int :=
  if t < 16 then be f t else (at_ l (t - 16) + at_ l (t - 7) + sg0 (at_ l (t - 15)) + sg1 (at_ l (t - 2))) % 4294967296
/-- The first words of a part. -/
def sched (f : Nat → Int) : Nat → List Int
  | 0 => []
  | t + 1 => sched f t ++ [word f (sched f t) t]
theorem sched_len (f : Nat → Int) (t : Nat) : (sched f t).length = t := by
  induction t with
  | zero => rfl
  | succ t ih => rw [sched, List.length_append, ih]; rfl
theorem sched_at (f : Nat → Int) (n t : Nat) (h : t < n) : at_ (sched f n) t = word f (sched f t) t := by
  induction n with
  | zero => omega
  | succ n ih =>
    unfold at_ at ih ⊢
    rw [sched, List.getD_eq_getElem?_getD]
    by_cases e : t = n
    · subst e
      rw [List.getElem?_append_right (by rw [sched_len]; omega), sched_len, Nat.sub_self]
      rfl
    · rw [List.getElem?_append_left (by rw [sched_len]; omega), ← List.getD_eq_getElem?_getD]
      exact ih (by omega)
theorem sched_back (f : Nat → Int) (n t : Nat) (h : t < n) : at_ (sched f n) t = at_ (sched f (t + 1)) t := by
  rw [sched_at f n t h, sched_at f (t + 1) t (by omega)]

/-- A round. -/
def rnd (q : List Int) (k w : Int) : List Int :=
  match q with
  | [a, b, c, d, e, f, g, i] =>
    let x := (i + big1 e + ch e f g + k + w) % 4294967296
    let y := (big0 a + maj a b c) % 4294967296
    [(x + y) % 4294967296, a, b, c, (d + x) % 4294967296, e, f, g]
  | _ => q
def rounds (K : List Int) (f : Nat → Int) (h : List Int) : Nat → List Int
  | 0 => h
  | t + 1 => rnd (rounds K f h t) (at_ K t) (at_ (sched f 64) t)
theorem rnd_len (q : List Int) (k w : Int) (h : q.length = 8) : (rnd q k w).length = 8 := by
  match q, h with
  | [a, b, c, d, e, f, g, i], _ => rfl
theorem rounds_len (K : List Int) (f : Nat → Int) (h : List Int) (hh : h.length = 8) (t : Nat) : (rounds K f h t).length = 8 := by
  induction t with
  | zero => exact hh
  | succ t ih => exact rnd_len _ _ _ ih
def adds (h l : List Int) : List Int := List.zipWith (fun x y => (x + y) % 4294967296) h l
theorem adds_len (h l : List Int) (hh : h.length = 8) (hl : l.length = 8) : (adds h l).length = 8 := by rw [adds, List.length_zipWith, hh, hl]; rfl
/-- The byte at a place. -/
def byte (l : List UInt8) (i : Nat) : Int := ((l.getD i 0).toNat : Int)
/-- 64 bytes, laid to eight words. -/
def lay (K : List Int) (h : List Int) (s : List UInt8) : List Int := adds h (rounds K (byte s) h 64)
theorem lay_len (K h : List Int) (s : List UInt8) (hh : h.length = 8) : (lay K h s).length = 8 := adds_len _ _ hh (rounds_len _ _ _ hh _)

/-- What a text leaves behind: the words, and what is left over. -/
def absorb (K : List Int) (h : List Int) (s : List UInt8) : List Int × List UInt8 :=
  if s.length < 64 then (h, s) else absorb K (lay K h (s.take 64)) (s.drop 64)
termination_by s.length
decreasing_by rw [List.length_drop]; omega
theorem absorb_less (K h : List Int) (s : List UInt8) (hs : s.length < 64) : absorb K h s = (h, s) := by rw [absorb, if_pos hs]
theorem absorb_more (K h : List Int) (s : List UInt8) (hs : 64 ≤ s.length) : absorb K h s = absorb K (lay K h (s.take 64)) (s.drop 64) := by rw [absorb, if_neg (by omega)]
theorem absorb_rest (K : List Int) (n : Nat) : ∀ (h : List Int) (s : List UInt8), s.length ≤ n → (absorb K h s).2.length < 64 ∧ (absorb K h s).2.length = s.length % 64 := by
  induction n with
  | zero =>
    intro h s hs
    rw [absorb_less _ _ _ (by omega)]
    exact ⟨by show s.length < 64; omega, by show s.length = _; omega⟩
  | succ n ih =>
    intro h s hs
    by_cases hl : s.length < 64
    · rw [absorb_less _ _ _ hl]
      exact ⟨hl, (Nat.mod_eq_of_lt hl).symm⟩
    · rw [absorb_more _ _ _ (by omega)]
      have hd : (s.drop 64).length = s.length - 64 := List.length_drop
      have := ih (lay K h (s.take 64)) (s.drop 64) (by omega)
      exact ⟨this.1, by rw [this.2, hd]; omega⟩
theorem absorb_len (K : List Int) (n : Nat) : ∀ (h : List Int) (s : List UInt8), s.length ≤ n → h.length = 8 → (absorb K h s).1.length = 8 := by
  induction n with
  | zero => intro h s hs hh; rw [absorb_less _ _ _ (by omega)]; exact hh
  | succ n ih =>
    intro h s hs hh
    by_cases hl : s.length < 64
    · rw [absorb_less _ _ _ hl]; exact hh
    · rw [absorb_more _ _ _ (by omega)]
      exact ih _ _ (by rw [List.length_drop]; omega) (lay_len _ _ _ hh)
/-- A text behind another one. -/
theorem absorb_append (K : List Int) (n : Nat) : ∀ (h : List Int) (s t : List UInt8), s.length ≤ n → absorb K h (s ++ t) = absorb K (absorb K h s).1 ((absorb K h s).2 ++ t) := by
  induction n with
  | zero =>
    intro h s t hs
    rw [absorb_less K h s (by omega)]
  | succ n ih =>
    intro h s t hs
    by_cases hl : s.length < 64
    · rw [absorb_less K h s hl]
    · rw [absorb_more K h s (by omega), absorb_more K h (s ++ t) (by rw [List.length_append]; omega), List.take_append_of_le_length (by omega), List.drop_append_of_le_length (by omega)]
      exact ih _ _ _ (by rw [List.length_drop]; omega)

/-- The bytes of eight words. -/
def be4 (w : Int) : List UInt8 := [UInt8.ofNat (w / 16777216 % 256).toNat, UInt8.ofNat (w / 65536 % 256).toNat, UInt8.ofNat (w / 256 % 256).toNat, UInt8.ofNat (w % 256).toNat]
def outs (h : List Int) : List UInt8 := (h.map be4).flatten
/-- What a text of n bytes is filled up with. -/
def size8 (n : Nat) : List UInt8 := (List.range 8).map fun i => UInt8.ofNat (n * 8 / 256 ^ (7 - i) % 256)
def fill (n : Nat) : List UInt8 := 128 :: (List.replicate ((119 - n % 64) % 64) 0 ++ size8 n)
theorem fill_len (n : Nat) : (n + (fill n).length) % 64 = 0 := by
  unfold fill size8
  rw [List.length_cons, List.length_append, List.length_replicate, List.length_map, List.length_range]
  omega
def sum (K F : List Int) (s : List UInt8) : List UInt8 := outs (absorb K F (s ++ fill s.length)).1
/-- The sum, out of what the text has left behind. -/
theorem sum_eq (K F : List Int) (s : List UInt8) : sum K F s = outs (absorb K (absorb K F s).1 ((absorb K F s).2 ++ fill s.length)).1 := by
  rw [sum, absorb_append K s.length F s _ (Nat.le_refl _)]

end Go.Proofs.YtmkeiaomclpdfaaDoor.Plain
