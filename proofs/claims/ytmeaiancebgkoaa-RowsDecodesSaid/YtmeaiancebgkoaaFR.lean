/- Which pages may be: what the reference's Right answers is what the program's answers. -/
import Derived.Test.YtmeaiancebgkoaaRE
import Derived.Test.YtmeaiancebgkoaaH13
set_option maxRecDepth 100000
set_option linter.unusedSimpArgs false
set_option linter.unusedVariables false
namespace Go.Proofs.Ytmeaiancebgkoaa.H
open Go.RowKit Go.Proofs.YtmeaiancebgkoaaW.PrintWords Go.Proofs.YtmeaiancebgkoaaW.PrintLast Go.Proofs.YtmeaiancebgkoaaW.PrintMore

theorem refR_f (p : Int) (t : ByteArray) : sphragisref10_RightRef.f p t = some (refOK p t) := by
  unfold sphragisref10_RightRef.f refOK
  by_cases h : p ≥ 2
  · rw [if_pos h, decide_eq_true (by omega), Bool.true_and]
  · rw [if_neg h, decide_eq_false (by omega), Bool.false_and]
theorem noneR_f (p : Int) (t : ByteArray) : sphragisref10_none.f p t = some (noneB p t) := by
  unfold sphragisref10_none.f noneB
  by_cases h : p = 0
  · rw [if_pos h, h]
    rfl
  · rw [if_neg h, beq_eq_false_iff_ne.2 h, Bool.false_and]
theorem rowR_f (r : Row) : sphragisref09_RightRow.f r.f0 r.f1 r.f2 r.f3 = some (rowB r) := by
  unfold sphragisref09_RightRow.f rowB
  have hm : mx r.f1 r.f2 < 2147483648 ↔ r.f1 < 2147483648 ∧ r.f2 < 2147483648 := by
    unfold mx
    split <;> omega
  by_cases h1 : r.f1 < 2147483648
  · rw [if_pos h1]
    by_cases h2 : r.f2 < 2147483648
    · rw [if_pos h2, decide_eq_true (hm.2 ⟨h1, h2⟩), Bool.true_and]
    · rw [if_neg h2, decide_eq_false (fun h => h2 (hm.1 h).2), Bool.false_and]
  · rw [if_neg h1, decide_eq_false (fun h => h1 (hm.1 h).1), Bool.false_and]
theorem rows9_l0 (l : List Row) (hl : l.length ≤ 100000) (m : Nat) : ∀ (k i : Nat), i + m = l.length → m < k →
    sphragisref09_Right.l0 k l (i : Int) = some (rises (prev l i) (l.drop i)) := by
  induction m with
  | zero =>
    intro k i hi hk
    obtain ⟨k, rfl⟩ : ∃ j, k = j + 1 := ⟨k - 1, by omega⟩
    rw [sphragisref09_Right.l0, if_neg (by omega), List.drop_of_length_le (by omega), rises]
  | succ m ih =>
    intro k i hi hk
    obtain ⟨k, rfl⟩ : ∃ j, k = j + 1 := ⟨k - 1, by omega⟩
    have hd : l.drop i = rd_T47 l (i : Int) :: l.drop (i + 1) := by rw [rd_row l i (by omega), List.drop_eq_getElem_cons]
    rw [sphragisref09_Right.l0, if_pos (by omega), if_pos (by omega), rowR_f, Option.bind_some, hd, rises_cons]
    have hn := ih k (i + 1) (by omega) (by omega)
    have hp : prev l (i + 1) = some (rd_T47 l (i : Int)).f0 := rfl
    rw [hp] at hn
    cases hb : rowB (rd_T47 l (i : Int)) with
    | false => rfl
    | true =>
      rw [if_pos rfl, Bool.true_and]
      cases i with
      | zero =>
        rw [if_neg (by simp), wrapS 0 (by omega), hn]
        rfl
      | succ j =>
        rw [if_pos (by omega), wrapP j (by omega), if_pos (by omega), if_pos (by omega)]
        show (if _ ≥ _ then _ else _) = some (decide _ && _)
        by_cases h : (rd_T47 l (j : Int)).f0 < (rd_T47 l ((j + 1 : Nat) : Int)).f0
        · rw [if_neg (by omega), wrapS (j + 1) (by omega), hn, decide_eq_true h, Bool.true_and]
        · rw [if_pos (by omega), decide_eq_false h]
          rfl
theorem rows9_f (l : List Row) (k : Nat) (hl : l.length ≤ 100000) (hk : l.length < k) : sphragisref09_Right.f k l = some (rowsB l) := by
  unfold sphragisref09_Right.f rowsB
  by_cases h : l.length ≤ 1000
  · rw [if_neg (by omega), decide_eq_true h, Bool.and_true]
    have h := rows9_l0 l hl l.length k 0 (by omega) hk
    rw [List.drop_zero] at h
    exact h
  · rw [if_pos (by omega), decide_eq_false h, Bool.and_false]

theorem wraps_u32 (n : Int) (h₀ : 0 ≤ n) (h₁ : n < 2 ^ 32) : IntKind.u32.wrap n = n := by rw [IntKind.wrap_u32]; omega
theorem two_lt {n : Nat} (hn : n ≤ 31) : 2 ^ n ≤ 2147483648 := by
  have : 2 ^ n ≤ 2 ^ 31 := Nat.pow_le_pow_right (by decide) hn
  omega
theorem size_two (n : Nat) (hn : n ≤ 31) : shl .u64 1 (n : Int) = ((2 ^ n : Nat) : Int) := by
  have h := two_lt hn
  unfold shl
  rw [Int.toNat_natCast, show min n IntKind.u64.bits = n from Nat.min_eq_left (by show n ≤ 64; omega), Int.one_mul, IntKind.wrap_u64, Int.natCast_pow]
  have : ((2 ^ n : Nat) : Int) ≤ 2147483648 := by omega
  rw [Int.natCast_pow] at this
  have h0 : (0 : Int) ≤ (2 : Int) ^ n := Int.le_of_lt (Int.pow_pos (by decide))
  exact Int.emod_eq_of_lt h0 (by have : ((2 : Nat) : Int) ^ n = (2 : Int) ^ n := rfl; omega)
theorem low_zero (X Y n : Nat) : (X ||| Y) % 2 ^ n = 0 ↔ X % 2 ^ n = 0 ∧ Y % 2 ^ n = 0 := by
  rw [Nat.or_mod_two_pow]
  exact Nat.or_eq_zero_iff
theorem cellR_f (x y lv : Int) (hx : 0 ≤ x ∧ x < 4294967296) (hy : 0 ≤ y ∧ y < 4294967296) (k : Nat) (hk : 0 < k) : sphragisref08_Right.f k x y lv = some (cellB x y lv) := by
  obtain ⟨k, rfl⟩ : ∃ j, k = j + 1 := ⟨k - 1, by omega⟩
  rw [← cell_f]
  unfold sphragisref08_Right.f cell_Right.f
  simp only [sphragisref08_Right.j0]
  by_cases h1 : lv < 0
  · rw [if_pos h1, if_pos h1, if_pos trivial]
  rw [if_neg h1, if_neg h1]
  by_cases h2 : lv > 31
  · rw [if_pos h2, if_pos h2, if_pos trivial]
  rw [if_neg h2, if_neg h2]
  obtain ⟨n, rfl⟩ : ∃ n : Nat, lv = n := ⟨lv.toNat, by omega⟩
  obtain ⟨X, rfl⟩ : ∃ n : Nat, x = n := ⟨x.toNat, by omega⟩
  obtain ⟨Y, rfl⟩ : ∃ n : Nat, y = n := ⟨y.toNat, by omega⟩
  have hn : n ≤ 31 := by omega
  have h31 := two_lt hn
  have hpos : 0 < 2 ^ n := Nat.two_pow_pos n
  have hlz := low_zero X Y n
  have hor : X ||| Y < 2 ^ 32 := Nat.or_lt_two_pow (by omega) (by omega)
  have hand := (bits_nat .u32 32 (by decide) wraps_u32 (X ||| Y) (2 ^ n - 1) hor (by omega)).1
  rw [Nat.and_two_pow_sub_one_eq_mod] at hand
  have hor2 := (bits_nat .u32 32 (by decide) wraps_u32 X Y (by omega) (by omega)).2
  unfold cell_size.f sphragisref08_Size.f
  have hw : IntKind.u64.wrap (n : Int) = (n : Int) := by rw [IntKind.wrap_u64]; omega
  simp only [hw, if_pos (show (0 : Int) ≤ (n : Int) by omega), Option.bind_some, size_two n hn]
  generalize 2 ^ n = z at *
  have e1 : (IntKind.u64.wrap ((z : Int) - 1)) % 4294967296 = ((z - 1 : Nat) : Int) := by
    rw [IntKind.wrap_u64]
    omega
  have eX : IntKind.u64.wrap (X : Int) = (X : Int) := by rw [IntKind.wrap_u64]; omega
  have eY : IntKind.u64.wrap (Y : Int) = (Y : Int) := by rw [IntKind.wrap_u64]; omega
  have tX : Int.tmod (X : Int) (z : Int) = ((X % z : Nat) : Int) := rfl
  have tY : Int.tmod (Y : Int) (z : Int) = ((Y % z : Nat) : Int) := rfl
  have hz : ¬ ((z : Int) = 0) := by omega
  simp only [e1, hor2, hand, eX, eY, if_neg hz, tX, tY]
  have hm : mx (X : Int) (Y : Int) < 2147483648 ↔ (X : Int) < 2147483648 ∧ (Y : Int) < 2147483648 := by
    unfold mx
    split <;> omega
  by_cases h3 : (X : Int) ≥ 2147483648
  · rw [if_pos h3, if_pos trivial]
    split
    · rw [decide_eq_false (fun h => by have := (hm.1 h).1; omega)]
    · rfl
  rw [if_neg h3]
  by_cases h4 : (Y : Int) ≥ 2147483648
  · rw [if_pos (decide_eq_true h4)]
    split
    · rw [decide_eq_false (fun h => by have := (hm.1 h).2; omega)]
    · rfl
  rw [if_neg (by rw [decide_eq_true_eq]; exact h4), decide_eq_true (hm.2 ⟨by omega, by omega⟩)]
  by_cases h5 : X % z = 0
  · rw [if_pos (by omega)]
    by_cases h6 : Y % z = 0
    · rw [if_pos (by have := hlz.2 ⟨h5, h6⟩; omega), h6]
      rfl
    · rw [if_neg (by intro h; exact h6 (hlz.1 (by omega)).2)]
      rw [show (((Y % z : Nat) : Int) == 0) = false from beq_eq_false_iff_ne.2 (by omega)]
  · rw [if_neg (by omega), if_neg (by intro h; exact h5 (hlz.1 (by omega)).1)]

theorem right10_l0 (a0 x y lv : Int) (l4 : List Row) (l : List Ref) (np : Int) (nt : ByteArray) (hx : 0 ≤ x ∧ x < 4294967296) (hy : 0 ≤ y ∧ y < 4294967296) (hl : l.length ≤ 100000) (m : Nat) : ∀ (k i : Nat), i + m = l.length → m + 1 < k →
    sphragisref10_Right.l0 k (i : Int) a0 x y lv l4 l np nt = some (!(l.drop i).any wrongR && cellB x y lv) := by
  induction m with
  | zero =>
    intro k i hi hk
    obtain ⟨k, rfl⟩ : ∃ j, k = j + 1 := ⟨k - 1, by omega⟩
    rw [sphragisref10_Right.l0, if_neg (by omega), List.drop_of_length_le (by omega), cellR_f x y lv hx hy k (by omega)]
    rfl
  | succ m ih =>
    intro k i hi hk
    obtain ⟨k, rfl⟩ : ∃ j, k = j + 1 := ⟨k - 1, by omega⟩
    have hd : l.drop i = rd_T28 l (i : Int) :: l.drop (i + 1) := by rw [rd_ref l i (by omega), List.drop_eq_getElem_cons]
    rw [sphragisref10_Right.l0, if_pos (by omega), if_pos (by omega), refR_f, Option.bind_some, hd, List.any_cons, wrongR_eq, wrapS i (by omega)]
    cases refOK (rd_T28 l (i : Int)).f0 (rd_T28 l (i : Int)).f1 with
    | false => rfl
    | true =>
      rw [if_pos rfl, ih k (i + 1) (by omega) (by omega)]
      rfl
theorem rightR_f (p : Pg) (hp : pageIn p) (k : Nat) (hl : p.rows.length ≤ 100000) (hk1 : p.rows.length < k) (hk2 : p.kids.length + 3 < k) :
    sphragisref10_Right.f k p.k p.x p.y p.lv p.rows p.kids p.np p.nt = some (rightP p) := by
  obtain ⟨kd, x, y, lv, rows, kids, np, nt⟩ := p
  obtain ⟨hx, hy, hnp, hlv, hkl, _, _⟩ := hp
  simp only at hx hy hkl hl hk1 hk2
  unfold sphragisref10_Right.f rightP
  simp only
  by_cases h1 : kd = 1
  · rw [if_pos h1, if_pos h1, rows9_f rows k hl hk1, Option.bind_some, refR_f, Option.bind_some, noneR_f, Option.bind_some]
    by_cases h2 : rows.length ≤ 4
    · rw [if_pos (by omega), decide_eq_true h2]
      by_cases h3 : kids.length = 0
      · simp only [if_pos (show (kids.length : Int) = 0 by omega), decide_eq_true h3]
        cases rowsB rows <;> cases refOK np nt <;> cases noneB np nt <;> simp
      · simp only [if_neg (show ¬ ((kids.length : Int) = 0) by omega), decide_eq_false h3]
        cases rowsB rows <;> cases refOK np nt <;> cases noneB np nt <;> simp
    · rw [if_neg (by omega), decide_eq_false h2]
      simp
  · rw [if_neg h1, if_neg h1]
    obtain ⟨k, rfl⟩ : ∃ j, k = j + 1 := ⟨k - 1, by omega⟩
    simp only [sphragisref10_Right.j0, noneR_f, Option.bind_some]
    by_cases h2 : kd = 2
    · rw [if_pos h2, if_pos h2]
      by_cases h3 : rows.length = 0
      · rw [if_neg (by omega), decide_eq_true h3]
        cases noneB np nt with
        | false => simp
        | true =>
          rw [if_pos rfl]
          by_cases h4 : 2 ≤ kids.length
          · rw [if_neg (by omega), decide_eq_true h4]
            by_cases h5 : kids.length ≤ 4
            · rw [if_neg (by omega), decide_eq_true h5]
              by_cases h6 : 0 < lv
              · rw [if_neg (by rw [decide_eq_true_eq]; omega), decide_eq_true h6]
                have h := right10_l0 kd x y lv rows kids np nt hx hy (by omega) kids.length k 0 (by omega) (by omega)
                rw [List.drop_zero] at h
                rw [show ((0 : Nat) : Int) = 0 from rfl] at h
                rw [h]
                simp
              · rw [if_pos (by rw [decide_eq_true_eq]; omega), decide_eq_false h6]
                simp
            · rw [if_pos (by omega), decide_eq_false h5]
              simp
          · rw [if_pos (by omega), decide_eq_false h4]
            simp
      · rw [if_pos (by omega), decide_eq_false h3]
        simp
    · rw [if_neg h2, if_neg h2]
      simp
end Go.Proofs.Ytmeaiancebgkoaa.H
