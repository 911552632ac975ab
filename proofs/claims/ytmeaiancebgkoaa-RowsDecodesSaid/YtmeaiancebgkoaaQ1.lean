/- What is read is what is written: a page's bytes are those of their page. -/
import Derived.Test.YtmeaiancebgkoaaRE
import Derived.Test.YtmeaiancebgkoaaRS
set_option maxRecDepth 100000
set_option linter.unusedSimpArgs false
set_option linter.unusedVariables false
namespace Go.Proofs.Ytmeaiancebgkoaa.H
open Go.RowKit Go.Proofs.YtmeaiancebgkoaaW.PrintWords Go.Proofs.YtmeaiancebgkoaaW.PrintLast Go.Proofs.YtmeaiancebgkoaaW.PrintMore

theorem ba_ext {a b : ByteArray} (h : a.data.toList = b.data.toList) : a = b := by
  obtain ⟨⟨a⟩⟩ := a
  obtain ⟨⟨b⟩⟩ := b
  simp only at h
  rw [h]
theorem ba_ex (b : ByteArray) (i j : Nat) : (b.extract i j).data.toList = (b.data.toList.drop i).take (j - i) := by
  rw [ByteArray.data_extract, Array.toList_extract]
theorem le_cons (n w : Nat) : le n (w + 1) = UInt8.ofNat n :: le (n / 256) w := by
  induction w with
  | zero => simp [le]
  | succ w ih =>
    rw [le, ih, le]
    have : n / 256 ^ (w + 1) = n / 256 / 256 ^ w := by rw [Nat.div_div_eq_div_mul, Nat.pow_succ, Nat.mul_comm]
    rw [this]
    rfl
theorem le_num (l : List UInt8) : le (num l) l.length = l := by
  induction l with
  | nil => rfl
  | cons b l ih =>
    have hb := b.toNat_lt
    have h1 : (num (b :: l)) / 256 = num l := by rw [num]; omega
    have h2 : UInt8.ofNat (num (b :: l)) = b := by
      rw [num]
      apply UInt8.toNat_inj.1
      rw [UInt8.toNat_ofNat']
      omega
    rw [List.length_cons, le_cons, h1, h2, ih]
theorem num_le (n : Nat) : ∀ (w : Nat), n < 256 ^ w → num (le n w) = n := by
  intro w
  induction w generalizing n with
  | zero => intro h; simp at h; subst h; rfl
  | succ w ih =>
    intro h
    rw [le_cons, num, ih (n / 256) (by rw [Nat.pow_succ] at h; omega), UInt8.toNat_ofNat']
    omega

/-- Not short behind a take: not short ahead, and the text is in two. -/
theorem takeS_inv {st st' : RSt} {n : Nat} {t : ByteArray} (h : takeS st n = (t, st')) (hs : st'.2 = false) : st.2 = false ∧ st.1.data.toList = t.data.toList ++ st'.1.data.toList ∧ t.size = n := by
  have hn := takeS_size st n
  rw [h] at hn
  unfold takeS at h
  split at h
  · obtain ⟨rfl, rfl⟩ := Prod.mk.inj h
    cases hs
  · rename_i hlt
    obtain ⟨rfl, rfl⟩ := Prod.mk.inj h
    refine ⟨hs, ?_, hn⟩
    rw [ba_ex, ba_ex, List.drop_zero, Nat.sub_zero, List.take_of_length_le (l := List.drop n _) (by rw [List.length_drop, ← ba_size]; omega), List.take_append_drop]
theorem getS_inv {st st' : RSt} {n v : Nat} (h : getS st n = (v, st')) (hs : st'.2 = false) : st.2 = false ∧ st.1.data.toList = le v n ++ st'.1.data.toList ∧ v < 256 ^ n := by
  have hl := getS_lt st n
  rw [h] at hl
  obtain ⟨⟨t, s'⟩, ht⟩ : ∃ q, takeS st n = q := ⟨_, rfl⟩
  unfold getS at h
  rw [ht] at h
  obtain ⟨rfl, rfl⟩ := Prod.mk.inj h
  obtain ⟨h1, h2, h3⟩ := takeS_inv ht hs
  refine ⟨h1, ?_, hl⟩
  rw [h2]
  congr 1
  have : n = t.data.toList.length := by rw [← ba_size, h3]
  rw [this, le_num]
theorem refS_inv {st st' : RSt} {r : Ref} (h : refS st = (r, st')) (hs : st'.2 = false) : st.2 = false ∧ st.1.data.toList = kidB r ++ st'.1.data.toList ∧ refIn r ∧ r.f1.size = 32 := by
  obtain ⟨⟨p, s1⟩, h1⟩ : ∃ q, getS st 4 = q := ⟨_, rfl⟩
  obtain ⟨⟨t, s2⟩, h2⟩ : ∃ q, takeS s1 32 = q := ⟨_, rfl⟩
  unfold refS at h
  rw [h1] at h
  simp only at h
  rw [h2] at h
  obtain ⟨rfl, rfl⟩ := Prod.mk.inj h
  obtain ⟨a1, a2, a3⟩ := takeS_inv h2 hs
  obtain ⟨b1, b2, b3⟩ := getS_inv h1 a1
  have p4 : (256 : Nat) ^ 4 = 4294967296 := by decide
  have hp4 : (p : Int) < 4294967296 := by omega
  refine ⟨b1, ?_, ⟨by simp, hp4⟩, a3⟩
  rw [b2, a2, kidB, refB]
  simp only [Int.toNat_natCast, a3, Nat.sub_self, List.replicate_zero, List.append_nil, List.append_assoc]
theorem rowS_inv {st st' : RSt} {r : Row} (h : rowS st = (r, st')) (hs : st'.2 = false) : st.2 = false ∧ st.1.data.toList = rowBytes r ++ st'.1.data.toList ∧ rowIn r := by
  obtain ⟨⟨a, s1⟩, h1⟩ : ∃ q, getS st 8 = q := ⟨_, rfl⟩
  obtain ⟨⟨b, s2⟩, h2⟩ : ∃ q, getS s1 4 = q := ⟨_, rfl⟩
  obtain ⟨⟨c, s3⟩, h3⟩ : ∃ q, getS s2 4 = q := ⟨_, rfl⟩
  obtain ⟨⟨d, s4⟩, h4⟩ : ∃ q, getS s3 1 = q := ⟨_, rfl⟩
  obtain ⟨⟨t, s5⟩, h5⟩ : ∃ q, takeS s4 d = q := ⟨_, rfl⟩
  unfold rowS at h
  rw [h1] at h
  simp only at h
  rw [h2] at h
  simp only at h
  rw [h3] at h
  simp only at h
  rw [h4] at h
  simp only at h
  rw [h5] at h
  obtain ⟨rfl, rfl⟩ := Prod.mk.inj h
  obtain ⟨e1, e2, e3⟩ := takeS_inv h5 hs
  obtain ⟨d1, d2, d3⟩ := getS_inv h4 e1
  obtain ⟨c1, c2, c3⟩ := getS_inv h3 d1
  obtain ⟨b1, b2, b3⟩ := getS_inv h2 c1
  obtain ⟨a1, a2, a3⟩ := getS_inv h1 b1
  have p4 : (256 : Nat) ^ 4 = 4294967296 := by decide
  have p8 : (256 : Nat) ^ 8 = 18446744073709551616 := by decide
  refine ⟨a1, ?_, ?_⟩
  · rw [a2, b2, c2, d2, e2, rowBytes]
    simp only [Int.toNat_natCast, e3, List.append_assoc]
  · refine ⟨?_, ?_, ?_, ?_, ?_, ?_⟩ <;> simp only <;> omega
theorem two {α β : Type} (q : α × β) : q = (q.1, q.2) := rfl
theorem stAt_inv (st : RSt) : ∀ (k : Nat), (stAt st k).2 = false → st.2 = false ∧ st.1.data.toList = ((rowsTo st k).map rowBytes).flatten ++ (stAt st k).1.data.toList ∧ ∀ r ∈ rowsTo st k, rowIn r := by
  intro k
  induction k with
  | zero => intro h; exact ⟨h, rfl, fun r hr => by cases hr⟩
  | succ k ih =>
    intro h
    obtain ⟨q, hq⟩ : ∃ q, rowS (stAt st k) = q := ⟨_, rfl⟩
    have e1 : stAt st (k + 1) = q.2 := by rw [stAt, hq]
    have e2 : rowAt st k = q.1 := by rw [rowAt, hq]
    rw [e1] at h ⊢
    obtain ⟨h1, h2, h3⟩ := rowS_inv (hq.trans (two q)) h
    obtain ⟨i1, i2, i3⟩ := ih h1
    refine ⟨i1, ?_, fun r hr => ?_⟩
    · rw [i2, h2, rowsTo_succ, List.map_append, List.flatten_append, List.map_singleton, List.flatten_singleton, List.append_assoc, e2]
    · rw [rowsTo_succ, List.mem_append, e2] at hr
      rcases hr with hr | hr
      · exact i3 r hr
      · rw [List.mem_singleton.1 hr]
        exact h3
theorem kidsAt_inv (st : RSt) : ∀ (k : Nat), (kidsAt st k).2.2 = false → st.2 = false ∧ st.1.data.toList = ((kidsAt st k).1.map kidB).flatten ++ (kidsAt st k).2.1.data.toList ∧ ∀ r ∈ (kidsAt st k).1, refIn r := by
  intro k
  induction k with
  | zero => intro h; exact ⟨h, rfl, fun r hr => by cases hr⟩
  | succ k ih =>
    intro h
    obtain ⟨q, hq⟩ : ∃ q, refS (kidsAt st k).2 = q := ⟨_, rfl⟩
    have e1 : kidsAt st (k + 1) = ((kidsAt st k).1 ++ [q.1], q.2) := by rw [kidsAt, hq]
    rw [e1] at h ⊢
    obtain ⟨h1, h2, h3, _⟩ := refS_inv (hq.trans (two q)) h
    obtain ⟨i1, i2, i3⟩ := ih h1
    refine ⟨i1, ?_, fun r hr => ?_⟩
    · rw [i2, h2, List.map_append, List.flatten_append, List.map_singleton, List.flatten_singleton, List.append_assoc]
    · rw [List.mem_append] at hr
      rcases hr with hr | hr
      · exact i3 r hr
      · rw [List.mem_singleton.1 hr]
        exact h3
theorem readTo_end (st : RSt) (n : Nat) : ∀ (f k : Nat), k ≤ n → n ≤ f + k → readTo st n f k ≤ n ∧ (readTo st n f k = n ∨ stops st (readTo st n f k) = true) := by
  intro f
  induction f with
  | zero => intro k h1 h2; rw [readTo]; exact ⟨h1, .inl (by omega)⟩
  | succ f ih =>
    intro k h1 h2
    rw [readTo]
    by_cases hk : k = n
    · rw [if_pos hk]; exact ⟨h1, .inl hk⟩
    · rw [if_neg hk]
      by_cases hs : stops st (k + 1) = true
      · rw [if_pos hs]; exact ⟨by omega, .inr hs⟩
      · rw [if_neg hs]; exact ih (k + 1) (by omega) (by omega)

theorem page_inv {st st' : RSt} {p : Pg} (h : pageS st = (p, st')) (hs : st'.2 = false) (hr : rightP p = true) : st.1.data.toList = encL p ++ st'.1.data.toList ∧ pageIn p := by
  obtain ⟨⟨k, s1⟩, h1⟩ : ∃ q, getS st 1 = q := ⟨_, rfl⟩
  obtain ⟨⟨n, s2⟩, h2⟩ : ∃ q, getS s1 1 = q := ⟨_, rfl⟩
  have hps : pageS st = if k = 2 then innerS s2 n else leafS s2 k n := by
    unfold pageS
    rw [h1]
    simp only
    rw [h2]
  rw [hps] at h
  have p4 : (256 : Nat) ^ 4 = 4294967296 := by decide
  have p1 : (256 : Nat) ^ 1 = 256 := by decide
  by_cases hk : k = 2
  · subst hk
    rw [if_pos rfl] at h
    obtain ⟨⟨lv, s3⟩, h3⟩ : ∃ q, getS s2 1 = q := ⟨_, rfl⟩
    obtain ⟨⟨x, s4⟩, h4⟩ : ∃ q, getS s3 4 = q := ⟨_, rfl⟩
    obtain ⟨⟨y, s5⟩, h5⟩ : ∃ q, getS s4 4 = q := ⟨_, rfl⟩
    have hin : innerS s2 n = (⟨2, x, y, lv, [], (kidsAt s5 (min n 5)).1, 0, ⟨#[]⟩⟩, (kidsAt s5 (min n 5)).2) := by
      unfold innerS
      rw [h3]
      simp only
      rw [h4]
      simp only
      rw [h5]
    rw [hin] at h
    obtain ⟨rfl, rfl⟩ := Prod.mk.inj h
    obtain ⟨k1, k2, k3⟩ := kidsAt_inv s5 _ hs
    obtain ⟨y1, y2, y3⟩ := getS_inv h5 k1
    obtain ⟨x1, x2, x3⟩ := getS_inv h4 y1
    obtain ⟨l1, l2, l3⟩ := getS_inv h3 x1
    obtain ⟨n1, n2, n3⟩ := getS_inv h2 l1
    obtain ⟨t1, t2, t3⟩ := getS_inv h1 n1
    obtain ⟨_, _, _, _, q5, _, q7⟩ := right2 rfl hr
    simp only [kidsAt_length] at q5
    have hn : min n 5 = n := by omega
    refine ⟨?_, ⟨by simp only; omega, by simp only; omega, by simp only; omega, by simp only; omega, by simp only [kidsAt_length]; omega, fun r hr => (by cases hr), k3⟩⟩
    rw [t2, n2, l2, x2, y2, k2, encL, if_pos rfl]
    simp only [kidsAt_length, Int.toNat_natCast, List.append_assoc]
    rw [show le (min n 5) 1 = le n 1 by rw [hn]]
  · rw [if_neg hk] at h
    obtain ⟨⟨⟨rp, rt⟩, s3⟩, h3⟩ : ∃ q, refS s2 = q := ⟨_, rfl⟩
    have hlf : leafS s2 k n = (⟨k, 0, 0, 0, rowsTo s3 (readTo s3 n n 0), [], rp, if rp = 0 ∧ rt = zeros 32 then ⟨#[]⟩ else rt⟩, stAt s3 (readTo s3 n n 0)) := by
      unfold leafS
      rw [h3]
    rw [hlf] at h
    obtain ⟨rfl, rfl⟩ := Prod.mk.inj h
    obtain ⟨r1, r2, r3⟩ := stAt_inv s3 _ hs
    obtain ⟨t1, t2, t3, t4⟩ := refS_inv h3 r1
    obtain ⟨n1, n2, n3⟩ := getS_inv h2 t1
    obtain ⟨k1, k2, k3⟩ := getS_inv h1 n1
    have hk1 : k = 1 := by
      rcases right_kind hr with h | h
      · have : (k : Int) = 1 := h
        omega
      · have : (k : Int) = 2 := h
        omega
    subst hk1
    obtain ⟨q1, _⟩ := right1 rfl hr
    simp only [rowsTo_length] at q1
    have hm : readTo s3 n n 0 = n := by
      rcases (readTo_end s3 n n 0 (Nat.zero_le _) (Nat.le_refl _)).2 with h | h
      · exact h
      · rw [stops, hs, Bool.false_or, decide_eq_true_eq] at h
        omega
    rw [hm] at r2 r3 ⊢
    refine ⟨?_, ⟨by simp, by simp, t3, by simp only; omega, Nat.zero_le _, r3, fun r hr => (by cases hr)⟩⟩
    rw [k2, n2, t2, r2, encL, if_neg (by simp)]
    simp only [rowsTo_length, List.append_assoc]
    congr 3
    rw [kidB]
    simp only
    split
    · rename_i hz
      rw [hz.1, hz.2, refB, refB, zeros_size]
      simp [zeros]
      rfl
    · rfl
theorem dec_enc (s : ByteArray) (h : (decP s).2 = 0) : rightP (decP s).1 = true ∧ pageIn (decP s).1 ∧ encP (decP s).1 = (s, 0) := by
  obtain ⟨⟨p, u, b⟩, hp⟩ : ∃ q, pageS (s, false) = q := ⟨_, rfl⟩
  have hd : decP s = if b = false ∧ u.size = 0 ∧ rightP p = true then (p, 0) else (pgNil, 90) := by
    unfold decP
    rw [hp]
  rw [hd] at h ⊢
  by_cases hc : b = false ∧ u.size = 0 ∧ rightP p = true
  · rw [if_pos hc]
    obtain ⟨rfl, hu, hr⟩ := hc
    obtain ⟨h1, h2⟩ := page_inv hp rfl hr
    refine ⟨hr, h2, ?_⟩
    rw [encP, if_pos hr]
    congr 1
    refine ba_ext ?_
    have : u.data.toList = [] := List.eq_nil_of_length_eq_zero (by rw [← ba_size]; exact hu)
    simp only at h1
    rw [this, List.append_nil] at h1
    rw [ba_mk, h1]
  · rw [if_neg hc] at h
    cases h
theorem dec_bad (s : ByteArray) (h : (decP s).2 ≠ 0) : decP s = (pgNil, 90) := by
  unfold decP at h ⊢
  simp only at h ⊢
  split
  · rename_i hc
    rw [if_pos hc] at h
    exact absurd rfl h
  · rfl
end Go.Proofs.Ytmeaiancebgkoaa.H
