/- Which pages are the same: what the reference's Same answers, in plain words. -/
import Derived.Test.YtmeaiancebgkoaaQ1
import Derived.Test.YtmeaiancebgkoaaH10
set_option maxRecDepth 100000
set_option linter.unusedSimpArgs false
set_option linter.unusedVariables false
namespace Go.Proofs.Ytmeaiancebgkoaa.H
open Go.RowKit Go.Proofs.YtmeaiancebgkoaaW.PrintWords Go.Proofs.YtmeaiancebgkoaaW.PrintLast Go.Proofs.YtmeaiancebgkoaaW.PrintMore

theorem bytes_eq (a b : ByteArray) : (a.toList == b.toList) = true ↔ a = b := by
  rw [beq_iff_eq, Lib.toList_data, Lib.toList_data]
  exact ⟨fun h => ba_ext h, fun h => by rw [h]⟩
theorem list_eq (a b : ByteArray) : (a.toList = b.toList) ↔ a = b := by rw [← bytes_eq, beq_iff_eq]
theorem row_eq (a b : Row) : (!((a.f0) == (b.f0)) || (!((a.f1) == (b.f1)) || (!((a.f2) == (b.f2)) || (!(((a.f3).toList) == ((b.f3).toList)))))) = true ↔ ¬ a = b := by
  obtain ⟨a0, a1, a2, a3⟩ := a
  obtain ⟨b0, b1, b2, b3⟩ := b
  rw [← Bool.not_eq_false]
  refine not_congr ?_
  simp only [Bool.or_eq_false_iff, Bool.not_eq_false', beq_iff_eq, list_eq, S47.mk.injEq]
theorem ref_eq (a b : Ref) : (!((a.f0) == (b.f0)) || (!(((a.f1).toList) == ((b.f1).toList)))) = true ↔ ¬ a = b := by
  obtain ⟨a0, a1⟩ := a
  obtain ⟨b0, b1⟩ := b
  rw [← Bool.not_eq_false]
  refine not_congr ?_
  simp only [Bool.or_eq_false_iff, Bool.not_eq_false', beq_iff_eq, list_eq, S28.mk.injEq]

theorem same9_l0 (l m : List Row) (hl : l.length ≤ 100000) (hm : l.length = m.length) (d : Nat) : ∀ (k i : Nat), i + d = l.length → d < k →
    ∃ b, sphragisref09_Same.l0 k l m (i : Int) = some b ∧ (b = true ↔ l.drop i = m.drop i) := by
  induction d with
  | zero =>
    intro k i hi hk
    obtain ⟨k, rfl⟩ : ∃ j, k = j + 1 := ⟨k - 1, by omega⟩
    rw [sphragisref09_Same.l0, if_neg (by omega), List.drop_of_length_le (by omega), List.drop_of_length_le (by omega)]
    exact ⟨true, rfl, by simp⟩
  | succ d ih =>
    intro k i hi hk
    obtain ⟨k, rfl⟩ : ∃ j, k = j + 1 := ⟨k - 1, by omega⟩
    rw [sphragisref09_Same.l0, if_pos (by omega), if_pos (by omega), if_pos (by omega), rd_row l i (by omega), rd_row m i (by omega), List.drop_eq_getElem_cons (l := l) (i := i) (by omega), List.drop_eq_getElem_cons (l := m) (i := i) (by omega)]
    by_cases h : l[i] = m[i]
    · rw [if_neg (by rw [row_eq]; exact fun x => x h), wrapS i (by omega), h]
      obtain ⟨b, h1, h2⟩ := ih k (i + 1) (by omega) (by omega)
      exact ⟨b, h1, h2.trans (by simp only [List.cons.injEq, true_and])⟩
    · rw [if_pos ((row_eq _ _).2 h)]
      exact ⟨false, rfl, by simp only [List.cons.injEq, h, false_and, Bool.false_eq_true]⟩
theorem same9_f (l m : List Row) (hl : l.length ≤ 100000) (k : Nat) (hk : l.length < k) : ∃ b, sphragisref09_Same.f k l m = some b ∧ (b = true ↔ l = m) := by
  unfold sphragisref09_Same.f
  by_cases h : l.length = m.length
  · rw [if_pos (by omega)]
    have := same9_l0 l m hl h l.length k 0 (by omega) hk
    rwa [List.drop_zero, List.drop_zero] at this
  · rw [if_neg (by omega)]
    exact ⟨false, rfl, by simp; exact fun x => h (by rw [x])⟩
theorem same10_l0 (a0 a1 a2 a3 : Int) (l4 : List Row) (l m : List Ref) (a6 : Int) (a7 : ByteArray) (b0 b1 b2 b3 : Int) (m4 : List Row) (b6 : Int) (b7 : ByteArray) (hl : l.length ≤ 100000) (hm : l.length = m.length) (d : Nat) : ∀ (k i : Nat), i + d = l.length → d < k →
    ∃ b, sphragisref10_Same.l0 k (i : Int) a0 a1 a2 a3 l4 l a6 a7 b0 b1 b2 b3 m4 m b6 b7 = some b ∧ (b = true ↔ l.drop i = m.drop i) := by
  induction d with
  | zero =>
    intro k i hi hk
    obtain ⟨k, rfl⟩ : ∃ j, k = j + 1 := ⟨k - 1, by omega⟩
    rw [sphragisref10_Same.l0, if_neg (by omega), List.drop_of_length_le (by omega), List.drop_of_length_le (by omega)]
    exact ⟨true, rfl, by simp⟩
  | succ d ih =>
    intro k i hi hk
    obtain ⟨k, rfl⟩ : ∃ j, k = j + 1 := ⟨k - 1, by omega⟩
    rw [sphragisref10_Same.l0, if_pos (by omega), if_pos (by omega), if_pos (by omega), rd_ref l i (by omega), rd_ref m i (by omega), List.drop_eq_getElem_cons (l := l) (i := i) (by omega), List.drop_eq_getElem_cons (l := m) (i := i) (by omega)]
    by_cases h : l[i] = m[i]
    · rw [if_neg (by rw [ref_eq]; exact fun x => x h), wrapS i (by omega), h]
      obtain ⟨b, h1, h2⟩ := ih k (i + 1) (by omega) (by omega)
      exact ⟨b, h1, h2.trans (by simp only [List.cons.injEq, true_and])⟩
    · rw [if_pos ((ref_eq _ _).2 h)]
      exact ⟨false, rfl, by simp only [List.cons.injEq, h, false_and, Bool.false_eq_true]⟩
theorem same_f (p q : Pg) (k : Nat) (h1 : p.rows.length ≤ 100000) (h2 : p.kids.length ≤ 100000) (hk1 : p.rows.length < k) (hk2 : p.kids.length + 1 < k) :
    ∃ b, sphragisref10_Same.f k p.k p.x p.y p.lv p.rows p.kids p.np p.nt q.k q.x q.y q.lv q.rows q.kids q.np q.nt = some b ∧ (b = true ↔ p = q) := by
  obtain ⟨b, hb, hb2⟩ := same9_f p.rows q.rows h1 k hk1
  obtain ⟨k, rfl⟩ : ∃ j, k = j + 1 := ⟨k - 1, by omega⟩
  unfold sphragisref10_Same.f
  rw [hb, Option.bind_some]
  obtain ⟨pk, px, py, plv, pr, pc, pn, pt⟩ := p
  obtain ⟨qk, qx, qy, qlv, qr, qc, qn, qt⟩ := q
  simp only at h1 h2 hk1 hk2 hb2 ⊢
  simp only [sphragisref10_Same.j0, Pg.mk.injEq]
  by_cases e0 : pk = qk
  · rw [if_pos e0]
    by_cases e1 : px = qx ∧ py = qy ∧ plv = qlv
    · rw [if_neg (by simp [e1])]
      cases b with
      | true =>
        rw [if_pos rfl]
        have hr := hb2.1 rfl
        by_cases e2 : pn = qn ∧ pt = qt
        · rw [if_neg (by rw [e2.1, e2.2]; simp)]
          by_cases e3 : pc.length = qc.length
          · rw [if_neg (by rw [e3]; simp)]
            obtain ⟨c, hc, hc2⟩ := same10_l0 pk px py plv pr pc qc pn pt qk qx qy qlv qr qn qt h2 e3 pc.length k 0 (by omega) (by omega)
            rw [List.drop_zero, List.drop_zero] at hc2
            refine ⟨c, hc, hc2.trans ?_⟩
            simp [e0, e1, hr, e2]
          · rw [if_pos (by rw [bne_iff_ne]; omega)]
            exact ⟨false, rfl, by simp; intro _ _ _ _ _ x; exact absurd (by rw [x]) e3⟩
        · rw [if_pos, if_pos trivial]
          · exact ⟨false, rfl, by simp; intro _ _ _ _ _ _ x y; exact absurd ⟨x, y⟩ e2⟩
          · by_cases e3 : pn = qn
            · have : ¬ pt = qt := fun x => e2 ⟨e3, x⟩
              rw [e3]
              simp only [BEq.rfl, Bool.not_true, Bool.false_or, Bool.not_eq_true', ← Bool.not_eq_true, bytes_eq]
              exact this
            · simp [e3]
      | false =>
        rw [if_neg (by simp), if_pos trivial]
        exact ⟨false, rfl, by simp; intro _ _ _ _ x; exact absurd (hb2.2 x) (by simp)⟩
    · rw [if_pos, if_pos trivial]
      · exact ⟨false, rfl, by simp; intro _ x y z; exact absurd ⟨x, y, z⟩ e1⟩
      · simp only [Bool.or_eq_true, Bool.not_eq_true', beq_eq_false_iff_ne]
        omega
  · rw [if_neg e0, if_pos trivial]
    exact ⟨false, rfl, by simp [e0]⟩
theorem Same_ok (p q : Pg) (hp : pageIn p) (hr : p.rows.length ≤ 1000) (b : Bool) (hb : b = true ↔ p = q) (A4 A5 B4 B5 : Option Addr) (c4 c5 d4 d5 : Nat) (w : World) (h1 : Kd.C k47 w A4 p.rows.length p.rows) (i1 : p.rows.length ≤ c4) (h2 : Kd.C k28 w A5 p.kids.length p.kids) (i2 : p.kids.length ≤ c5)
    (h3 : Kd.C k47 w B4 q.rows.length q.rows) (i3 : q.rows.length ≤ d4) (h4 : Kd.C k28 w B5 q.kids.length q.kids) (i4 : q.kids.length ≤ d5) :
    Calls Try.prog 20 #[.agg #[.int .i64 p.k, .int .u32 p.x, .int .u32 p.y, .int .i64 p.lv, .slice A4 p.rows.length c4, .slice A5 p.kids.length c5, .int .u32 p.np, .string p.nt], .agg #[.int .i64 q.k, .int .u32 q.x, .int .u32 q.y, .int .i64 q.lv, .slice B4 q.rows.length d4, .slice B5 q.kids.length d5, .int .u32 q.np, .string q.nt]] w fun e w' => e = .returned (.bool b) ∧ Below w.heap.size w w' := by
  obtain ⟨c, hc, hc2⟩ := same_f p q (p.rows.length + p.kids.length + 2) (by omega) (by have := hp.2.2.2.2.1; omega) (by omega) (by omega)
  have : b = c := by
    cases b <;> cases c <;> first | rfl | (exfalso; simp at hb hc2; first | exact hb hc2 | exact hc2 hb)
  rw [this]
  exact sphragisref10_Same.calls _ p.k p.x p.y p.lv A4 c4 p.rows A5 c5 p.kids p.np p.nt q.k q.x q.y q.lv B4 d4 q.rows B5 d5 q.kids q.np q.nt c w h1 i1 h2 i2 h3 i3 h4 i4 hc
end Go.Proofs.Ytmeaiancebgkoaa.H
