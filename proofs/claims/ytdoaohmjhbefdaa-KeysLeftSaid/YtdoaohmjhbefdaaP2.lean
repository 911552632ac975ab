/- Plain facts of dropping, and of what was added and dropped again. -/
import Derived.Test.YtdoaohmjhbefdaaP1
set_option maxRecDepth 100000
set_option linter.unusedSimpArgs false
set_option linter.unusedVariables false
namespace Go.Proofs.Ytdoaohmjhbefdaa.H
open Go.RowKit Go.Proofs.YtdoaohmjhbefdaaW.PrintWords Go.Proofs.YtdoaohmjhbefdaaW.PrintLast Go.Proofs.YtdoaohmjhbefdaaW.PrintMore

def without (g : Int) (l : List S25) : List S25 := l.filter fun x => decide (x.f0 ≠ g)
theorem without_cons (g : Int) (x : S25) (l : List S25) : without g (x :: l) = if x.f0 = g then without g l else x :: without g l := by
  unfold without
  rw [List.filter_cons]
  by_cases h : x.f0 = g
  · rw [if_neg (by simp [h]), if_pos h]
  · rw [if_pos (by simp [h]), if_neg h]
def dropOf (l : List S25) (g : Int) : List S25 × Int := if (findOf l g).2.2 = 0 then (without g l, 0) else ([], (findOf l g).2.2)

theorem allOK_cons {b : Int} {x : S25} {l : List S25} (h : allOK b (x :: l) = true) : b < x.f0 ∧ allOK x.f0 l = true := by
  rw [allOK, Bool.and_eq_true, okK, Bool.and_eq_true] at h
  exact ⟨by simpa using h.1.1, h.2⟩
theorem without_all (l : List S25) : ∀ b g, g ≤ b → allOK b l = true → without g l = l := by
  induction l with
  | nil => intros; rfl
  | cons x l ih =>
    intro b g hb h
    obtain ⟨h1, h2⟩ := allOK_cons h
    rw [without_cons, if_neg (by omega), ih x.f0 g (by omega) h2]
theorem eqK_self (x : S25) : eqK x x = true := by simp [eqK]
theorem eqK_ne (x y : S25) (h : y.f0 ≠ x.f0) : eqK x y = false := by
  cases he : eqK x y with
  | false => rfl
  | true =>
    exfalso
    simp [eqK] at he
    first | exact h he.1.symm | exact h he.1 | (subst he; exact h rfl)
theorem findR_gen {g : Int} {x : S25} (l : List S25) (h : findR g l = some x) : x.f0 = g := by
  induction l with
  | nil => cases h
  | cons y l ih =>
    rw [findR] at h
    by_cases hy : y.f0 = g
    · rw [if_pos hy] at h
      cases h
      exact hy
    · rw [if_neg hy] at h
      exact ih h
theorem drop_way (g : Int) (x : S25) (l : List S25) : ∀ b, allOK b l = true → findR g l = some x → 0 ≤ idx (eqK x) l ∧ l.take (idx (eqK x) l).toNat ++ l.drop ((idx (eqK x) l).toNat + 1) = without g l := by
  induction l with
  | nil => intro b _ h; cases h
  | cons y l ih =>
    intro b hb h
    obtain ⟨h1, h2⟩ := allOK_cons hb
    have hg := findR_gen _ h
    rw [findR] at h
    by_cases hy : y.f0 = g
    · rw [if_pos hy] at h
      cases h
      rw [idx_cons, if_pos (eqK_self _), without_cons, if_pos hy, without_all l x.f0 g (by omega) h2]
      exact ⟨by decide, rfl⟩
    · rw [if_neg hy] at h
      obtain ⟨i1, i2⟩ := ih y.f0 h2 h
      rw [idx_cons, if_neg (by rw [eqK_ne x y (by omega)]; decide), if_neg (by omega), without_cons, if_neg hy, ← i2, show (idx (eqK x) l + 1).toNat = (idx (eqK x) l).toNat + 1 by omega]
      exact ⟨by omega, rfl⟩
theorem rightB_all {l : List S25} (h : rightB l = true) : allOK 0 l = true := by
  rw [rightB_eq, Bool.and_eq_true] at h
  exact h.2
theorem rightB_len {l : List S25} (h : rightB l = true) : l.length ≤ 16 := by
  rw [rightB_eq, Bool.and_eq_true] at h
  simpa using h.1
theorem findOf_right {l : List S25} (h : rightB l = true) (g : Int) : findOf l g = ofFind (findR g l) := by rw [findOf, if_pos h]
theorem progdrop (l : List S25) (g : Int) (hl : l.length ≤ 400) : keys_Drop.f l g = some (dropOf l g) := by
  unfold keys_Drop.f dropOf
  rw [if_pos (by omega), progfind l g hl]
  simp only [Option.bind_some]
  by_cases h : rightB l = true
  · rw [findOf_right h]
    cases hf : findR g l with
    | none => rfl
    | some x =>
      obtain ⟨i1, i2⟩ := drop_way g x l 0 (rightB_all h) hf
      show (if (0 : Int) = 0 then _ else _) = some (if (0 : Int) = 0 then _ else _)
      rw [if_pos rfl, if_pos rfl]
      show (if 0 ≤ idx (eqK x) l then some (l.take (idx (eqK x) l).toNat ++ l.drop ((idx (eqK x) l).toNat + 1), (0 : Int)) else none) = _
      rw [if_pos i1, i2]
  · rw [findOf, if_neg h]
    rfl
theorem refdrop_l0 (g : Int) (l : List S25) (hl : l.length ≤ 400) (m : Nat) : ∀ (f i : Nat) (out : List S25), i + m = l.length → m < f → out.length ≤ i →
    sphragisref04_Drop.l0 f l g out (i : Int) = some (out ++ without g (l.drop i), 0) := by
  induction m with
  | zero =>
    intro f i out hi hf ho
    obtain ⟨f, rfl⟩ : ∃ j, f = j + 1 := ⟨f - 1, by omega⟩
    rw [sphragisref04_Drop.l0, if_neg (by omega), List.drop_of_length_le (by omega)]
    simp [without]
  | succ m ih =>
    intro f i out hi hf ho
    obtain ⟨f, rfl⟩ : ∃ j, f = j + 1 := ⟨f - 1, by omega⟩
    have hd := rd_drop l i (by omega)
    have hout : out.length < 5864062014805 := by omega
    rw [sphragisref04_Drop.l0, if_pos (by omega), if_pos (by omega), hd, without_cons]
    by_cases h : (rd_T25 l (i : Int)).f0 = g
    · rw [if_pos h, if_pos h, wrapS i (by omega), ih f (i + 1) out (by omega) (by omega) (by omega)]
    · rw [if_neg h, if_neg h, if_pos hout, wrapS i (by omega), ih f (i + 1) _ (by omega) (by omega) (by rw [List.length_append]; show out.length + 1 ≤ _; omega), List.append_assoc]
      rfl
theorem refdrop (l : List S25) (g : Int) (f : Nat) (hl : l.length ≤ 400) (hf : l.length < f) : sphragisref04_Drop.f f l g = some (dropOf l g) := by
  unfold sphragisref04_Drop.f dropOf
  rw [reffind l g f hl hf]
  simp only [Option.bind_some]
  by_cases h : (findOf l g).2.2 = 0
  · rw [if_pos h, if_pos h]
    have := refdrop_l0 g l hl l.length f 0 [] (by omega) hf (by simp)
    rw [List.drop_zero, List.nil_append] at this
    exact this
  · rw [if_neg h, if_neg h]

/-! What was added. -/
theorem ins_mem (k : S25) (l : List S25) : k ∈ ins k l := by
  induction l with
  | nil => exact List.mem_singleton.2 rfl
  | cons x l ih =>
    rw [ins]
    split
    · exact List.mem_cons_self
    · exact List.mem_cons_of_mem _ ih
theorem allOK_gt (l : List S25) : ∀ b, allOK b l = true → ∀ x ∈ l, b < x.f0 := by
  induction l with
  | nil => intro b _ x hx; cases hx
  | cons y l ih =>
    intro b h x hx
    obtain ⟨h1, h2⟩ := allOK_cons h
    rcases List.mem_cons.1 hx with rfl | hx
    · exact h1
    · have := ih _ h2 x hx
      omega
theorem find_mem (x : S25) (l : List S25) : ∀ b, allOK b l = true → x ∈ l → findR x.f0 l = some x := by
  induction l with
  | nil => intro b _ hx; cases hx
  | cons y l ih =>
    intro b h hx
    obtain ⟨h1, h2⟩ := allOK_cons h
    rw [findR]
    rcases List.mem_cons.1 hx with rfl | hx
    · rw [if_pos rfl]
    · have := allOK_gt l _ h2 x hx
      rw [if_neg (by omega), ih _ h2 hx]
theorem without_ins (k : S25) (l : List S25) : ∀ b, allOK b (ins k l) = true → without k.f0 (ins k l) = l := by
  induction l with
  | nil =>
    intro b h
    rw [ins, without_cons, if_pos rfl]
    rfl
  | cons x l ih =>
    intro b h
    rw [ins] at h ⊢
    by_cases hx : k.f0 < x.f0
    · rw [if_pos hx] at h ⊢
      obtain ⟨h1, h2⟩ := allOK_cons h
      rw [without_cons, if_pos rfl, without_all _ k.f0 k.f0 (by omega) h2]
    · rw [if_neg hx] at h ⊢
      obtain ⟨h1, h2⟩ := allOK_cons h
      have := allOK_gt _ _ h2 k (ins_mem k l)
      rw [without_cons, if_neg (by omega), ih _ h2]
theorem find_ins (k : S25) (g : Int) (hg : g ≠ k.f0) (l : List S25) : findR g (ins k l) = findR g l := by
  induction l with
  | nil =>
    show (if k.f0 = g then some k else none) = none
    rw [if_neg (by omega)]
  | cons x l ih =>
    rw [ins]
    split
    · rw [findR, if_neg (by omega)]
    · rw [findR, findR, ih]
theorem allOK_ins (k : S25) (l : List S25) : ∀ b, allOK b (ins k l) = true → allOK b l = true := by
  induction l with
  | nil => intros; rfl
  | cons x l ih =>
    intro b h
    rw [ins] at h
    by_cases hx : k.f0 < x.f0
    · rw [if_pos hx] at h
      obtain ⟨h1, h2⟩ := allOK_cons h
      obtain ⟨h3, h4⟩ := allOK_cons h2
      rw [allOK, okK, Bool.and_eq_true, Bool.and_eq_true] at h2 ⊢
      exact ⟨⟨by rw [decide_eq_true_iff]; omega, h2.1.2⟩, h2.2⟩
    · rw [if_neg hx, allOK, Bool.and_eq_true] at h
      rw [allOK, Bool.and_eq_true]
      exact ⟨h.1, ih _ h.2⟩
theorem right_ins (k : S25) (l : List S25) (h : rightB (ins k l) = true) : rightB l = true := by
  have h1 := rightB_len h
  rw [ins_length] at h1
  rw [rightB_eq, Bool.and_eq_true]
  exact ⟨by rw [decide_eq_true_iff]; omega, allOK_ins k l 0 (rightB_all h)⟩
theorem ins_comm (j k : S25) (h : j.f0 ≠ k.f0) (l : List S25) : ins k (ins j l) = ins j (ins k l) := by
  induction l with
  | nil =>
    rw [ins, ins]
    by_cases h1 : k.f0 < j.f0
    · rw [ins, if_pos h1, ins, if_neg (by omega), ins]
    · rw [ins, if_neg h1]
      show [j, k] = ins j [k]
      rw [ins, if_pos (by omega)]
  | cons x l ih =>
    rw [ins, ins]
    by_cases hj : j.f0 < x.f0
    · rw [if_pos hj]
      by_cases hk : k.f0 < x.f0
      · rw [if_pos hk]
        by_cases h1 : k.f0 < j.f0
        · rw [ins, if_pos h1, ins, if_neg (by omega), ins, if_pos hj]
        · rw [ins, if_neg h1, ins, if_pos hk, ins, if_pos (by omega)]
      · rw [if_neg hk, ins, if_neg (by omega), ins, if_neg hk, ins, if_pos hj]
    · rw [if_neg hj]
      by_cases hk : k.f0 < x.f0
      · rw [if_pos hk, ins, if_pos hk, ins, if_neg (by omega), ins, if_neg hj]
      · rw [if_neg hk, ins, if_neg hk, ins, if_neg hj, ih]

theorem add_zero {l : List S25} {k : S25} {a : List S25} (h : addOf l k = (a, 0)) : rightB l = true ∧ rightB (ins k l) = true ∧ a = ins k l := by
  rw [addOf_ins] at h
  by_cases hr : rightB l = true ∧ rightB (ins k l) = true
  · rw [if_pos hr] at h
    exact ⟨hr.1, hr.2, ((Prod.mk.inj h).1).symm⟩
  · rw [if_neg hr] at h
    exact absurd (Prod.mk.inj h).2 (by decide)
theorem add_not {l : List S25} {k : S25} {a : List S25} {e : Int} (h : addOf l k = (a, e)) (he : e ≠ 0) : a = [] := by
  rw [addOf_ins] at h
  by_cases hr : rightB l = true ∧ rightB (ins k l) = true
  · rw [if_pos hr] at h
    exact absurd (Prod.mk.inj h).2.symm he
  · rw [if_neg hr] at h
    exact ((Prod.mk.inj h).1).symm
theorem add_len {l : List S25} {k : S25} {a : List S25} {e : Int} (h : addOf l k = (a, e)) : a.length ≤ l.length + 1 := by
  by_cases he : e = 0
  · subst he
    rw [(add_zero h).2.2, ins_length]
    exact Nat.le_refl _
  · rw [add_not h he]
    exact Nat.zero_le _
theorem order_ok {l a b c d : List S25} {j k : S25} {f' g' : Int} (hne : j.f0 ≠ k.f0) (h1 : addOf l j = (a, 0)) (h2 : addOf a k = (b, 0)) (h3 : addOf l k = (c, f')) (h4 : addOf c j = (d, g')) : f' = 0 ∧ g' = 0 ∧ b = d := by
  obtain ⟨r1, r2, rfl⟩ := add_zero h1
  obtain ⟨_, r3, rfl⟩ := add_zero h2
  rw [ins_comm j k hne] at r3
  have r4 := right_ins _ _ r3
  rw [addOf_ins, if_pos ⟨r1, r4⟩] at h3
  obtain ⟨rfl, rfl⟩ := Prod.mk.inj h3
  rw [addOf_ins, if_pos ⟨r4, r3⟩] at h4
  obtain ⟨rfl, rfl⟩ := Prod.mk.inj h4
  exact ⟨rfl, rfl, ins_comm j k hne l⟩

end Go.Proofs.Ytdoaohmjhbefdaa.H
