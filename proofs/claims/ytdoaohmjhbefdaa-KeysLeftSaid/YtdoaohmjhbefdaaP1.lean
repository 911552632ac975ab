/- Plain facts of rings: the program's functions and the reference's are one. -/
import Derived.Test.YtdoaohmjhbefdaaG4
import Derived.Test.YtdoaohmjhbefdaaH3
import Derived.Test.YtdoaohmjhbefdaaH4
import Derived.Test.YtdoaohmjhbefdaaH2
set_option maxRecDepth 100000
set_option linter.unusedSimpArgs false
set_option linter.unusedVariables false
namespace Go.Proofs.Ytdoaohmjhbefdaa.H
open Go.RowKit Go.Proofs.YtdoaohmjhbefdaaW.PrintWords Go.Proofs.YtdoaohmjhbefdaaW.PrintLast Go.Proofs.YtdoaohmjhbefdaaW.PrintMore

/-- From a generation on, all keys may stand where they stand. -/
def allOK : Int → List S25 → Bool
  | _, [] => true
  | last, k :: l => okK last k && allOK k.f0 l
theorem gens_all (l : List S25) : ∀ last, (gens last l).all (·.2) = allOK last l := by
  induction l with
  | nil => intro; rfl
  | cons k l ih => intro last; rw [gens, allOK, List.all_cons, ih]
theorem rightB_eq (l : List S25) : rightB l = (decide (l.length ≤ 16) && allOK 0 l) := by rw [rightB, gens_all]

theorem idx_cons (p : S25 → Bool) (x : S25) (l : List S25) : idx p (x :: l) = if p x = true then 0 else if idx p l < 0 then -1 else idx p l + 1 := by
  unfold idx
  rw [List.findIdx?_cons]
  cases hp : p x with
  | true => rfl
  | false =>
    rw [if_neg (by decide)]
    cases hq : l.findIdx? p with
    | none => simp
    | some i =>
      simp only [Option.map_some, Bool.false_eq_true, if_false]
      rw [if_neg (by omega)]
      omega
theorem rd_zero (x : S25) (l : List S25) : rd_T25 (x :: l) 0 = x := rfl
theorem rd_succ (x : S25) (l : List S25) (i : Int) (h : 0 ≤ i) : rd_T25 (x :: l) (i + 1) = rd_T25 l i := by
  unfold rd_T25
  rw [show (i + 1).toNat = i.toNat + 1 by omega]
  rfl
theorem place_nil (g : Int) : placeOf [] g = (0, false) := rfl
theorem place_cons (x : S25) (l : List S25) (g : Int) : placeOf (x :: l) g = if g ≤ x.f0 then (0, x.f0 == g) else ((placeOf l g).1 + 1, (placeOf l g).2) := by
  have e : idx (fun x => decide (g ≤ x.f0)) (x :: l) = if g ≤ x.f0 then 0 else if idx (fun x => decide (g ≤ x.f0)) l < 0 then -1 else idx (fun x => decide (g ≤ x.f0)) l + 1 := by
    rw [idx_cons]
    simp only [decide_eq_true_eq]
  unfold placeOf
  have hl := idx_lo (fun x => decide (g ≤ x.f0)) l
  by_cases h : g ≤ x.f0
  · rw [if_pos h] at e
    rw [e, if_neg (by omega), if_pos h, rd_zero]
  · rw [if_neg h] at e
    rw [if_neg h]
    by_cases h2 : idx (fun x => decide (g ≤ x.f0)) l < 0
    · rw [if_pos h2] at e
      rw [e, if_pos h2, if_pos (by omega)]
      simp
    · rw [if_neg h2] at e
      rw [e, if_neg h2, if_neg (by omega), rd_succ _ _ _ (by omega)]
theorem place_nonneg (l : List S25) (g : Int) : 0 ≤ (placeOf l g).1 := by
  obtain ⟨i, hi, _⟩ := place_le l g
  omega
theorem addL_nil (k : S25) : addL [] k = [k] := rfl
theorem addL_cons (x : S25) (l : List S25) (k : S25) : addL (x :: l) k = if k.f0 ≤ x.f0 then k :: x :: l else x :: addL l k := by
  unfold addL
  rw [place_cons]
  by_cases h : k.f0 ≤ x.f0
  · rw [if_pos h, if_pos h]
    rfl
  · rw [if_neg h, if_neg h]
    have := place_nonneg l k.f0
    rw [show ((placeOf l k.f0).1 + 1).toNat = (placeOf l k.f0).1.toNat + 1 by omega]
    rfl

/-- The reference's way. -/
def ins (k : S25) : List S25 → List S25
  | [] => [k]
  | x :: l => if k.f0 < x.f0 then k :: x :: l else x :: ins k l
theorem ins_bad (k : S25) (l : List S25) : ∀ g, k.f0 ≤ g → allOK g (ins k l) = false := by
  induction l with
  | nil =>
    intro g h
    rw [ins, allOK, okK, decide_eq_false (by omega)]
    rfl
  | cons x l ih =>
    intro g h
    rw [ins]
    split
    · rw [allOK, okK, decide_eq_false (by omega)]
      rfl
    · rw [allOK, okK, decide_eq_false (by omega)]
      rfl
theorem ins_there (k : S25) (l : List S25) : ∀ g, (placeOf l k.f0).2 = true → allOK g (ins k l) = false := by
  induction l with
  | nil => intro g h; cases h
  | cons x l ih =>
    intro g h
    rw [place_cons] at h
    by_cases hx : k.f0 ≤ x.f0
    · rw [if_pos hx] at h
      have he : x.f0 = k.f0 := by simpa using h
      rw [ins, if_neg (by omega), allOK, ins_bad k l x.f0 (by omega), Bool.and_false]
    · rw [if_neg hx] at h
      rw [ins, if_neg (by omega), allOK, ih _ h, Bool.and_false]
theorem ins_eq (k : S25) (l : List S25) (h : (placeOf l k.f0).2 = false) : ins k l = addL l k := by
  induction l with
  | nil => rfl
  | cons x l ih =>
    rw [place_cons] at h
    rw [ins, addL_cons]
    by_cases hx : k.f0 ≤ x.f0
    · rw [if_pos hx] at h ⊢
      have he : x.f0 ≠ k.f0 := by simpa using h
      rw [if_pos (by omega)]
    · rw [if_neg hx] at h ⊢
      rw [if_neg (by omega), ih h]
theorem addOf_ins (l : List S25) (k : S25) : addOf l k = if rightB l = true ∧ rightB (ins k l) = true then (ins k l, 0) else ([], 40) := by
  unfold addOf
  cases h : (placeOf l k.f0).2 with
  | true =>
    rw [if_neg (by simp), if_neg]
    rintro ⟨_, h2⟩
    rw [rightB_eq, ins_there k l 0 h, Bool.and_false] at h2
    cases h2
  | false =>
    rw [ins_eq k l h]
    simp

theorem wrapS (i : Nat) (h : i < 2000000000) : wrap64 ((i : Int) + 1) = ((i + 1 : Nat) : Int) := by unfold wrap64; omega
theorem rd_drop (l : List S25) (i : Nat) (h : i < l.length) : l.drop i = rd_T25 l (i : Int) :: l.drop (i + 1) := by
  rw [List.drop_eq_getElem_cons h, rd_T25, Int.toNat_natCast, List.getD_eq_getElem?_getD, List.getElem?_eq_getElem h]
  rfl

theorem refright_l0 (l : List S25) (hl : l.length ≤ 1000) (m : Nat) : ∀ (k i : Nat) (last : Int), i + m = l.length → m < k →
    sphragisref04_Right.l0 k l last (i : Int) = some (allOK last (l.drop i)) := by
  induction m with
  | zero =>
    intro k i last hi hk
    obtain ⟨k, rfl⟩ : ∃ j, k = j + 1 := ⟨k - 1, by omega⟩
    rw [sphragisref04_Right.l0, if_neg (by omega), List.drop_of_length_le (by omega)]
    rfl
  | succ m ih =>
    intro k i last hi hk
    obtain ⟨k, rfl⟩ : ∃ j, k = j + 1 := ⟨k - 1, by omega⟩
    have hd := rd_drop l i (by omega)
    rw [sphragisref04_Right.l0, if_pos (by omega), if_pos (by omega), hd, allOK, okK]
    by_cases h1 : (rd_T25 l (i : Int)).f0 ≤ last
    · rw [if_pos h1, decide_eq_false (by omega)]
      rfl
    · rw [if_neg h1, decide_eq_true (by omega)]
      by_cases h2 : ((rd_T25 l (i : Int)).f1.size : Int) = 32
      · rw [if_pos h2, wrapS i (by omega), ih k (i + 1) _ (by omega) (by omega), h2]
        rfl
      · rw [if_neg h2, beq_eq_false_iff_ne.2 h2]
        rfl
theorem refright (l : List S25) (k : Nat) (hl : l.length ≤ 1000) (hk : l.length < k) : sphragisref04_Right.f k l = some (rightB l) := by
  unfold sphragisref04_Right.f
  rw [rightB_eq]
  by_cases h : (l.length : Int) > 16
  · rw [if_pos h, decide_eq_false (by omega)]
    rfl
  · rw [if_neg h, decide_eq_true (by omega), Bool.true_and]
    have := refright_l0 l hl l.length k 0 0 (by omega) hk
    rw [List.drop_zero] at this
    exact this
theorem progright (l : List S25) (hl : l.length ≤ 1000) : keys_Right.f l = some (rightB l) := by
  rw [keys_Right.f, if_pos (by omega)]

theorem ins_length (k : S25) (l : List S25) : (ins k l).length = l.length + 1 := by
  induction l with
  | nil => rfl
  | cons x l ih =>
    rw [ins]
    split
    · rfl
    · rw [List.length_cons, ih, List.length_cons]

theorem refadd_j1 (l out : List S25) (k : Nat) (hl : l.length ≤ 1000) (ho : out.length ≤ 1000) (hk : l.length + 1 < k) (hk2 : out.length + 1 < k) :
    sphragisref04_Add.j1 k l out = some (if rightB l = true ∧ rightB out = true then (out, 0) else ([], 40)) := by
  obtain ⟨k, rfl⟩ : ∃ j, k = j + 1 := ⟨k - 1, by omega⟩
  rw [sphragisref04_Add.j1, refright l k hl (by omega), refright out k ho (by omega)]
  simp only [Option.bind_some]
  cases rightB l <;> cases rightB out <;> simp
theorem refadd_l0 (k : S25) (l : List S25) (hl : l.length ≤ 400) (m : Nat) : ∀ (f i : Nat) (out : List S25) (d : Bool), i + m = l.length → 2 * m + 500 < f → out.length ≤ 2 * i + 1 →
    ∃ f', 450 < f' ∧ sphragisref04_Add.l0 f l out d (i : Int) k.f0 k.f1 = sphragisref04_Add.j1 f' l (out ++ (if d = true then l.drop i else ins k (l.drop i))) := by
  induction m with
  | zero =>
    intro f i out d hi hf ho
    obtain ⟨f, rfl⟩ : ∃ j, f = j + 1 := ⟨f - 1, by omega⟩
    refine ⟨f, by omega, ?_⟩
    rw [sphragisref04_Add.l0, if_neg (by omega), List.drop_of_length_le (by omega)]
    cases d with
    | true => simp
    | false => 
      rw [if_neg (by decide), if_pos (by omega), if_neg (by decide)]
      rfl
  | succ m ih =>
    intro f i out d hi hf ho
    obtain ⟨f, rfl⟩ : ∃ j, f = j + 1 := ⟨f - 1, by omega⟩
    have hd := rd_drop l i (by omega)
    have hout : out.length < 5864062014805 := by omega
    have hout2 : ∀ y : S25, (out ++ [y]).length < 5864062014805 := fun y => by rw [List.length_append]; show out.length + 1 < _; omega
    have hi0 : (0 : Int) ≤ (i : Int) := by omega
    have hlt : (i : Int) < (l.length : Int) := by omega
    have hi2 : i < 2000000000 := by omega
    rw [sphragisref04_Add.l0, if_pos hlt]
    cases d with
    | true =>
      rw [if_pos rfl, if_pos hi0, if_pos hout, wrapS i hi2]
      obtain ⟨f', h1, h2⟩ := ih f (i + 1) (out ++ [rd_T25 l (i : Int)]) true (by omega) (by omega) (by rw [List.length_append]; show out.length + 1 ≤ _; omega)
      refine ⟨f', h1, h2.trans ?_⟩
      rw [if_pos rfl, if_pos rfl, hd, List.append_assoc]
      rfl
    | false =>
      rw [if_neg (by decide), if_pos hi0]
      by_cases hk : k.f0 < (rd_T25 l (i : Int)).f0
      · rw [if_pos hk, if_pos hout]
        simp only [Option.bind_some]
        rw [if_pos (hout2 _), wrapS i hi2]
        obtain ⟨f', h1, h2⟩ := ih f (i + 1) (out ++ [k] ++ [rd_T25 l (i : Int)]) true (by omega) (by omega) (by rw [List.length_append, List.length_append]; show out.length + 1 + 1 ≤ _; omega)
        refine ⟨f', h1, h2.trans ?_⟩
        rw [if_pos rfl, if_neg (by decide), hd, ins, if_pos hk, List.append_assoc, List.append_assoc]
        rfl
      · rw [if_neg hk, if_pos hout, wrapS i hi2]
        obtain ⟨f', h1, h2⟩ := ih f (i + 1) (out ++ [rd_T25 l (i : Int)]) false (by omega) (by omega) (by rw [List.length_append]; show out.length + 1 ≤ _; omega)
        refine ⟨f', h1, h2.trans ?_⟩
        rw [if_neg (by decide), if_neg (by decide), hd, ins, if_neg hk, List.append_assoc]
        rfl
theorem refadd (l : List S25) (k : S25) (f : Nat) (hl : l.length ≤ 400) (hf : 2000 < f) : sphragisref04_Add.f f l k.f0 k.f1 = some (addOf l k) := by
  unfold sphragisref04_Add.f
  obtain ⟨f', h1, h2⟩ := refadd_l0 k l hl l.length f 0 [] false (by omega) (by omega) (by simp)
  rw [show (0 : Int) = ((0 : Nat) : Int) from rfl, h2, if_neg (by decide), List.drop_zero, List.nil_append, refadd_j1 _ _ _ (by omega) (by rw [ins_length]; omega) (by omega) (by rw [ins_length]; omega), addOf_ins]
theorem progadd (l : List S25) (k : S25) (hl : l.length ≤ 400) : keys_Add.f l k.f0 k.f1 = some (addOf l k) := by
  rw [keys_Add.f, if_pos (by omega)]

/-- The key of a generation, by the two ways. -/
def findP (g : Int) : List S25 → Option S25
  | [] => none
  | x :: l => if g ≤ x.f0 then (if x.f0 = g then some x else none) else findP g l
def findR (g : Int) : List S25 → Option S25
  | [] => none
  | x :: l => if x.f0 = g then some x else findR g l
theorem findR_none (g : Int) (l : List S25) : ∀ b, g ≤ b → allOK b l = true → findR g l = none := by
  induction l with
  | nil => intros; rfl
  | cons x l ih =>
    intro b hb h
    rw [allOK, Bool.and_eq_true, okK, Bool.and_eq_true] at h
    have h1 : b < x.f0 := by simpa using h.1.1
    rw [findR, if_neg (by omega), ih x.f0 (by omega) h.2]
theorem find_eq (g : Int) (l : List S25) : ∀ b, allOK b l = true → findP g l = findR g l := by
  induction l with
  | nil => intros; rfl
  | cons x l ih =>
    intro b h
    rw [allOK, Bool.and_eq_true] at h
    rw [findP, findR]
    by_cases h1 : x.f0 = g
    · rw [if_pos (by omega), if_pos h1, if_pos h1]
    · rw [if_neg h1, if_neg h1]
      by_cases h2 : g ≤ x.f0
      · rw [if_pos h2, findR_none g l x.f0 h2 h.2]
      · rw [if_neg h2, ih x.f0 h.2]
def ofFind : Option S25 → Int × ByteArray × Int
  | some k => (k.f0, k.f1, 0)
  | none => (0, ⟨#[]⟩, 41)
def findOf (l : List S25) (g : Int) : Int × ByteArray × Int := if rightB l = true then ofFind (findR g l) else (0, ⟨#[]⟩, 40)
theorem place_find (g : Int) (l : List S25) : findP g l = if (placeOf l g).2 = true then some (rd_T25 l (placeOf l g).1) else none := by
  induction l with
  | nil => rfl
  | cons x l ih =>
    rw [findP, place_cons]
    by_cases h : g ≤ x.f0
    · rw [if_pos h, if_pos h]
      simp only [rd_zero, beq_iff_eq]
    · rw [if_neg h, if_neg h, ih]
      simp only [rd_succ _ _ _ (place_nonneg l g)]
theorem place_lt (g : Int) (l : List S25) (h : (placeOf l g).2 = true) : (placeOf l g).1 < (l.length : Int) := by
  induction l with
  | nil => cases h
  | cons x l ih =>
    rw [place_cons] at h ⊢
    by_cases hx : g ≤ x.f0
    · rw [if_pos hx, List.length_cons]
      show (0 : Int) < ((l.length + 1 : Nat) : Int)
      omega
    · rw [if_neg hx] at h ⊢
      have := ih h
      simp only [List.length_cons]
      omega
theorem progfind (l : List S25) (g : Int) (hl : l.length ≤ 400) : keys_Find.f l g = some (findOf l g) := by
  unfold keys_Find.f findOf
  rw [progright l (by omega)]
  simp only [Option.bind_some]
  by_cases h : rightB l = true
  · rw [if_pos h, if_pos h, keys_place.f, if_pos (by omega)]
    simp only [Option.bind_some]
    have h2 : allOK 0 l = true := by rw [rightB_eq, Bool.and_eq_true] at h; exact h.2
    rw [← find_eq g l 0 h2, place_find]
    by_cases h3 : (placeOf l g).2 = true
    · rw [if_pos h3, if_pos (place_nonneg l g), if_pos (place_lt g l h3), if_pos h3]
      rfl
    · rw [if_neg h3, if_neg h3]
      rfl
  · rw [if_neg h, if_neg h]
theorem reffind_l0 (l : List S25) (g : Int) (hl : l.length ≤ 1000) (m : Nat) : ∀ (k i : Nat), i + m = l.length → m < k →
    sphragisref04_Find.l0 k l g (i : Int) = some (ofFind (findR g (l.drop i))) := by
  induction m with
  | zero =>
    intro k i hi hk
    obtain ⟨k, rfl⟩ : ∃ j, k = j + 1 := ⟨k - 1, by omega⟩
    rw [sphragisref04_Find.l0, if_neg (by omega), List.drop_of_length_le (by omega)]
    rfl
  | succ m ih =>
    intro k i hi hk
    obtain ⟨k, rfl⟩ : ∃ j, k = j + 1 := ⟨k - 1, by omega⟩
    have hd := rd_drop l i (by omega)
    rw [sphragisref04_Find.l0, if_pos (by omega), if_pos (by omega), hd, findR]
    by_cases h1 : (rd_T25 l (i : Int)).f0 = g
    · rw [if_pos h1, if_pos h1]
      rfl
    · rw [if_neg h1, if_neg h1, wrapS i (by omega), ih k (i + 1) (by omega) (by omega)]
theorem reffind (l : List S25) (g : Int) (k : Nat) (hl : l.length ≤ 400) (hk : l.length < k) : sphragisref04_Find.f k l g = some (findOf l g) := by
  unfold sphragisref04_Find.f findOf
  rw [refright l k (by omega) hk]
  simp only [Option.bind_some]
  by_cases h : rightB l = true
  · rw [if_pos h, if_pos h]
    have := reffind_l0 l g (by omega) l.length k 0 (by omega) hk
    rw [List.drop_zero] at this
    exact this
  · rw [if_neg h, if_neg h]

/-- The newest. -/
def newOf (l : List S25) : Int × Int := if rightB l = true then (if l.length = 0 then (0, 41) else ((rd_T25 l ((l.length : Int) - 1)).f0, 0)) else (0, 40)
theorem wrapP (n : Nat) (h : 0 < n) (h2 : n < 2000000000) : wrap64 ((n : Int) - 1) = (n : Int) - 1 := by unfold wrap64; omega
theorem prognew (l : List S25) (hl : l.length ≤ 400) : keys_Newest.f l = some (newOf l) := by
  unfold keys_Newest.f newOf
  rw [progright l (by omega)]
  simp only [Option.bind_some]
  by_cases h : rightB l = true
  · rw [if_pos h, if_pos h]
    by_cases h0 : l.length = 0
    · rw [if_pos (by omega), if_pos h0]
    · rw [if_neg (by omega), if_neg h0, wrapP _ (by omega) (by omega), if_pos (by omega), if_pos (by omega)]
  · rw [if_neg h, if_neg h]
theorem refnew (l : List S25) (k : Nat) (hl : l.length ≤ 400) (hk : l.length < k) : sphragisref04_Newest.f k l = some (newOf l) := by
  unfold sphragisref04_Newest.f newOf
  rw [refright l k (by omega) hk]
  simp only [Option.bind_some]
  by_cases h : rightB l = true
  · rw [if_pos h, if_pos h]
    by_cases h0 : l.length = 0
    · rw [if_pos (by omega), if_pos h0]
    · rw [if_neg (by omega), if_neg h0, wrapP _ (by omega) (by omega), if_pos (by omega), if_pos (by omega)]
  · rw [if_neg h, if_neg h]

end Go.Proofs.Ytdoaohmjhbefdaa.H
