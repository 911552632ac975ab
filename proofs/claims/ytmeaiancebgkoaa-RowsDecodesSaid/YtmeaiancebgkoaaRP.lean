/- Which rows and pages may be: what the program's Right answers, in plain words. -/
import Derived.Test.YtmeaiancebgkoaaH6
import Derived.Test.YtmeaiancebgkoaaRT
set_option maxRecDepth 100000
set_option linter.unusedSimpArgs false
set_option linter.unusedVariables false
namespace Go.Proofs.Ytmeaiancebgkoaa.H
open Go.RowKit Go.Proofs.YtmeaiancebgkoaaW.PrintWords Go.Proofs.YtmeaiancebgkoaaW.PrintLast Go.Proofs.YtmeaiancebgkoaaW.PrintMore

theorem wrapS (i : Nat) (h : i < 2000000000) : wrap64 ((i : Int) + 1) = ((i + 1 : Nat) : Int) := by unfold wrap64; omega
theorem wrapP (i : Nat) (h : i < 2000000000) : wrap64 (((i + 1 : Nat) : Int) - 1) = (i : Int) := by unfold wrap64; omega
abbrev Row := S47
abbrev Ref := S28
theorem rd_row (l : List Row) (i : Nat) (h : i < l.length) : rd_T47 l (i : Int) = l[i] := by
  rw [rd_T47, Int.toNat_natCast, List.getD_eq_getElem?_getD, List.getElem?_eq_getElem h]
  rfl
theorem rd_ref (l : List Ref) (i : Nat) (h : i < l.length) : rd_T28 l (i : Int) = l[i] := by
  rw [rd_T28, Int.toNat_natCast, List.getD_eq_getElem?_getD, List.getElem?_eq_getElem h]
  rfl

def rowB (r : Row) : Bool := decide (mx r.f1 r.f2 < 2147483648) && decide ((r.f3.size : Int) ≤ 16)
def rises : Option Int → List Row → Bool
  | _, [] => true
  | o, r :: l => rowB r && (match o with | none => true | some p => decide (p < r.f0)) && rises (some r.f0) l
theorem rises_cons (o : Option Int) (r : Row) (l : List Row) : rises o (r :: l) = (rowB r && (match o with | none => true | some p => decide (p < r.f0)) && rises (some r.f0) l) := by cases o <;> rfl
def rowsB (l : List Row) : Bool := rises none l && decide (l.length ≤ 1000)

theorem rightRow_f (r : Row) : quad_RightRow.f r.f0 r.f1 r.f2 r.f3 = some (rowB r) := by
  unfold quad_RightRow.f rowB
  by_cases h : mx r.f1 r.f2 < 2147483648
  · rw [if_pos h, decide_eq_true h, Bool.true_and]
  · rw [if_neg h, decide_eq_false h]
    rfl
def prev (l : List Row) : Nat → Option Int
  | 0 => none
  | i + 1 => some (rd_T47 l (i : Int)).f0
theorem quad_l0 (l : List Row) (hl : l.length ≤ 100000) (m : Nat) : ∀ (k i : Nat), i + m = l.length → m < k →
    quad_Right.l0 k l l (l.length : Int) (i : Int) = some (rises (prev l i) (l.drop i) && decide (l.length ≤ 1000)) := by
  induction m with
  | zero =>
    intro k i hi hk
    obtain ⟨k, rfl⟩ : ∃ j, k = j + 1 := ⟨k - 1, by omega⟩
    rw [quad_Right.l0, if_neg (by omega), List.drop_of_length_le (by omega), rises, Bool.true_and]
    congr 1
    exact decide_eq_decide.2 (by omega)
  | succ m ih =>
    intro k i hi hk
    obtain ⟨k, rfl⟩ : ∃ j, k = j + 1 := ⟨k - 1, by omega⟩
    have hd : l.drop i = rd_T47 l (i : Int) :: l.drop (i + 1) := by rw [rd_row l i (by omega), List.drop_eq_getElem_cons]
    rw [quad_Right.l0, if_pos (by omega), if_pos (by omega), if_pos (by omega), rightRow_f, Option.bind_some, hd, rises_cons]
    have hn := ih k (i + 1) (by omega) (by omega)
    have hp : prev l (i + 1) = some (rd_T47 l (i : Int)).f0 := rfl
    rw [hp] at hn
    cases hb : rowB (rd_T47 l (i : Int)) with
    | false => rfl
    | true =>
      rw [if_pos rfl, Bool.true_and]
      cases i with
      | zero =>
        rw [if_neg (by simp), wrapS 0 (by omega), hn]
        rfl
      | succ j =>
        rw [if_pos (by omega), wrapP j (by omega), if_pos (by omega), if_pos (by omega)]
        show (if _ ≥ _ then _ else _) = some ((decide _ && _) && _)
        by_cases h : (rd_T47 l (j : Int)).f0 < (rd_T47 l ((j + 1 : Nat) : Int)).f0
        · rw [if_neg (by omega), wrapS (j + 1) (by omega), hn, decide_eq_true h, Bool.true_and]
        · rw [if_pos (by omega), decide_eq_false h]
          rfl
theorem quad_f (l : List Row) (k : Nat) (hl : l.length ≤ 100000) (hk : l.length < k) : quad_Right.f k l = some (rowsB l) := by
  unfold quad_Right.f rowsB
  have h := quad_l0 l hl l.length k 0 (by omega) hk
  rw [List.drop_zero] at h
  exact h

def cellB (x y lv : Int) : Bool := (cell_Right.f x y lv).getD false
theorem cell_f (x y lv : Int) : cell_Right.f x y lv = some (cellB x y lv) := by
  have : ∃ b, cell_Right.f x y lv = some b := by
    unfold cell_Right.f
    by_cases h1 : lv < 0
    · exact ⟨_, if_pos h1⟩
    · rw [if_neg h1]
      by_cases h2 : lv > 31
      · exact ⟨_, if_pos h2⟩
      · rw [if_neg h2]
        unfold cell_size.f
        rw [if_pos (by omega), Option.bind_some]
        split <;> exact ⟨_, rfl⟩
  obtain ⟨b, hb⟩ := this
  rw [cellB, hb]
  rfl
def noneB (p : Int) (t : ByteArray) : Bool := p == 0 && (t.toList == ([] : List UInt8))
def refOK (p : Int) (t : ByteArray) : Bool := decide (2 ≤ p) && ((t.size : Int) == 32)
theorem none_f (p : Int) (t : ByteArray) : rows_isNone.f p t = some (noneB p t) := rfl
theorem wrongR_eq (x : Ref) : wrongR x = !refOK x.f0 x.f1 := rfl

/-- A page. -/
structure Pg where
  k : Int
  x : Int
  y : Int
  lv : Int
  rows : List Row
  kids : List Ref
  np : Int
  nt : ByteArray
def rightP (p : Pg) : Bool :=
  if p.k = 1 then (p.x == 0 && (p.y == 0 && p.lv == 0)) && (decide (p.kids.length = 0) && (decide (p.rows.length ≤ 4) && (rowsB p.rows && (noneB p.np p.nt || refOK p.np p.nt))))
  else if p.k = 2 then !p.kids.any wrongR && (decide (p.rows.length = 0) && (noneB p.np p.nt && (decide (2 ≤ p.kids.length) && (decide (p.kids.length ≤ 4) && (cellB p.x p.y p.lv && decide (0 < p.lv))))))
  else false

theorem Right_f (p : Pg) (k : Nat) (hk : 5 < k) (hl : p.kids.length ≤ 1000) : rows_Right.f k p.k p.x p.y p.lv p.rows p.kids p.np p.nt = some (rightP p) := by
  obtain ⟨kd, x, y, lv, rows, kids, np, nt⟩ := p
  unfold rows_Right.f rightP
  simp only at hl ⊢
  by_cases h1 : kd = 1
  · rw [if_pos h1, if_pos h1]
    cases hc : (x == 0 && (y == 0 && lv == 0)) with
    | false => rfl
    | true =>
      rw [if_pos rfl, Bool.true_and]
      by_cases h2 : kids.length = 0
      · rw [if_pos (by omega), decide_eq_true h2, Bool.true_and]
        by_cases h3 : rows.length ≤ 4
        · rw [if_pos (by omega), decide_eq_true h3, Bool.true_and, quad_f rows k (by omega) (by omega), Option.bind_some]
          cases rowsB rows with
          | false => rfl
          | true =>
            rw [if_pos rfl, Bool.true_and, none_f, Option.bind_some]
            cases noneB np nt with
            | true => rfl
            | false => rw [if_neg (by decide), rightRef_f, Option.bind_some]; rfl
        · rw [if_neg (by omega), decide_eq_false h3]
          rfl
      · rw [if_neg (by omega), decide_eq_false h2]
        rfl
  · rw [if_neg h1, if_neg h1]
    by_cases h2 : kd = 2
    · rw [if_pos h2, if_pos h2, api_Ref.f, if_pos hl, Option.bind_some]
      cases kids.any wrongR with
      | true => rfl
      | false =>
        rw [if_neg (by decide), Bool.not_false, Bool.true_and]
        by_cases h3 : rows.length = 0
        · rw [if_pos (by omega), decide_eq_true h3, Bool.true_and, none_f, Option.bind_some]
          cases noneB np nt with
          | false => rfl
          | true =>
            rw [if_pos rfl, Bool.true_and]
            by_cases h4 : 2 ≤ kids.length
            · rw [if_pos (by omega), decide_eq_true h4, Bool.true_and]
              by_cases h5 : kids.length ≤ 4
              · rw [if_pos (by omega), decide_eq_true h5, Bool.true_and, cell_f, Option.bind_some]
                cases cellB x y lv with
                | false => rfl
                | true => rfl
              · rw [if_neg (by omega), decide_eq_false h5]
                rfl
            · rw [if_neg (by omega), decide_eq_false h4]
              rfl
        · rw [if_neg (by omega), decide_eq_false h3]
          rfl
    · rw [if_neg h2, if_neg h2]
end Go.Proofs.Ytmeaiancebgkoaa.H
