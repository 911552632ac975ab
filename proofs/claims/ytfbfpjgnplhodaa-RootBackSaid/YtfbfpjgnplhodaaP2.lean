/- Plain facts of the roots' functions: the root of bytes. -/
import Derived.Test.YtfbfpjgnplhodaaP1
import Derived.Test.YtfbfpjgnplhodaaG2
import Derived.Laws.Bits64b
set_option maxRecDepth 100000
set_option linter.unusedSimpArgs false
set_option linter.unusedVariables false
namespace Go.Proofs.Ytfbfpjgnplhodaa.H
open Go.RowKit Go.Proofs.YtfbfpjgnplhodaaW.PrintWords Go.Proofs.YtfbfpjgnplhodaaW.PrintLast Go.Proofs.YtfbfpjgnplhodaaW.PrintMore Go.Proofs.Ytfbfpjgnplhodaa.Le

theorem num_app (a b : List UInt8) : num (a ++ b) = num a + 256 ^ a.length * num b := by
  induction a with
  | nil => simp [num]
  | cons x a ih =>
    simp only [List.cons_append, num, ih, List.length_cons, Nat.pow_succ]
    rw [Nat.mul_add, ← Nat.add_assoc, ← Nat.mul_assoc, Nat.mul_comm 256 (256 ^ a.length)]

theorem num_take_succ (L : List UInt8) (j : Nat) (h : j < L.length) : num (L.take (j + 1)) = num (L.take j) + 256 ^ j * (L.getD j 0).toNat := by
  rw [List.take_succ_eq_append_getElem h, num_app]
  have : (L.take j).length = j := by simp; omega
  rw [this, List.getD_eq_getElem?_getD, List.getElem?_eq_getElem h]
  simp [num]

theorem num_take_lt (L : List UInt8) (j : Nat) : num (L.take j) < 256 ^ j := by
  have h := num_lt (L.take j)
  have hl : (L.take j).length ≤ j := by simp; omega
  exact Nat.lt_of_lt_of_le h (Nat.pow_le_pow_right (by omega) hl)

theorem rdN_num (L : List UInt8) (w : Nat) (hw : w ≤ 8) (h : w ≤ L.length) : rdN L w = (num (L.take w) : Int) := by
  induction w with
  | zero => simp [rdN, num]
  | succ j ih =>
    rw [rdN, ih (by omega) (by omega), num_take_succ L j (by omega)]
    have hb := (L.getD j 0).toNat_lt
    generalize (L.getD j 0).toNat = b at *
    have hp : (256 : Nat) ^ j = 2 ^ (8 * j) := by rw [Nat.pow_mul]
    have h2 : b * 2 ^ (8 * j) < 18446744073709551616 := by
      have : 2 ^ (8 * j) ≤ 2 ^ 56 := Nat.pow_le_pow_right (by omega) (by omega)
      calc b * 2 ^ (8 * j) ≤ 255 * 2 ^ 56 := Nat.mul_le_mul (by omega) this
        _ < 18446744073709551616 := by decide
    have h3 := num_take_lt L j
    rw [hp] at h3
    have h4 : num (L.take j) < 18446744073709551616 := by
      have : 2 ^ (8 * j) ≤ 2 ^ 56 := Nat.pow_le_pow_right (by omega) (by omega)
      have : (2 : Nat) ^ 56 < 18446744073709551616 := by decide
      omega
    have e1 : IntKind.u64.wrap (IntKind.u64.wrap (b : Int) * 2 ^ (8 * j)) = ((b * 2 ^ (8 * j) : Nat) : Int) := by
      rw [u64_of (b : Int) (by omega) (by omega), show (b : Int) * 2 ^ (8 * j) = ((b * 2 ^ (8 * j) : Nat) : Int) by push_cast; rfl, u64_of _ (by omega) (by omega)]
    rw [e1, bits_or_u64_nat _ _ h4 h2, hp, Nat.or_comm, Nat.mul_comm b, ← Nat.two_pow_add_eq_or_of_lt h3]
    omega

/-- The parts of a root's bytes. -/
def pC (L : List UInt8) : Nat := num ((L.drop 4).take 8)
def pG (L : List UInt8) : Nat := num ((L.drop 12).take 4)
def pN (L : List UInt8) : Nat := num ((L.drop 16).take 4)
def pP (L : List UInt8) : Nat := num ((L.drop 20).take 4)
def pT (L : List UInt8) : ByteArray := ⟨(L.drop 24).toArray⟩
def ok (L : List UInt8) : Bool := decide (L.length = 56) && (L.take 4 == [115, 112, 104, 114]) && right (pC L) (pG L) (pN L) (pP L) (pT L)
def dec (L : List UInt8) : Int × Int × Int × Int × ByteArray × Int := if ok L = true then (pC L, pG L, pN L, pP L, pT L, 0) else (0, 0, 0, 0, ⟨#[]⟩, 120)

theorem rb_parts {c g n p : Nat} {tag : ByteArray} (hc : c < 18446744073709551616) (hg : g < 4294967296) (hn : n < 4294967296) (hp : p < 4294967296) :
    pC (rb c g n p tag) = c ∧ pG (rb c g n p tag) = g ∧ pN (rb c g n p tag) = n ∧ pP (rb c g n p tag) = p ∧ pT (rb c g n p tag) = tag ∧ (rb c g n p tag).take 4 = [115, 112, 104, 114] ∧ (rb c g n p tag).length = 24 + tag.size := by
  have l8 := le_length c 8
  have lg := le_length g 4
  have ln := le_length n 4
  have lp := le_length p 4
  have n8 := num_le c 8
  have ng := num_le g 4
  have nn := num_le n 4
  have np := num_le p 4
  rw [Nat.mod_eq_of_lt (by omega)] at n8 ng nn np
  unfold pC pG pN pP pT rb
  generalize le c 8 = A at *
  generalize le g 4 = B at *
  generalize le n 4 = C at *
  generalize le p 4 = D at *
  match A, l8 with
  | [a0, a1, a2, a3, a4, a5, a6, a7], _ =>
    match B, lg with
    | [b0, b1, b2, b3], _ =>
      match C, ln with
      | [c0, c1, c2, c3], _ =>
        match D, lp with
        | [d0, d1, d2, d3], _ =>
          refine ⟨n8, ng, nn, np, ba_ext (by simp), rfl, ?_⟩
          simp
          omega

theorem parts_rb {L : List UInt8} (h : L.length = 56) (hm : L.take 4 = [115, 112, 104, 114]) : rb (pC L) (pG L) (pN L) (pP L) (pT L) = L := by
  have split : L = L.take 4 ++ (L.drop 4).take 8 ++ (L.drop 12).take 4 ++ (L.drop 16).take 4 ++ (L.drop 20).take 4 ++ L.drop 24 := by
    have e1 := (List.take_append_drop 4 L).symm
    have e2 := (List.take_append_drop 8 (L.drop 4)).symm
    have e3 := (List.take_append_drop 4 (L.drop 12)).symm
    have e4 := (List.take_append_drop 4 (L.drop 16)).symm
    have e5 := (List.take_append_drop 4 (L.drop 20)).symm
    rw [List.drop_drop] at e2 e3 e4 e5
    conv => lhs; rw [e1, e2, e3, e4, e5]
    simp only [List.append_assoc]
  have q8 := le_num ((L.drop 4).take 8)
  have qg := le_num ((L.drop 12).take 4)
  have qn := le_num ((L.drop 16).take 4)
  have qp := le_num ((L.drop 20).take 4)
  rw [show ((L.drop 4).take 8).length = 8 by simp; omega] at q8
  rw [show ((L.drop 12).take 4).length = 4 by simp; omega] at qg
  rw [show ((L.drop 16).take 4).length = 4 by simp; omega] at qn
  rw [show ((L.drop 20).take 4).length = 4 by simp; omega] at qp
  unfold rb pC pG pN pP pT
  rw [q8, qg, qn, qp, ← hm]
  conv => rhs; rw [split]

theorem parts_lt (L : List UInt8) : pC L < 18446744073709551616 ∧ pG L < 4294967296 ∧ pN L < 4294967296 ∧ pP L < 4294967296 :=
  ⟨num_take_lt (L.drop 4) 8, num_take_lt (L.drop 12) 4, num_take_lt (L.drop 16) 4, num_take_lt (L.drop 20) 4⟩

theorem ok_iff {L : List UInt8} : ok L = true ↔ L.length = 56 ∧ L.take 4 = [115, 112, 104, 114] ∧ right (pC L) (pG L) (pN L) (pP L) (pT L) = true := by
  simp [ok, and_assoc]

/-- The four numbers behind the mark. -/
theorem got_ok {L : List UInt8} (h : L.length = 56) (hm : L.take 4 = [115, 112, 104, 114]) :
    got (flds [8, 4, 4, 4] (Lib.trimPrefix L mark.data.toList)) = ((pC L : Int), (pG L : Int), (pN L : Int), (pP L : Int), pT L) := by
  have ht : Lib.trimPrefix L mark.data.toList = L.drop 4 := by
    have hp : Lib.hasPrefix L mark.data.toList = true := by
      unfold Lib.hasPrefix
      rw [List.isPrefixOf_iff_prefix]
      exact ⟨L.drop 4, by rw [show mark.data.toList = L.take 4 from hm.symm, List.take_append_drop]⟩
    rw [Lib.trimPrefix, if_pos hp]; rfl
  rw [ht]
  have hl := parts_lt L
  simp only [flds]
  rw [if_neg (by simp; omega), if_neg (by simp; omega), if_neg (by simp; omega), if_neg (by simp; omega)]
  simp only [got, List.drop_drop]
  rw [rdN_num _ _ (by omega) (by simp; omega), rdN_num _ _ (by omega) (by simp; omega), rdN_num _ _ (by omega) (by simp; omega), rdN_num _ _ (by omega) (by simp; omega)]
  unfold pC pG pN pP pT at *
  simp only [Prod.mk.injEq]
  simp only [Nat.reduceAdd] at *
  refine ⟨trivial, by omega, by omega, by omega, trivial⟩

/-- Each number is one of its kind. -/
theorem got_range (l : List (Int × ByteArray)) (h : ∀ x ∈ l, 0 ≤ x.1 ∧ x.1 < 18446744073709551616) :
    0 ≤ (got l).1 ∧ (got l).1 < 18446744073709551616 ∧ 0 ≤ (got l).2.1 ∧ (got l).2.1 < 4294967296 ∧ 0 ≤ (got l).2.2.1 ∧ (got l).2.2.1 < 4294967296 ∧ 0 ≤ (got l).2.2.2.1 ∧ (got l).2.2.2.1 < 4294967296 := by
  unfold got
  split
  · rename_i a b c d
    have ha := h a (by simp)
    refine ⟨ha.1, ha.2, ?_⟩
    dsimp only
    omega
  · dsimp only
    omega
theorem flds_range (ks : List Nat) (hk : ∀ k ∈ ks, k ≤ 8) : ∀ (L : List UInt8), ∀ x ∈ flds ks L, 0 ≤ x.1 ∧ x.1 < 18446744073709551616 := by
  induction ks with
  | nil => intro L x hx; simp [flds] at hx
  | cons k ks ih =>
    intro L x hx
    rw [flds] at hx
    split at hx
    · simp at hx
    · rename_i hlen
      rcases List.mem_cons.1 hx with rfl | hx
      · have h8 := hk k (by simp)
        rw [rdN_num L k h8 (by omega)]
        have h1 := num_take_lt L k
        have h2 : (256 : Nat) ^ k ≤ 256 ^ 8 := Nat.pow_le_pow_right (by omega) h8
        have h3 : (256 : Nat) ^ 8 = 18446744073709551616 := by decide
        dsimp only
        omega
      · exact ih (fun k hk' => hk k (by simp [hk'])) _ x hx

theorem rb_length (c g n p : Nat) (tag : ByteArray) : (rb c g n p tag).length = 24 + tag.size := by
  simp [rb]
  omega

theorem ok_size {L : List UInt8} (h : ok L = true) : L.length = 56 := (ok_iff.1 h).1

theorem decode_eq (s : ByteArray) (hs : s.size ≤ 140737488355000) : root_Decode.f s = some (dec s.data.toList) := by
  rw [root_Decode.f, if_pos hs]
  unfold root_Decode.g
  have hc : (cutP s).data.toList = Lib.trimPrefix s.data.toList mark.data.toList := by rw [cutP, ba_mk]
  rw [hc, Lib.toList_data s]
  generalize s.data.toList = L at *
  have hR := got_range (flds [8, 4, 4, 4] (Lib.trimPrefix L mark.data.toList)) (flds_range _ (by decide) _)
  cases hok : ok L with
  | true =>
    obtain ⟨h1, h2, h3⟩ := ok_iff.1 hok
    have hp := parts_lt L
    obtain ⟨r1, r2, r3, r4, r5⟩ := right_iff.1 h3
    rw [got_ok h1 h2]
    simp only []
    rw [if_neg (by omega), right_eq, h3]
    simp only [Option.bind_some, if_true]
    rw [text_eq _ _ _ _ _ (by omega) (by omega) (by omega) (by omega) (by omega) (by omega) (by omega) (by omega)]
    simp only [Option.bind_some, Int.toNat_natCast, Lib.toList_data, ba_mk]
    rw [parts_rb h1 h2, if_pos rfl, dec, if_pos hok]
  | false =>
    have hd : dec L = (0, 0, 0, 0, ⟨#[]⟩, 120) := by rw [dec, if_neg (by rw [hok]; exact Bool.false_ne_true)]
    rw [hd]
    generalize got (flds [8, 4, 4, 4] (Lib.trimPrefix L mark.data.toList)) = r at hR
    obtain ⟨c, g, n, p, tag⟩ := r
    simp only [] at hR ⊢
    by_cases hz : c = 0 ∧ g = 0 ∧ n = 0 ∧ p = 0 ∧ tag = ⟨#[]⟩
    · rw [if_pos hz]
    · rw [if_neg hz, right_eq]
      simp only [Option.bind_some]
      by_cases hr : right c g n p tag = true
      · obtain ⟨r1, r2, r3, r4, r5⟩ := right_iff.1 hr
        rw [if_pos hr, text_eq _ _ _ _ _ (by omega) (by omega) (by omega) (by omega) (by omega) (by omega) (by omega) (by omega)]
        simp only [Option.bind_some, Lib.toList_data, ba_mk]
        by_cases he : rb c.toNat g.toNat n.toNat p.toNat tag = L
        · exfalso
          obtain ⟨q1, q2, q3, q4, q5, q6, q7⟩ := rb_parts (tag := tag) (c := c.toNat) (g := g.toNat) (n := n.toNat) (p := p.toNat) (by omega) (by omega) (by omega) (by omega)
          rw [he] at q1 q2 q3 q4 q5 q6 q7
          have : ok L = true := by
            rw [ok_iff, q1, q2, q3, q4, q5]
            refine ⟨by omega, q6, ?_⟩
            rw [show ((c.toNat : Nat) : Int) = c by omega, show ((g.toNat : Nat) : Int) = g by omega, show ((n.toNat : Nat) : Int) = n by omega, show ((p.toNat : Nat) : Int) = p by omega]
            exact hr
          rw [this] at hok
          cases hok
        · rw [if_neg he]
      · rw [if_neg hr]

theorem dec_short {L : List UInt8} (h : L.length ≠ 56) : dec L = (0, 0, 0, 0, ⟨#[]⟩, 120) := by
  rw [dec, if_neg]
  intro hk
  exact h (ok_size hk)

end Go.Proofs.Ytfbfpjgnplhodaa.H
