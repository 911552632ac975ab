/- Plain facts of the roots' functions: the root of bytes. -/
import Derived.Test.YtfbfpjgnplhodaaP1
import Derived.Test.YtfbfpjgnplhodaaG2
import Derived.Test.YtfbfpjgnplhodaaH9
import Derived.Test.YtfbfpjgnplhodaaH10
import Derived.Test.YtfbfpjgnplhodaaH10
import Derived.Test.YtfbfpjgnplhodaaH7
import Derived.Laws.Bits64b
set_option maxRecDepth 100000
set_option linter.unusedSimpArgs false
set_option linter.unusedVariables false
namespace Go.Proofs.Ytfbfpjgnplhodaa.H
open Go.RowKit Go.Proofs.YtfbfpjgnplhodaaW.PrintWords Go.Proofs.YtfbfpjgnplhodaaW.PrintLast Go.Proofs.YtfbfpjgnplhodaaW.PrintMore Go.Proofs.Ytfbfpjgnplhodaa.Le

theorem num_app (a b : List UInt8) : num (a ++ b) = num a + 256 ^ a.length * num b := by
  induction a with
  | nil => simp [num]
  | cons x a ih =>
    simp only [List.cons_append, num, ih, List.length_cons, Nat.pow_succ]
    rw [Nat.mul_add, ← Nat.add_assoc, ← Nat.mul_assoc, Nat.mul_comm 256 (256 ^ a.length)]

theorem num_take_succ (L : List UInt8) (j : Nat) (h : j < L.length) : num (L.take (j + 1)) = num (L.take j) + 256 ^ j * (L.getD j 0).toNat := by
  rw [List.take_succ_eq_append_getElem h, num_app]
  have : (L.take j).length = j := by simp; omega
  rw [this, List.getD_eq_getElem?_getD, List.getElem?_eq_getElem h]
  simp [num]

theorem num_take_lt (L : List UInt8) (j : Nat) : num (L.take j) < 256 ^ j := by
  have h := num_lt (L.take j)
  have hl : (L.take j).length ≤ j := by simp; omega
  exact Nat.lt_of_lt_of_le h (Nat.pow_le_pow_right (by omega) hl)

theorem rdN_num (L : List UInt8) (w : Nat) (hw : w ≤ 8) (h : w ≤ L.length) : rdN L w = (num (L.take w) : Int) := by
  induction w with
  | zero => simp [rdN, num]
  | succ j ih =>
    rw [rdN, ih (by omega) (by omega), num_take_succ L j (by omega)]
    have hb := (L.getD j 0).toNat_lt
    generalize (L.getD j 0).toNat = b at *
    have hp : (256 : Nat) ^ j = 2 ^ (8 * j) := by rw [Nat.pow_mul]
    have h2 : b * 2 ^ (8 * j) < 18446744073709551616 := by
      have : 2 ^ (8 * j) ≤ 2 ^ 56 := Nat.pow_le_pow_right (by omega) (by omega)
      calc b * 2 ^ (8 * j) ≤ 255 * 2 ^ 56 := Nat.mul_le_mul (by omega) this
        _ < 18446744073709551616 := by decide
    have h3 := num_take_lt L j
    rw [hp] at h3
    have h4 : num (L.take j) < 18446744073709551616 := by
      have : 2 ^ (8 * j) ≤ 2 ^ 56 := Nat.pow_le_pow_right (by omega) (by omega)
      have : (2 : Nat) ^ 56 < 18446744073709551616 := by decide
      omega
    have e1 : IntKind.u64.wrap (IntKind.u64.wrap (b : Int) * 2 ^ (8 * j)) = ((b * 2 ^ (8 * j) : Nat) : Int) := by
      rw [u64_of (b : Int) (by omega) (by omega), show (b : Int) * 2 ^ (8 * j) = ((b * 2 ^ (8 * j) : Nat) : Int) by push_cast; rfl, u64_of _ (by omega) (by omega)]
    rw [e1, bits_or_u64_nat _ _ h4 h2, hp, Nat.or_comm, Nat.mul_comm b, ← Nat.two_pow_add_eq_or_of_lt h3]
    omega

/-- The parts of a root's bytes. -/
def pC (L : List UInt8) : Nat := num ((L.drop 4).take 8)
def pG (L : List UInt8) : Nat := num ((L.drop 12).take 4)
def pN (L : List UInt8) : Nat := num ((L.drop 16).take 4)
def pP (L : List UInt8) : Nat := num ((L.drop 20).take 4)
def pT (L : List UInt8) : ByteArray := ⟨(L.drop 24).toArray⟩
def ok (L : List UInt8) : Bool := decide (L.length = 56) && (L.take 4 == [115, 112, 104, 114]) && right (pC L) (pG L) (pN L) (pP L) (pT L)
def dec (L : List UInt8) : Int × Int × Int × Int × ByteArray × Int := if ok L = true then (pC L, pG L, pN L, pP L, pT L, 0) else (0, 0, 0, 0, ⟨#[]⟩, 120)

theorem rb_parts {c g n p : Nat} {tag : ByteArray} (hc : c < 18446744073709551616) (hg : g < 4294967296) (hn : n < 4294967296) (hp : p < 4294967296) :
    pC (rb c g n p tag) = c ∧ pG (rb c g n p tag) = g ∧ pN (rb c g n p tag) = n ∧ pP (rb c g n p tag) = p ∧ pT (rb c g n p tag) = tag ∧ (rb c g n p tag).take 4 = [115, 112, 104, 114] ∧ (rb c g n p tag).length = 24 + tag.size := by
  have l8 := le_length c 8
  have lg := le_length g 4
  have ln := le_length n 4
  have lp := le_length p 4
  have n8 := num_le c 8
  have ng := num_le g 4
  have nn := num_le n 4
  have np := num_le p 4
  rw [Nat.mod_eq_of_lt (by omega)] at n8 ng nn np
  unfold pC pG pN pP pT rb
  generalize le c 8 = A at *
  generalize le g 4 = B at *
  generalize le n 4 = C at *
  generalize le p 4 = D at *
  match A, l8 with
  | [a0, a1, a2, a3, a4, a5, a6, a7], _ =>
    match B, lg with
    | [b0, b1, b2, b3], _ =>
      match C, ln with
      | [c0, c1, c2, c3], _ =>
        match D, lp with
        | [d0, d1, d2, d3], _ =>
          refine ⟨n8, ng, nn, np, ba_ext (by simp), rfl, ?_⟩
          simp
          omega

theorem parts_rb {L : List UInt8} (h : L.length = 56) (hm : L.take 4 = [115, 112, 104, 114]) : rb (pC L) (pG L) (pN L) (pP L) (pT L) = L := by
  have split : L = L.take 4 ++ (L.drop 4).take 8 ++ (L.drop 12).take 4 ++ (L.drop 16).take 4 ++ (L.drop 20).take 4 ++ L.drop 24 := by
    have e1 := (List.take_append_drop 4 L).symm
    have e2 := (List.take_append_drop 8 (L.drop 4)).symm
    have e3 := (List.take_append_drop 4 (L.drop 12)).symm
    have e4 := (List.take_append_drop 4 (L.drop 16)).symm
    have e5 := (List.take_append_drop 4 (L.drop 20)).symm
    rw [List.drop_drop] at e2 e3 e4 e5
    conv => lhs; rw [e1, e2, e3, e4, e5]
    simp only [List.append_assoc]
  have q8 := le_num ((L.drop 4).take 8)
  have qg := le_num ((L.drop 12).take 4)
  have qn := le_num ((L.drop 16).take 4)
  have qp := le_num ((L.drop 20).take 4)
  rw [show ((L.drop 4).take 8).length = 8 by simp; omega] at q8
  rw [show ((L.drop 12).take 4).length = 4 by simp; omega] at qg
  rw [show ((L.drop 16).take 4).length = 4 by simp; omega] at qn
  rw [show ((L.drop 20).take 4).length = 4 by simp; omega] at qp
  unfold rb pC pG pN pP pT
  rw [q8, qg, qn, qp, ← hm]
  conv => rhs; rw [split]

theorem parts_lt (L : List UInt8) : pC L < 18446744073709551616 ∧ pG L < 4294967296 ∧ pN L < 4294967296 ∧ pP L < 4294967296 :=
  ⟨num_take_lt (L.drop 4) 8, num_take_lt (L.drop 12) 4, num_take_lt (L.drop 16) 4, num_take_lt (L.drop 20) 4⟩

theorem ok_iff {L : List UInt8} : ok L = true ↔ L.length = 56 ∧ L.take 4 = [115, 112, 104, 114] ∧ right (pC L) (pG L) (pN L) (pP L) (pT L) = true := by
  simp [ok, and_assoc]

/-- The four numbers behind the mark. -/
theorem got_ok {L : List UInt8} (h : L.length = 56) (hm : L.take 4 = [115, 112, 104, 114]) :
    got (flds [8, 4, 4, 4] (Lib.trimPrefix L mark.data.toList)) = ((pC L : Int), (pG L : Int), (pN L : Int), (pP L : Int), pT L) := by
  have ht : Lib.trimPrefix L mark.data.toList = L.drop 4 := by
    have hp : Lib.hasPrefix L mark.data.toList = true := by
      unfold Lib.hasPrefix
      rw [List.isPrefixOf_iff_prefix]
      exact ⟨L.drop 4, by rw [show mark.data.toList = L.take 4 from hm.symm, List.take_append_drop]⟩
    rw [Lib.trimPrefix, if_pos hp]; rfl
  rw [ht]
  have hl := parts_lt L
  simp only [flds]
  rw [if_neg (by simp; omega), if_neg (by simp; omega), if_neg (by simp; omega), if_neg (by simp; omega)]
  simp only [got, List.drop_drop]
  rw [rdN_num _ _ (by omega) (by simp; omega), rdN_num _ _ (by omega) (by simp; omega), rdN_num _ _ (by omega) (by simp; omega), rdN_num _ _ (by omega) (by simp; omega)]
  unfold pC pG pN pP pT at *
  simp only [Prod.mk.injEq]
  simp only [Nat.reduceAdd] at *
  refine ⟨trivial, by omega, by omega, by omega, trivial⟩

/-- Each number is one of its kind. -/
theorem got_range (l : List (Int × ByteArray)) (h : ∀ x ∈ l, 0 ≤ x.1 ∧ x.1 < 18446744073709551616) :
    0 ≤ (got l).1 ∧ (got l).1 < 18446744073709551616 ∧ 0 ≤ (got l).2.1 ∧ (got l).2.1 < 4294967296 ∧ 0 ≤ (got l).2.2.1 ∧ (got l).2.2.1 < 4294967296 ∧ 0 ≤ (got l).2.2.2.1 ∧ (got l).2.2.2.1 < 4294967296 := by
  unfold got
  split
  · rename_i a b c d
    have ha := h a (by simp)
    refine ⟨ha.1, ha.2, ?_⟩
    dsimp only
    omega
  · dsimp only
    omega
theorem flds_range (ks : List Nat) (hk : ∀ k ∈ ks, k ≤ 8) : ∀ (L : List UInt8), ∀ x ∈ flds ks L, 0 ≤ x.1 ∧ x.1 < 18446744073709551616 := by
  induction ks with
  | nil => intro L x hx; simp [flds] at hx
  | cons k ks ih =>
    intro L x hx
    rw [flds] at hx
    split at hx
    · simp at hx
    · rename_i hlen
      rcases List.mem_cons.1 hx with rfl | hx
      · have h8 := hk k (by simp)
        rw [rdN_num L k h8 (by omega)]
        have h1 := num_take_lt L k
        have h2 : (256 : Nat) ^ k ≤ 256 ^ 8 := Nat.pow_le_pow_right (by omega) h8
        have h3 : (256 : Nat) ^ 8 = 18446744073709551616 := by decide
        dsimp only
        omega
      · exact ih (fun k hk' => hk k (by simp [hk'])) _ x hx

theorem rb_length (c g n p : Nat) (tag : ByteArray) : (rb c g n p tag).length = 24 + tag.size := by
  simp [rb]
  omega

theorem ok_size {L : List UInt8} (h : ok L = true) : L.length = 56 := (ok_iff.1 h).1

theorem decode_eq (s : ByteArray) (hs : s.size ≤ 140737488355000) : root_Decode.f s = some (dec s.data.toList) := by
  rw [root_Decode.f, if_pos hs]
  unfold root_Decode.g
  have hc : (cutP s).data.toList = Lib.trimPrefix s.data.toList mark.data.toList := by rw [cutP, ba_mk]
  rw [hc, Lib.toList_data s]
  generalize s.data.toList = L at *
  have hR := got_range (flds [8, 4, 4, 4] (Lib.trimPrefix L mark.data.toList)) (flds_range _ (by decide) _)
  cases hok : ok L with
  | true =>
    obtain ⟨h1, h2, h3⟩ := ok_iff.1 hok
    have hp := parts_lt L
    obtain ⟨r1, r2, r3, r4, r5⟩ := right_iff.1 h3
    rw [got_ok h1 h2]
    simp only []
    rw [if_neg (by omega), right_eq, h3]
    simp only [Option.bind_some, if_true]
    rw [text_eq _ _ _ _ _ (by omega) (by omega) (by omega) (by omega) (by omega) (by omega) (by omega) (by omega)]
    simp only [Option.bind_some, Int.toNat_natCast, Lib.toList_data, ba_mk]
    rw [parts_rb h1 h2, if_pos rfl, dec, if_pos hok]
  | false =>
    have hd : dec L = (0, 0, 0, 0, ⟨#[]⟩, 120) := by rw [dec, if_neg (by rw [hok]; exact Bool.false_ne_true)]
    rw [hd]
    generalize got (flds [8, 4, 4, 4] (Lib.trimPrefix L mark.data.toList)) = r at hR
    obtain ⟨c, g, n, p, tag⟩ := r
    simp only [] at hR ⊢
    by_cases hz : c = 0 ∧ g = 0 ∧ n = 0 ∧ p = 0 ∧ tag = ⟨#[]⟩
    · rw [if_pos hz]
    · rw [if_neg hz, right_eq]
      simp only [Option.bind_some]
      by_cases hr : right c g n p tag = true
      · obtain ⟨r1, r2, r3, r4, r5⟩ := right_iff.1 hr
        rw [if_pos hr, text_eq _ _ _ _ _ (by omega) (by omega) (by omega) (by omega) (by omega) (by omega) (by omega) (by omega)]
        simp only [Option.bind_some, Lib.toList_data, ba_mk]
        by_cases he : rb c.toNat g.toNat n.toNat p.toNat tag = L
        · exfalso
          obtain ⟨q1, q2, q3, q4, q5, q6, q7⟩ := rb_parts (tag := tag) (c := c.toNat) (g := g.toNat) (n := n.toNat) (p := p.toNat) (by omega) (by omega) (by omega) (by omega)
          rw [he] at q1 q2 q3 q4 q5 q6 q7
          have : ok L = true := by
            rw [ok_iff, q1, q2, q3, q4, q5]
            refine ⟨by omega, q6, ?_⟩
            rw [show ((c.toNat : Nat) : Int) = c by omega, show ((g.toNat : Nat) : Int) = g by omega, show ((n.toNat : Nat) : Int) = n by omega, show ((p.toNat : Nat) : Int) = p by omega]
            exact hr
          rw [this] at hok
          cases hok
        · rw [if_neg he]
      · rw [if_neg hr]

theorem get_l (t : ByteArray) : ∀ (m k acc : Nat), m < k → m ≤ 8 → m ≤ t.size → acc * 256 ^ m + num (t.data.toList.take m) < 18446744073709551616 →
    sphragisref15_get.l0 k t (acc : Int) ((m : Int) - 1) = some ((acc * 256 ^ m + num (t.data.toList.take m) : Nat) : Int) := by
  intro m
  induction m with
  | zero =>
    intro k acc hk _ _ _
    obtain ⟨k, rfl⟩ : ∃ j, k = j + 1 := ⟨k - 1, by omega⟩
    simp [sphragisref15_get.l0, num]
  | succ m ih =>
    intro k acc hk h8 hm hb
    obtain ⟨k, rfl⟩ : ∃ j, k = j + 1 := ⟨k - 1, by omega⟩
    simp only [sphragisref15_get.l0]
    have hlen : m < t.data.toList.length := by rw [← ba_size]; omega
    rw [if_pos (by omega), if_pos (by omega), if_pos (by omega)]
    rw [num_take_succ _ m hlen] at hb ⊢
    have hbt : bt t (((m + 1 : Nat) : Int) - 1) = ((t.data.toList.getD m 0).toNat : Int) := by
      have e1 : (((m + 1 : Nat) : Int) - 1).toNat = m := by omega
      unfold bt
      rw [e1]
      simp [ByteArray.get!, List.getD_eq_getElem?_getD, getElem!_def]
      rw [dif_pos (by omega), Array.getElem?_eq_getElem (by simpa using hlen)]
      rfl
    rw [hbt]
    have hx := (t.data.toList.getD m 0).toNat_lt
    generalize (t.data.toList.getD m 0).toNat = b at *
    have hpow : (256 : Nat) ^ (m + 1) = 256 ^ m * 256 := Nat.pow_succ _ _
    have hpos : 0 < (256 : Nat) ^ m := Nat.pow_pos (by omega)
    have hE : acc * 256 ^ (m + 1) + (num (t.data.toList.take m) + 256 ^ m * b) = (256 * acc + b) * 256 ^ m + num (t.data.toList.take m) := by
      rw [hpow, Nat.add_mul, Nat.mul_comm (256 ^ m) b, Nat.mul_comm (256 ^ m) 256, ← Nat.mul_assoc, Nat.mul_comm acc 256]
      omega
    rw [hE] at hb ⊢
    have hsm : 256 * acc + b < 18446744073709551616 := by
      have : (256 * acc + b) * 1 ≤ (256 * acc + b) * 256 ^ m := Nat.mul_le_mul_left _ hpos
      omega
    have e1 : IntKind.u64.wrap (IntKind.u64.wrap (256 * (acc : Int)) + IntKind.u64.wrap (b : Int)) = ((256 * acc + b : Nat) : Int) := by
      rw [u64_of (256 * (acc : Int)) (by omega) (by omega), u64_of (b : Int) (by omega) (by omega), u64_of _ (by omega) (by omega)]
      push_cast
      rfl
    have e2 : wrap64 (((m + 1 : Nat) : Int) - 1 - 1) = (m : Int) - 1 := by unfold wrap64; omega
    rw [e1, e2]
    exact ih k _ (by omega) (by omega) (by omega) hb

theorem get_eq (t : ByteArray) (k : Nat) (hk : 9 ≤ k) (h : t.size ≤ 8) : sphragisref15_get.f k t = some (num t.data.toList : Int) := by
  unfold sphragisref15_get.f
  have e : wrap64 ((t.size : Int) - 1) = (t.size : Int) - 1 := by unfold wrap64; omega
  have hl : t.data.toList.take t.size = t.data.toList := by rw [ba_size, List.take_length]
  have h1 := num_lt t.data.toList
  rw [← ba_size] at h1
  have h2 : (256 : Nat) ^ t.size ≤ 256 ^ 8 := Nat.pow_le_pow_right (by omega) h
  have h3 : (256 : Nat) ^ 8 = 18446744073709551616 := by decide
  rw [e]
  have := get_l t t.size k 0 (by omega) h (by omega) (by rw [hl]; omega)
  rw [hl] at this
  simpa using this

theorem refdec_eq (s : ByteArray) : sphragisref15_Decode.f 20 s = some (dec s.data.toList) := by
  unfold sphragisref15_Decode.f
  by_cases hl : s.size = 56
  · have hL : s.data.toList.length = 56 := by rw [← ba_size]; exact hl
    rw [if_pos (by omega), if_pos (by omega), if_pos (by omega)]
    have e4 : (s.extract 0 4).toList = s.data.toList.take 4 := by rw [Lib.toList_data, ba_ex, List.drop_zero]
    rw [e4]
    by_cases hm : s.data.toList.take 4 = [115, 112, 104, 114]
    · rw [hm]
      simp only [bne_self_eq_false, sphragisref15_Decode.j0, Bool.false_eq_true, if_false]
      rw [if_pos (by omega), if_pos (by omega), get_eq _ _ (by omega) (by simp; omega)]
      simp only [Option.bind_some]
      rw [if_pos (by omega), if_pos (by omega), get_eq _ _ (by omega) (by simp; omega)]
      simp only [Option.bind_some]
      rw [if_pos (by omega), if_pos (by omega), get_eq _ _ (by omega) (by simp; omega)]
      simp only [Option.bind_some]
      rw [if_pos (by omega), if_pos (by omega), get_eq _ _ (by omega) (by simp; omega)]
      simp only [Option.bind_some, ba_ex, List.drop_take]
      have hp := parts_lt s.data.toList
      have hT : s.extract 24 s.size = pT s.data.toList := by
        apply ba_ext
        rw [ba_ex, pT, ba_mk, ba_size, List.take_length]
      rw [hT]
      simp only [show (12 : Nat) - 4 = 8 from rfl, show (16 : Nat) - 12 = 4 from rfl, show (20 : Nat) - 16 = 4 from rfl, show (24 : Nat) - 20 = 4 from rfl]
      change Option.bind (sphragisref15_Right.f (pC s.data.toList : Int) ((pG s.data.toList : Int) % 4294967296) ((pN s.data.toList : Int) % 4294967296) ((pP s.data.toList : Int) % 4294967296) (pT s.data.toList)) (fun t207 => if t207 = true then some ((pC s.data.toList : Int), ((pG s.data.toList : Int) % 4294967296), ((pN s.data.toList : Int) % 4294967296), ((pP s.data.toList : Int) % 4294967296), pT s.data.toList, 0) else some (0, 0, 0, 0, ⟨#[]⟩, 120)) = _
      rw [show (pG s.data.toList : Int) % 4294967296 = pG s.data.toList by omega, show (pN s.data.toList : Int) % 4294967296 = pN s.data.toList by omega, show (pP s.data.toList : Int) % 4294967296 = pP s.data.toList by omega, right_ref]
      simp only [Option.bind_some]
      unfold dec ok
      rw [hL, hm]
      simp
      split <;> rfl
    · have : (s.data.toList.take 4 != ([115, 112, 104, 114] : List UInt8)) = true := by simpa using hm
      rw [this]
      simp only [sphragisref15_Decode.j0, if_true]
      rw [dec, if_neg]
      intro h
      exact hm (ok_iff.1 h).2.1
  · rw [if_neg (by omega)]
    simp only [sphragisref15_Decode.j0, if_true]
    rw [dec, if_neg]
    intro h
    have := ok_size h
    rw [← ba_size] at this
    exact hl this

theorem RootDecodes (s : ByteArray) (hs : s.size ≤ 140737488351232) : sphragislaw15_RootDecodes.f 20 s = some true := by
  unfold sphragislaw15_RootDecodes.f
  rw [shown_true, decode_eq s (by omega), refdec_eq]
  simp

theorem dec_short {L : List UInt8} (h : L.length ≠ 56) : dec L = (0, 0, 0, 0, ⟨#[]⟩, 120) := by
  rw [dec, if_neg]
  intro hk
  exact h (ok_size hk)

theorem RootEnds (c g n p : Int) (tag : ByteArray) (at_ b : Int) (hn : 0 ≤ n) (hg1 : g < 4294967296) (hp1 : p < 4294967296) :
    sphragislaw15_RootEnds.f 20 c g n p tag at_ b = some true := by
  unfold sphragislaw15_RootEnds.f
  rw [shown_true]
  cases h : right c g n p tag with
  | false => rw [encode_no h]; simp [sphragislaw15_RootEnds.j0]
  | true =>
    rw [encode_yes hn hg1 hp1 h]
    obtain ⟨h1, h2, h3, h4, h5⟩ := right_iff.1 h
    have hsz : (⟨(rb c.toNat g.toNat n.toNat p.toNat tag).toArray⟩ : ByteArray).size = 56 := by rw [ba_size, ba_mk, rb_length]; omega
    generalize (⟨(rb c.toNat g.toNat n.toNat p.toNat tag).toArray⟩ : ByteArray) = t at hsz
    simp only [Option.bind_some, if_true]
    by_cases a0 : at_ < 0
    · rw [if_pos a0]; simp [sphragislaw15_RootEnds.j0]
    · rw [if_neg a0]
      by_cases a1 : at_ ≥ 56
      · simp [sphragislaw15_RootEnds.j0, hsz, a1]
      · have e : decide (at_ ≥ (t.size : Int)) = false := by simp [hsz]; omega
        rw [e]
        simp only [sphragislaw15_RootEnds.j0, Bool.false_eq_true, if_false]
        have x1 : (t.extract 0 at_.toNat).size = at_.toNat := by rw [ByteArray.size_extract]; omega
        have x2 : (strOfNums [b]).size = 1 := by rw [strOfNums_size]; rfl
        rw [if_pos (by omega), if_pos (by omega), decode_eq _ (by omega), dec_short (by rw [← ba_size]; omega)]
        simp only [Option.bind_some]
        rw [if_pos (by omega), decode_eq _ (by rw [ByteArray.size_append]; omega), dec_short (by rw [← ba_size, ByteArray.size_append]; omega)]
        rfl

theorem slot_eq (c : Int) (hc : 0 ≤ c) (hc1 : c < 18446744073709551616) : root_Slot.f c = some (c % 2) := by
  unfold root_Slot.f
  rw [and_one_u64 c hc (by omega)]
  congr 1
  omega

theorem RootTurns (c g n p : Int) (tag : ByteArray) (g2 n2 p2 : Int) (tag2 : ByteArray) (hc : 0 ≤ c) (hc1 : c < 18446744073709551616) :
    sphragislaw15_RootTurns.f 20 c g n p tag g2 n2 p2 tag2 = some true := by
  unfold sphragislaw15_RootTurns.f
  rw [shown_true, next_eq c g2 n2 p2 tag2 hc hc1]
  simp only [Option.bind_some]
  by_cases e : c = 18446744073709551615
  · rw [if_pos e]
    simp
  · rw [if_neg e]
    by_cases hr : 0 ≤ n2 ∧ n2 ≤ 1000 ∧ right (c + 1) g2 n2 p2 tag2 = true
    · rw [if_pos hr]
      simp only [if_true]
      have hw : IntKind.u64.wrap (c + 1) = c + 1 := by rw [IntKind.wrap_u64]; omega
      rw [hw, if_pos rfl, slot_eq (c + 1) (by omega) (by omega), slot_eq c (by omega) (by omega)]
      simp only [Option.bind_some]
      rw [if_neg (by omega), if_pos (by omega), right_eq, hr.2.2]
      simp
    · rw [if_neg hr]
      simp

end Go.Proofs.Ytfbfpjgnplhodaa.H
