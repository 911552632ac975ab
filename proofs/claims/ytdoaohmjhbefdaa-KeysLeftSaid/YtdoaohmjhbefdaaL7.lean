/- KeysLeft: the walk. -/
import Derived.Test.YtdoaohmjhbefdaaL6
namespace Go.Proofs.Ytdoaohmjhbefdaa.H
open Go.RowKit Go.Shelf Go.Proofs.YtdoaohmjhbefdaaW.PrintWords Go.Proofs.YtdoaohmjhbefdaaW.PrintLast Go.Proofs.YtdoaohmjhbefdaaW.PrintMore Go.Proofs.Ytdoaohmjhbefdaa.CopyK
attribute [local go_sem] Oper.semAt_some
set_option linter.unusedVariables false
set_option linter.unusedSimpArgs false
set_option maxRecDepth 100000

theorem allOK_mono (l : List S25) (b b' : Int) (h : b ≤ b') (hl : allOK b' l = true) : allOK b l = true := by
  cases l with
  | nil => rfl
  | cons x l =>
    rw [allOK, okK, Bool.and_eq_true, Bool.and_eq_true, decide_eq_true_iff] at hl ⊢
    exact ⟨⟨by omega, hl.1.2⟩, hl.2⟩
theorem allOK_drop (i : Nat) : ∀ (l : List S25) (b : Int), allOK b l = true → allOK b (l.drop i) = true := by
  induction i with
  | zero => intro l b h; exact h
  | succ i ih =>
    intro l b h
    cases l with
    | nil => exact h
    | cons x l =>
      obtain ⟨h1, h2⟩ := allOK_cons h
      rw [List.drop_succ_cons]
      exact ih l b (allOK_mono l b x.f0 (by omega) h2)
theorem right_drop {l : List S25} (h : rightB l = true) (i : Nat) : rightB (l.drop i) = true := by
  have h1 := rightB_len h
  rw [rightB_eq, Bool.and_eq_true, decide_eq_true_iff]
  exact ⟨by rw [List.length_drop]; omega, allOK_drop i l 0 (rightB_all h)⟩
theorem left_new {l : List S25} (h : rightB l = true) (i : Nat) (hi : i < l.length) : newOf (l.drop i) = ((rd_T25 l ((l.length : Int) - 1)).f0, 0) := by
  have hl := List.length_drop (i := i) (l := l)
  rw [newOf, if_pos (right_drop h i), if_neg (by omega)]
  have : rd_T25 (l.drop i) (((l.drop i).length : Int) - 1) = rd_T25 l ((l.length : Int) - 1) := by
    unfold rd_T25
    rw [List.getD_eq_getElem?_getD, List.getD_eq_getElem?_getD, List.getElem?_drop, show i + (((l.drop i).length : Int) - 1).toNat = ((l.length : Int) - 1).toNat by omega]
  rw [this]
theorem left_parts {l : List S25} (h : rightB l = true) (i : Nat) (hi : i < l.length) : allOK (rd_T25 l (i : Int)).f0 (l.drop (i + 1)) = true ∧ l.drop i = rd_T25 l (i : Int) :: l.drop (i + 1) := by
  have hd := rd_drop l i hi
  have h2 := allOK_drop i l 0 (rightB_all h)
  rw [hd] at h2
  exact ⟨(allOK_cons h2).2, hd⟩
theorem left_drop {l : List S25} (h : rightB l = true) (i : Nat) (hi : i < l.length) : dropOf (l.drop i) (rd_T25 l (i : Int)).f0 = (l.drop (i + 1), 0) := by
  obtain ⟨h1, h2⟩ := left_parts h i hi
  have hr := right_drop h i
  rw [h2] at hr ⊢
  rw [dropOf, findOf_right hr, findR, if_pos rfl, without_cons, if_pos rfl, without_all _ _ _ (Int.le_refl _) h1]
  rfl
theorem left_find {l : List S25} (h : rightB l = true) (i : Nat) (hi : i < l.length) : findOf (l.drop (i + 1)) (rd_T25 l (i : Int)).f0 = (0, ⟨#[]⟩, 41) := by
  obtain ⟨h1, h2⟩ := left_parts h i hi
  rw [findOf_right (right_drop h (i + 1)), findR_none _ _ _ (Int.le_refl _) h1]
  rfl
theorem new_nil : newOf [] = (0, 41) := by decide +kernel

set_option maxHeartbeats 8000000 in
theorem KeysLeft_walk (A0 : Option Addr) (n c0 : Nat) (L : List S25) (W : World) (hn : n ≤ c0) (hL : L.length = min n 30) (hC : Kd.C k25 W A0 L.length L) :
    Calls Try.prog 8 #[.slice A0 n c0] W fun e W' => e = .returned (.bool true) ∧ Below W.heap.size W W' := by
  obtain ⟨b, hb⟩ : ∃ b, rightB L = b := ⟨_, rfl⟩
  have hl : L.length ≤ 30 := by omega
  have hc : L.length ≤ c0 := by omega
  have Hb := Lib.hid hb
  have HL := Lib.hid hL
  have HC := Lib.hid hC
  clear hb hL hC
  cases b with
  | false =>
    go_enter Try.func8, Try.ntmps8
    go_wp2_with fail
    refine (shown_ok _).mono ?_
    rintro r w1 ⟨rfl, hb1⟩
    go_wp2_with fail
    refine (cut_calls _ _ _ hn _).mono ?_
    rintro r w2 ⟨rfl, hb2⟩
    rw [← HL.out]
    have hB2 := hb1.trans (hb2.mono hb1.size)
    clear hb1 hb2
    go_wp2_with fail
    refine (right_ok A0 c0 L false _ (Kd.C_below HC.out hB2) hc (by omega) Hb.out).mono ?_
    rintro r w3 ⟨rfl, hb3⟩
    have hB3 := hB2.trans (hb3.mono hB2.size)
    clear hb3 hB2
    go_wp2
    go_ret
    exact ⟨rfl, hB3⟩
  | true =>
    go_enter Try.func8, Try.ntmps8
    go_wp2_with fail
    refine (shown_ok _).mono ?_
    rintro r w1 ⟨rfl, hb1⟩
    go_wp2_with fail
    refine (cut_calls _ _ _ hn _).mono ?_
    rintro r w2 ⟨rfl, hb2⟩
    rw [← HL.out]
    have hB2 := hb1.trans (hb2.mono hb1.size)
    clear hb1 hb2
    go_wp2_with fail
    refine (right_ok A0 c0 L true _ (Kd.C_below HC.out hB2) hc (by omega) Hb.out).mono ?_
    rintro r w3 ⟨rfl, hb3⟩
    have hB3 := hB2.trans (hb3.mono hB2.size)
    clear hb3 hB2
    go_wp2
    go_loopw [4, 5] (fun v4 v5 wr => ∃ (i : Nat) (Am : Option Addr) (cm : Nat), v4 = .slice Am (L.drop i).length cm ∧ v5 = .int .i64 i ∧ i ≤ L.length ∧ Kd.C k25 wr Am (L.drop i).length (L.drop i) ∧ (L.drop i).length ≤ cm ∧ Below W.heap.size W wr) (fun v4 v5 _ => L.length - (intOf v5).toNat)
    case atStart => exact ⟨0, A0, c0, rfl, rfl, Nat.zero_le _, Kd.C_below HC.out hB3, hc, hB3⟩
    case round =>
      obtain ⟨i, Am, cm, rfl, rfl, hi, hCm, hcm, hB⟩ := hrel
      by_cases hie : i = L.length
      · subst hie
        have hd : L.drop L.length = [] := List.drop_length
        rw [hd] at hCm hcm ⊢
        go_wp2_with fail
        refine (newest_ok Am cm [] 0 41 _ hCm hcm (by decide) new_nil).mono ?_
        rintro r w4 ⟨rfl, hb4⟩
        have hB4 := hB.trans (hb4.mono hB.size)
        go_wp2
        go_ret
        exact ⟨rfl, hB4⟩
      · have hlt : i < L.length := by omega
        have hi0 : (0 : Int) ≤ (i : Int) := by omega
        have hi1 : (i : Int) < (L.length : Int) := by omega
        have hdl : (L.drop i).length ≤ 400 := by rw [List.length_drop]; omega
        have hdl2 : (L.drop (i + 1)).length ≤ 400 := by rw [List.length_drop]; omega
        have hln : ((L.drop (i + 1)).length : Int) = wrap64 (((L.drop i).length : Int) - 1) := by rw [List.length_drop, List.length_drop]; unfold wrap64; omega
        have hjw : wrap64 ((L.length : Int) - 1) = (L.length : Int) - 1 := by unfold wrap64; omega
        have hj0 : (0 : Int) ≤ wrap64 ((L.length : Int) - 1) := by rw [hjw]; omega
        have hj1 : wrap64 ((L.length : Int) - 1) < (L.length : Int) := by rw [hjw]; omega
        have hn1 := left_new Hb.out i hlt
        rw [← hjw] at hn1
        clear hjw
        obtain ⟨jj, hjj⟩ : ∃ j_ : Int, wrap64 ((L.length : Int) - 1) = j_ := ⟨_, rfl⟩
        have hjjw : (IntKind.i64.wrap ((L.length : Int) - 1)) = jj := (i64_w _).trans hjj
        rw [hjj] at hn1 hj0 hj1
        clear hjj
        have hd1 := left_drop Hb.out i hlt
        have hf1 := left_find Hb.out i hlt
        obtain ⟨x, hx⟩ : ∃ x, (rd_T25 L (i : Int)).f0 = x := ⟨_, rfl⟩
        obtain ⟨y, hy⟩ : ∃ y, (rd_T25 L (jj)).f0 = y := ⟨_, rfl⟩
        rw [hy] at hn1
        rw [hx] at hd1 hf1
        have cells : ∀ W', Below W.heap.size W W' → ∃ ad, A0 = some ad ∧ W'.cell? (ad.add (i * 2)) = some (.int .u32 x) ∧ W'.cell? (ad.add ((jj).toNat * 2)) = some (.int .u32 y) := fun W' hW' => by
          obtain ⟨ad, e1, e2, _⟩ := at_T25 (Kd.C_below HC.out hW') (i : Int) hi0 (by simpa using hi1)
          obtain ⟨ad', e1', e2', _⟩ := at_T25 (Kd.C_below HC.out hW') (jj) hj0 (by simpa using hj1)
          rw [e1] at e1'
          cases e1'
          rw [hx, Int.toNat_natCast] at e2
          rw [hy] at e2'
          exact ⟨ad, e1, e2, e2'⟩
        obtain ⟨m, hm⟩ : ∃ m, L.drop i = m := ⟨_, rfl⟩
        obtain ⟨m', hm'⟩ : ∃ m', L.drop (i + 1) = m' := ⟨_, rfl⟩
        rw [hm] at hCm hcm hdl hln hn1 hd1 ⊢
        rw [hm'] at hdl2 hln hd1 hf1
        have hmw : (IntKind.i64.wrap ((m.length : Int) - 1)) = (m'.length : Int) := (i64_w _).trans hln.symm
        have hmn : ((m'.length : Int) != (m'.length : Int)) = false := by simp
        clear hln
        obtain ⟨ad, rfl, _⟩ := cells _ hB
        replace hj0 := eq_true hj0
        replace hj1 := eq_true hj1
        have hlt1 : decide ((i : Int) < (L.length : Int)) = true := decide_eq_true hi1
        have Hn1 := Lib.hid hn1
        have Hd1 := Lib.hid hd1
        have Hf1 := Lib.hid hf1
        have Hce := Lib.hid cells
        have Hx := Lib.hid hx
        have Hm' := Lib.hid hm'
        clear hn1 hd1 hf1 cells hx hy hm hm'
        go_wp2_with fail
        refine (newest_ok Am cm m y 0 _ hCm hcm hdl Hn1.out).mono ?_
        rintro r w4 ⟨rfl, hb4⟩
        have hB4 := hB.trans (hb4.mono hB.size)
        have hC4 := Kd.C_below hCm hb4
        clear hb4
        obtain ⟨ad4, e4, c4, c5⟩ := Hce.out _ hB4
        cases e4
        go_wp2_with fail
        refine (drop_ok Am cm m x m' 0 _ hC4 hcm hdl Hd1.out).mono ?_
        rintro r w5 ⟨v5, rfl, hv5, hb5⟩
        have hB5 := hB4.trans (hb5.mono hB4.size)
        obtain ⟨A5, k5, rfl, hl5, hC5⟩ := Kd.R_reads hv5
        clear hb5 c4 c5 hv5 hC4
        obtain ⟨ad5, e5, c4, c5⟩ := Hce.out _ hB5
        cases e5
        go_wp2_with fail
        refine (find_ok A5 k5 m' x 0 ⟨#[]⟩ 41 _ hC5 hl5 hdl2 Hf1.out).mono ?_
        rintro r w6 ⟨rfl, hb6⟩
        have hB6 := hB5.trans (hb6.mono hB5.size)
        have hC6 := Kd.C_below hC5 hb6
        clear hb6 c4 c5 hC5
        have hbo : Below w6.heap.size w6 (w6.alloc (Obj.cells #[.int .u32 0, .string ⟨#[]⟩] 25 (0, 0))) := (Below.refl _ _).alloc (Nat.le_refl _) _
        have hB7 := hB6.trans (hbo.mono hB6.size)
        have hC7 := Kd.C_below hC6 hbo
        clear hbo hC6 hB6
        obtain ⟨ad6, e6, c4, c5⟩ := Hce.out _ hB7
        cases e6
        go_wp2
        exact ⟨⟨i + 1, A5, k5, by rw [Hm'.out], by go_num, by omega, by rw [Hm'.out]; exact hC7, by rw [Hm'.out]; exact hl5, hB7⟩, by simp [intOf]; omega⟩

end Go.Proofs.Ytdoaohmjhbefdaa.H
