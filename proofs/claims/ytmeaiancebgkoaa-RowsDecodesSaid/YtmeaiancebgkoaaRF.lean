/- Whether one of some refs is wrong: the walk over slices.ContainsFunc. -/
import Derived.Test.YtmeaiancebgkoaaH4
import Derived.WalkKit
import Derived.OwnWalkIn
import Derived.Lib.Hide
namespace Go.Proofs.Ytmeaiancebgkoaa.H
open Go.RowKit Go.Proofs.YtmeaiancebgkoaaW.PrintWords Go.Proofs.YtmeaiancebgkoaaW.PrintLast Go.Proofs.YtmeaiancebgkoaaW.PrintMore
attribute [local go_sem] Oper.semAt_some
set_option linter.unusedVariables false
set_option linter.unusedSimpArgs false

def wrongR (x : S28) : Bool := !(decide (2 ≤ x.f0) && ((x.f1.size : Int) == 32))
theorem rightRef_f (x : Int) (s : ByteArray) : rows_RightRef.f x s = some (decide (2 ≤ x) && ((s.size : Int) == 32)) := by
  unfold rows_RightRef.f
  by_cases h : 2 ≤ x
  · rw [if_pos h, decide_eq_true h]; rfl
  · rw [if_neg h, decide_eq_false h]; rfl

theorem wrong1 (x : S28) (w : World) :
    Calls Try.prog 24 #[.agg #[.int .u32 x.f0, .string x.f1]] w fun e w' => e = .returned (.bool (wrongR x)) ∧ Below w.heap.size w w' := by
  obtain ⟨a, s⟩ := x
  have hc := rows_RightRef.calls a s _ (w.alloc (.cells #[.int .u32 a, .string s] 28)) (rightRef_f a s)
  obtain ⟨b, hb⟩ : ∃ b, (decide (2 ≤ a) && ((s.size : Int) == 32)) = b := ⟨_, rfl⟩
  rw [hb] at hc
  have hw : wrongR ⟨a, s⟩ = !b := by rw [wrongR, hb]
  rw [hw]
  clear hw hb
  go_enter Try.func24, Try.ntmps24
  go_wp2_with fail
  refine hc.mono ?_
  rintro e w1 ⟨rfl, hb1⟩
  go_wp2
  go_ret
  have h0 : Below w.heap.size w (w.alloc (.cells #[.int .u32 a, .string s] 28)) := (Below.refl _ _).alloc (Nat.le_refl _) _
  exact ⟨rfl, h0.trans (hb1.mono h0.size)⟩

set_option maxRecDepth 100000 in
set_option maxHeartbeats 1000000 in
theorem indexFunc_wrong (A0 : Option Addr) (c0 : Nat) (l : List S28) (w : World) (hr : Kd.C k28 w A0 l.length l) (hl : l.length ≤ 5864062014805) :
    Calls Try.prog 39 #[.slice A0 l.length c0, .func (.func 24) #[] #[]] w fun e w' => ∃ i : Int, e = .returned (.int .i64 i) ∧ decide (i ≥ 0) = l.any wrongR ∧ Below w.heap.size w w' := by
  have Hr := Lib.hid hr
  clear hr
  go_enter Try.func39, Try.ntmps39
  go_wp2
  go_loopw [8] (fun v wr => ∃ i : Nat, v = .int .i64 i ∧ i ≤ l.length ∧ (l.take i).any wrongR = false ∧ Below w.heap.size w wr) (fun v _ => l.length - (intOf v).toNat)
  case atStart => exact ⟨0, rfl, Nat.zero_le _, rfl, Below.refl _ _⟩
  case round =>
    obtain ⟨i, rfl, hi, hq, hB⟩ := hrel
    have Hq := Lib.hid hq
    clear hq
    by_cases hie : i = l.length
    · subst hie
      go_wp2
      go_ret
      have hq := Hq.out
      rw [List.take_length] at hq
      exact ⟨-1, rfl, by rw [hq]; rfl, hB⟩
    · have hlt : decide ((i : Int) < (l.length : Int)) = true := decide_eq_true (by omega)
      have hi0 : (0 : Int) ≤ (i : Int) := by omega
      have hi1 : (i : Int) < (l.length : Int) := by omega
      obtain ⟨ad, rfl, hc0, hc1⟩ := at_T28 (Kd.C_below Hr.out hB) (i : Int) hi0 (by simpa using hi1)
      rw [Int.toNat_natCast] at hc0 hc1
      have hx : rd_T28 l (i : Int) = l[i] := by
        rw [rd_T28, Int.toNat_natCast, List.getD_eq_getElem?_getD, List.getElem?_eq_getElem (by omega)]
        rfl
      have hp1 := wrong1 (rd_T28 l i) wr
      have hmem : wrongR (rd_T28 l i) = true → l.any wrongR = true := fun h => List.any_eq_true.2 ⟨l[i], List.getElem_mem _, by rw [← hx]; exact h⟩
      have hnx : wrongR (rd_T28 l i) = false → (l.take (i + 1)).any wrongR = false := fun h => by
        rw [List.take_succ_eq_append_getElem (by omega), List.any_append, Hq.out, ← hx]
        simp [h]
      obtain ⟨b, hb⟩ : ∃ b, wrongR (rd_T28 l i) = b := ⟨_, rfl⟩
      rw [hb] at hp1 hnx hmem
      have Hb := Lib.hid hb
      have Hnx := Lib.hid hnx
      have Hm := Lib.hid hmem
      have Hp1 := Lib.hid hp1
      clear hb hnx hp1 hmem hx
      cases b with
      | true =>
        go_wp2_with (go_at_call 24; refine Hp1.out.mono ?_; rintro e w1 ⟨rfl, hb1⟩)
        go_ret
        exact ⟨(i : Int), rfl, by rw [Hm.out (by trivial)]; exact decide_eq_true hi0, hB.trans (hb1.mono hB.size)⟩
      | false =>
        go_wp2_with (go_at_call 24; refine Hp1.out.mono ?_; rintro e w1 ⟨rfl, hb1⟩)
        exact ⟨⟨i + 1, by go_num, by omega, Hnx.out (by trivial), hB.trans (hb1.mono hB.size)⟩, by simp [intOf]; omega⟩

def api_Ref.f (l : List S28) : Option Bool := if l.length ≤ 1000 then some (l.any wrongR) else none
theorem api_Ref.calls (A0 : Option Addr) (c0 : Nat) (l0 : List (S28)) (r : Bool) (w : World) (hr0 : Kd.C k28 w A0 l0.length l0) (hc0 : l0.length ≤ c0) (h : api_Ref.f l0 = some r) :
    Calls Try.prog 23 #[.slice A0 l0.length c0, .func (.func 24) #[] #[]] w fun e w' => e = .returned (.bool r) ∧ Below w.heap.size w w' := by
  unfold api_Ref.f at h
  split at h
  · rename_i hl
    obtain rfl := Option.some.inj h
    have hi := indexFunc_wrong A0 c0 l0 w hr0 (by omega)
    obtain ⟨b, hb⟩ : ∃ b, l0.any wrongR = b := ⟨_, rfl⟩
    rw [hb] at hi ⊢
    clear hb h hr0
    go_enter Try.func23, Try.ntmps23
    go_wp2_with fail
    refine hi.mono ?_
    rintro e w1 ⟨i, rfl, hd, hb1⟩
    go_wp2
    go_ret
    exact ⟨rfl, hb1⟩
  · cases h
end Go.Proofs.Ytmeaiancebgkoaa.H
