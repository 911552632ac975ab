/- A text's whole parts: the walk. -/
import Derived.Test.YtmkeiaomclpdfaaDoorG4
import Derived.Test.YtmkeiaomclpdfaaDoorRangeV
import Derived.Test.YtmkeiaomclpdfaaDoorP2
import Derived.TacticsInMore
import Derived.LoopNIn
import Derived.LoopIn
namespace Go.Proofs.YtmkeiaomclpdfaaDoor.H
open Go.RowKit Go.Shelf Go.Proofs.YtmkeiaomclpdfaaDoorW.PrintWords Go.Proofs.YtmkeiaomclpdfaaDoorW.PrintLast Go.Proofs.YtmkeiaomclpdfaaDoorW.PrintMore Go.Proofs.YtmkeiaomclpdfaaDoor.Plain Go.Proofs.YtmkeiaomclpdfaaDoor.RowOf
attribute [local go_sem] Oper.semAt_some
set_option linter.unusedVariables false
set_option linter.unusedSimpArgs false

set_option maxRecDepth 100000 in
set_option maxHeartbeats 1000000 in
theorem parts1 (g : Nat) (s : ByteArray) (w : World) (hg : Boxed w g 9 (.string s)) (hs : s.size ≤ 140737488355000) :
    SeqV Fence.wide 8 Tryd.prog 48 #[.pointer (some ⟨g, 0, none⟩)] (fun x : Nat × ByteArray => #[.int .i64 x.1, .string x.2])
      (fun _ _ => False) (fun A B => B.heap[g]? = A.heap[g]?)
      (fun xs => xs = prt s (s.size / 64)) (fun pre => ∃ k, k < s.size / 64 ∧ pre = prt s (k + 1)) (fun pre x => ∃ k, pre = prt s k ∧ 64 * k + 64 ≤ s.size ∧ x = (64 * k + 64, s.extract (64 * k) (64 * k + 64))) w := by
  intro l J Jx W hW hJ hJx hY h0
  have hgW : Boxed W g 9 (.string s) := (hW.block g hg.lt).trans hg
  refine callsIn_of_wp Tryd.func48 rfl trivial ?_ rfl
  simp only [Tryd.ntmps48, List.size_toArray, List.length_cons, List.length_nil, Nat.reduceAdd, Nat.reduceSub, Array.replicate_succ, Array.replicate_zero, List.push_toArray, List.append_toArray, List.nil_append, List.cons_append]
  gi_wp2
  gi_loopw [3] (fun v wr => ∃ k a : Nat, v = .int .i64 a ∧ a = 64 * k + 64 ∧ 64 * k ≤ s.size ∧ Boxed wr g 9 (.string s) ∧ J (prt s k) wr)
    (fun v wr => s.size + 64 - (intOf v).toNat)
  case atStart => exact ⟨0, 64, rfl, rfl, Nat.zero_le _, hgW, h0⟩
  case round =>
    obtain ⟨k, a, rfl, ha, hk, hb, hJs⟩ := hrel
    have hbc := hb.cell
    have hbf := hb.frozen
    by_cases hle : a ≤ s.size
    · obtain ⟨b, hbe⟩ : ∃ b : Nat, b = 64 * k := ⟨_, rfl⟩
      have hle2 : decide ((a : Int) ≤ (s.size : Int)) = true := decide_eq_true (by omega)
      have hle3 : (a : Int) ≤ (s.size : Int) := by omega
      have hb0 : (0 : Int) ≤ (b : Int) := by omega
      have hba : (b : Int) ≤ (a : Int) := by omega
      have hwb : IntKind.i64.wrap ((a : Int) - 64) = (b : Int) := by rw [i64_w]; unfold wrap64; omega
      have hnx : prt s (k + 1) = prt s k ++ [(a, s.extract b a)] := by rw [prt, ha, hbe]
      obtain ⟨fn, tmps, assign, body, hy, hR⟩ := hY (prt s k) (a, s.extract b a) wr hJs ⟨k, rfl, by omega, by rw [ha, hbe]⟩
      dsimp only at hy hR
      have Hnx := Lib.hid hnx
      have Ha := Lib.hid ha
      have Hbe := Lib.hid hbe
      clear hnx ha hbe
      gi_wp2
      refine hR.mono ?_
      rintro e W3 (⟨rfl, hJ3, hk3⟩ | ⟨rfl, hJx3⟩)
      · have hb3 : Boxed W3 g 9 (.string s) := hk3.trans hb
        gi_wp2
        have := Ha.out
        exact ⟨⟨k + 1, a + 64, by go_num, by omega, by omega, hb3, by rw [Hnx.out]; exact hJ3⟩, by simp [intOf]; omega⟩
      · gi_wp2
        refine bodyPost_ret (results_none rfl _ _ _) rfl ?_
        have := Ha.out
        exact ⟨⟨_, rfl⟩, .inr ⟨_, ⟨k, by omega, rfl⟩, by rw [Hnx.out]; exact hJx3⟩⟩
    · have hle2 : decide ((a : Int) ≤ (s.size : Int)) = false := decide_eq_false (by omega)
      gi_wp2
      go_end0
      exact ⟨⟨_, rfl⟩, .inl ⟨_, by rw [show s.size / 64 = k by omega], hJs⟩⟩

theorem parts_any (s : ByteArray) (w : World) : Calls Tryd.prog 39 #[.string s] w fun e w' =>
    e = .returned (.func (.func 48) #[] #[.pointer (some ⟨w.heap.size, 0, none⟩)]) ∧ w.alloc (.cells #[.string s] 9) = w' := by
  go_enter Tryd.func39, Tryd.ntmps39
  go_wp2
  go_ret
  exact ⟨rfl, rfl⟩

end Go.Proofs.YtmkeiaomclpdfaaDoor.H
