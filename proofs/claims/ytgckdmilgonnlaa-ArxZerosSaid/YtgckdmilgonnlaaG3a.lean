/- The words of texts: the iterator's contract. -/
import Derived.Test.YtgckdmilgonnlaaRange
import Derived.Test.YtgckdmilgonnlaaLe
import Derived.Test.YtgckdmilgonnlaaRowOf
import Derived.Test.YtgckdmilgonnlaaH1
import Derived.WalkKit
import Derived.OwnWalkIn
import Derived.TacticsInMore
import Derived.LoopNIn
import Derived.LoopIn
import Derived.Maps.AppendAt
import Derived.Shelf.RegionOpen
import Derived.Outline
import Derived.Lib.Hide
namespace Go.Proofs.Ytgckdmilgonnlaa.H
open Go.RowKit Go.Shelf Go.Proofs.YtgckdmilgonnlaaW.PrintWords Go.Proofs.YtgckdmilgonnlaaW.PrintLast Go.Proofs.YtgckdmilgonnlaaW.PrintMore Go.Proofs.Ytgckdmilgonnlaa.Le Go.Proofs.Ytgckdmilgonnlaa.RowOf
attribute [local go_sem] Oper.semAt_some
set_option linter.unusedVariables false
set_option linter.unusedSimpArgs false

/-- The first word of a text. -/
def wv (t : ByteArray) : Int := (arx_word.f t).getD 0
theorem word_eq (t : ByteArray) (h : 4 ≤ t.size) : arx_word.f t = some (wv t) := by
  unfold wv arx_word.f
  rw [if_pos (by omega), if_pos (by omega), if_pos (by omega), if_pos (by omega)]
  rfl
/-- The words of a text. -/
def wds : Nat → ByteArray → List Int
  | 0, _ => []
  | k + 1, t => if t.size < 4 then [] else wv t :: wds k (t.extract 4 t.size)

def allW (ts : List ByteArray) : List Int := (ts.map fun t => wds t.size t).flatten

theorem allW_take {ts : List ByteArray} {i : Nat} (h : i < ts.length) : allW ts = allW (ts.take i) ++ wds ts[i].size ts[i] ++ allW (ts.drop (i + 1)) := by
  have e : ts = ts.take i ++ ts[i] :: ts.drop (i + 1) := by rw [← List.drop_eq_getElem_cons h, List.take_append_drop]
  refine (congrArg allW e).trans ?_
  simp only [allW, List.map_append, List.map_cons, List.flatten_append, List.flatten_cons, List.append_assoc]
theorem allW_succ {ts : List ByteArray} {i : Nat} (h : i < ts.length) : allW (ts.take (i + 1)) = allW (ts.take i) ++ wds ts[i].size ts[i] := by
  rw [List.take_succ_eq_append_getElem h]
  simp only [allW, List.map_append, List.map_cons, List.map_nil, List.flatten_append, List.flatten_cons, List.flatten_nil, List.append_nil]

set_option maxRecDepth 100000 in
set_option maxHeartbeats 1000000 in
theorem words1 (g gs : Nat) (ts : List ByteArray) (w : World) (hg : Boxed w g 64 (.slice (some ⟨gs, 0, none⟩) ts.length ts.length)) (hs : w.heap[gs]? = some (.cells (ts.map Value.string).toArray 9 (0, 0))) (hl : ts.length ≤ 100) :
    SeqB Fence.wide 8 Try.prog 30 #[.pointer (some ⟨g, 0, none⟩)] (fun x : Int => #[.int .u32 x])
      (fun A B => ∃ n : Nat, B = A.drewN n) (fun A B => B.heap[gs]? = A.heap[gs]?)
      (fun xs => xs = allW ts) (fun pre => pre <+: allW ts) (allW ts).length w := by
  intro l J Jx W hW hJ hJx hY h0
  have hgW : Boxed W g 64 (.slice (some ⟨gs, 0, none⟩) ts.length ts.length) := (hW.block g hg.lt).trans hg
  have hsW : W.heap[gs]? = some (.cells (ts.map Value.string).toArray 9 (0, 0)) := (hW.block gs (Array.getElem?_eq_some_iff.1 hs).1).trans hs
  have hbc := hgW.cell
  refine callsIn_of_wp Try.func30 rfl trivial ?_ rfl
  simp only [Try.ntmps30, List.size_toArray, List.length_cons, List.length_nil, Nat.reduceAdd, Nat.reduceSub, Array.replicate_succ, Array.replicate_zero, List.push_toArray, List.append_toArray, List.nil_append, List.cons_append]
  gi_wp2
  gi_loopw [7] (fun vi wr => ∃ i : Nat, vi = .int .i64 i ∧ i ≤ ts.length ∧ wr.heap[gs]? = some (.cells (ts.map Value.string).toArray 9 (0, 0)) ∧ J (allW (ts.take i)) wr) (fun vi _ => ts.length - (intOf vi).toNat)
  case atStart => exact ⟨0, rfl, Nat.zero_le _, hsW, h0⟩
  case round =>
    obtain ⟨i, rfl, hi, hcs, hJs⟩ := hrel
    by_cases hie : i = ts.length
    · subst hie
      gi_wp2
      go_end0
      exact ⟨⟨_, rfl⟩, .inl ⟨_, rfl, by rw [List.take_length] at hJs; exact hJs⟩⟩
    · have hlt : decide ((i : Int) < (ts.length : Int)) = true := decide_eq_true (by omega)
      have hi0 : (0 : Int) ≤ (i : Int) := by omega
      have hi1 : (i : Int) < (ts.length : Int) := by omega
      have hi2 : i < ts.length := by omega
      have hcell : wr.cell? ⟨gs, i, none⟩ = some (.string ts[i]) := by
        simp [World.cell?, hcs, hi2]
      have htk := allW_take hi2
      have hsc := allW_succ hi2
      generalize ts[i] = s at *
      gi_wp2
      gi_loopw [4] (fun v4 wk => ∃ (k : Nat) (pre : List Int) (t : ByteArray), v4 = .string t ∧ t.size ≤ k ∧ wk.heap[gs]? = some (.cells (ts.map Value.string).toArray 9 (0, 0)) ∧ J pre wk ∧ allW (ts.take i) ++ wds s.size s = pre ++ wds k t) (fun v4 _ => match v4 with | .string t => t.size | _ => 0)
      case atStart => exact ⟨s.size, allW (ts.take i), s, rfl, Nat.le_refl _, hcs, hJs, rfl⟩
      case round =>
        obtain ⟨k, pre, t, rfl, hk, hcs2, hJ2, hpre⟩ := hrel
        by_cases h4 : 4 ≤ t.size
        · have hge : decide ((t.size : Int) ≥ 4) = true := decide_eq_true (by omega)
          have hge2 : decide ((4 : Int) ≤ t.size) = true := decide_eq_true (by omega)
          obtain ⟨k, rfl⟩ : ∃ k', k = k' + 1 := ⟨k - 1, by omega⟩
          have hw : wds (k + 1) t = wv t :: wds k (t.extract 4 t.size) := by rw [wds, if_neg (by omega)]
          have hlen : pre.length < (allW ts).length := by
            have e1 : (allW ts).length = (pre ++ wds (k + 1) t ++ allW (ts.drop (i + 1))).length := by rw [htk, hpre]
            rw [hw] at e1
            simp only [List.length_append, List.length_cons] at e1
            omega
          have hpx : allW ts = pre ++ [wv t] ++ (wds k (t.extract 4 t.size) ++ allW (ts.drop (i + 1))) := by
            rw [htk, hpre, hw]
            simp only [List.append_assoc, List.cons_append, List.nil_append]
          have hnx : allW (ts.take i) ++ wds s.size s = pre ++ [wv t] ++ wds k (t.extract 4 t.size) := by
            rw [hpre, hw]
            simp only [List.append_assoc, List.cons_append, List.nil_append]
          have Hpx := Lib.hid hpx
          have Hnx := Lib.hid hnx
          clear htk hsc hpre hw hpx hnx
          gi_wp2_with (refine ⟨trivial, ?_⟩; gi_at_call 31; refine (callsIn_wide.2 (arx_word.calls t (wv t) _ (word_eq t h4))).mono ?_; rintro e w' ⟨rfl, nd, rfl⟩; obtain ⟨fn, tmps, assign, body, hy, hRd⟩ := hY pre (wv t) (wr.drewN nd) (hJ _ _ _ hJ2 ⟨nd, rfl⟩) hlen; have hcs3 : (wr.drewN nd).heap[gs]? = _ := (by with_reducible exact blk_drewN hcs2 _))
          refine hRd.mono ?_
          rintro e W3 (⟨rfl, hJ3, hk3⟩ | ⟨rfl, hJx3⟩)
          · have hcs4 := hk3.trans hcs3
            have hx : (t.extract 4 t.size).size = t.size - 4 := by rw [ByteArray.size_extract]; omega
            gi_wp2
            exact ⟨⟨k, _, t.extract 4 t.size, rfl, by omega, hcs4, hJ3, Hnx.out⟩, by show (t.extract 4 t.size).size < t.size; rw [hx]; omega⟩
          · gi_wp2
            refine bodyPost_ret (results_none rfl _ _ _) rfl ?_
            exact ⟨⟨_, rfl⟩, .inr ⟨_, by rw [Hpx.out]; exact List.prefix_append _ _, hJx3⟩⟩
        · have hge : decide ((t.size : Int) ≥ 4) = false := decide_eq_false (by omega)
          have hge2 : decide ((4 : Int) ≤ t.size) = false := decide_eq_false (by omega)
          have hge3 : ¬ ((4 : Int) ≤ t.size) := by omega
          have hw : wds k t = [] := by
            cases k with
            | zero => rfl
            | succ k => rw [wds, if_pos (by omega)]
          have hJ4 : J (allW (ts.take (i + 1))) wr := by
            rw [hsc, hpre, hw, List.append_nil]
            exact hJ2
          clear htk hsc hpre hw
          gi_wp2
          exact ⟨⟨i + 1, by go_num, by omega, hcs2, hJ4⟩, by simp [intOf]; omega⟩

end Go.Proofs.Ytgckdmilgonnlaa.H
