/- pad.Cut: a text's parts: the walk. -/
import Derived.Test.YtnadbgcllejleaaRange
import Derived.Test.YtnadbgcllejleaaLe
import Derived.Test.YtnadbgcllejleaaH0
import Derived.WalkKit
import Derived.OwnWalkIn
import Derived.TacticsInMore
import Derived.LoopNIn
import Derived.LoopIn
import Derived.Maps.AppendAt
import Derived.Shelf.RegionOpen
import Derived.Outline
import Derived.Lib.Hide
namespace Go.Proofs.Ytnadbgcllejleaa.H
open Go.RowKit Go.Shelf Go.Proofs.YtnadbgcllejleaaW.PrintWords Go.Proofs.YtnadbgcllejleaaW.PrintLast Go.Proofs.YtnadbgcllejleaaW.PrintMore Go.Proofs.Ytnadbgcllejleaa.Le
attribute [local go_sem] Oper.semAt_some min2_int min_two
set_option linter.unusedVariables false
set_option linter.unusedSimpArgs false

/-- The parts of a text. -/
def pch : Nat → List UInt8 → List ByteArray
  | 0, _ => []
  | k + 1, L => if L.length = 0 then [] else ⟨(L.take 198).toArray⟩ :: pch k (L.drop 198)

theorem pch_nil (k : Nat) : pch k [] = [] := by cases k <;> simp [pch]
theorem pch_len (k : Nat) : ∀ L : List UInt8, (pch k L).length ≤ L.length := by
  induction k with
  | zero => intro L; simp [pch]
  | succ k ih =>
    intro L
    rw [pch]
    split
    · simp
    · have := ih (L.drop 198)
      simp only [List.length_cons, List.length_drop] at *
      omega
/-- Behind a short part there is none. -/
theorem pch_short {k : Nat} : ∀ {L : List UInt8} {pre rest : List ByteArray} {x : ByteArray}, pch k L = pre ++ x :: rest → x.size < 198 → rest = [] := by
  induction k with
  | zero => intro L pre rest x h _; simp [pch] at h
  | succ k ih =>
    intro L pre rest x h hx
    rw [pch] at h
    split at h
    · simp at h
    · cases pre with
      | nil =>
        obtain ⟨h1, h2⟩ := List.cons.inj h
        subst h1
        rw [ba_size, ba_mk, List.length_take] at hx
        rw [← h2, List.drop_eq_nil_of_le (by omega), pch_nil]
      | cons y pre => exact ih (List.cons.inj h).2 hx

def leftIn (g : Nat) (W : World) : Nat := match W.cell? ⟨g, 0, none⟩ with
  | some (.string t) => t.size
  | _ => 0

theorem leftIn_boxed {g : Nat} {W : World} {t : ByteArray} (h : Boxed W g 9 (.string t)) : leftIn g W = t.size := by
  unfold leftIn
  rw [h.cell]

set_option maxRecDepth 100000 in
set_option maxHeartbeats 1000000 in
theorem parts1 (g : Nat) (s : ByteArray) (w : World) (hg : Boxed w g 9 (.string s)) (hs : s.size ≤ 140737488355000) :
    SeqB Fence.wide 8 Try.prog 26 #[.pointer (some ⟨g, 0, none⟩)] (fun x : ByteArray => #[.string x])
      (fun A B => ∃ t : ByteArray, B = A.setCell ⟨g, 0, none⟩ (.string t)) (fun A B => B.heap[g]? = A.heap[g]?)
      (fun xs => xs = pch s.size s.data.toList) (fun pre => pre <+: pch s.size s.data.toList) s.size w := by
  intro l J Jx W hW hJ hJx hY h0
  have hgW : Boxed W g 9 (.string s) := (hW.block g hg.lt).trans hg
  refine callsIn_of_wp Try.func26 rfl trivial ?_ rfl
  simp only [Try.ntmps26, List.size_toArray, List.length_cons, List.length_nil, Nat.reduceAdd, Nat.reduceSub, Array.replicate_succ, Array.replicate_zero, List.push_toArray, List.append_toArray, List.nil_append, List.cons_append]
  gi_wp2
  gi_loopw [3] (fun _ wr => ∃ (k : Nat) (pre : List ByteArray) (t : ByteArray), t.size ≤ k ∧ pre.length + t.size ≤ s.size ∧ t.size ≤ s.size ∧ Boxed wr g 9 (.string t) ∧ J pre wr ∧
      pch s.size s.data.toList = pre ++ pch k t.data.toList)
    (fun _ wr => leftIn g wr)
  case atStart => exact ⟨s.size, [], s, Nat.le_refl _, by simp, Nat.le_refl _, hgW, h0, rfl⟩
  case round =>
    obtain ⟨k, pre, t, hk, hpt, hts, hb, hJs, hfl⟩ := hrel
    have hbc := hb.cell
    have hbf := hb.frozen
    by_cases ht0 : t = ⟨#[]⟩
    · subst ht0
      gi_wp2
      go_end0
      exact ⟨⟨_, rfl⟩, .inl (by rw [pch_nil, List.append_nil]; exact hJs)⟩
    · have hpos : 0 < t.size := by
        rcases Nat.eq_zero_or_pos t.size with h | h
        · rw [ba_size] at h
          exact absurd (ba_ext (b := ⟨#[]⟩) (List.eq_nil_of_length_eq_zero h)) ht0
        · exact h
      have hL : t.toList ≠ [] := by
        intro h
        rw [Lib.toList_data] at h
        rw [ba_size, h] at hpos
        cases hpos
      have hne : (t.toList == ([] : List UInt8)) = false := beq_eq_false_iff_ne.2 hL
      have hne2 : (t.toList != ([] : List UInt8)) = true := bne_iff_ne.2 hL
      have hLt : t.data.toList.length = t.size := (ba_size t).symm
      obtain ⟨k, rfl⟩ : ∃ k', k = k' + 1 := ⟨k - 1, by omega⟩
      by_cases h198 : t.size ≤ 198
      · have hc1 : decide ((198 : Int) < t.size) = false := decide_eq_false (by omega)
        have hc2 : ¬ ((198 : Int) < t.size) := by omega
        have hfin : pch s.size s.data.toList = pre ++ [t] ++ pch k ByteArray.empty.data.toList := by
          have e1 : (⟨(t.data.toList.take 198).toArray⟩ : ByteArray) = t := ba_ext (by rw [ba_mk, List.take_of_length_le (by omega)])
          have e2 : ByteArray.empty.data.toList = [] := rfl
          rw [hfl, pch, if_neg (by omega), e1, e2, List.drop_eq_nil_of_le (by omega), List.append_assoc]
          rfl
        obtain ⟨fn, tmps, assign, body, hy, hR⟩ := hY pre t wr hJs (by omega)
        have Hfin := Lib.hid hfin
        clear hfl hfin
        gi_wp2
        refine hR.mono ?_
        rintro e W3 (⟨rfl, hJ3, hk3⟩ | ⟨rfl, hJx3⟩)
        · have hbc3 : W3.cell? ⟨g, 0, none⟩ = some (.string t) := (show Boxed W3 g 9 (.string t) from hk3.trans hb).cell
          have hbf3 := (show Boxed W3 g 9 (.string t) from hk3.trans hb).frozen
          gi_wp2
          have hb3 : Boxed (W3.setCell ⟨g, 0, none⟩ (.string ByteArray.empty)) g 9 (.string ByteArray.empty) := (show Boxed W3 g 9 (.string t) from hk3.trans hb).set _
          refine ⟨⟨k, _, ByteArray.empty, Nat.zero_le _, by simp only [List.length_append, List.length_singleton]; show pre.length + 1 + 0 ≤ s.size; omega, Nat.zero_le _, hb3, hJ _ _ _ hJ3 ⟨_, rfl⟩, Hfin.out⟩, ?_⟩
          rw [leftIn_boxed hb3, leftIn_boxed hb]
          exact hpos
        · gi_wp2
          refine bodyPost_ret (results_none rfl _ _ _) rfl ?_
          exact ⟨⟨_, rfl⟩, .inr ⟨_, by rw [Hfin.out]; exact List.prefix_append _ _, hJx3⟩⟩
      · have hc1 : decide ((198 : Int) < t.size) = true := decide_eq_true (by omega)
        have hc2 : (198 : Int) < t.size := by omega
        have hc3 : ((198 : Int) ≤ t.size) := by omega
        have hfin : pch s.size s.data.toList = pre ++ [t.extract 0 198] ++ pch k (t.extract 198 t.size).data.toList := by
          have e1 : (⟨(t.data.toList.take 198).toArray⟩ : ByteArray) = t.extract 0 198 := ba_ext (by rw [ba_mk, ba_ex, List.drop_zero])
          have e2 : (t.extract 198 t.size).data.toList = t.data.toList.drop 198 := by rw [ba_ex, List.take_of_length_le (by omega)]
          rw [hfl, pch, if_neg (by omega), e1, e2, List.append_assoc]
          rfl
        obtain ⟨fn, tmps, assign, body, hy, hR⟩ := hY pre (t.extract 0 198) wr hJs (by omega)
        have Hfin := Lib.hid hfin
        clear hfl hfin
        gi_wp2
        refine hR.mono ?_
        rintro e W3 (⟨rfl, hJ3, hk3⟩ | ⟨rfl, hJx3⟩)
        · have hbc3 : W3.cell? ⟨g, 0, none⟩ = some (.string t) := (show Boxed W3 g 9 (.string t) from hk3.trans hb).cell
          have hbf3 := (show Boxed W3 g 9 (.string t) from hk3.trans hb).frozen
          gi_wp2
          have hb3 : Boxed (W3.setCell ⟨g, 0, none⟩ (.string (t.extract 198 t.size))) g 9 (.string (t.extract 198 t.size)) := (show Boxed W3 g 9 (.string t) from hk3.trans hb).set _
          have hx : (t.extract 198 t.size).size = t.size - 198 := by rw [ByteArray.size_extract]; omega
          refine ⟨⟨k, _, t.extract 198 t.size, by omega, by simp only [List.length_append, List.length_singleton]; omega, by omega, hb3, hJ _ _ _ hJ3 ⟨_, rfl⟩, Hfin.out⟩, ?_⟩
          rw [leftIn_boxed hb3, leftIn_boxed hb]
          omega
        · gi_wp2
          refine bodyPost_ret (results_none rfl _ _ _) rfl ?_
          exact ⟨⟨_, rfl⟩, .inr ⟨_, by rw [Hfin.out]; exact List.prefix_append _ _, hJx3⟩⟩

theorem parts_any (s : ByteArray) (w : World) : Calls Try.prog 19 #[.string s] w fun e w' =>
    e = .returned (.func (.func 26) #[] #[.pointer (some ⟨w.heap.size, 0, none⟩)]) ∧ w.alloc (.cells #[.string s] 9) = w' := by
  go_enter Try.func19, Try.ntmps19
  go_wp2
  go_ret
  exact ⟨rfl, rfl⟩

theorem calls_of_wp_marks {P : Program} {f : FuncId} {fn : Func} {c : Code} {args : Array Value} {w : World} {R : Ending → World → Prop}
    (hf : P.funcs[f]? = some fn) (hb : fn.body = some c)
    (h : c.wp P (bodyPostM Fence.wide 9 P fn R) { tmps := args ++ Array.replicate (fn.ntmps - args.size) undef, defers := [] } w) : Calls P f args w R :=
  (callsIn_wide (n := 9)).1 (callsIn_of_wp_marks hf hb trivial (wpIn_wide.2 h))

theorem info9' : (Try.prog.info? 9).map (fun i => (i.zero, i.size, i.bytes)) = some (some (.string ⟨#[]⟩), 1, 16) := by kernel_rfl

/-- Between two rounds: the list, the text that is left, and nothing else has turned. -/
def CInv (N M : Nat) (W0 : World) (pre : List ByteArray) (W : World) : Prop :=
  (∃ v, Boxed W N 32 v ∧ W.ownsRow (N + 2) 9 1 v pre.length (pre.map .string) ∧ pre.length ≤ M) ∧ (∃ t : ByteArray, Boxed W (N + 1) 9 (.string t)) ∧ Below N W0 W
/-- Behind the last. -/
def COut (N M : Nat) (W0 : World) (c : Code) (pre : List ByteArray) (W : World) : Prop :=
  CInv N M W0 pre W ∧ c = .exit 0 ∧ ∃ pre' x, pre = pre' ++ [x] ∧ x.size < 198

theorem CInv_own {N M : Nat} {W0 : World} (hN : W0.heap.size = N + 2) : OwnFrom W0.heap.size (CInv N M W0) := by
  refine OwnFrom.and (Own.from (holdsRow_own (N + 2) N _ _ 1 (fun pre : List ByteArray => pre.length) (fun pre => pre.map .string) (fun pre _ => pre.length ≤ M)) _) (OwnFrom.and ?_ (ownFrom_below (by omega) (by omega)))
  rintro s A B row ⟨t, ht⟩ hg hr
  exact ⟨t, ht.kept hg (fun e => by
    obtain ⟨_, o, ho, hc⟩ := hr _ e.symm
    unfold Boxed at ht
    rw [ht] at ho
    cases ho
    cases hc)⟩
theorem COut_own {N M : Nat} {W0 : World} (hN : W0.heap.size = N + 2) (c : Code) : OwnFrom W0.heap.size (COut N M W0 c) :=
  OwnFrom.and (CInv_own hN) (fun _ _ _ _ h _ _ => h)
theorem not_text {N : Nat} {W : World} {v : Value} {k : Nat} {xs : List Value} (hrow : W.ownsRow (N + 2) 9 1 v k xs) : some (N + 1) ≠ v.ownBlock := fun e => by
  have := own_base hrow _ e.symm
  omega
theorem not_box {N : Nat} {W : World} {v : Value} {k : Nat} {xs : List Value} (hrow : W.ownsRow (N + 2) 9 1 v k xs) : some N ≠ v.ownBlock := fun e => by
  have := own_base hrow _ e.symm
  omega
theorem CInv_st {N M : Nat} {W0 : World} (s : List ByteArray) (A B : World) (h : CInv N M W0 s A) (hs : ∃ t : ByteArray, B = A.setCell ⟨N + 1, 0, none⟩ (.string t)) : CInv N M W0 s B := by
  obtain ⟨t, rfl⟩ := hs
  obtain ⟨⟨v, hv, hrow, hl⟩, ⟨t0, ht⟩, hb⟩ := h
  exact ⟨⟨v, hv.kept (grownBy_setCell' A (N + 1) _) (by simp), hrow.kept (grownBy_setCell' A (N + 1) _) (.inr (not_text hrow).symm), hl⟩, ⟨t, ht.set _⟩, hb.setCell (p := ⟨N + 1, 0, none⟩) (Nat.le_succ _) _⟩
theorem COut_st {N M : Nat} {W0 : World} (c : Code) (s : List ByteArray) (A B : World) (h : COut N M W0 c s A) (hs : ∃ t : ByteArray, B = A.setCell ⟨N + 1, 0, none⟩ (.string t)) : COut N M W0 c s B := ⟨CInv_st s A B h.1 hs, h.2⟩

theorem cut_end {W : World} {D : Nat} {tmps : Array Value} {R : Ending → World → Prop} {v : Value} (hD : W.heap[D]? = some (.deferred (some []))) (h2 : tmps[2]?.getD undef = v) (hR : R (.returned v) (W.putObj D (.deferred none))) :
    bodyPostM Fence.wide 9 Try.prog Try.f16 R .ret { tmps := tmps, defers := [{ target := .collected D, args := #[] }] } W := by
  refine ⟨by simp, .inl ⟨D, _, rfl, run_takeDeferred hD, ?_⟩⟩
  refine ⟨_, ?_, hR⟩
  simp [results, Try.results16, h2, go_sem]

def pad_Cut.f (s : ByteArray) : Option (List ByteArray) := if s.size ≤ 8000000000000 then some (pch s.size s.data.toList) else none

set_option maxRecDepth 100000 in
set_option maxHeartbeats 2000000 in
theorem pad_Cut.calls (a0 : ByteArray) (r : List ByteArray) (w : World) (h : pad_Cut.f a0 = some r) :
    Calls Try.prog 16 #[.string a0] w fun e w' => ∃ v0_ : Value, e = .returned (v0_) ∧ Kd.R Kd.string 9 w' w.heap.size (fun _ => True) v0_ r ∧ Below w.heap.size w w' := by
  have hsz : a0.size ≤ 8000000000000 := by
    unfold pad_Cut.f at h
    split at h
    · assumption
    · cases h
  rw [pad_Cut.f, if_pos hsz] at h
  obtain rfl := Option.some.inj h
  clear h
  refine calls_of_wp_marks Try.func16 rfl ?_
  simp only [Try.ntmps16, List.size_toArray, List.length_cons, List.length_nil, Nat.reduceAdd, Nat.reduceSub, Array.replicate_succ, Array.replicate_zero, List.push_toArray, List.append_toArray, List.nil_append, List.cons_append]
  go_wp2
  refine wp_scope_straight ?_
  go_wp2
  refine wp_label ?_
  go_wp2_with (go_at_call 19; refine (parts_any _ _).mono ?_; rintro e w' ⟨rfl, rfl⟩)
  refine (wpIn_wide (n := 9)).1 ?_
  obtain ⟨i0, hi, hz0, hz1, hz2⟩ := info_parts info9'
  obtain ⟨N, hN⟩ : ∃ N, w.heap.size = N := ⟨_, rfl⟩
  have hnew := Boxed.new (w.alloc (.cells #[.slice none 0 0] 32)) 9 (.string a0)
  have hl := (Boxed.new w 32 (.slice none 0 0)).alloc (.cells #[.string a0] 9)
  have hbw : Below N w ((w.alloc (.cells #[.slice none 0 0] 32)).alloc (.cells #[.string a0] 9)) := by
    rw [← hN]
    exact ((Below.refl _ w).alloc (Nat.le_refl _) _).alloc (by simp) _
  have hs2 : ((w.alloc (.cells #[.slice none 0 0] 32)).alloc (.cells #[.string a0] 9)).heap.size = N + 2 := by simp; omega
  change Code.wpIn _ _ _ _ _ _ ((w.alloc (.cells #[.slice none 0 0] 32)).alloc (.cells #[.string a0] 9))
  generalize ((w.alloc (.cells #[.slice none 0 0] 32)).alloc (.cells #[.string a0] 9)) = W0 at *
  simp only [World.size_alloc, hN] at hnew hl
  rw [hN]
  refine wpIn_rangeFunc_st (F := Fence.wide) (n := 9) rfl (by omega) (gf := 26) (lb := #[.pointer (some ⟨N + 1, 0, none⟩)]) rfl trivial (enters_of Try.func26 (by kernel_rfl) rfl)
    (parts1 (N + 1) a0 W0 hnew (by omega)) (fun A B h => by obtain ⟨t, rfl⟩ := h; exact spares_of_grownBy (grownBy_setCell' A (N + 1) _) (fun j e => by cases e; omega))
    (fun h k => k.trans h) (fun W l o o' hl hk ho _ => World.putObj_heap_other (by omega)) (Below.refl _ _) (fun _ => rfl)
    (CInv N a0.size W0) (COut N a0.size W0) (CInv_own hs2) (COut_own hs2) CInv_st COut_st
    ⟨⟨_, hl, World.ownsRow_nil _ _ _ _, Nat.zero_le _⟩, ⟨_, hnew⟩, Below.refl _ _⟩
    (fun x => { tmps := #[.string a0, undef, .slice none 0 0, .pointer (some ⟨N, 0, none⟩), .string x, .string a0, .func (.func 26) #[] #[.pointer (some ⟨N + 1, 0, none⟩)], .string x, undef, undef, undef, undef, undef, undef, undef, undef], defers := [] }) ?assign ?body ?done ?stop
  case assign =>
    intro l x W K hK
    gi_wp2
    exact hK
  case body =>
    rintro l pre x W ⟨⟨v, hv, hrow, hlM⟩, ⟨t, ht⟩, hB⟩ hlt
    have hc := hv.cell
    have hBs := hB.size
    by_cases h198 : (x.size : Int) < 198
    · have hc1 : decide ((x.size : Int) < 198) = true := decide_eq_true h198
      gi_wp2_with (gi_at_builtin; refine wpListIn_append_own _ rfl _ _ 32 rfl (N + 2) 9 i0 (.string ⟨#[]⟩) 1 16 Try.underlying32 hi hz0 hz1 hz2 rfl (by decide) _ _ _ rfl (hrow.alloc _) ⟨W.heap.size, 0, none⟩ 1 1 [.string x] rfl rfl (cell_one_new _ _ _) (by simp [Value.oneCell']) (by simp only [maxLen]; omega) (by omega) (by simp; omega) ?_; intro v' w1 hown' hgrow _; obtain ⟨g', cap', rfl⟩ := ownsRow_succ hown'; obtain ⟨hv1, hv2, hr2, hk2, hb2⟩ := hv.appended (by decide) (own_weaken hrow (Nat.le_add_right _ _)) (by omega) (Nat.le_refl _) (own_weaken hown' (Nat.le_add_right _ _)) hgrow; have hc1 := hv1.cell; have hf1 := hv1.frozen; have ht1 := (ht.alloc _).kept hgrow (not_text hrow); have hr3 := hown'.kept (grownBy_setCell' w1 N (.slice (some ⟨g', 0, none⟩) (pre.length + 1) cap')) (.inr (not_box hown').symm))
      have ht2 := ht1.kept (grownBy_setCell' w1 N (.slice (some ⟨g', 0, none⟩) (pre.length + 1) cap')) (by simp)
      exact ⟨hk2.from _, ⟨⟨_, hv2, by simpa using hr3, by simp; omega⟩, ⟨t, ht2⟩, hB.trans hb2⟩, rfl, pre, x, rfl, by omega⟩
    · have hc1 : decide ((x.size : Int) < 198) = false := decide_eq_false h198
      gi_wp2_with (gi_at_builtin; refine wpListIn_append_own _ rfl _ _ 32 rfl (N + 2) 9 i0 (.string ⟨#[]⟩) 1 16 Try.underlying32 hi hz0 hz1 hz2 rfl (by decide) _ _ _ rfl (hrow.alloc _) ⟨W.heap.size, 0, none⟩ 1 1 [.string x] rfl rfl (cell_one_new _ _ _) (by simp [Value.oneCell']) (by simp only [maxLen]; omega) (by omega) (by simp; omega) ?_; intro v' w1 hown' hgrow _; obtain ⟨g', cap', rfl⟩ := ownsRow_succ hown'; obtain ⟨hv1, hv2, hr2, hk2, hb2⟩ := hv.appended (by decide) (own_weaken hrow (Nat.le_add_right _ _)) (by omega) (Nat.le_refl _) (own_weaken hown' (Nat.le_add_right _ _)) hgrow; have hc1 := hv1.cell; have hf1 := hv1.frozen; have ht1 := (ht.alloc _).kept hgrow (not_text hrow); have hr3 := hown'.kept (grownBy_setCell' w1 N (.slice (some ⟨g', 0, none⟩) (pre.length + 1) cap')) (.inr (not_box hown').symm))
      have ht2 := ht1.kept (grownBy_setCell' w1 N (.slice (some ⟨g', 0, none⟩) (pre.length + 1) cap')) (by simp)
      exact ⟨hk2.from _, (show _ = _ from ht2).trans (show _ = _ from ht).symm, ⟨⟨_, hv2, by simpa using hr3, by simp; omega⟩, ⟨t, ht2⟩, hB.trans hb2⟩⟩
  case' done =>
    rintro D xs W hD rfl hC hK
  case' stop =>
    rintro D c pre W hD hSp ⟨hC, rfl, pre', x, rfl, hx⟩ hK
    obtain ⟨rest, hrest⟩ := hSp
    have hr0 : rest = [] := pch_short (k := a0.size) (L := a0.data.toList) (pre := pre') (x := x) (by rw [← hrest]; simp) hx
    subst hr0
    rw [List.append_nil] at hrest
    rw [hrest] at hC
    clear hrest hx
    refine wpIn_exit ?_
  all_goals
    obtain ⟨⟨v, hv, hrow, hlM⟩, -, hB⟩ := hC
    have hB2 : Below N w W := hbw.trans hB
    have hc := hv.cell
    have hlD := (Array.getElem?_eq_some_iff.1 hK).1
    have hrow2 : (W.putObj D (.deferred none)).ownsRow N 9 1 v (pch a0.size a0.data.toList).length ((pch a0.size a0.data.toList).map .string) := ownsRow_putObj (own_weaken hrow (Nat.le_add_right _ _)) _ hK rfl
    clear hrow hnew hl
    go_wp2
    refine cut_end hK rfl ⟨_, rfl, ?_, ?_⟩
    · rw [hN]
      exact Kd.R_of_own hrow2 (fun _ _ => trivial)
    · rw [hN]
      exact hB2.grown (grownBy_putObj' _ D _) (by have := hB2.size; omega) (fun k e => by cases e; omega)

end Go.Proofs.Ytnadbgcllejleaa.H
