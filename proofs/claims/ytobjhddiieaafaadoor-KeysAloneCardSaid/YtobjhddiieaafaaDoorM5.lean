/- A text's whole parts: the walk. -/
import Derived.Test.YtobjhddiieaafaaDoorM1
import Derived.Test.YtobjhddiieaafaaDoorRangeV
import Derived.Test.YtobjhddiieaafaaDoorA1
import Derived.TacticsInMore
import Derived.LoopNIn
import Derived.LoopIn
import Derived.Deep.DeepCutAuto
import Derived.Outline
import Derived.Test.YtobjhddiieaafaaDoorShelf
set_option maxRecDepth 100000
namespace Go.Proofs.YtobjhddiieaafaaDoor.M
open Go.Proofs.YtobjhddiieaafaaDoor.H
open Go.RowKit Go.Shelf Go.Proofs.YtobjhddiieaafaaDoorW.PrintWords Go.Proofs.YtobjhddiieaafaaDoorW.PrintLast Go.Proofs.YtobjhddiieaafaaDoorW.PrintMore Go.Proofs.YtobjhddiieaafaaDoor.Plain Go.Proofs.YtobjhddiieaafaaDoor.RowOf
attribute [local go_sem] Oper.semAt_some
set_option linter.unusedVariables false
set_option linter.unusedSimpArgs false

set_option maxRecDepth 100000 in
set_option maxHeartbeats 1000000 in
theorem parts1 (g : Nat) (s : ByteArray) (w : World) (hg : Boxed w g 9 (.string s)) (hs : s.size ≤ 140737488355000) :
    SeqV Fence.wide 8 Tryd.prog 60 #[.pointer (some ⟨g, 0, none⟩)] (fun x : Nat × ByteArray => #[.int .i64 x.1, .string x.2])
      (fun _ _ => False) (fun A B => B.heap[g]? = A.heap[g]?)
      (fun xs => xs = prt s (s.size / 64)) (fun pre => ∃ k, k < s.size / 64 ∧ pre = prt s (k + 1)) (fun pre x => ∃ k, pre = prt s k ∧ 64 * k + 64 ≤ s.size ∧ x = (64 * k + 64, s.extract (64 * k) (64 * k + 64))) w := by
  intro l J Jx W hW hJ hJx hY h0
  have hgW : Boxed W g 9 (.string s) := (hW.block g hg.lt).trans hg
  refine callsIn_of_wp Tryd.func60 rfl trivial ?_ rfl
  simp only [Tryd.ntmps60, List.size_toArray, List.length_cons, List.length_nil, Nat.reduceAdd, Nat.reduceSub, Array.replicate_succ, Array.replicate_zero, List.push_toArray, List.append_toArray, List.nil_append, List.cons_append]
  gi_wp2
  gi_loopw [3] (fun v wr => ∃ k a : Nat, v = .int .i64 a ∧ a = 64 * k + 64 ∧ 64 * k ≤ s.size ∧ Boxed wr g 9 (.string s) ∧ J (prt s k) wr)
    (fun v wr => s.size + 64 - (intOf v).toNat)
  case atStart => exact ⟨0, 64, rfl, rfl, Nat.zero_le _, hgW, h0⟩
  case round =>
    obtain ⟨k, a, rfl, ha, hk, hb, hJs⟩ := hrel
    have hbc := hb.cell
    have hbf := hb.frozen
    by_cases hle : a ≤ s.size
    · obtain ⟨b, hbe⟩ : ∃ b : Nat, b = 64 * k := ⟨_, rfl⟩
      have hle2 : decide ((a : Int) ≤ (s.size : Int)) = true := decide_eq_true (by omega)
      have hle3 : (a : Int) ≤ (s.size : Int) := by omega
      have hb0 : (0 : Int) ≤ (b : Int) := by omega
      have hba : (b : Int) ≤ (a : Int) := by omega
      have hwb : IntKind.i64.wrap ((a : Int) - 64) = (b : Int) := by rw [i64_w]; unfold wrap64; omega
      have hnx : prt s (k + 1) = prt s k ++ [(a, s.extract b a)] := by rw [prt, ha, hbe]
      obtain ⟨fn, tmps, assign, body, hy, hR⟩ := hY (prt s k) (a, s.extract b a) wr hJs ⟨k, rfl, by omega, by rw [ha, hbe]⟩
      dsimp only at hy hR
      have Hnx := Lib.hid hnx
      have Ha := Lib.hid ha
      have Hbe := Lib.hid hbe
      clear hnx ha hbe
      gi_wp2
      refine hR.mono ?_
      rintro e W3 (⟨rfl, hJ3, hk3⟩ | ⟨rfl, hJx3⟩)
      · have hb3 : Boxed W3 g 9 (.string s) := hk3.trans hb
        gi_wp2
        have := Ha.out
        exact ⟨⟨k + 1, a + 64, by go_num, by omega, by omega, hb3, by rw [Hnx.out]; exact hJ3⟩, by simp [intOf]; omega⟩
      · gi_wp2
        refine bodyPost_ret (results_none rfl _ _ _) rfl ?_
        have := Ha.out
        exact ⟨⟨_, rfl⟩, .inr ⟨_, ⟨k, by omega, rfl⟩, by rw [Hnx.out]; exact hJx3⟩⟩
    · have hle2 : decide ((a : Int) ≤ (s.size : Int)) = false := decide_eq_false (by omega)
      gi_wp2
      go_end0
      exact ⟨⟨_, rfl⟩, .inl ⟨_, by rw [show s.size / 64 = k by omega], hJs⟩⟩

theorem parts_any (s : ByteArray) (w : World) : Calls Tryd.prog 53 #[.string s] w fun e w' =>
    e = .returned (.func (.func 60) #[] #[.pointer (some ⟨w.heap.size, 0, none⟩)]) ∧ w.alloc (.cells #[.string s] 9) = w' := by
  go_enter Tryd.func53, Tryd.ntmps53
  go_wp2
  go_ret
  exact ⟨rfl, rfl⟩

end Go.Proofs.YtobjhddiieaafaaDoor.M

namespace Go.Proofs.YtobjhddiieaafaaDoor.M
open Go.Proofs.YtobjhddiieaafaaDoor.H
open Go.RowKit Go.Shelf Go.Proofs.YtobjhddiieaafaaDoorW.PrintWords Go.Proofs.YtobjhddiieaafaaDoorW.PrintLast Go.Proofs.YtobjhddiieaafaaDoorW.PrintMore Go.Proofs.YtobjhddiieaafaaDoor.Plain Go.Proofs.YtobjhddiieaafaaDoor.RowOf Go.Proofs.YtobjhddiieaafaaDoor.Le
attribute [local go_sem] Oper.semAt_some
set_option linter.unusedVariables false
set_option linter.unusedSimpArgs false

/-- A Summer: its words, what is left over, and how many bytes were written. -/
def Summ (W : World) (g : Nat) (h : List Int) (r : ByteArray) (n : Int) : Prop := RowX W g 86 h (sumR r n)
theorem Summ.cell8 {W : World} {g : Nat} {h : List Int} {r : ByteArray} {n : Int} (hs : Summ W g h r n) (hh : h.length = 8) : W.cell? ⟨g, 8, none⟩ = some (.string r) := by
  have h1 : W.heap[g]? = _ := hs
  match h, hh with
  | [f0, f1, f2, f3, f4, f5, f6, f7], _ => simp [World.cell?, h1, sumR]
theorem Summ.cell9 {W : World} {g : Nat} {h : List Int} {r : ByteArray} {n : Int} (hs : Summ W g h r n) (hh : h.length = 8) : W.cell? ⟨g, 9, none⟩ = some (.int .i64 n) := by
  have h1 : W.heap[g]? = _ := hs
  match h, hh with
  | [f0, f1, f2, f3, f4, f5, f6, f7], _ => simp [World.cell?, h1, sumR]
theorem Summ.ne {W : World} {g k : Nat} {h K : List Int} {r : ByteArray} {n : Int} (hs : Summ W g h r n) (hh : h.length = 8) (hG : Glob W k K) (hK : K.length ≠ 10) : k ≠ g := fun e => by
  subst e
  obtain ⟨t, fz, h1⟩ := hG
  have h2 : W.heap[k]? = _ := hs
  rw [h1] at h2
  injection h2 with h2
  injection h2 with h2 _ _
  have := congrArg Array.size h2
  simp [sumR, hh] at this
  exact hK this
theorem Summ.set8 {W : World} {g : Nat} {h : List Int} {r : ByteArray} {n : Int} (hs : Summ W g h r n) (hh : h.length = 8) (r' : ByteArray) : Summ (W.setCell ⟨g, 8, none⟩ (.string r')) g h r' n := by
  have h1 : W.heap[g]? = _ := hs
  show (W.setCell ⟨g, 8, none⟩ (.string r')).heap[g]? = _
  match h, hh with
  | [f0, f1, f2, f3, f4, f5, f6, f7], _ =>
    simp [World.setCell, Array.getElem?_modify, h1, sumR]
theorem Summ.set9 {W : World} {g : Nat} {h : List Int} {r : ByteArray} {n : Int} (hs : Summ W g h r n) (hh : h.length = 8) (n' : Int) : Summ (W.setCell ⟨g, 9, none⟩ (.int .i64 n')) g h r n' := by
  have h1 : W.heap[g]? = _ := hs
  show (W.setCell ⟨g, 9, none⟩ (.int .i64 n')).heap[g]? = _
  match h, hh with
  | [f0, f1, f2, f3, f4, f5, f6, f7], _ =>
    simp [World.setCell, Array.getElem?_modify, h1, sumR]

theorem calls_of_wp_marks {P : Program} {f : FuncId} {fn : Func} {c : Code} {args : Array Value} {w : World} {R : Ending → World → Prop}
    (hf : P.funcs[f]? = some fn) (hb : fn.body = some c)
    (h : c.wp P (bodyPostM Fence.wide 9 P fn R) { tmps := args ++ Array.replicate (fn.ntmps - args.size) undef, defers := [] } w) : Calls P f args w R :=
  (callsIn_wide (n := 9)).1 (callsIn_of_wp_marks hf hb trivial (wpIn_wide.2 h))

theorem wp_calm {P : Program} {c : Code} {K : Act → World → Prop} {Q : Exit → Act → World → Prop} {a : Act} {w : World} (h : c.wp P (Exit.then K (fun _ _ _ => False)) a w) : c.wp P (Exit.then K Q) a w :=
  wp_mono h (fun e a w h => by cases e <;> first | exact h | exact h.elim)

/-- A short text behind a short rest. -/
theorem takes_short (g : Nat) (h : List Int) (r s : ByteArray) (n : Int) (hh : h.length = 8) (hr0 : r ≠ ⟨#[]⟩) (hrs : r.size + s.size < 64) (w : World) (hR : Summ w g h r n) :
    Calls Tryd.prog 46 #[.pointer (some ⟨g, 0, none⟩), .string s] w fun e w' => e = .returned (.tuple #[]) ∧ Summ w' g h (r ++ s) n ∧ w.grownBy w' (some g) := by
  refine calls_of_wp_marks Tryd.func46 rfl ?_
  simp only [Tryd.ntmps46, List.size_toArray, List.length_cons, List.length_nil, Nat.reduceAdd, Nat.reduceSub, Array.replicate_succ, Array.replicate_zero, List.push_toArray, List.append_toArray, List.nil_append, List.cons_append]
  obtain ⟨N, hN⟩ : ∃ N, w.heap.size = N := ⟨_, rfl⟩
  have hL : r.toList ≠ [] := by
    intro h
    rw [Lib.toList_data] at h
    exact hr0 (ba_ext (b := ⟨#[]⟩) (by rw [h]))
  have hne : (r.toList == ([] : List UInt8)) = false := beq_eq_false_iff_ne.2 hL
  have hne2 : (r.toList != ([] : List UInt8)) = true := bne_iff_ne.2 hL
  have hge : decide ((64 : Int) ≤ (r.size : Int) + (s.size : Int)) = false := decide_eq_false (by omega)
  have hge2 : ¬ ((64 : Int) ≤ (r.size : Int) + (s.size : Int)) := by omega
  have hws : IntKind.i64.wrap ((r.size : Int) + (s.size : Int)) = (r.size : Int) + (s.size : Int) := by rw [i64_w]; unfold wrap64; omega
  go_wp2
  refine wp_scope_straight ?_
  go_upto_region 1 with (fail)
  have hg : g < N := by rw [← hN]; exact RowX.lt hR
  have h0 : Boxed ((w.alloc (.cells #[.pointer (some ⟨g, 0, none⟩)] 80)).alloc (.cells #[.string s] 9)) N 80 (.pointer (some ⟨g, 0, none⟩)) := by
    rw [← hN]
    exact (Boxed.new w _ _).alloc _
  have h1 : Boxed ((w.alloc (.cells #[.pointer (some ⟨g, 0, none⟩)] 80)).alloc (.cells #[.string s] 9)) (N + 1) 9 (.string s) := by
    have := Boxed.new (w.alloc (.cells #[.pointer (some ⟨g, 0, none⟩)] 80)) 9 (.string s)
    rw [World.size_alloc, hN] at this
    exact this
  have h2 : Summ ((w.alloc (.cells #[.pointer (some ⟨g, 0, none⟩)] 80)).alloc (.cells #[.string s] 9)) g h r n := (RowX.alloc hR _).alloc _
  have h3 : Below N w ((w.alloc (.cells #[.pointer (some ⟨g, 0, none⟩)] 80)).alloc (.cells #[.string s] 9)) := by
    rw [← hN]
    exact ((Below.refl _ w).alloc (Nat.le_refl _) _).alloc (by simp) _
  change Code.wp _ _ _ _ ((w.alloc (.cells #[.pointer (some ⟨g, 0, none⟩)] 80)).alloc (.cells #[.string s] 9))
  generalize ((w.alloc (.cells #[.pointer (some ⟨g, 0, none⟩)] 80)).alloc (.cells #[.string s] 9)) = W0 at *
  have c0 := h0.cell
  have c1 := h1.cell
  have c8 := h2.cell8 hh
  have f8 := RowX.frozen h2 8
  go_quiet (fail)
  go_upto_region 6 with (fail)
  clear c0 c1 c8 f8
  have k0 : Boxed (W0.drewN nq) N 80 (.pointer (some ⟨g, 0, none⟩)) := h0
  have k1 : Boxed (W0.drewN nq) (N + 1) 9 (.string s) := h1
  have k2 : Summ (W0.drewN nq) g h r n := h2
  have k3 := pw_below_drewN h3 nq
  clear h0 h1 h2 h3
  generalize W0.drewN nq = W1 at *
  have c0 := k0.cell
  have c1 := k1.cell
  have c8 := k2.cell8 hh
  have f8 := RowX.frozen k2 8
  have h63 := eq_false (show ¬ (9223372036854775807 < r.size + s.size) by omega)
  go_still_tail 8, (by kernel_rfl)
  go_wp2
  have hG3 := gb_drew (gb_trans (gb_of_below (by rw [hN]; exact k3) (some g)) (gb_set W1 g 8 (.string (r ++ s))))
  exact ⟨_, results_none rfl _ _ _, rfl, k2.set8 hh (r ++ s), hG3⟩

theorem gb_row_new {a b c : World} {row : Option Nat} {D : Nat} (h : a.grownBy b row) (k : b.grownBy c (some D)) (hD : a.heap.size ≤ D) : a.grownBy c row := by
  obtain ⟨h1, h2, h3, h4, h5⟩ := h
  obtain ⟨k1, k2, k3, k4, k5⟩ := k
  exact ⟨k1.trans h1, k2.trans h2, k3.trans h3, Nat.le_trans h4 k4, fun j hj hr => (k5 j (Nat.lt_of_lt_of_le hj h4) (fun e => by have := Option.some.inj e; omega)).trans (h5 j hj hr)⟩
/-- What a loop over a text's parts keeps. -/
def TInv (w : World) (N B2 g : Nat) (K h : List Int) (s : ByteArray) (n : Int) (pre : List (Nat × ByteArray)) (W : World) : Prop :=
  Summ W g (folds K h pre) ⟨#[]⟩ n ∧ Boxed W N 80 (.pointer (some ⟨g, 0, none⟩)) ∧ Boxed W (N + 1) 9 (.string s) ∧ Boxed W B2 3 (.int .i64 ((64 * pre.length : Nat) : Int)) ∧ Boxed W (B2 + 1) 9 (.string s) ∧ Glob W 2 K ∧ w.grownBy W (some g)
theorem heap_own {W W' : World} {row : Option Nat} {b : Nat} {cs : Array Value} {t : TypeId} {fz : Nat × Nat} (h : W.heap[b]? = some (.cells cs t fz)) (hg : W.grownBy W' row) (hr : ∀ r, row = some r → ∃ o : Obj, W.heap[r]? = some o ∧ o.isCells = false) : W'.heap[b]? = some (.cells cs t fz) :=
  (hg.block b (Array.getElem?_eq_some_iff.1 h).1 (fun e => by
    obtain ⟨o, ho, hc⟩ := hr b e.symm
    rw [h] at ho
    cases ho
    cases hc)).trans h
theorem TInv_own {w : World} {N B2 g : Nat} {K h : List Int} {s : ByteArray} {n : Int} {B : Nat} (hB : w.heap.size ≤ B) : OwnFrom B (TInv w N B2 g K h s n) := by
  rintro pre A A' row ⟨h1, h2, h3, h4, h4', ⟨t, fz, h5⟩, h6⟩ hg hr
  have hr2 : ∀ r, row = some r → ∃ o : Obj, A.heap[r]? = some o ∧ o.isCells = false := fun r e => (hr r e).2
  refine ⟨heap_own h1 hg hr2, heap_own h2 hg hr2, heap_own h3 hg hr2, heap_own h4 hg hr2, heap_own h4' hg hr2, ⟨t, fz, heap_own h5 hg hr2⟩, ?_⟩
  refine ⟨hg.os.trans h6.os, hg.tape.trans h6.tape, hg.output.trans h6.output, Nat.le_trans h6.size hg.size, fun k hk hne => ?_⟩
  exact (hg.block k (Nat.lt_of_lt_of_le hk h6.size) (fun e => by have := (hr k e.symm).1; omega)).trans (h6.block k hk hne)
/-- Behind the last part. -/
def TOut (w : World) (N B2 g : Nat) (K h : List Int) (s : ByteArray) (n : Int) (c : Code) (pre : List (Nat × ByteArray)) (W : World) : Prop :=
  TInv w N B2 g K h s n pre W ∧ c = .exit 0 ∧ s.size < 64 * pre.length + 64
theorem TOut_own {w : World} {N B2 g : Nat} {K h : List Int} {s : ByteArray} {n : Int} {B : Nat} (hB : w.heap.size ≤ B) (c : Code) : OwnFrom B (TOut w N B2 g K h s n c) :=
  OwnFrom.and (TInv_own hB) (fun _ _ _ _ h _ _ => h)

theorem takes_end {W : World} {D : Nat} {tmps : Array Value} {R : Ending → World → Prop} (hD : W.heap[D]? = some (.deferred (some []))) (hR : R (.returned (.tuple #[])) (W.putObj D (.deferred none))) :
    bodyPostM Fence.wide 9 Tryd.prog Tryd.f46 R .ret { tmps := tmps, defers := [{ target := .collected D, args := #[] }] } W := by
  refine ⟨by simp, .inl ⟨D, _, rfl, run_takeDeferred hD, ?_⟩⟩
  exact ⟨_, results_none rfl _ _ _, hR⟩

set_option maxRecDepth 100000 in
set_option maxHeartbeats 2000000 in
/-- Behind nothing, or where a part is full. -/
theorem takes_long (g : Nat) (K h : List Int) (r s : ByteArray) (n : Int) (hh : h.length = 8) (hK : K.length = 64) (hr64 : r.size < 64) (hrs : r.size = 0 ∨ 64 ≤ r.size + s.size) (hs : s.size ≤ 140737488355000) (w : World) (hR : Summ w g h r n) (hG : Glob w 2 K) :
    Calls Tryd.prog 46 #[.pointer (some ⟨g, 0, none⟩), .string s] w fun e w' => e = .returned (.tuple #[]) ∧ (∃ r' : ByteArray, r'.data.toList = (absorb K h (r.data.toList ++ s.data.toList)).2 ∧ Summ w' g (absorb K h (r.data.toList ++ s.data.toList)).1 r' n) ∧ w.grownBy w' (some g) := by
  refine calls_of_wp_marks Tryd.func46 rfl ?_
  simp only [Tryd.ntmps46, List.size_toArray, List.length_cons, List.length_nil, Nat.reduceAdd, Nat.reduceSub, Array.replicate_succ, Array.replicate_zero, List.push_toArray, List.append_toArray, List.nil_append, List.cons_append]
  obtain ⟨N, hN⟩ : ∃ N, w.heap.size = N := ⟨_, rfl⟩
  go_wp2
  refine wp_scope_straight ?_
  go_upto_region 1 with (fail)
  have hg : g < N := by rw [← hN]; exact RowX.lt hR
  have hgK : 2 < N := by rw [← hN]; exact hG.lt
  have hgne : 2 ≠ g := Summ.ne hR hh hG (by omega)
  have h0 : Boxed ((w.alloc (.cells #[.pointer (some ⟨g, 0, none⟩)] 80)).alloc (.cells #[.string s] 9)) N 80 (.pointer (some ⟨g, 0, none⟩)) := by
    rw [← hN]
    exact (Boxed.new w _ _).alloc _
  have h1 : Boxed ((w.alloc (.cells #[.pointer (some ⟨g, 0, none⟩)] 80)).alloc (.cells #[.string s] 9)) (N + 1) 9 (.string s) := by
    have := Boxed.new (w.alloc (.cells #[.pointer (some ⟨g, 0, none⟩)] 80)) 9 (.string s)
    rw [World.size_alloc, hN] at this
    exact this
  have h2 : Summ ((w.alloc (.cells #[.pointer (some ⟨g, 0, none⟩)] 80)).alloc (.cells #[.string s] 9)) g h r n := (RowX.alloc hR _).alloc _
  have h3 : Below N w ((w.alloc (.cells #[.pointer (some ⟨g, 0, none⟩)] 80)).alloc (.cells #[.string s] 9)) := by
    rw [← hN]
    exact ((Below.refl _ w).alloc (Nat.le_refl _) _).alloc (by simp) _
  have h4 := hG.below h3 hgK
  change Code.wp _ _ _ _ ((w.alloc (.cells #[.pointer (some ⟨g, 0, none⟩)] 80)).alloc (.cells #[.string s] 9))
  generalize ((w.alloc (.cells #[.pointer (some ⟨g, 0, none⟩)] 80)).alloc (.cells #[.string s] 9)) = W0 at *
  have c0 := h0.cell
  have c1 := h1.cell
  have c8 := h2.cell8 hh
  have hsz0 : N + 2 ≤ W0.heap.size := h1.lt
  by_cases hrn : r.size = 0
  case' pos =>
    obtain rfl : r = ⟨#[]⟩ := ba_ext (List.eq_nil_of_length_eq_zero (by rw [← ba_size]; exact hrn))
    go_quiet (fail)
    go_upto_region 7 with (fail)
    have k0 : Boxed (W0.drewN nq) N 80 (.pointer (some ⟨g, 0, none⟩)) := h0
    have k1 : Boxed (W0.drewN nq) (N + 1) 9 (.string s) := h1
    have k2 : Summ (W0.drewN nq) g h ⟨#[]⟩ n := h2
    have k3 := pw_below_drewN h3 nq
    have k4 := h4.kept (W' := W0.drewN nq) rfl
    have k5 : w.grownBy (W0.drewN nq) (some g) := gb_of_below (by rw [hN]; exact k3) (some g)
    have k6 : N + 2 ≤ (W0.drewN nq).heap.size := hsz0
    clear h0 h1 h2 h3 h4 c0 c1 c8 hsz0 k3
    generalize W0.drewN nq = W1 at *
    obtain ⟨h1, hh1⟩ : ∃ h1, h = h1 := ⟨_, rfl⟩
    obtain ⟨s1, hs1⟩ : ∃ s1, s = s1 := ⟨_, rfl⟩
    have hl1 : h1.length = 8 := by rw [← hh1]; exact hh
    have hs1l : s1.size ≤ 140737488355000 := by rw [← hs1]; exact hs
    rw [hs1] at k1
    rw [hh1] at k2
    have habs : absorb K h ((⟨#[]⟩ : ByteArray).data.toList ++ s.data.toList) = absorb K h1 s1.data.toList := by
      rw [← hh1, ← hs1]
      rfl
    clear hh1 hs1
  case' neg =>
    have hr0 : r.size ≠ 0 := hrn
    have hL : r.toList ≠ [] := by
      intro h
      rw [Lib.toList_data] at h
      rw [ba_size, h] at hr0
      exact hr0 rfl
    have hne : (r.toList == ([] : List UInt8)) = false := beq_eq_false_iff_ne.2 hL
    have hne2 : (r.toList != ([] : List UInt8)) = true := bne_iff_ne.2 hL
    have hge : decide ((64 : Int) ≤ (r.size : Int) + (s.size : Int)) = true := decide_eq_true (by omega)
    have hge2 : (64 : Int) ≤ (r.size : Int) + (s.size : Int) := by omega
    obtain ⟨kk, hkk⟩ : ∃ kk, kk = 64 - r.size := ⟨_, rfl⟩
    have hk0 : (0 : Int) ≤ (kk : Int) := by omega
    have hks : (kk : Int) ≤ (s.size : Int) := by omega
    have hcat : r.size + (s.extract 0 kk).size = 64 := by rw [ByteArray.size_extract]; omega
    have h63 := eq_false (show ¬ (9223372036854775807 < r.size + (s.extract 0 kk).size) by omega)
    have h63b := eq_false (show ¬ (9223372036854775807 < r.size + min kk s.size) by omega)
    have h63c := eq_false (show ¬ (9223372036854775807 < r.size + kk) by omega)
    have hsub : IntKind.i64.wrap (64 - (r.size : Int)) = (kk : Int) := by rw [i64_w]; unfold wrap64; omega
    have hws : IntKind.i64.wrap ((r.size : Int) + (s.size : Int)) = (r.size : Int) + (s.size : Int) := by rw [i64_w]; unfold wrap64; omega
    have Hcat := Lib.hid hcat
    have Hkk := Lib.hid hkk
    clear hcat hkk
    go_quiet (fail)
    go_upto_region 3 with (fail)
    clear hws hge hge2
    have k0 : Boxed (W0.drewN nq) N 80 (.pointer (some ⟨g, 0, none⟩)) := h0
    have k1 : Boxed (W0.drewN nq) (N + 1) 9 (.string s) := h1
    have k2 : Summ (W0.drewN nq) g h r n := h2
    have k3 := pw_below_drewN h3 nq
    have k4 := h4.kept (W' := W0.drewN nq) rfl
    have k5 : w.grownBy (W0.drewN nq) (some g) := gb_of_below (by rw [hN]; exact k3) (some g)
    have k6 : N + 2 ≤ (W0.drewN nq).heap.size := hsz0
    clear h0 h1 h2 h3 h4 c0 c1 c8 hsz0 k3
    generalize W0.drewN nq = W1 at *
    have c0 := k0.cell
    have c1 := k1.cell
    have c8 := k2.cell8 hh
    go_still_tail 11, (by kernel_rfl)
    go_wp2_with fail
    refine (lays_calls g 86 (sumR r n) K h (r ++ s.extract 0 kk) (by rw [ByteArray.size_append]; exact Hcat.out) hh W1.drew (k4.kept rfl) hK (k2.kept rfl)).mono ?_
    rintro e W2 ⟨rfl, hR2, hG2⟩
    have m0 : Boxed W2 N 80 (.pointer (some ⟨g, 0, none⟩)) := Boxed.kept (W := W1.drew) k0 hG2 (fun e => by cases e; omega)
    have m1 : Boxed W2 (N + 1) 9 (.string s) := Boxed.kept (W := W1.drew) k1 hG2 (fun e => by cases e; omega)
    have m4 : Glob W2 2 K := k4.kept (hG2.block _ k4.lt (fun e => hgne (Option.some.inj e)))
    have m5 : w.grownBy W2 (some g) := gb_trans (gb_drew k5) hG2
    have m6 : N + 2 ≤ W2.heap.size := Nat.le_trans k6 hG2.size
    rw [lay_bt] at hR2
    obtain ⟨h1, hh1⟩ : ∃ h1, lay K h (r ++ s.extract 0 kk).data.toList = h1 := ⟨_, rfl⟩
    have hl1 : h1.length = 8 := by rw [← hh1]; exact lay_len _ _ _ hh
    rw [hh1] at hR2
    have m2 : Summ W2 g h1 r n := hR2
    have habs : absorb K h (r.data.toList ++ s.data.toList) = absorb K h1 (s.extract kk s.size).data.toList := by
      rw [absorb_more _ _ (r.data.toList ++ s.data.toList) (by rw [List.length_append, ← ba_size, ← ba_size]; omega), ← hh1, cat_take r s kk Hkk.out hr64, cat_drop r s kk Hkk.out hr64]
    clear k0 k1 k2 k4 k5 k6 hR2 hG2 c0 c1 c8 h63 h63b h63c hh1
    have q0 : (0 : Int) ≤ (kk : Int) := hk0
    have q1 : (kk : Int) ≤ (s.size : Int) := hks
    have q2 : (s.size : Int) ≤ (s.size : Int) := Int.le_refl _
    go_upto_region 4 with (fail)
    refine wp_calm ?_
    have n8 := m2.cell8 hl1
    have f8 := RowX.frozen m2 8
    have n1 := m1.cell
    have f1 := m1.frozen
    refine start_ (n := 8) (S := fun w' => Boxed w' N 80 (.pointer (some ⟨g, 0, none⟩)) ∧ Boxed w' (N + 1) 9 (.string s)) (ds := [7]) #[false, false, false, false, false, false, false, false] (by kernel_rfl) rfl rfl ⟨m0, m1⟩ (fun hHeld => ?_)
    refine take_ (i := 0) (N := some 42) (v := ?_) (a' := ?_) #[true, false, false, false, false, false, false, false] rfl rfl (by kernel_rfl) (fun _ _ _ h => h) (Or.inl ⟨by rfl, ?_⟩) hHeld ?_ ?_
    rotate_left
    · intro w' hS_
      have r0 := hS_.1.cell; have r1 := hS_.2.cell
      go_simp
      try (with_reducible rfl)
    rotate_left
    · simp only [Act.put, List.setIfInBounds_toArray, List.set_cons_zero, List.set_cons_succ, i64_w, i32_w]
      rfl
    refine take_ (i := 1) (N := some 43) (v := ?_) (a' := ?_) #[true, true, false, false, false, false, false, false] rfl rfl (by kernel_rfl) (fun _ _ _ h => h) (Or.inl ⟨by rfl, ?_⟩) hHeld ?_ ?_
    rotate_left
    · intro w' hS_
      have r0 := hS_.1.cell; have r1 := hS_.2.cell
      go_simp
      try (with_reducible rfl)
    rotate_left
    · simp only [Act.put, List.setIfInBounds_toArray, List.set_cons_zero, List.set_cons_succ, i64_w, i32_w]
      rfl
    refine pure_ (i := 2) (N := some 44) (v := ?_) (a' := ?_) #[true, true, true, false, false, false, false, false] rfl rfl (by kernel_rfl) (fun _ _ _ h => h) (Or.inl ⟨by rfl, ?_⟩) ?_ ?_
    rotate_left
    · intro w'
      go_simp
      try (with_reducible rfl)
    rotate_left
    · simp only [Act.put, List.setIfInBounds_toArray, List.set_cons_zero, List.set_cons_succ, i64_w, i32_w]
      rfl
    refine pure_ (i := 3) (N := some 45) (v := ?_) (a' := ?_) #[true, true, true, true, false, false, false, false] rfl rfl (by kernel_rfl) (fun _ _ _ h => h) (Or.inl ⟨by rfl, ?_⟩) ?_ ?_
    rotate_left
    · intro w'
      go_simp
      try (with_reducible rfl)
    rotate_left
    · simp only [Act.put, List.setIfInBounds_toArray, List.set_cons_zero, List.set_cons_succ, i64_w, i32_w]
      rfl
    refine pure_ (i := 4) (N := some 46) (v := ?_) (a' := ?_) #[true, true, true, true, true, false, false, false] rfl rfl (by kernel_rfl) (fun _ _ _ h => h) (Or.inl ⟨by rfl, ?_⟩) ?_ ?_
    rotate_left
    · intro w'
      go_simp
      try (with_reducible rfl)
    rotate_left
    · simp only [Act.put, List.setIfInBounds_toArray, List.set_cons_zero, List.set_cons_succ, i64_w, i32_w]
      rfl
    refine pure_ (i := 5) (N := some 47) (v := ?_) (a' := ?_) #[true, true, true, true, true, true, false, false] rfl rfl (by kernel_rfl) (fun _ _ _ h => h) (Or.inl ⟨by rfl, ?_⟩) ?_ ?_
    rotate_left
    · intro w'
      go_simp
      try (with_reducible rfl)
    rotate_left
    · simp only [Act.put, List.setIfInBounds_toArray, List.set_cons_zero, List.set_cons_succ, i64_w, i32_w]
      rfl
    refine one_ (i := 6) (N := none) #[true, true, true, true, true, true, true, false] rfl rfl (by kernel_rfl) (by decide) (fun K hK => ?_)
    refine skip_step (w1 := W2.drew.setCell ⟨g, 8, none⟩ (.string ⟨#[]⟩)) (by rfl) ?hr ?_
    case hr =>
      go_simp
    have p0 : Boxed (W2.drew.setCell ⟨g, 8, none⟩ (.string ⟨#[]⟩)) N 80 (.pointer (some ⟨g, 0, none⟩)) := Boxed.kept (W := W2.drew) m0 (gb_set W2.drew g 8 _) (fun e => by cases e; omega)
    have p1 : Boxed (W2.drew.setCell ⟨g, 8, none⟩ (.string ⟨#[]⟩)) (N + 1) 9 (.string s) := Boxed.kept (W := W2.drew) m1 (gb_set W2.drew g 8 _) (fun e => by cases e; omega)
    refine hK.out _ _ ⟨p0, p1⟩ (fun hHeld => ?_)
    clear hK K
    have p2 : Summ (W2.drew.setCell ⟨g, 8, none⟩ (.string ⟨#[]⟩)) g h1 ⟨#[]⟩ n := Summ.set8 (W := W2.drew) m2 hl1 _
    have p4 : Glob (W2.drew.setCell ⟨g, 8, none⟩ (.string ⟨#[]⟩)) 2 K := m4.kept ((gb_set W2.drew g 8 (.string ⟨#[]⟩)).block _ m4.lt (fun e => hgne (Option.some.inj e)))
    have p5 : w.grownBy (W2.drew.setCell ⟨g, 8, none⟩ (.string ⟨#[]⟩)) (some g) := gb_trans (gb_drew m5) (gb_set W2.drew g 8 _)
    have p6 : N + 2 ≤ (W2.drew.setCell ⟨g, 8, none⟩ (.string ⟨#[]⟩)).heap.size := p1.lt
    clear m0 m1 m2 m4 m5 m6 n8 f8 n1 f1 hHeld
    generalize W2.drew.setCell ⟨g, 8, none⟩ (.string ⟨#[]⟩) = W3 at *
    have n1 := p1.cell
    have f1 := p1.frozen
    refine last_ (i := 7) (N := none) #[true, true, true, true, true, true, true, true] rfl rfl (by kernel_rfl) (by decide) (fun K hK => ?_)
    refine skip_step (w1 := W3.setCell ⟨N + 1, 0, none⟩ (.string (s.extract kk s.size))) (by rfl) ?hr2 ?_
    case hr2 =>
      go_simp
    refine hK.out _ _ ?_
    clear hK K
    have k0 : Boxed (W3.setCell ⟨N + 1, 0, none⟩ (.string (s.extract kk s.size))) N 80 (.pointer (some ⟨g, 0, none⟩)) := p0.other (by omega) _
    have k1 : Boxed (W3.setCell ⟨N + 1, 0, none⟩ (.string (s.extract kk s.size))) (N + 1) 9 (.string (s.extract kk s.size)) := p1.set _
    have k2 : Summ (W3.setCell ⟨N + 1, 0, none⟩ (.string (s.extract kk s.size))) g h1 ⟨#[]⟩ n := RowX.kept p2 ((gb_set W3 (N + 1) 0 (.string (s.extract kk s.size))).block _ p2.lt (fun e => by have := Option.some.inj e; omega))
    have k4 : Glob (W3.setCell ⟨N + 1, 0, none⟩ (.string (s.extract kk s.size))) 2 K := p4.kept ((gb_set W3 (N + 1) 0 (.string (s.extract kk s.size))).block _ p4.lt (fun e => by have := Option.some.inj e; omega))
    have k5 : w.grownBy (W3.setCell ⟨N + 1, 0, none⟩ (.string (s.extract kk s.size))) (some g) := gb_set_new p5 (by omega) 0 _
    have k6 : N + 2 ≤ (W3.setCell ⟨N + 1, 0, none⟩ (.string (s.extract kk s.size))).heap.size := k1.lt
    clear p0 p1 p2 p4 p5 p6 n1 f1
    generalize W3.setCell ⟨N + 1, 0, none⟩ (.string (s.extract kk s.size)) = W1 at *
    have c0 := k0.cell
    have c8 := k2.cell8 hl1
    refine done_ (by kernel_rfl) ?_
    go_upto_region 7 with (fail)
    clear c0 c8
    obtain ⟨s1, hs1⟩ : ∃ s1, s.extract kk s.size = s1 := ⟨_, rfl⟩
    have hs1l : s1.size ≤ 140737488355000 := by rw [← hs1, ByteArray.size_extract]; omega
    rw [hs1] at k1 habs
    clear hs1 hsub q0 q1 q2 hk0 hks hne hne2 hL hr0 Hcat Hkk
  case pos =>
    obtain ⟨M, hM⟩ : ∃ M, W1.heap.size = M := ⟨_, rfl⟩
    rw [hM] at k6
    go_wp2
    refine wp_label ?_
    have d0 := k0.alloc (.cells #[.int .i64 0] 3)
    have d1 := k1.alloc (.cells #[.int .i64 0] 3)
    have d2 : Summ (W1.alloc (.cells #[.int .i64 0] 3)) g h1 ⟨#[]⟩ n := RowX.alloc k2 _
    have d3 := Boxed.new W1 3 (.int .i64 0)
    have d4 : Glob (W1.alloc (.cells #[.int .i64 0] 3)) 2 K := k4.kept (Below.heap_alloc _ _ _ k4.lt)
    have d5 : w.grownBy (W1.alloc (.cells #[.int .i64 0] 3)) (some g) := gb_trans k5 (World.grownBy_alloc _ _ _)
    have d6 : (W1.alloc (.cells #[.int .i64 0] 3)).heap.size = M + 1 := by rw [World.size_alloc, hM]
    rw [hM] at d3
    clear k0 k1 k2 k4 k5
    generalize W1.alloc (.cells #[.int .i64 0] 3) = V1 at *
    have c1 := d1.cell
    go_wp2_with (go_at_call 53; refine (parts_any _ _).mono ?_; rintro e w' ⟨rfl, rfl⟩)
    refine (wpIn_wide (n := 9)).1 ?_
    have e0 := d0.alloc (.cells #[.string s1] 9)
    have e1 := d1.alloc (.cells #[.string s1] 9)
    have e2 : Summ (V1.alloc (.cells #[.string s1] 9)) g h1 ⟨#[]⟩ n := RowX.alloc d2 _
    have e3 := d3.alloc (.cells #[.string s1] 9)
    have e4 : Glob (V1.alloc (.cells #[.string s1] 9)) 2 K := d4.kept (Below.heap_alloc _ _ _ d4.lt)
    have e5 : w.grownBy (V1.alloc (.cells #[.string s1] 9)) (some g) := gb_trans d5 (World.grownBy_alloc _ _ _)
    have e6 : (V1.alloc (.cells #[.string s1] 9)).heap.size = M + 2 := by rw [World.size_alloc, d6]
    have eN := Boxed.new V1 9 (.string s1)
    rw [d6] at eN
    clear d0 d1 d2 d3 d4 d5 c1
    generalize V1.alloc (.cells #[.string s1] 9) = V2 at *
    refine wpIn_rangeFunc_v (F := Fence.wide) (n := 9) rfl (by omega) (gf := 60) (lb := #[.pointer (some ⟨M + 1, 0, none⟩)]) rfl trivial (enters_of Tryd.func60 (by kernel_rfl) rfl)
      (parts1 (M + 1) s1 V2 eN hs1l) (fun A B h => h.elim) (fun h k => k.trans h) (fun W l o o' hl hk ho _ => World.putObj_heap_other (by omega)) (Below.refl _ _) (fun _ => rfl)
      (TInv w N M g K h1 s1 n) (TOut w N M g K h1 s1 n) (TInv_own (by omega)) (TOut_own (by omega)) (fun _ _ _ _ h => h.elim) (fun _ _ _ _ _ h => h.elim)
      ⟨e2, e0, e1, e3, eN, e4, e5⟩ ?a1pos ?assignpos ?bodypos ?donepos ?stoppos
    case assignpos =>
      intro l x W K hK
      gi_wp2
      exact hK
    case bodypos =>
      rintro l pre x W ⟨hS, hb0, hb1, hb2, hbN, hGl, hgr⟩ ⟨k, rfl, hk64, hx⟩
      obtain ⟨a, p⟩ := x
      obtain ⟨ha, hp⟩ := Prod.mk.inj hx
      have c0 := hb0.cell
      have c1 := hb1.cell
      have c2 := hb2.cell
      have f2 := hb2.frozen
      have hpl : p.size = 64 := by rw [hp, ByteArray.size_extract]; omega
      have hal : a ≤ s1.size := by omega
      have Ha := Lib.hid ha
      have Hp := Lib.hid hp
      have hfl : (folds K h1 (prt s1 k)).length = 8 := folds_len _ _ _ hl1
      clear hx ha hp
      have hlen : 64 * (prt s1 k ++ [(a, p)]).length = a := by
        have := Ha.out
        rw [List.length_append, prt_len]
        simp
        omega
      gi_wp2_with fail
      refine ⟨trivial, (CallsIn.inRound l (callsIn_wide.2 (lays_calls g 86 (sumR ⟨#[]⟩ n) K (folds K h1 (prt s1 k)) p hpl hfl W hGl hK hS))).mono ?_⟩
      rintro e W2 ⟨rfl, hR2, hG2⟩
      rw [lay_bt] at hR2
      have hR3 : Summ W2 g (folds K h1 (prt s1 k ++ [(a, p)])) ⟨#[]⟩ n := by
        rw [folds_snoc]
        exact hR2
      have b0 := hb0.kept hG2 (fun e => by have := Option.some.inj e; omega)
      have b1 := hb1.kept hG2 (fun e => by have := Option.some.inj e; omega)
      have b2 := hb2.kept hG2 (fun e => by have := Option.some.inj e; omega)
      have bN := hbN.kept hG2 (fun e => by have := Option.some.inj e; omega)
      have b4 : Glob W2 2 K := hGl.kept (hG2.block _ hGl.lt (fun e => hgne (Option.some.inj e)))
      have b5 : w.grownBy W2 (some g) := gb_trans hgr hG2
      have hKf : KeepsFrom V2.heap.size W W2 := KeepsFrom.of_grownBy hG2 (fun j e => by cases e; omega)
      have hKf2 : KeepsFrom V2.heap.size W (W2.setCell ⟨M, 0, none⟩ (.int .i64 (a : Int))) := hKf.trans (KeepsFrom.of_grownBy (grownBy_setCell' W2 M _) (fun j e => by cases e; omega))
      have hkp : (W2.setCell ⟨M, 0, none⟩ (.int .i64 (a : Int))).heap[M + 1]? = W.heap[M + 1]? := by
        have h1 : (W2.setCell ⟨M, 0, none⟩ (.int .i64 (a : Int))).heap[M + 1]? = _ := bN.other (by omega) _
        have h2 : W.heap[M + 1]? = _ := hbN
        rw [h1, h2]
      have hI : TInv w N M g K h1 s1 n (prt s1 k ++ [(a, p)]) (W2.setCell ⟨M, 0, none⟩ (.int .i64 (a : Int))) := by
        refine ⟨RowX.kept hR3 ((gb_set W2 M 0 (.int .i64 (a : Int))).block _ (RowX.lt hR3) (fun e => by have := Option.some.inj e; omega)), b0.other (by omega) _, b1.other (by omega) _, ?_, bN.other (by omega) _, b4.kept ((gb_set W2 M 0 (.int .i64 (a : Int))).block _ b4.lt (fun e => by have := Option.some.inj e; omega)), gb_set_new b5 (by omega) 0 _⟩
        rw [hlen]
        exact b2.set _
      have hax : (a : Int) ≤ (s1.size : Int) := by omega
      have hsub : IntKind.i64.wrap ((s1.size : Int) - (a : Int)) = (s1.size : Int) - (a : Int) := by rw [i64_w]; unfold wrap64; omega
      have n1 := b1.cell
      have n2 := b2.cell
      have g2 := b2.frozen
      clear c0 c1 c2 f2 hS hb0 hb1 hb2 hGl hgr hR2 hR3 hG2 b0 b4 b5 hKf hbN bN
      by_cases hlt : (s1.size : Int) - (a : Int) < 64
      · have hltd : decide ((s1.size : Int) - (a : Int) < 64) = true := decide_eq_true hlt
        have hout : s1.size < 64 * (prt s1 k ++ [(a, p)]).length + 64 := by omega
        clear hlen
        gi_wp2
        exact ⟨hKf2, hI, rfl, hout⟩
      · have hltd : decide ((s1.size : Int) - (a : Int) < 64) = false := decide_eq_false hlt
        clear hlen
        gi_wp2
        exact ⟨hKf2, hkp, hI⟩
    case' donepos =>
      rintro D xs W hD rfl hC hK2
      obtain ⟨q, hq⟩ : ∃ q, s1.size / 64 = q := ⟨_, rfl⟩
      have hq1 : 64 * q ≤ s1.size := by omega
      have hq2 : s1.size < 64 * q + 64 := by omega
      rw [hq] at hC
    case' stoppos =>
      rintro D c pre W hD ⟨q', hq', rfl⟩ ⟨hC, rfl, hout⟩ hK2
      obtain ⟨q, hq⟩ : ∃ q, q' + 1 = q := ⟨_, rfl⟩
      rw [hq] at hC hout
      rw [prt_len] at hout
      have hq1 : 64 * q ≤ s1.size := by omega
      have hq2 : s1.size < 64 * q + 64 := hout
      clear hout hq'
      refine wpIn_exit ?_
    all_goals
      obtain ⟨hS, hb0, hb1, hb2, hbN, hGl, hgr⟩ := hC
      rw [prt_len] at hb2
      obtain ⟨z, hz⟩ : ∃ z, 64 * q = z := ⟨_, rfl⟩
      rw [hz] at hb2
      have hfq : (folds K h1 (prt s1 q)).length = 8 := folds_len _ _ _ hl1
      have hz1 : (z : Int) ≤ (s1.size : Int) := by omega
      have hz0 : (0 : Int) ≤ (z : Int) := by omega
      have hz2 : (s1.size : Int) ≤ (s1.size : Int) := Int.le_refl _
      have habs2 := absorb_end K h1 s1 q hq1 hq2
      rw [← habs] at habs2
      have Habs := Lib.hid habs2
      have c0 := hb0.cell
      have c1 := hb1.cell
      have c2 := hb2.cell
      have c8 := hS.cell8 hfq
      have f8 := RowX.frozen hS 8
      clear habs habs2 hGl hbN
      go_wp2
      go_still_tail 6, (by kernel_rfl)
      go_wp2
      have hS3 := Summ.set8 hS hfq (s1.extract z s1.size)
      have hG3 := gb_drew (gb_trans hgr (gb_set W g 8 (.string (s1.extract z s1.size))))
      have hK3 : (W.setCell ⟨g, 8, none⟩ (.string (s1.extract z s1.size))).drew.heap[D]? = some (.deferred (some [])) := (Below.heap_setCell _ _ _ _ (by show D ≠ g; omega)).trans hK2
      have hS4 : Summ ((W.setCell ⟨g, 8, none⟩ (.string (s1.extract z s1.size))).drew.putObj D (.deferred none)) g (folds K h1 (prt s1 q)) (s1.extract z s1.size) n := RowX.kept hS3 (World.putObj_heap_other (by omega))
      have h1e : _ = folds K h1 (prt s1 q) := congrArg Prod.fst Habs.out
      have h2e : _ = s1.data.toList.drop (64 * q) := congrArg Prod.snd Habs.out
      have h3e : (s1.extract z s1.size).data.toList = s1.data.toList.drop (64 * q) := by
        rw [ba_ex, List.take_of_length_le (by rw [← ba_size]; exact Nat.le_refl _), hz]
      refine takes_end hK3 ⟨rfl, ⟨s1.extract z s1.size, Eq.trans h3e h2e.symm, ?_⟩, gb_row_new hG3 (grownBy_putObj' _ D _) (by omega)⟩
      rw [← h1e] at hS4
      exact hS4
  case neg =>
    obtain ⟨M, hM⟩ : ∃ M, W1.heap.size = M := ⟨_, rfl⟩
    rw [hM] at k6
    go_wp2
    refine wp_label ?_
    have d0 := k0.alloc (.cells #[.int .i64 0] 3)
    have d1 := k1.alloc (.cells #[.int .i64 0] 3)
    have d2 : Summ (W1.alloc (.cells #[.int .i64 0] 3)) g h1 ⟨#[]⟩ n := RowX.alloc k2 _
    have d3 := Boxed.new W1 3 (.int .i64 0)
    have d4 : Glob (W1.alloc (.cells #[.int .i64 0] 3)) 2 K := k4.kept (Below.heap_alloc _ _ _ k4.lt)
    have d5 : w.grownBy (W1.alloc (.cells #[.int .i64 0] 3)) (some g) := gb_trans k5 (World.grownBy_alloc _ _ _)
    have d6 : (W1.alloc (.cells #[.int .i64 0] 3)).heap.size = M + 1 := by rw [World.size_alloc, hM]
    rw [hM] at d3
    clear k0 k1 k2 k4 k5
    generalize W1.alloc (.cells #[.int .i64 0] 3) = V1 at *
    have c1 := d1.cell
    go_wp2_with (go_at_call 53; refine (parts_any _ _).mono ?_; rintro e w' ⟨rfl, rfl⟩)
    refine (wpIn_wide (n := 9)).1 ?_
    have e0 := d0.alloc (.cells #[.string s1] 9)
    have e1 := d1.alloc (.cells #[.string s1] 9)
    have e2 : Summ (V1.alloc (.cells #[.string s1] 9)) g h1 ⟨#[]⟩ n := RowX.alloc d2 _
    have e3 := d3.alloc (.cells #[.string s1] 9)
    have e4 : Glob (V1.alloc (.cells #[.string s1] 9)) 2 K := d4.kept (Below.heap_alloc _ _ _ d4.lt)
    have e5 : w.grownBy (V1.alloc (.cells #[.string s1] 9)) (some g) := gb_trans d5 (World.grownBy_alloc _ _ _)
    have e6 : (V1.alloc (.cells #[.string s1] 9)).heap.size = M + 2 := by rw [World.size_alloc, d6]
    have eN := Boxed.new V1 9 (.string s1)
    rw [d6] at eN
    clear d0 d1 d2 d3 d4 d5 c1
    generalize V1.alloc (.cells #[.string s1] 9) = V2 at *
    refine wpIn_rangeFunc_v (F := Fence.wide) (n := 9) rfl (by omega) (gf := 60) (lb := #[.pointer (some ⟨M + 1, 0, none⟩)]) rfl trivial (enters_of Tryd.func60 (by kernel_rfl) rfl)
      (parts1 (M + 1) s1 V2 eN hs1l) (fun A B h => h.elim) (fun h k => k.trans h) (fun W l o o' hl hk ho _ => World.putObj_heap_other (by omega)) (Below.refl _ _) (fun _ => rfl)
      (TInv w N M g K h1 s1 n) (TOut w N M g K h1 s1 n) (TInv_own (by omega)) (TOut_own (by omega)) (fun _ _ _ _ h => h.elim) (fun _ _ _ _ _ h => h.elim)
      ⟨e2, e0, e1, e3, eN, e4, e5⟩ ?a1neg ?assignneg ?bodyneg ?doneneg ?stopneg
    case assignneg =>
      intro l x W K hK
      gi_wp2
      exact hK
    case bodyneg =>
      rintro l pre x W ⟨hS, hb0, hb1, hb2, hbN, hGl, hgr⟩ ⟨k, rfl, hk64, hx⟩
      obtain ⟨a, p⟩ := x
      obtain ⟨ha, hp⟩ := Prod.mk.inj hx
      have c0 := hb0.cell
      have c1 := hb1.cell
      have c2 := hb2.cell
      have f2 := hb2.frozen
      have hpl : p.size = 64 := by rw [hp, ByteArray.size_extract]; omega
      have hal : a ≤ s1.size := by omega
      have Ha := Lib.hid ha
      have Hp := Lib.hid hp
      have hfl : (folds K h1 (prt s1 k)).length = 8 := folds_len _ _ _ hl1
      clear hx ha hp
      have hlen : 64 * (prt s1 k ++ [(a, p)]).length = a := by
        have := Ha.out
        rw [List.length_append, prt_len]
        simp
        omega
      gi_wp2_with fail
      refine ⟨trivial, (CallsIn.inRound l (callsIn_wide.2 (lays_calls g 86 (sumR ⟨#[]⟩ n) K (folds K h1 (prt s1 k)) p hpl hfl W hGl hK hS))).mono ?_⟩
      rintro e W2 ⟨rfl, hR2, hG2⟩
      rw [lay_bt] at hR2
      have hR3 : Summ W2 g (folds K h1 (prt s1 k ++ [(a, p)])) ⟨#[]⟩ n := by
        rw [folds_snoc]
        exact hR2
      have b0 := hb0.kept hG2 (fun e => by have := Option.some.inj e; omega)
      have b1 := hb1.kept hG2 (fun e => by have := Option.some.inj e; omega)
      have b2 := hb2.kept hG2 (fun e => by have := Option.some.inj e; omega)
      have bN := hbN.kept hG2 (fun e => by have := Option.some.inj e; omega)
      have b4 : Glob W2 2 K := hGl.kept (hG2.block _ hGl.lt (fun e => hgne (Option.some.inj e)))
      have b5 : w.grownBy W2 (some g) := gb_trans hgr hG2
      have hKf : KeepsFrom V2.heap.size W W2 := KeepsFrom.of_grownBy hG2 (fun j e => by cases e; omega)
      have hKf2 : KeepsFrom V2.heap.size W (W2.setCell ⟨M, 0, none⟩ (.int .i64 (a : Int))) := hKf.trans (KeepsFrom.of_grownBy (grownBy_setCell' W2 M _) (fun j e => by cases e; omega))
      have hkp : (W2.setCell ⟨M, 0, none⟩ (.int .i64 (a : Int))).heap[M + 1]? = W.heap[M + 1]? := by
        have h1 : (W2.setCell ⟨M, 0, none⟩ (.int .i64 (a : Int))).heap[M + 1]? = _ := bN.other (by omega) _
        have h2 : W.heap[M + 1]? = _ := hbN
        rw [h1, h2]
      have hI : TInv w N M g K h1 s1 n (prt s1 k ++ [(a, p)]) (W2.setCell ⟨M, 0, none⟩ (.int .i64 (a : Int))) := by
        refine ⟨RowX.kept hR3 ((gb_set W2 M 0 (.int .i64 (a : Int))).block _ (RowX.lt hR3) (fun e => by have := Option.some.inj e; omega)), b0.other (by omega) _, b1.other (by omega) _, ?_, bN.other (by omega) _, b4.kept ((gb_set W2 M 0 (.int .i64 (a : Int))).block _ b4.lt (fun e => by have := Option.some.inj e; omega)), gb_set_new b5 (by omega) 0 _⟩
        rw [hlen]
        exact b2.set _
      have hax : (a : Int) ≤ (s1.size : Int) := by omega
      have hsub : IntKind.i64.wrap ((s1.size : Int) - (a : Int)) = (s1.size : Int) - (a : Int) := by rw [i64_w]; unfold wrap64; omega
      have n1 := b1.cell
      have n2 := b2.cell
      have g2 := b2.frozen
      clear c0 c1 c2 f2 hS hb0 hb1 hb2 hGl hgr hR2 hR3 hG2 b0 b4 b5 hKf hbN bN
      by_cases hlt : (s1.size : Int) - (a : Int) < 64
      · have hltd : decide ((s1.size : Int) - (a : Int) < 64) = true := decide_eq_true hlt
        have hout : s1.size < 64 * (prt s1 k ++ [(a, p)]).length + 64 := by omega
        clear hlen
        gi_wp2
        exact ⟨hKf2, hI, rfl, hout⟩
      · have hltd : decide ((s1.size : Int) - (a : Int) < 64) = false := decide_eq_false hlt
        clear hlen
        gi_wp2
        exact ⟨hKf2, hkp, hI⟩
    case' doneneg =>
      rintro D xs W hD rfl hC hK2
      obtain ⟨q, hq⟩ : ∃ q, s1.size / 64 = q := ⟨_, rfl⟩
      have hq1 : 64 * q ≤ s1.size := by omega
      have hq2 : s1.size < 64 * q + 64 := by omega
      rw [hq] at hC
    case' stopneg =>
      rintro D c pre W hD ⟨q', hq', rfl⟩ ⟨hC, rfl, hout⟩ hK2
      obtain ⟨q, hq⟩ : ∃ q, q' + 1 = q := ⟨_, rfl⟩
      rw [hq] at hC hout
      rw [prt_len] at hout
      have hq1 : 64 * q ≤ s1.size := by omega
      have hq2 : s1.size < 64 * q + 64 := hout
      clear hout hq'
      refine wpIn_exit ?_
    all_goals
      obtain ⟨hS, hb0, hb1, hb2, hbN, hGl, hgr⟩ := hC
      rw [prt_len] at hb2
      obtain ⟨z, hz⟩ : ∃ z, 64 * q = z := ⟨_, rfl⟩
      rw [hz] at hb2
      have hfq : (folds K h1 (prt s1 q)).length = 8 := folds_len _ _ _ hl1
      have hz1 : (z : Int) ≤ (s1.size : Int) := by omega
      have hz0 : (0 : Int) ≤ (z : Int) := by omega
      have hz2 : (s1.size : Int) ≤ (s1.size : Int) := Int.le_refl _
      have habs2 := absorb_end K h1 s1 q hq1 hq2
      rw [← habs] at habs2
      have Habs := Lib.hid habs2
      have c0 := hb0.cell
      have c1 := hb1.cell
      have c2 := hb2.cell
      have c8 := hS.cell8 hfq
      have f8 := RowX.frozen hS 8
      clear habs habs2 hGl hbN
      go_wp2
      go_still_tail 6, (by kernel_rfl)
      go_wp2
      have hS3 := Summ.set8 hS hfq (s1.extract z s1.size)
      have hG3 := gb_drew (gb_trans hgr (gb_set W g 8 (.string (s1.extract z s1.size))))
      have hK3 : (W.setCell ⟨g, 8, none⟩ (.string (s1.extract z s1.size))).drew.heap[D]? = some (.deferred (some [])) := (Below.heap_setCell _ _ _ _ (by show D ≠ g; omega)).trans hK2
      have hS4 : Summ ((W.setCell ⟨g, 8, none⟩ (.string (s1.extract z s1.size))).drew.putObj D (.deferred none)) g (folds K h1 (prt s1 q)) (s1.extract z s1.size) n := RowX.kept hS3 (World.putObj_heap_other (by omega))
      have h1e : _ = folds K h1 (prt s1 q) := congrArg Prod.fst Habs.out
      have h2e : _ = s1.data.toList.drop (64 * q) := congrArg Prod.snd Habs.out
      have h3e : (s1.extract z s1.size).data.toList = s1.data.toList.drop (64 * q) := by
        rw [ba_ex, List.take_of_length_le (by rw [← ba_size]; exact Nat.le_refl _), hz]
      refine takes_end hK3 ⟨rfl, ⟨s1.extract z s1.size, Eq.trans h3e h2e.symm, ?_⟩, gb_row_new hG3 (grownBy_putObj' _ D _) (by omega)⟩
      rw [← h1e] at hS4
      exact hS4

end Go.Proofs.YtobjhddiieaafaaDoor.M

namespace Go.Proofs.YtobjhddiieaafaaDoor.M
open Go.Proofs.YtobjhddiieaafaaDoor.H
open Go.RowKit Go.Shelf Go.Proofs.YtobjhddiieaafaaDoorW.PrintWords Go.Proofs.YtobjhddiieaafaaDoorW.PrintLast Go.Proofs.YtobjhddiieaafaaDoorW.PrintMore Go.Proofs.YtobjhddiieaafaaDoor.Plain Go.Proofs.YtobjhddiieaafaaDoor.RowOf Go.Proofs.YtobjhddiieaafaaDoor.Le
attribute [local go_sem] Oper.semAt_some
set_option linter.unusedVariables false
set_option linter.unusedSimpArgs false

/-- A Summer that has taken a text. -/
def Sm (W : World) (g : Nat) (K F : List Int) (t : List UInt8) (n : Int) : Prop := ∃ r : ByteArray, r.data.toList = (absorb K F t).2 ∧ Summ W g (absorb K F t).1 r n
theorem Sm.kept {W W' : World} {g : Nat} {K F : List Int} {t : List UInt8} {n : Int} (h : Sm W g K F t n) (he : W'.heap[g]? = W.heap[g]?) : Sm W' g K F t n := by
  obtain ⟨r, h1, h2⟩ := h
  exact ⟨r, h1, RowX.kept h2 he⟩
theorem Sm.lt {W : World} {g : Nat} {K F : List Int} {t : List UInt8} {n : Int} (h : Sm W g K F t n) : g < W.heap.size := by
  obtain ⟨r, h1, h2⟩ := h
  exact RowX.lt h2

theorem takes_any (g : Nat) (K F : List Int) (t : List UInt8) (s : ByteArray) (n : Int) (hF : F.length = 8) (hK : K.length = 64) (hs : s.size ≤ 140737488355000) (w : World) (hS : Sm w g K F t n) (hG : Glob w 2 K) :
    Calls Tryd.prog 46 #[.pointer (some ⟨g, 0, none⟩), .string s] w fun e w' => e = .returned (.tuple #[]) ∧ Sm w' g K F (t ++ s.data.toList) n ∧ w.grownBy w' (some g) := by
  obtain ⟨r, h1, h2⟩ := hS
  have hr := absorb_rest K t.length F t (Nat.le_refl _)
  have hl := absorb_len K t.length F t (Nat.le_refl _) hF
  have hr64 : r.size < 64 := by rw [ba_size, h1]; exact hr.1
  have ha := absorb_append K t.length F t s.data.toList (Nat.le_refl _)
  by_cases hc : r.size = 0 ∨ 64 ≤ r.size + s.size
  · refine (takes_long g K _ r s n hl hK hr64 hc hs w h2 hG).mono ?_
    rintro e w' ⟨he, ⟨r', h3, h4⟩, h5⟩
    refine ⟨he, ⟨r', ?_, ?_⟩, h5⟩
    · rw [ha, ← h1, h3]
    · rw [ha, ← h1]
      exact h4
  · have hr0 : r ≠ ⟨#[]⟩ := fun e => hc (Or.inl (by rw [e]; rfl))
    have hrs : r.size + s.size < 64 := by omega
    refine (takes_short g _ r s n hl hr0 hrs w h2).mono ?_
    rintro e w' ⟨he, h4, h5⟩
    have hab : absorb K (absorb K F t).1 ((absorb K F t).2 ++ s.data.toList) = ((absorb K F t).1, (absorb K F t).2 ++ s.data.toList) := absorb_less _ _ _ (by rw [List.length_append, ← h1, ← ba_size, ← ba_size]; exact hrs)
    refine ⟨he, ⟨r ++ s, ?_, ?_⟩, h5⟩
    · rw [ha, hab, ba_app, h1]
    · rw [ha, hab]
      exact h4

end Go.Proofs.YtobjhddiieaafaaDoor.M
