/- The law RowsRight of the Go program answers true, for every input; no condition. -/
import Derived.Test.YtmeaiancebgkoaaRows
import Derived.Test.YtmeaiancebgkoaaF1
import Derived.Test.YtmeaiancebgkoaaR
import Derived.WalkKit
import Derived.ProofKit
import Derived.OpenShut
import Derived.ShutString
import Derived.ChangeOld
import Derived.Below
import Derived.SizedLaws
import Derived.ChangeArms
namespace Go.Proofs.Ytmeaiancebgkoaa.rowsRight
open Go.ChangeShapes Go.WideShapes Go.ChangeAt Go.RowKit
open Go.ChangeMaps (open_string shut_string)
set_option linter.unusedVariables false
theorem own : ownKnob Try.prog.godebug = none := by kernel_rfl
theorem laidOut : laidOutB Try.prog = true := by kernel_rfl

set_option maxRecDepth 100000 in
theorem trod_28 {H : Type} {enc : TypeId × Value → H} {w : World} {base : Nat} {spare : Nat → Bool} {held : Bool} {n : Nat} {cs : List Value} {x : DataW H × List MemPlace} (h : DataW.trod enc Try.prog w base spare held n 28 cs = some x) :
    ∃ (a0 : Int) (a1 : ByteArray), cs = [.int .u32 a0, .string a1] ∧ (Lit.int .u32 a0).wf = true ∧ a1.size ≤ maxLen ∧ True := by
  obtain ⟨xs, m, _, _, hl, hlen, hf⟩ := DataW.trod_struct Try.underlying28 h
  rw [show Try.prog.cellsOf 28 = 2 from by kernel_rfl] at hl
  replace hlen : xs.length = 2 := hlen
  obtain ⟨c0, c1, rfl⟩ : ∃ c0 c1, cs = [c0, c1] := by
    match cs, hl with
    | [c0, c1], _ => exact ⟨_, _, rfl⟩
  have f0 := hf 0 _ rfl
  rw [List.getElem?_eq_getElem (show 0 < xs.length by omega)] at f0
  replace f0 : DataW.trod enc Try.prog w base spare held m 22 [c0] = some xs[0] := by
    rw [← f0]
    show _ = DataW.trod enc Try.prog w base spare held m 22 (([c0, c1].drop 0).take (Try.prog.cellsOf 22))
    rw [show Try.prog.cellsOf 22 = 1 from by kernel_rfl]
    rfl
  obtain ⟨a0, e0, _, w0_0⟩ := DataW.trod_int Try.underlying22 f0
  simp only [List.cons.injEq, and_true] at e0
  have f1 := hf 1 _ rfl
  rw [List.getElem?_eq_getElem (show 1 < xs.length by omega)] at f1
  replace f1 : DataW.trod enc Try.prog w base spare held m 9 [c1] = some xs[1] := by
    rw [← f1]
    show _ = DataW.trod enc Try.prog w base spare held m 9 (([c0, c1].drop 1).take (Try.prog.cellsOf 9))
    rw [show Try.prog.cellsOf 9 = 1 from by kernel_rfl]
    rfl
  obtain ⟨a1, e1, _, w1_0⟩ := DataW.trod_string Try.underlying9 f1
  simp only [List.cons.injEq, and_true] at e1
  subst e0
  subst e1
  exact ⟨a0, a1, rfl, w0_0, w1_0, trivial⟩

set_option maxRecDepth 100000 in
theorem lifted (os : Os) (started : os.Started) (H : Type) (enc : TypeId × Value → H) :
    ReturnsInHanded {} Try.checked os 3 .any (Rows.rowsRightSpec.pre6 enc Try.prog Try.f3 Rows.rowsRightRow.domain false) (Rows.rowsRightSpec.post enc Try.prog Try.f3 false true false false) := by
  refine returnsInHanded_of_change_sized (C := Try.checked) own started (by kernel_rfl) Try.func3
    (ChangeSpec.witness6 (enc := enc) (C := Try.checked) false ⟨#[], #[.agg #[.int .i64 0, .int .u32 0, .int .u32 0, .int .i64 0, .slice none 0 0, .slice none 0 0, .int .u32 0, .string ByteArray.empty], .agg #[.int .u32 0, .string ByteArray.empty]], []⟩ 8 (by kernel_rfl) (by kernel_rfl) (by kernel_rfl) (by kernel_rfl)) ?_
  intro W base args ds gs before hval0 hW hcnd hsz0 _
  have hsz : (DataW.weightsEach Try.prog (Try.f3.params.toList ++ Rows.rowsRightSpec.plain.varTypes Try.prog) (ds ++ gs)).all (· ≤ reachBytes) = true := hsz0
  have hval : ∀ (j : Nat) t v, Try.f3.params[j]? = some t → args[j]? = some v → Value.okWide Try.prog W .any base t v := hval0
  have hW' := hW
  obtain ⟨p, q, hA0, hV, rfl, hfz, hnd⟩ := hW
  have hA : DataW.TrodAll enc Try.prog W 0 (fun _ => true) true Try.f3.params.toList args.toList ds p := hA0
  rw [Try.params3] at hA hval hsz
  obtain ⟨v0, vs0, d0, ds0, p0, q0, hargs, rfl, rfl, h0, r0⟩ := trodAll_cons hA
  obtain ⟨v1, vs1, d1, ds1, p1, q1, rfl, rfl, rfl, h1, r1⟩ := trodAll_cons r0
  obtain ⟨rfl, rfl, rfl⟩ := trodAll_nil r1
  obtain rfl : args = #[v0, v1] := by cases args; simp_all
  obtain ⟨rfl, rfl⟩ := trodVars_none hV
  have k0 := h0
  have lt0 : ∀ x ∈ p0, x.block < W.heap.size := by obtain ⟨m, hm⟩ := k0; exact DataW.trod_lt m _ _ _ hm
  obtain ⟨cs0, rfl, _⟩ := okWide_struct Try.underlying30 (hval 0 30 v0 rfl rfl)
  obtain ⟨fu0, hf0⟩ := h0
  obtain ⟨a0, A0, B0, n0, c0, m0, d0_, ecs0, in0, lc0, hL0, lk0, hK0, hC0, hD0⟩ := Go.Proofs.Ytmeaiancebgkoaa.H.page_of hf0
  obtain rfl : cs0 = #[.int .i64 a0.k, .int .u32 a0.x, .int .u32 a0.y, .int .i64 a0.lv, .slice A0 n0 c0, .slice B0 m0 d0_, .int .u32 a0.np, .string a0.nt] := by cases cs0; simpa [Value.cells] using ecs0
  have k1 := h1
  have lt1 : ∀ x ∈ p1, x.block < W.heap.size := by obtain ⟨m, hm⟩ := k1; exact DataW.trod_lt m _ _ _ hm
  obtain ⟨cs1, rfl, _⟩ := okWide_struct Try.underlying28 (hval 1 28 v1 rfl rfl)
  obtain ⟨fu1, hf1⟩ := h1
  obtain ⟨a1_0, a1_1, ecs1, wa1_0, wa1_1, _⟩ := trod_28 hf1
  obtain rfl : cs1 = #[.int .u32 a1_0, .string a1_1] := by cases cs1; simpa [Value.cells] using ecs1
  clear hA0 hval0 hsz0 hsz
  refine (Go.Proofs.Ytmeaiancebgkoaa.H.RowsRight_row a0 A0 B0 n0 c0 m0 d0_ a1_0 a1_1 W in0 lc0 hL0 lk0 hK0 hC0 hD0 wa1_0 wa1_1).mono fun e W' ⟨he, bel⟩ => ?_
  subst he
  exact ⟨_, rfl, _, _, _, [], _, [], hW', trodAll_mk1 (shut_bool Try.underlying4 _), (trodAll_cons_mk (Below.trod laidOut (by kernel_rfl) (of_decide_eq_true (by kernel_rfl)) k0 bel lt0) (trodAll_cons_mk (Below.trod laidOut (by kernel_rfl) (of_decide_eq_true (by kernel_rfl)) k1 bel lt1) trodAll_mk0)), rfl, bel.frame _, fun h => by cases h⟩

theorem over : Rows.rowsRightRow.holds Try.pinned (OpenSpec.ofChange Rows.rowsRightSpec) :=
  OpenClaim.holds_of_wide 3 Try.f3 rfl rfl rfl rfl rfl rfl rfl ⟨rfl, rfl, rfl, rfl, rfl⟩ rfl rfl rfl rfl rfl (by kernel_rfl) Try.func3 (by kernel_rfl)
    (of_decide_eq_true (by kernel_rfl)) (by unfold Func.isWrapper; first | (rw [if_pos (by decide +kernel)]; kernel_rfl) | (rw [if_neg (by decide +kernel)]; exact ⟨rfl, rfl⟩))
    (fun os started H enc _ => lifted os started H enc)
theorem proved : Rows.RowsRightSaid := over
#print axioms proved
end Go.Proofs.Ytmeaiancebgkoaa.rowsRight
namespace Go.Proofs.Ytmeaiancebgkoaa
theorem rowsRight_holds : Rows.RowsRightSaid := rowsRight.proved
end Go.Proofs.Ytmeaiancebgkoaa
