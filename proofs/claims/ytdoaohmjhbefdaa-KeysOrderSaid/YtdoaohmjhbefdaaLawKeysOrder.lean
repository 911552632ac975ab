/- The law KeysOrder of the Go program answers true, for every input; no condition. -/
import Derived.Test.YtdoaohmjhbefdaaRows
import Derived.Test.YtdoaohmjhbefdaaL6
import Derived.Test.YtdoaohmjhbefdaaR
import Derived.WalkKit
import Derived.ProofKit
import Derived.OpenShut
import Derived.ShutString
import Derived.ChangeOld
import Derived.Below
import Derived.SizedLaws
import Derived.ChangeArms
namespace Go.Proofs.Ytdoaohmjhbefdaa.keysOrder
open Go.ChangeShapes Go.WideShapes Go.ChangeAt Go.RowKit
open Go.ChangeMaps (open_string shut_string)
set_option linter.unusedVariables false
theorem own : ownKnob Try.prog.godebug = none := by kernel_rfl
theorem laidOut : laidOutB Try.prog = true := by kernel_rfl

theorem trod_25 {H : Type} {enc : TypeId × Value → H} {w : World} {base : Nat} {spare : Nat → Bool} {held : Bool} {n : Nat} {cs : List Value} {x : DataW H × List MemPlace} (h : DataW.trod enc Try.prog w base spare held n 25 cs = some x) :
    ∃ (a0 : Int) (a1 : ByteArray), cs = [.int .u32 a0, .string a1] ∧ (Lit.int .u32 a0).wf = true ∧ a1.size ≤ maxLen ∧ True := by
  obtain ⟨xs, m, _, _, hl, hlen, hf⟩ := DataW.trod_struct Try.underlying25 h
  rw [show Try.prog.cellsOf 25 = 2 from by kernel_rfl] at hl
  replace hlen : xs.length = 2 := hlen
  obtain ⟨c0, c1, rfl⟩ : ∃ c0 c1, cs = [c0, c1] := by
    match cs, hl with
    | [c0, c1], _ => exact ⟨_, _, rfl⟩
  have f0 := hf 0 _ rfl
  rw [List.getElem?_eq_getElem (show 0 < xs.length by omega)] at f0
  replace f0 : DataW.trod enc Try.prog w base spare held m 23 [c0] = some xs[0] := by
    rw [← f0]
    show _ = DataW.trod enc Try.prog w base spare held m 23 (([c0, c1].drop 0).take (Try.prog.cellsOf 23))
    rw [show Try.prog.cellsOf 23 = 1 from by kernel_rfl]
    rfl
  obtain ⟨a0, e0, _, w0_0⟩ := DataW.trod_int Try.underlying23 f0
  simp only [List.cons.injEq, and_true] at e0
  have f1 := hf 1 _ rfl
  rw [List.getElem?_eq_getElem (show 1 < xs.length by omega)] at f1
  replace f1 : DataW.trod enc Try.prog w base spare held m 9 [c1] = some xs[1] := by
    rw [← f1]
    show _ = DataW.trod enc Try.prog w base spare held m 9 (([c0, c1].drop 1).take (Try.prog.cellsOf 9))
    rw [show Try.prog.cellsOf 9 = 1 from by kernel_rfl]
    rfl
  obtain ⟨a1, e1, _, w1_0⟩ := DataW.trod_string Try.underlying9 f1
  simp only [List.cons.injEq, and_true] at e1
  subst e0
  subst e1
  exact ⟨a0, a1, rfl, w0_0, w1_0, trivial⟩

set_option maxRecDepth 100000 in
theorem lifted (os : Os) (started : os.Started) (H : Type) (enc : TypeId × Value → H) :
    ReturnsInHanded {} Try.checked os 4 .any (Rows.keysOrderSpec.pre6 enc Try.prog Try.f4 Rows.keysOrderRow.domain false) (Rows.keysOrderSpec.post enc Try.prog Try.f4 false true false false) := by
  refine returnsInHanded_of_change_sized (C := Try.checked) own started (by kernel_rfl) Try.func4
    (ChangeSpec.witness6 (enc := enc) (C := Try.checked) false ⟨#[], #[.slice none 0 0, .agg #[.int .u32 0, .string ByteArray.empty], .agg #[.int .u32 0, .string ByteArray.empty]], []⟩ 8 (by kernel_rfl) (by kernel_rfl) (by kernel_rfl) (by kernel_rfl)) ?_
  intro W base args ds gs before hval0 hW hcnd hsz0 _
  have hsz : (DataW.weightsEach Try.prog (Try.f4.params.toList ++ Rows.keysOrderSpec.plain.varTypes Try.prog) (ds ++ gs)).all (· ≤ reachBytes) = true := hsz0
  have hval : ∀ (j : Nat) t v, Try.f4.params[j]? = some t → args[j]? = some v → Value.okWide Try.prog W .any base t v := hval0
  have hW' := hW
  obtain ⟨p, q, hA0, hV, rfl, hfz, hnd⟩ := hW
  have hA : DataW.TrodAll enc Try.prog W 0 (fun _ => true) true Try.f4.params.toList args.toList ds p := hA0
  rw [Try.params4] at hA hval hsz
  obtain ⟨v0, vs0, d0, ds0, p0, q0, hargs, rfl, rfl, h0, r0⟩ := trodAll_cons hA
  obtain ⟨v1, vs1, d1, ds1, p1, q1, rfl, rfl, rfl, h1, r1⟩ := trodAll_cons r0
  obtain ⟨v2, vs2, d2, ds2, p2, q2, rfl, rfl, rfl, h2, r2⟩ := trodAll_cons r1
  obtain ⟨rfl, rfl, rfl⟩ := trodAll_nil r2
  obtain rfl : args = #[v0, v1, v2] := by cases args; simp_all
  obtain ⟨rfl, rfl⟩ := trodVars_none hV
  have k0 := h0
  have lt0 : ∀ x ∈ p0, x.block < W.heap.size := by obtain ⟨m, hm⟩ := k0; exact DataW.trod_lt m _ _ _ hm
  obtain ⟨a0, len0, cap0, rfl⟩ := okWide_slice Try.underlying22 (hval 0 22 v0 rfl rfl)
  obtain ⟨fu0, hf0⟩ := h0
  obtain ⟨lc0, L0, hL0, hC0⟩ := Go.Proofs.Ytdoaohmjhbefdaa.H.keys_of hf0
  have k1 := h1
  have lt1 : ∀ x ∈ p1, x.block < W.heap.size := by obtain ⟨m, hm⟩ := k1; exact DataW.trod_lt m _ _ _ hm
  obtain ⟨cs1, rfl, _⟩ := okWide_struct Try.underlying25 (hval 1 25 v1 rfl rfl)
  obtain ⟨fu1, hf1⟩ := h1
  obtain ⟨a1_0, a1_1, ecs1, wa1_0, wa1_1, _⟩ := trod_25 hf1
  obtain rfl : cs1 = #[.int .u32 a1_0, .string a1_1] := by cases cs1; simpa [Value.cells] using ecs1
  have k2 := h2
  have lt2 : ∀ x ∈ p2, x.block < W.heap.size := by obtain ⟨m, hm⟩ := k2; exact DataW.trod_lt m _ _ _ hm
  obtain ⟨cs2, rfl, _⟩ := okWide_struct Try.underlying25 (hval 2 25 v2 rfl rfl)
  obtain ⟨fu2, hf2⟩ := h2
  obtain ⟨a2_0, a2_1, ecs2, wa2_0, wa2_1, _⟩ := trod_25 hf2
  obtain rfl : cs2 = #[.int .u32 a2_0, .string a2_1] := by cases cs2; simpa [Value.cells] using ecs2
  clear hA0 hval0 hsz0 hsz
  refine (Go.Proofs.Ytdoaohmjhbefdaa.H.KeysOrder_walk a0 len0 cap0 L0 a1_0 a1_1 a2_0 a2_1 W lc0 hL0 hC0).mono fun e W' ⟨he, bel⟩ => ?_
  subst he
  exact ⟨_, rfl, _, _, _, [], _, [], hW', trodAll_mk1 (shut_bool Try.underlying4 _), (trodAll_cons_mk (Below.trod laidOut (by kernel_rfl) (of_decide_eq_true (by kernel_rfl)) k0 bel lt0) (trodAll_cons_mk (Below.trod laidOut (by kernel_rfl) (of_decide_eq_true (by kernel_rfl)) k1 bel lt1) (trodAll_cons_mk (Below.trod laidOut (by kernel_rfl) (of_decide_eq_true (by kernel_rfl)) k2 bel lt2) trodAll_mk0))), rfl, bel.frame _, fun h => by cases h⟩

theorem over : Rows.keysOrderRow.holds Try.pinned (OpenSpec.ofChange Rows.keysOrderSpec) :=
  OpenClaim.holds_of_wide 4 Try.f4 rfl rfl rfl rfl rfl rfl rfl ⟨rfl, rfl, rfl, rfl, rfl⟩ rfl rfl rfl rfl rfl (by kernel_rfl) Try.func4 (by kernel_rfl)
    (of_decide_eq_true (by kernel_rfl)) (by unfold Func.isWrapper; first | (rw [if_pos (by decide +kernel)]; kernel_rfl) | (rw [if_neg (by decide +kernel)]; exact ⟨rfl, rfl⟩))
    (fun os started H enc _ => lifted os started H enc)
theorem proved : Rows.KeysOrderSaid := over
#print axioms proved
end Go.Proofs.Ytdoaohmjhbefdaa.keysOrder
namespace Go.Proofs.Ytdoaohmjhbefdaa
theorem keysOrder_holds : Rows.KeysOrderSaid := keysOrder.proved
end Go.Proofs.Ytdoaohmjhbefdaa
