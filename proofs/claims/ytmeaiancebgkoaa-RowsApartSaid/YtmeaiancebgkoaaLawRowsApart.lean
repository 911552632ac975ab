/- The law RowsApart of the Go program answers true, for every input; no condition. -/
import Derived.Test.YtmeaiancebgkoaaRows
import Derived.Test.YtmeaiancebgkoaaB2
import Derived.Test.YtmeaiancebgkoaaR
import Derived.WalkKit
import Derived.ProofKit
import Derived.OpenShut
import Derived.ShutString
import Derived.ChangeOld
import Derived.Below
import Derived.SizedLaws
import Derived.ChangeArms
namespace Go.Proofs.Ytmeaiancebgkoaa.rowsApart
open Go.ChangeShapes Go.WideShapes Go.ChangeAt Go.RowKit
open Go.ChangeMaps (open_string shut_string)
set_option linter.unusedVariables false
theorem own : ownKnob Try.prog.godebug = none := by kernel_rfl
theorem laidOut : laidOutB Try.prog = true := by kernel_rfl

set_option maxRecDepth 100000 in
theorem lifted (os : Os) (started : os.Started) (H : Type) (enc : TypeId × Value → H) :
    ReturnsInHanded {} Try.checked os 8 .any (Rows.rowsApartSpec.pre6 enc Try.prog Try.f8 Rows.rowsApartRow.domain false) (Rows.rowsApartSpec.post enc Try.prog Try.f8 false true false false) := by
  refine returnsInHanded_of_change_sized (C := Try.checked) own started (by kernel_rfl) Try.func8
    (ChangeSpec.witness6 (enc := enc) (C := Try.checked) false ⟨#[], #[.agg #[.int .i64 0, .int .u32 0, .int .u32 0, .int .i64 0, .slice none 0 0, .slice none 0 0, .int .u32 0, .string ByteArray.empty], .agg #[.int .i64 0, .int .u32 0, .int .u32 0, .int .i64 0, .slice none 0 0, .slice none 0 0, .int .u32 0, .string ByteArray.empty]], []⟩ 8 (by kernel_rfl) (by kernel_rfl) (by kernel_rfl) (by kernel_rfl)) ?_
  intro W base args ds gs before hval0 hW hcnd hsz0 _
  have hsz : (DataW.weightsEach Try.prog (Try.f8.params.toList ++ Rows.rowsApartSpec.plain.varTypes Try.prog) (ds ++ gs)).all (· ≤ reachBytes) = true := hsz0
  have hval : ∀ (j : Nat) t v, Try.f8.params[j]? = some t → args[j]? = some v → Value.okWide Try.prog W .any base t v := hval0
  have hW' := hW
  obtain ⟨p, q, hA0, hV, rfl, hfz, hnd⟩ := hW
  have hA : DataW.TrodAll enc Try.prog W 0 (fun _ => true) true Try.f8.params.toList args.toList ds p := hA0
  rw [Try.params8] at hA hval hsz
  obtain ⟨v0, vs0, d0, ds0, p0, q0, hargs, rfl, rfl, h0, r0⟩ := trodAll_cons hA
  obtain ⟨v1, vs1, d1, ds1, p1, q1, rfl, rfl, rfl, h1, r1⟩ := trodAll_cons r0
  obtain ⟨rfl, rfl, rfl⟩ := trodAll_nil r1
  obtain rfl : args = #[v0, v1] := by cases args; simp_all
  obtain ⟨rfl, rfl⟩ := trodVars_none hV
  have k0 := h0
  have lt0 : ∀ x ∈ p0, x.block < W.heap.size := by obtain ⟨m, hm⟩ := k0; exact DataW.trod_lt m _ _ _ hm
  obtain ⟨cs0, rfl, _⟩ := okWide_struct Try.underlying30 (hval 0 30 v0 rfl rfl)
  obtain ⟨fu0, hf0⟩ := h0
  obtain ⟨a0, A0, B0, n0, c0, m0, d0_, ecs0, in0, lc0, hL0, lk0, hK0, hC0, hD0⟩ := Go.Proofs.Ytmeaiancebgkoaa.H.page_of hf0
  obtain rfl : cs0 = #[.int .i64 a0.k, .int .u32 a0.x, .int .u32 a0.y, .int .i64 a0.lv, .slice A0 n0 c0, .slice B0 m0 d0_, .int .u32 a0.np, .string a0.nt] := by cases cs0; simpa [Value.cells] using ecs0
  have k1 := h1
  have lt1 : ∀ x ∈ p1, x.block < W.heap.size := by obtain ⟨m, hm⟩ := k1; exact DataW.trod_lt m _ _ _ hm
  obtain ⟨cs1, rfl, _⟩ := okWide_struct Try.underlying30 (hval 1 30 v1 rfl rfl)
  obtain ⟨fu1, hf1⟩ := h1
  obtain ⟨a1, A1, B1, n1, c1, m1, d1_, ecs1, in1, lc1, hL1, lk1, hK1, hC1, hD1⟩ := Go.Proofs.Ytmeaiancebgkoaa.H.page_of hf1
  obtain rfl : cs1 = #[.int .i64 a1.k, .int .u32 a1.x, .int .u32 a1.y, .int .i64 a1.lv, .slice A1 n1 c1, .slice B1 m1 d1_, .int .u32 a1.np, .string a1.nt] := by cases cs1; simpa [Value.cells] using ecs1
  clear hA0 hval0 hsz0 hsz
  refine (Go.Proofs.Ytmeaiancebgkoaa.H.RowsApart_row a0 A0 B0 n0 c0 m0 d0_ a1 A1 B1 n1 c1 m1 d1_ W in0 lc0 hL0 lk0 hK0 hC0 hD0 in1 lc1 hL1 lk1 hK1 hC1 hD1).mono fun e W' ⟨he, bel⟩ => ?_
  subst he
  exact ⟨_, rfl, _, _, _, [], _, [], hW', trodAll_mk1 (shut_bool Try.underlying4 _), (trodAll_cons_mk (Below.trod laidOut (by kernel_rfl) (of_decide_eq_true (by kernel_rfl)) k0 bel lt0) (trodAll_cons_mk (Below.trod laidOut (by kernel_rfl) (of_decide_eq_true (by kernel_rfl)) k1 bel lt1) trodAll_mk0)), rfl, bel.frame _, fun h => by cases h⟩

theorem over : Rows.rowsApartRow.holds Try.pinned (OpenSpec.ofChange Rows.rowsApartSpec) :=
  OpenClaim.holds_of_wide 8 Try.f8 rfl rfl rfl rfl rfl rfl rfl ⟨rfl, rfl, rfl, rfl, rfl⟩ rfl rfl rfl rfl rfl (by kernel_rfl) Try.func8 (by kernel_rfl)
    (of_decide_eq_true (by kernel_rfl)) (by unfold Func.isWrapper; first | (rw [if_pos (by decide +kernel)]; kernel_rfl) | (rw [if_neg (by decide +kernel)]; exact ⟨rfl, rfl⟩))
    (fun os started H enc _ => lifted os started H enc)
theorem proved : Rows.RowsApartSaid := over
#print axioms proved
end Go.Proofs.Ytmeaiancebgkoaa.rowsApart
namespace Go.Proofs.Ytmeaiancebgkoaa
theorem rowsApart_holds : Rows.RowsApartSaid := rowsApart.proved
end Go.Proofs.Ytmeaiancebgkoaa
