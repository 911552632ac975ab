/- The law KeysAlone of the Go program answers true, for every input; no condition. -/
import Derived.Test.YtobjhddiieaafaaDoorRows
import Derived.Test.YtobjhddiieaafaaDoorL3
import Derived.Test.YtobjhddiieaafaaDoorKR
import Derived.Test.YtobjhddiieaafaaDoorLaid
import Derived.Test.YtobjhddiieaafaaDoorTie
import Derived.Test.YtobjhddiieaafaaDoorCards
import Derived.WalkKit
import Derived.ProofKit
import Derived.OpenShut
import Derived.ShutString
import Derived.ChangeOld
import Derived.Below
import Derived.SizedLaws
import Derived.ChangeArms
import Derived.LaidMore
import Derived.Stop.Joined
import Derived.SevenTiedAt
namespace Go.Proofs.YtobjhddiieaafaaDoor.keysAlone
open Go.Proofs.YtobjhddiieaafaaDoor.H
open Go.ChangeShapes Go.WideShapes Go.ChangeAt Go.RowKit
open Go.ChangeMaps (open_string shut_string)
set_option linter.unusedVariables false
theorem own : ownKnob Tryd.prog.godebug = none := by kernel_rfl
theorem laidOut : laidOutB Tryd.prog = true := by kernel_rfl

set_option maxRecDepth 100000 in
theorem trod_24 {H : Type} {enc : TypeId × Value → H} {w : World} {base : Nat} {spare : Nat → Bool} {held : Bool} {n : Nat} {cs : List Value} {x : DataW H × List MemPlace} (h : DataW.trod enc Tryd.prog w base spare held n 24 cs = some x) :
    ∃ (a0 : Int) (a1 : ByteArray), cs = [.int .u32 a0, .string a1] ∧ (Lit.int .u32 a0).wf = true ∧ a1.size ≤ maxLen ∧ True := by
  obtain ⟨xs, m, _, _, hl, hlen, hf⟩ := DataW.trod_struct Tryd.underlying24 h
  rw [show Tryd.prog.cellsOf 24 = 2 from by kernel_rfl] at hl
  replace hlen : xs.length = 2 := hlen
  obtain ⟨c0, c1, rfl⟩ : ∃ c0 c1, cs = [c0, c1] := by
    match cs, hl with
    | [c0, c1], _ => exact ⟨_, _, rfl⟩
  have f0 := hf 0 _ rfl
  rw [List.getElem?_eq_getElem (show 0 < xs.length by omega)] at f0
  replace f0 : DataW.trod enc Tryd.prog w base spare held m 22 [c0] = some xs[0] := by
    rw [← f0]
    show _ = DataW.trod enc Tryd.prog w base spare held m 22 (([c0, c1].drop 0).take (Tryd.prog.cellsOf 22))
    rw [show Tryd.prog.cellsOf 22 = 1 from by kernel_rfl]
    rfl
  obtain ⟨a0, e0, _, w0_0⟩ := DataW.trod_int Tryd.underlying22 f0
  simp only [List.cons.injEq, and_true] at e0
  have f1 := hf 1 _ rfl
  rw [List.getElem?_eq_getElem (show 1 < xs.length by omega)] at f1
  replace f1 : DataW.trod enc Tryd.prog w base spare held m 9 [c1] = some xs[1] := by
    rw [← f1]
    show _ = DataW.trod enc Tryd.prog w base spare held m 9 (([c0, c1].drop 1).take (Tryd.prog.cellsOf 9))
    rw [show Tryd.prog.cellsOf 9 = 1 from by kernel_rfl]
    rfl
  obtain ⟨a1, e1, _, w1_0⟩ := DataW.trod_string Tryd.underlying9 f1
  simp only [List.cons.injEq, and_true] at e1
  subst e0
  subst e1
  exact ⟨a0, a1, rfl, w0_0, w1_0, trivial⟩

set_option maxRecDepth 100000 in
theorem lifted (os : Os) (started : os.Started) (H : Type) (enc : TypeId × Value → H) :
    ReturnsInHanded {} Tryd.checked os 4 .any (fun w args => (Rows.keysAloneSpec.pre enc Tryd.prog Tryd.f4 [] false w args ∧ laidMetH Tryd.prog M.laid2 w) ∧ sizedMet enc Tryd.prog Tryd.f4 (OpenSpec.ofChange Rows.keysAloneSpec) false w args) (Rows.keysAloneSpec.post enc Tryd.prog Tryd.f4 false true false false) := by
  refine returnsInHanded_of_change_and (C := Tryd.checked) (X := fun w _ => laidMetH Tryd.prog M.laid2 w) (fun _ _ _ hh h => h.of_heap hh) own started (by kernel_rfl) Tryd.func4
    (ChangeSpec.witness_shaped (enc := enc) (C := Tryd.checked) (os := os) (X := fun w _ => laidMetH Tryd.prog M.laid2 w) false (World.doorLaid Tryd.prog 400 os) #[.agg #[.int .u32 0, .string ByteArray.empty], .slice none 0 0] 8 rfl (World.shaped_of_RefB (by kernel_rfl) (by kernel_rfl)) (by kernel_rfl) (by kernel_rfl) (by kernel_rfl) (M.door2 os _)) ?_
  intro W base args ds gs before hval0 hW hcnd hsz0 hL _
  have hsz : (DataW.weightsEach Tryd.prog (Tryd.f4.params.toList ++ Rows.keysAloneSpec.plain.varTypes Tryd.prog) (ds ++ gs)).all (· ≤ reachBytes) = true := hsz0
  have hval : ∀ (j : Nat) t v, Tryd.f4.params[j]? = some t → args[j]? = some v → Value.okWide Tryd.prog W .any base t v := hval0
  have hW' := hW
  obtain ⟨p, q, hA0, hV, rfl, hfz, hnd⟩ := hW
  have hA : DataW.TrodAll enc Tryd.prog W 0 (fun _ => true) true Tryd.f4.params.toList args.toList ds p := hA0
  rw [Tryd.params4] at hA hval hsz
  obtain ⟨v0, vs0, d0, ds0, p0, q0, hargs, rfl, rfl, h0, r0⟩ := trodAll_cons hA
  obtain ⟨v1, vs1, d1, ds1, p1, q1, rfl, rfl, rfl, h1, r1⟩ := trodAll_cons r0
  obtain ⟨rfl, rfl, rfl⟩ := trodAll_nil r1
  obtain rfl : args = #[v0, v1] := by cases args; simp_all
  obtain ⟨rfl, rfl⟩ := trodVars_none hV
  have k0 := h0
  have lt0 : ∀ x ∈ p0, x.block < W.heap.size := by obtain ⟨m, hm⟩ := k0; exact DataW.trod_lt m _ _ _ hm
  obtain ⟨cs0, rfl, _⟩ := okWide_struct Tryd.underlying24 (hval 0 24 v0 rfl rfl)
  obtain ⟨fu0, hf0⟩ := h0
  obtain ⟨a0_0, a0_1, ecs0, wa0_0, wa0_1, _⟩ := trod_24 hf0
  obtain rfl : cs0 = #[.int .u32 a0_0, .string a0_1] := by cases cs0; simpa [Value.cells] using ecs0
  have k1 := h1
  have lt1 : ∀ x ∈ p1, x.block < W.heap.size := by obtain ⟨m, hm⟩ := k1; exact DataW.trod_lt m _ _ _ hm
  obtain ⟨a1, len1, cap1, rfl⟩ := okWide_slice Tryd.underlying30 (hval 1 30 v1 rfl rfl)
  obtain ⟨fu1, hf1⟩ := h1
  obtain ⟨lc1, L1, hL1, hC1⟩ := Go.Proofs.YtobjhddiieaafaaDoor.H.keys_of hf1
  clear hA0 hval0 hsz0 hsz
  refine (Go.Proofs.YtobjhddiieaafaaDoor.S.KeysAlone_row a0_0 a0_1 a1 len1 cap1 L1 W (M.of_laid2 hL) lc1 hL1 hC1 wa0_0 wa0_1).mono fun e W' ⟨he, bel⟩ => ?_
  subst he
  exact ⟨_, rfl, _, _, _, [], _, [], hW', trodAll_mk1 (shut_bool Tryd.underlying4 _), (trodAll_cons_mk (Below.trod laidOut (by kernel_rfl) (of_decide_eq_true (by kernel_rfl)) k0 bel lt0) (trodAll_cons_mk (Below.trod laidOut (by kernel_rfl) (of_decide_eq_true (by kernel_rfl)) k1 bel lt1) trodAll_mk0)), rfl, bel.frame _, fun h => by cases h⟩

theorem over : Rows.keysAloneRow.holds Tryd.pinned (OpenSpec.ofChange Rows.keysAloneSpec) :=
  OpenClaim.holds_of_wide 4 Tryd.f4 rfl rfl rfl rfl rfl rfl rfl ⟨rfl, rfl, rfl, rfl, rfl⟩ rfl rfl rfl rfl rfl (by kernel_rfl) Tryd.func4 (by kernel_rfl)
    (of_decide_eq_true (by kernel_rfl)) (by unfold Func.isWrapper; first | (rw [if_pos (by decide +kernel)]; kernel_rfl) | (rw [if_neg (by decide +kernel)]; exact ⟨rfl, rfl⟩))
    (fun os started H enc _ => lifted os started H enc)
/-- The tied card. -/
theorem proved : Rows.KeysAloneCardSaid :=
  Claim7.holds_tied_plain_at .later [] [.data, .data] true (true, "77d59cad62d676c6ebd384b67c97a3e907c43da49652251832e04e5f17c8b3ba") false
    over (fun _ h => by cases h) (by kernel_rfl) (fun _ h => by cases h) keysAlone_row_tie rfl ⟨rfl, rfl⟩ (by kernel_rfl) rfl
    (fun f fn hf hfn => by
      obtain rfl : f = 4 := Option.some.inj ((show Tryd.prog.funcNamed "sphragis/sphragislaw04.KeysAlone" = some 4 by kernel_rfl).symm.trans hf) |>.symm
      obtain rfl : fn = Tryd.f4 := (Option.some.inj (Tryd.func4.symm.trans hfn)).symm
      exact ⟨by kernel_rfl, fun j t ht => by
        rw [Tryd.params4] at ht
        have hm : t ∈ [24, 30] := by simpa using Array.mem_of_getElem? ht
        have hall : ([24, 30].all fun u => !Tryd.prog.wantsStandIn u) = true := by kernel_rfl
        exact (show Tryd.prog.wantsStandIn t = false by simpa using List.all_eq_true.1 hall t hm)⟩)
    (by kernel_rfl)
#print axioms proved
end Go.Proofs.YtobjhddiieaafaaDoor.keysAlone
namespace Go.Proofs.YtobjhddiieaafaaDoor
theorem keysAlone_holds : Rows.KeysAloneCardSaid := keysAlone.proved
end Go.Proofs.YtobjhddiieaafaaDoor
