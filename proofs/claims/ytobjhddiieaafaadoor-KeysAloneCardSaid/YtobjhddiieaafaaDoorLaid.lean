/- What the tables' data say of memory; the door's own heap meets it. -/
import Derived.Test.YtobjhddiieaafaaDoorRows
import Derived.Test.YtobjhddiieaafaaDoorM11
import Derived.LaidMore
import Derived.OpenShut
import Derived.Stop.Joined
import Derived.ProofKit
namespace Go.Proofs.YtobjhddiieaafaaDoor.M
open Go.Proofs.YtobjhddiieaafaaDoor.H
open Go.ChangeShapes Go.WideShapes Go.ChangeAt Go.RowKit Go.Proofs.YtobjhddiieaafaaDoor.Plain
set_option linter.unusedVariables false

theorem words_of_trod {H : Type} {enc : TypeId × Value → H} {P : Program} {w : World} {base : Nat} {spare : Nat → Bool} {held : Bool} {fuel : Nat} {t e : TypeId} {n : Nat} (ht : P.underlying t = some (.array n e)) (he : P.underlying e = some (.int .u32)) (hce : P.cellsOf e = 1) (hct : P.cellsOf t = n) {cs : List Value} {K : List Int} {q : List MemPlace}
    (h : DataW.trod enc P w base spare held fuel t cs = some (.agg (K.map fun k => .lit (.int .u32 k)), q)) : cs = K.map (Value.int .u32) := by
  obtain ⟨xs, m, rfl, hx, hl, hn, hf⟩ := DataW.trod_array ht h
  simp only [Prod.mk.injEq, DataW.agg.injEq] at hx
  have hK : K.length = n := by
    have := congrArg List.length hx.1
    rw [List.length_map, List.length_map] at this
    omega
  apply List.ext_getElem?
  intro i
  by_cases hi : i < n
  · have h1 := hf i hi
    rw [List.getElem?_eq_getElem (show i < xs.length by omega), hce, Nat.mul_one] at h1
    obtain ⟨k, e1, e2, _⟩ := DataW.trod_int he h1
    have h2 : (K.map fun k => (DataW.lit (.int .u32 k) : DataW H))[i]? = (xs.map (·.1))[i]? := by rw [hx.1]
    rw [List.getElem?_map, List.getElem?_map, List.getElem?_eq_getElem (show i < K.length by omega), List.getElem?_eq_getElem (show i < xs.length by omega), e2] at h2
    have h3 : K[i] = k := by simpa using h2
    have h4 : cs[i]? = some (.int .u32 k) := by
      have := congrArg (fun l : List Value => l[0]?) e1
      simpa [List.getElem?_take, List.getElem?_drop] using this
    rw [h4, List.getElem?_map, List.getElem?_eq_getElem (show i < K.length by omega), h3]
    rfl
  · rw [List.getElem?_eq_none (by rw [hl, hct]; omega), List.getElem?_eq_none (by rw [List.length_map]; omega)]

theorem glob_of {P : Program} {W : World} {nm : String} {g : Nat} {cs : Array Value} {K : List Int} (hg : P.globalNamed nm = some g) (h : W.var? P nm = some cs) (hc : cs.toList = K.map (Value.int .u32)) : Glob W g K := by
  simp only [World.var?, hg, Option.bind_some] at h
  have e : cs = (K.map (Value.int .u32)).toArray := by rw [← hc]
  subst e
  cases hw : W.heap[g]? with
  | none => rw [hw] at h; cases h
  | some o =>
    rw [hw] at h
    cases o <;> first | (injection h with h; subst h; exact ⟨_, _, hw⟩) | cases h

def laid3 : List (String × DataW Unit) := [("sphragis/sphragisref02.table", Rows.laid_sphragis_sphragisref02_table), ("sphragis/sha.first", Rows.laid_sphragis_sha_first), ("sphragis/sha.constants", Rows.laid_sphragis_sha_constants)]
def laid2 : List (String × DataW Unit) := [("sphragis/sha.first", Rows.laid_sphragis_sha_first), ("sphragis/sha.constants", Rows.laid_sphragis_sha_constants)]

theorem g_table : Tryd.prog.globalNamed "sphragis/sphragisref02.table" = some 0 := by kernel_rfl
theorem g_first : Tryd.prog.globalNamed "sphragis/sha.first" = some 1 := by kernel_rfl
theorem g_consts : Tryd.prog.globalNamed "sphragis/sha.constants" = some 2 := by kernel_rfl
theorem t_table : (Tryd.prog.globals[0]?).map (·.type) = some 91 := by kernel_rfl
theorem t_first : (Tryd.prog.globals[1]?).map (·.type) = some 84 := by kernel_rfl
theorem t_consts : (Tryd.prog.globals[2]?).map (·.type) = some 91 := by kernel_rfl
theorem d_table {H : Type} : (Rows.laid_sphragis_sphragisref02_table : DataW H) = .agg (Kc.map fun k => .lit (.int .u32 k)) := rfl
theorem d_first {H : Type} : (Rows.laid_sphragis_sha_first : DataW H) = .agg (Fc.map fun k => .lit (.int .u32 k)) := rfl
theorem d_consts {H : Type} : (Rows.laid_sphragis_sha_constants : DataW H) = .agg (Kc.map fun k => .lit (.int .u32 k)) := rfl
theorem c_u32 : Tryd.prog.cellsOf 22 = 1 := by kernel_rfl
theorem c_64 : Tryd.prog.cellsOf 91 = 64 := by kernel_rfl
theorem c_state : Tryd.prog.cellsOf 84 = 8 := by kernel_rfl

theorem door3 (os : Os) (args : Array Value) : laidMetH Tryd.prog laid3 ((World.doorLaid Tryd.prog 400 os).forCall (fun _ _ => 0) ⟨#[], args, []⟩).memory :=
  laidMetH_of_parts3 (fuel := 8) (laidMet_of_run' 8 (by kernel_rfl) (by kernel_rfl)) (by kernel_rfl) (by kernel_rfl)
theorem door2 (os : Os) (args : Array Value) : laidMetH Tryd.prog laid2 ((World.doorLaid Tryd.prog 400 os).forCall (fun _ _ => 0) ⟨#[], args, []⟩).memory :=
  laidMetH_of_parts3 (fuel := 8) (laidMet_of_run' 8 (by kernel_rfl) (by kernel_rfl)) (by kernel_rfl) (by kernel_rfl)

theorem of_laid3 {W : World} (h : laidMetH Tryd.prog laid3 W) : Tabs W Kc Fc ∧ Glob W 0 Kc := by
  rw [MakeChecks.laidMetH_plain _ _ _ (by kernel_rfl)] at h
  obtain ⟨ps, ⟨g0, t0, cs0, f0, p0, q0, hg0, ht0, hv0, hd0, ⟨g1, t1, cs1, f1, p1, q1, hg1, ht1, hv1, hd1, ⟨g2, t2, cs2, f2, p2, q2, hg2, ht2, hv2, hd2, _, _⟩, _⟩, _⟩, _, _⟩ := h
  obtain rfl := Option.some.inj (g_table.symm.trans hg0)
  obtain rfl := Option.some.inj (g_first.symm.trans hg1)
  obtain rfl := Option.some.inj (g_consts.symm.trans hg2)
  obtain rfl := Option.some.inj (t_table.symm.trans ht0)
  obtain rfl := Option.some.inj (t_first.symm.trans ht1)
  obtain rfl := Option.some.inj (t_consts.symm.trans ht2)
  rw [d_table] at hd0
  rw [d_first] at hd1
  rw [d_consts] at hd2
  exact ⟨⟨Kc_len, Fc_len, glob_of g_consts hv2 (words_of_trod Tryd.underlying91 Tryd.underlying22 c_u32 c_64 hd2), glob_of g_first hv1 (words_of_trod Tryd.underlying84 Tryd.underlying22 c_u32 c_state hd1)⟩, glob_of g_table hv0 (words_of_trod Tryd.underlying91 Tryd.underlying22 c_u32 c_64 hd0)⟩
theorem of_laid2 {W : World} (h : laidMetH Tryd.prog laid2 W) : Tabs W Kc Fc := by
  rw [MakeChecks.laidMetH_plain _ _ _ (by kernel_rfl)] at h
  obtain ⟨ps, ⟨g1, t1, cs1, f1, p1, q1, hg1, ht1, hv1, hd1, ⟨g2, t2, cs2, f2, p2, q2, hg2, ht2, hv2, hd2, _, _⟩, _⟩, _, _⟩ := h
  obtain rfl := Option.some.inj (g_first.symm.trans hg1)
  obtain rfl := Option.some.inj (g_consts.symm.trans hg2)
  obtain rfl := Option.some.inj (t_first.symm.trans ht1)
  obtain rfl := Option.some.inj (t_consts.symm.trans ht2)
  rw [d_first] at hd1
  rw [d_consts] at hd2
  exact ⟨Kc_len, Fc_len, glob_of g_consts hv2 (words_of_trod Tryd.underlying91 Tryd.underlying22 c_u32 c_64 hd2), glob_of g_first hv1 (words_of_trod Tryd.underlying84 Tryd.underlying22 c_u32 c_state hd1)⟩

end Go.Proofs.YtobjhddiieaafaaDoor.M
