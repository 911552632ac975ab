/- What the laws over the sums share. -/
import Derived.Test.YtmkeiaomclpdfaaDoorG11
import Derived.Test.YtmkeiaomclpdfaaDoorStrs
import Derived.OwnWalk
namespace Go.Proofs.YtmkeiaomclpdfaaDoor.H
open Go.RowKit Go.Shelf Go.Proofs.YtmkeiaomclpdfaaDoorW.PrintWords Go.Proofs.YtmkeiaomclpdfaaDoorW.PrintLast Go.Proofs.YtmkeiaomclpdfaaDoorW.PrintMore Go.Proofs.YtmkeiaomclpdfaaDoor.Plain Go.Proofs.YtmkeiaomclpdfaaDoor.RowOf Go.Proofs.YtmkeiaomclpdfaaDoor.Le
attribute [local go_sem] Oper.semAt_some
set_option linter.unusedVariables false
set_option linter.unusedSimpArgs false

/-- The sum, as a text. -/
def Sha (l : List UInt8) : ByteArray := ⟨(sum Kc Fc l).toArray⟩
theorem outs_len (h : List Int) (hh : h.length = 8) : (outs h).length = 32 := by
  match h, hh with
  | [a, b, c, d, e, f, g, i], _ => rfl
theorem Sha_size (l : List UInt8) : (Sha l).size = 32 := by
  rw [Sha, ba_size, ba_mk, sum, outs_len _ (absorb_len _ _ _ _ (Nat.le_refl _) Fc_len)]

theorem bst {N : Nat} {w W W2 : World} (hN : w.heap.size = N) (hb : Below N w W) (h2 : Below W.heap.size W W2) : Below N w W2 := hb.trans (h2.mono (by have := hb.size; omega))
theorem bsg {N g : Nat} {w W W2 : World} (hN : w.heap.size = N) (hb : Below N w W) (h2 : W.grownBy W2 (some g)) (hg : N ≤ g) : Below N w W2 := hb.grown h2 (by have := hb.size; omega) (fun k e => by cases e; exact hg)
/-- The tables' blocks lie below N. -/
structure Low (w : World) (N : Nat) : Prop where
  t : Tabs w Kc Fc
  h1 : 2 < N
  h2 : 0 < N
theorem Low.mk' {w : World} {N : Nat} (hN : w.heap.size = N) (hT : Tabs w Kc Fc) : Low w N := ⟨hT, by rw [← hN]; exact hT.cst.lt, by rw [← hN]; exact hT.fst.lt⟩
theorem Low.at {w W : World} {N : Nat} (h : Low w N) (hb : Below N w W) : Tabs W Kc Fc := h.t.below hb h.h1 h.h2

theorem Add_strs (A : Option Addr) (c : Nat) (l : List ByteArray) (K F : List Int) (hl : (flat l).length ≤ 1099511627776) (hll : l.length ≤ 1099511627776) (w : World) (hA : Strs w A l) (hT : Tabs w K F) :
    Calls Tryd.prog 18 #[.slice A l.length c] w fun e w' => e = .returned (.string ⟨(sum K F (flat l)).toArray⟩) ∧ Below w.heap.size w w' := by
  rcases hA with rfl | ⟨b, o, rfl, hb, hc⟩
  · exact Add_none A c K F w hT
  · exact Add_calls b o c l K F hl hll w hb hc hT

end Go.Proofs.YtmkeiaomclpdfaaDoor.H
