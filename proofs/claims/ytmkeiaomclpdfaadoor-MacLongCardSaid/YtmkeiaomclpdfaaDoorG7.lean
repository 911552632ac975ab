/- What a Summer has taken: the walk. -/
import Derived.Test.YtmkeiaomclpdfaaDoorG6
import Derived.Test.YtmkeiaomclpdfaaDoorShelf
namespace Go.Proofs.YtmkeiaomclpdfaaDoor.H
open Go.RowKit Go.Shelf Go.Proofs.YtmkeiaomclpdfaaDoorW.PrintWords Go.Proofs.YtmkeiaomclpdfaaDoorW.PrintLast Go.Proofs.YtmkeiaomclpdfaaDoorW.PrintMore Go.Proofs.YtmkeiaomclpdfaaDoor.Plain Go.Proofs.YtmkeiaomclpdfaaDoor.RowOf Go.Proofs.YtmkeiaomclpdfaaDoor.Le
attribute [local go_sem] Oper.semAt_some
set_option linter.unusedVariables false
set_option linter.unusedSimpArgs false

/-- A Summer that has taken a text. -/
def Sm (W : World) (g : Nat) (K F : List Int) (t : List UInt8) (n : Int) : Prop := ∃ r : ByteArray, r.data.toList = (absorb K F t).2 ∧ Summ W g (absorb K F t).1 r n
theorem Sm.kept {W W' : World} {g : Nat} {K F : List Int} {t : List UInt8} {n : Int} (h : Sm W g K F t n) (he : W'.heap[g]? = W.heap[g]?) : Sm W' g K F t n := by
  obtain ⟨r, h1, h2⟩ := h
  exact ⟨r, h1, RowX.kept h2 he⟩
theorem Sm.lt {W : World} {g : Nat} {K F : List Int} {t : List UInt8} {n : Int} (h : Sm W g K F t n) : g < W.heap.size := by
  obtain ⟨r, h1, h2⟩ := h
  exact RowX.lt h2

theorem takes_any (g : Nat) (K F : List Int) (t : List UInt8) (s : ByteArray) (n : Int) (hF : F.length = 8) (hK : K.length = 64) (hs : s.size ≤ 140737488355000) (w : World) (hS : Sm w g K F t n) (hG : Glob w 2 K) :
    Calls Tryd.prog 27 #[.pointer (some ⟨g, 0, none⟩), .string s] w fun e w' => e = .returned (.tuple #[]) ∧ Sm w' g K F (t ++ s.data.toList) n ∧ w.grownBy w' (some g) := by
  obtain ⟨r, h1, h2⟩ := hS
  have hr := absorb_rest K t.length F t (Nat.le_refl _)
  have hl := absorb_len K t.length F t (Nat.le_refl _) hF
  have hr64 : r.size < 64 := by rw [ba_size, h1]; exact hr.1
  have ha := absorb_append K t.length F t s.data.toList (Nat.le_refl _)
  by_cases hc : r.size = 0 ∨ 64 ≤ r.size + s.size
  · refine (takes_long g K _ r s n hl hK hr64 hc hs w h2 hG).mono ?_
    rintro e w' ⟨he, ⟨r', h3, h4⟩, h5⟩
    refine ⟨he, ⟨r', ?_, ?_⟩, h5⟩
    · rw [ha, ← h1, h3]
    · rw [ha, ← h1]
      exact h4
  · have hr0 : r ≠ ⟨#[]⟩ := fun e => hc (Or.inl (by rw [e]; rfl))
    have hrs : r.size + s.size < 64 := by omega
    refine (takes_short g _ r s n hl hr0 hrs w h2).mono ?_
    rintro e w' ⟨he, h4, h5⟩
    have hab : absorb K (absorb K F t).1 ((absorb K F t).2 ++ s.data.toList) = ((absorb K F t).1, (absorb K F t).2 ++ s.data.toList) := absorb_less _ _ _ (by rw [List.length_append, ← h1, ← ba_size, ← ba_size]; exact hrs)
    refine ⟨he, ⟨r ++ s, ?_, ?_⟩, h5⟩
    · rw [ha, hab, ba_app, h1]
    · rw [ha, hab]
      exact h4

end Go.Proofs.YtmkeiaomclpdfaaDoor.H
