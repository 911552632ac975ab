/- A Summer's methods: the walks. -/
import Derived.Test.YtfjkilgdfnnpiaaDoorG6
import Derived.Test.YtfjkilgdfnnpiaaDoorShelf
namespace Go.Proofs.YtfjkilgdfnnpiaaDoor.H
open Go.RowKit Go.Shelf Go.Proofs.YtfjkilgdfnnpiaaDoorW.PrintWords Go.Proofs.YtfjkilgdfnnpiaaDoorW.PrintLast Go.Proofs.YtfjkilgdfnnpiaaDoorW.PrintMore Go.Proofs.YtfjkilgdfnnpiaaDoor.Plain Go.Proofs.YtfjkilgdfnnpiaaDoor.RowOf Go.Proofs.YtfjkilgdfnnpiaaDoor.Le
attribute [local go_sem] Oper.semAt_some
set_option linter.unusedVariables false
set_option linter.unusedSimpArgs false

/-- A Summer that has taken a text. -/
def Sm (W : World) (g : Nat) (K F : List Int) (t : List UInt8) (n : Int) : Prop := ∃ r : ByteArray, r.data.toList = (absorb K F t).2 ∧ Summ W g (absorb K F t).1 r n
theorem Sm.kept {W W' : World} {g : Nat} {K F : List Int} {t : List UInt8} {n : Int} (h : Sm W g K F t n) (he : W'.heap[g]? = W.heap[g]?) : Sm W' g K F t n := by
  obtain ⟨r, h1, h2⟩ := h
  exact ⟨r, h1, RowX.kept h2 he⟩
theorem Sm.lt {W : World} {g : Nat} {K F : List Int} {t : List UInt8} {n : Int} (h : Sm W g K F t n) : g < W.heap.size := by
  obtain ⟨r, h1, h2⟩ := h
  exact RowX.lt h2

theorem takes_any (g : Nat) (K F : List Int) (t : List UInt8) (s : ByteArray) (n : Int) (hF : F.length = 8) (hK : K.length = 64) (hs : s.size ≤ 140737488355000) (w : World) (hS : Sm w g K F t n) (hG : Glob w 2 K) :
    Calls Tryd.prog 22 #[.pointer (some ⟨g, 0, none⟩), .string s] w fun e w' => e = .returned (.tuple #[]) ∧ Sm w' g K F (t ++ s.data.toList) n ∧ w.grownBy w' (some g) := by
  obtain ⟨r, h1, h2⟩ := hS
  have hr := absorb_rest K t.length F t (Nat.le_refl _)
  have hl := absorb_len K t.length F t (Nat.le_refl _) hF
  have hr64 : r.size < 64 := by rw [ba_size, h1]; exact hr.1
  have ha := absorb_append K t.length F t s.data.toList (Nat.le_refl _)
  by_cases hc : r.size = 0 ∨ 64 ≤ r.size + s.size
  · refine (takes_long g K _ r s n hl hK hr64 hc hs w h2 hG).mono ?_
    rintro e w' ⟨he, ⟨r', h3, h4⟩, h5⟩
    refine ⟨he, ⟨r', ?_, ?_⟩, h5⟩
    · rw [ha, ← h1, h3]
    · rw [ha, ← h1]
      exact h4
  · have hr0 : r ≠ ⟨#[]⟩ := fun e => hc (Or.inl (by rw [e]; rfl))
    have hrs : r.size + s.size < 64 := by omega
    refine (takes_short g _ r s n hl hr0 hrs w h2).mono ?_
    rintro e w' ⟨he, h4, h5⟩
    have hab : absorb K (absorb K F t).1 ((absorb K F t).2 ++ s.data.toList) = ((absorb K F t).1, (absorb K F t).2 ++ s.data.toList) := absorb_less _ _ _ (by rw [List.length_append, ← h1, ← ba_size, ← ba_size]; exact hrs)
    refine ⟨he, ⟨r ++ s, ?_, ?_⟩, h5⟩
    · rw [ha, hab, ba_app, h1]
    · rw [ha, hab]
      exact h4

theorem Len_calls (g : Nat) (h : List Int) (r : ByteArray) (n : Int) (hh : h.length = 8) (w : World) (hS : Summ w g h r n) :
    Calls Tryd.prog 18 #[.pointer (some ⟨g, 0, none⟩)] w fun e w' => e = .returned (.int .i64 n) ∧ w' = w := by
  have c9 := hS.cell9 hh
  go_enter Tryd.func18, Tryd.ntmps18
  go_wp2
  go_ret
  exact ⟨rfl, rfl⟩
theorem Len_nil (w : World) :
    Calls Tryd.prog 18 #[.pointer none] w fun e w' => e = .returned (.int .i64 0) ∧ w' = w := by
  go_enter Tryd.func18, Tryd.ntmps18
  go_wp2
  go_ret
  exact ⟨rfl, rfl⟩
theorem Write_nil (s : ByteArray) (w : World) :
    Calls Tryd.prog 16 #[.pointer none, .string s] w fun e w' => e = .returned (.int .i64 1) ∧ w' = w := by
  go_enter Tryd.func16, Tryd.ntmps16
  go_wp2
  go_ret
  exact ⟨rfl, rfl⟩
theorem Sum_nil (w : World) :
    Calls Tryd.prog 17 #[.pointer none] w fun e w' => e = .returned (.string ⟨#[]⟩) ∧ w' = w := by
  go_enter Tryd.func17, Tryd.ntmps17
  go_wp2
  go_ret
  exact ⟨rfl, rfl⟩
/-- More than there may be. -/
theorem Write_long (g : Nat) (h : List Int) (r s : ByteArray) (m : Nat) (hh : h.length = 8) (hm : m ≤ 16777216) (hs : s.size ≤ 140737488355000) (hl : 16777216 - m < s.size) (w : World) (hS : Summ w g h r (m : Int)) :
    Calls Tryd.prog 16 #[.pointer (some ⟨g, 0, none⟩), .string s] w fun e w' => e = .returned (.int .i64 2) ∧ w' = w := by
  have c9 := hS.cell9 hh
  have hd : decide ((16777216 : Int) - (m : Int) < (s.size : Int)) = true := decide_eq_true (by omega)
  have hd2 : (16777216 : Int) - (m : Int) < (s.size : Int) := by omega
  have hw : IntKind.i64.wrap ((16777216 : Int) - (m : Int)) = (16777216 : Int) - (m : Int) := by rw [i64_w]; unfold wrap64; omega
  go_enter Tryd.func16, Tryd.ntmps16
  go_wp2
  go_ret
  exact ⟨rfl, rfl⟩
theorem Write_calls (g : Nat) (K F : List Int) (t : List UInt8) (s : ByteArray) (m : Nat) (hF : F.length = 8) (hK : K.length = 64) (hm : m + s.size ≤ 16777216) (w : World) (hS : Sm w g K F t (m : Int)) (hG : Glob w 2 K) :
    Calls Tryd.prog 16 #[.pointer (some ⟨g, 0, none⟩), .string s] w fun e w' => e = .returned (.int .i64 0) ∧ Sm w' g K F (t ++ s.data.toList) ((m + s.size : Nat) : Int) ∧ w.grownBy w' (some g) := by
  obtain ⟨r, h1, h2⟩ := hS
  have hl := absorb_len K t.length F t (Nat.le_refl _) hF
  have c9 := h2.cell9 hl
  have f9 := RowX.frozen h2 9
  have hne : 2 ≠ g := Summ.ne h2 hl hG (by omega)
  have hd : decide ((16777216 : Int) - (m : Int) < (s.size : Int)) = false := decide_eq_false (by omega)
  have hd2 : ¬ ((16777216 : Int) - (m : Int) < (s.size : Int)) := by omega
  have hw : IntKind.i64.wrap ((16777216 : Int) - (m : Int)) = (16777216 : Int) - (m : Int) := by rw [i64_w]; unfold wrap64; omega
  have hw2 : IntKind.i64.wrap ((m : Int) + (s.size : Int)) = (m : Int) + (s.size : Int) := by rw [i64_w]; unfold wrap64; omega
  have h3 := Summ.set9 h2 hl ((m : Int) + (s.size : Int))
  have hS3 : Sm (w.setCell ⟨g, 9, none⟩ (.int .i64 ((m : Int) + (s.size : Int)))) g K F t ((m : Int) + (s.size : Int)) := ⟨r, h1, h3⟩
  have hG3 : Glob (w.setCell ⟨g, 9, none⟩ (.int .i64 ((m : Int) + (s.size : Int)))) 2 K := hG.kept ((gb_set w g 9 _).block _ hG.lt (fun e => hne (Option.some.inj e)))
  have hg3 := gb_set w g 9 (.int .i64 ((m : Int) + (s.size : Int)))
  go_enter Tryd.func16, Tryd.ntmps16
  go_wp2_with fail
  refine (takes_any g K F t s _ hF hK (by omega) _ hS3 hG3).mono ?_
  rintro e w1 ⟨rfl, h4, h5⟩
  go_wp2
  go_ret
  exact ⟨rfl, by rw [show ((m + s.size : Nat) : Int) = (m : Int) + (s.size : Int) by omega]; exact h4, gb_trans hg3 h5⟩

end Go.Proofs.YtfjkilgdfnnpiaaDoor.H
