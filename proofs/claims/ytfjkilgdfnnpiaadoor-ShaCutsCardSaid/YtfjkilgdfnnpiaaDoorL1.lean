/- What the laws of the sums share, and ShaSums: the walks. -/
import Derived.Test.YtfjkilgdfnnpiaaDoorG11
import Derived.Test.YtfjkilgdfnnpiaaDoorP4
import Derived.Test.YtfjkilgdfnnpiaaDoorH1
namespace Go.Proofs.YtfjkilgdfnnpiaaDoor.H
open Go.RowKit Go.Shelf Go.Proofs.YtfjkilgdfnnpiaaDoorW.PrintWords Go.Proofs.YtfjkilgdfnnpiaaDoorW.PrintLast Go.Proofs.YtfjkilgdfnnpiaaDoorW.PrintMore Go.Proofs.YtfjkilgdfnnpiaaDoor.Plain Go.Proofs.YtfjkilgdfnnpiaaDoor.RowOf Go.Proofs.YtfjkilgdfnnpiaaDoor.Le
attribute [local go_sem] Oper.semAt_some
set_option linter.unusedVariables false
set_option linter.unusedSimpArgs false

/-- The sum, as a text. -/
def Sha (l : List UInt8) : ByteArray := ⟨(sum Kc Fc l).toArray⟩
theorem outs_len (h : List Int) (hh : h.length = 8) : (outs h).length = 32 := by
  match h, hh with
  | [a, b, c, d, e, f, g, i], _ => rfl
theorem Sha_size (l : List UInt8) : (Sha l).size = 32 := by
  rw [Sha, ba_size, ba_mk, sum, outs_len _ (absorb_len _ _ _ _ (Nat.le_refl _) Fc_len)]

set_option maxRecDepth 100000 in
theorem shown_calls (w : World) (hT : Tabs w Kc Fc) : Calls Tryd.prog 10 #[] w fun e w' => e = .returned (.bool true) ∧ Below w.heap.size w w' := by
  have hs := Sum1_calls ⟨#[97, 98, 99]⟩ Kc Fc (by decide) w hT
  have he : sum Kc Fc (⟨#[97, 98, 99]⟩ : ByteArray).data.toList = [186, 120, 22, 191, 143, 1, 207, 234, 65, 65, 64, 222, 93, 174, 34, 35, 176, 3, 97, 163, 150, 23, 122, 156, 180, 16, 255, 97, 242, 0, 21, 173] := abc_sum
  rw [he] at hs
  obtain ⟨X, hX⟩ : ∃ X : ByteArray, (⟨([186, 120, 22, 191, 143, 1, 207, 234, 65, 65, 64, 222, 93, 174, 34, 35, 176, 3, 97, 163, 150, 23, 122, 156, 180, 16, 255, 97, 242, 0, 21, 173] : List UInt8).toArray⟩ : ByteArray) = X := ⟨_, rfl⟩
  rw [hX] at hs
  have h1 : ((X.size : Int) == 32) = true := by rw [← hX]; rfl
  have h2 : (8 : Int) ≤ (X.size : Int) := by rw [← hX]; decide
  have h3 : (X.extract 0 8).toList = [186, 120, 22, 191, 143, 1, 207, 234] := by rw [Lib.toList_data, ba_ex, ← hX]; rfl
  have h4 : ((X.extract 0 8).toList == [186, 120, 22, 191, 143, 1, 207, 234]) = true := by rw [h3]; rfl
  have h5 : X.extract 0 8 = ⟨#[186, 120, 22, 191, 143, 1, 207, 234]⟩ := ba_ext (by rw [ba_ex, ← hX]; rfl)
  clear hX he
  go_enter Tryd.func10, Tryd.ntmps10
  go_wp2_with fail
  refine hs.mono ?_
  rintro e w1 ⟨rfl, hb1⟩
  go_wp2
  go_ret
  exact ⟨rfl, hb1⟩

theorem cut_f (s : ByteArray) : ∃ c, sphragislaw02_cut.f s = some c ∧ c.size ≤ 1000 := by
  unfold sphragislaw02_cut.f
  have h : mn (s.size : Int) 1000 ≤ 1000 ∧ 0 ≤ mn (s.size : Int) 1000 ∧ mn (s.size : Int) 1000 ≤ (s.size : Int) := by unfold mn; split <;> omega
  rw [if_pos h.2.1, if_pos h.2.2]
  exact ⟨_, rfl, by rw [ByteArray.size_extract]; omega⟩

set_option maxRecDepth 100000 in
theorem ShaSums_walk (s : ByteArray) (w : World) (hT : Tabs w Kc Fc) (hG : Glob w 1 Kc) (hs : s.size ≤ 140737488351232) :
    Calls Tryd.prog 3 #[.string s] w fun e w' => e = .returned (.bool true) ∧ Below w.heap.size w w' := by
  obtain ⟨c, hc, hcs⟩ := cut_f s
  have Hc := Lib.hid hc
  clear hc
  obtain ⟨N, hN⟩ : ∃ N, w.heap.size = N := ⟨_, rfl⟩
  have hgK : 1 < N := by rw [← hN]; exact hG.lt
  have hk1 : 2 < N := by rw [← hN]; exact hT.cst.lt
  have hk2 : 0 < N := by rw [← hN]; exact hT.fst.lt
  go_enter Tryd.func3, Tryd.ntmps3
  go_wp2_with fail
  refine (shown_calls _ hT).mono ?_
  rintro e w1 ⟨rfl, hb1⟩
  rw [hN] at hb1
  go_wp2_with fail
  refine (sphragislaw02_cut.calls s c _ Hc.out).mono ?_
  rintro e w2 ⟨rfl, hb2⟩
  replace hb2 : Below N w w2 := hb1.trans (hb2.mono (by have := hb1.size; omega))
  go_wp2_with fail
  refine (Sum1_calls c Kc Fc (by omega) _ (hT.below hb2 hk1 hk2)).mono ?_
  rintro e w3 ⟨rfl, hb3⟩
  replace hb3 : Below N w w3 := hb2.trans (hb3.mono (by have := hb2.size; omega))
  go_wp2_with fail
  refine (sphragislaw02_cut.calls s c _ Hc.out).mono ?_
  rintro e w4 ⟨rfl, hb4⟩
  replace hb4 : Below N w w4 := hb3.trans (hb4.mono (by have := hb3.size; omega))
  go_wp2_with fail
  refine (refSum_calls Kc c (by omega) Kc_len _ (hG.below hb4 hgK)).mono ?_
  rintro e w5 ⟨rfl, hb5⟩
  replace hb5 : Below N w w5 := hb4.trans (hb5.mono (by have := hb4.size; omega))
  go_wp2
  go_ret
  exact ⟨rfl, by rw [hN]; exact hb5⟩

end Go.Proofs.YtfjkilgdfnnpiaaDoor.H
