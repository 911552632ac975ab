/- RowsOne: the plain law. -/
import Derived.Test.YtmeaiancebgkoaaQ1
import Derived.Test.YtmeaiancebgkoaaRD
import Derived.Test.YtmeaiancebgkoaaH11
import Derived.Test.YtmeaiancebgkoaaH11
set_option maxRecDepth 100000
namespace Go.Proofs.Ytmeaiancebgkoaa.H
open Go.RowKit Go.Proofs.YtmeaiancebgkoaaW.PrintWords Go.Proofs.YtmeaiancebgkoaaW.PrintLast Go.Proofs.YtmeaiancebgkoaaW.PrintMore

theorem shown_true : sphragislaw10_shown.f 20 = some true := by decide +kernel
theorem same_nil : sphragisref10_Same.f 20 0 0 0 0 ([] : List (S47)) ([] : List (S28)) 0 (⟨#[]⟩ : ByteArray) 0 0 0 0 ([] : List (S47)) ([] : List (S28)) 0 (⟨#[]⟩ : ByteArray) = some true := by decide +kernel
theorem RowsOne_f (s : ByteArray) : sphragislaw10_RowsOne.f 20 s = some true := by
  unfold sphragislaw10_RowsOne.f
  rw [shown_true, Option.bind_some, rows_Decode.f, Option.bind_some]
  simp only
  by_cases h : (decP s).2 = 0
  · rw [if_pos h]
    obtain ⟨h1, h2, h3⟩ := dec_enc s h
    have hk : (decP s).1.kids.length ≤ 1000 := h2.2.2.2.2.1
    have hE : rows_Encode.f (decP s).1.k (decP s).1.x (decP s).1.y (decP s).1.lv (decP s).1.rows (decP s).1.kids (decP s).1.np (decP s).1.nt = some (s, 0) := by
      rw [rows_Encode.f, if_pos h2]
      exact congrArg some h3
    rw [hE, Option.bind_some]
    simp only [if_true]
    rw [Right_f (decP s).1 20 (by decide) hk, h1]
    rfl
  · rw [if_neg h, dec_bad s h]
    simp only [if_true]
    show (sphragisref10_Same.f 20 0 0 0 0 [] [] 0 ⟨#[]⟩ 0 0 0 0 [] [] 0 ⟨#[]⟩).bind _ = _
    rw [same_nil]
    rfl
end Go.Proofs.Ytmeaiancebgkoaa.H
