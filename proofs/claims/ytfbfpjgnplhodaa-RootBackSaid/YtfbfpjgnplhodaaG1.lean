/- strings.Join puts texts behind each other: the shelf's contract in the print's form; texts of at most 2^47 bytes in all. -/
import Derived.Test.YtfbfpjgnplhodaaH0
import Derived.Test.YtfbfpjgnplhodaaShelf
import Derived.Shelf.Strings.OnBuilder
namespace Go.Proofs.Ytfbfpjgnplhodaa.H
open Go.RowKit Go.Proofs.YtfbfpjgnplhodaaW.PrintWords Go.Proofs.YtfbfpjgnplhodaaW.PrintLast Go.Proofs.YtfbfpjgnplhodaaW.PrintMore

def strings_Join.f (l : List ByteArray) (sep : ByteArray) : Option ByteArray :=
  if l.length ≤ 140737488355328 ∧ (Lib.join (l.map (·.data.toList)) sep.data.toList).length ≤ 140737488355328 then some ⟨(Lib.join (l.map (·.data.toList)) sep.data.toList).toArray⟩ else none

theorem strings_Join.calls (A0 : Option Addr) (c0 : Nat) (l0 : List ByteArray) (a1 : ByteArray) (r : ByteArray) (w : World) (hr0 : Kd.C Kd.string w A0 l0.length l0) (hc0 : l0.length ≤ c0) (h : strings_Join.f l0 a1 = some r) :
    Calls Try.prog 33 #[.slice A0 l0.length c0, .string a1] w fun e w' => e = .returned (.string r) ∧ Below w.heap.size w w' := by
  unfold strings_Join.f at h
  split at h
  · rename_i hb
    obtain rfl := Option.some.inj h
    by_cases h0 : l0.length = 0
    · obtain rfl : l0 = [] := List.eq_nil_of_length_eq_zero h0
      exact (Any.strings_Join_none Try.lays156 Try.Builder_Extra_156 A0 c0 a1 w).mono fun e w' ⟨he, hw⟩ => ⟨he, hw ▸ Below.refl _ _⟩
    · obtain ⟨ad, rfl, hcs⟩ := hr0.2.2 (by omega)
      have hcell : ∀ (j : Nat) x, l0[j]? = some x → w.cell? (ad.add j) = some (.string x) := by
        intro j x hx
        obtain ⟨c, _, hk, hc⟩ := hcs j x hx
        have hk' : c = [.string x] := hk
        subst hk'
        have := hc 0 _ rfl
        simpa [Kd.string, Kd.scalar] using this
      have hx0 : l0[0]? = some (l0[0]'(by omega)) := List.getElem?_eq_getElem (by omega)
      have hc0' := hcell 0 _ hx0
      have had : ad.add 0 = ad := by simp [Addr.add]
      rw [had] at hc0'
      have hlt := World.block_lt_of_cell? w ad hc0'
      obtain ⟨b, o, sp⟩ := ad
      have hsp : sp = none := by
        cases sp with
        | none => rfl
        | some s =>
          exfalso
          unfold World.cell? at hc0'
          split at hc0' <;> simp at hc0'
      subst hsp
      refine Any.strings_Join Try.lays156 Try.Builder_Extra_156 b o c0 l0 a1 w (fun j x hx => ?_) hlt hb.1 hc0 hb.2
      have := hcell j x hx
      rwa [show (⟨b, o, none⟩ : Addr).add j = ⟨b, o + j, none⟩ by unfold Addr.add; split <;> simp_all] at this
  · cases h

end Go.Proofs.Ytfbfpjgnplhodaa.H
