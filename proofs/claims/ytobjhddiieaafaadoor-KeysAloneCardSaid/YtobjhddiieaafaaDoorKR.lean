/- A slice of keys that came in: what the laws read of it. -/
import Derived.Test.YtobjhddiieaafaaDoorK3
import Derived.Deep.SlicePairs
import Derived.ChangeArms
namespace Go.Proofs.YtobjhddiieaafaaDoor.H
open Go.RowKit Go.Shelf Go.Proofs.YtobjhddiieaafaaDoorW.PrintWords Go.Proofs.YtobjhddiieaafaaDoor.CopyK Go.ChangeShapes Go.WideShapes Go.Deep

def asK (a b : Value) : S24 := ⟨(match a with | .int _ n => n | _ => 0), (match b with | .string s => s | _ => ⟨#[]⟩)⟩
theorem keys_of {H : Type} {enc : TypeId × Value → H} {w : World} {base : Nat} {spare : Nat → Bool} {held : Bool} {fu : Nat} {a : Option Addr} {len cap : Nat} {x : DataW H × List MemPlace}
    (h : DataW.trod enc Tryd.prog w base spare held fu 30 [.slice a len cap] = some x) :
    len ≤ cap ∧ ∃ L : List S24, L.length = min len 30 ∧ Kd.C k24 w a L.length L := by
  rcases open_slice_pairs Tryd.underlying30 Tryd.underlying24 (by kernel_rfl) rfl rfl (by kernel_rfl) (by kernel_rfl) h with ⟨hc, _⟩ | ⟨ad, l, c, m, n, V0, V1, D0, D1, P0, P1, hc, _, hl, hm, hmm, _, hall⟩
  · simp only [List.cons.injEq, Value.slice.injEq, and_true] at hc
    obtain ⟨rfl, rfl, rfl⟩ := hc
    exact ⟨Nat.le_refl _, [], rfl, Kd.C_nil _ _⟩
  · simp only [List.cons.injEq, Value.slice.injEq, and_true] at hc
    obtain ⟨rfl, rfl, rfl⟩ := hc
    have hlm : len ≤ m := by rw [hmm]; split <;> omega
    refine ⟨hl, (List.range (min len 30)).map fun i => asK (V0 i) (V1 i), by rw [List.length_map, List.length_range], ?_, ?_, fun _ => ⟨ad, rfl, fun j p hj => ?_⟩⟩
    · rfl
    · rw [List.length_map, List.length_range]
      have : min len 30 ≤ 30 := Nat.min_le_right _ _
      omega
    · have hj' : j < min len 30 := by
        have := (List.getElem?_eq_some_iff.1 hj).1
        simpa using this
      have hjm : j < m := by
        have : min len 30 ≤ len := Nat.min_le_left _ _
        omega
      obtain ⟨h0, h1, t0, t1⟩ := hall j hjm
      obtain ⟨n0, e0, _, _⟩ := DataW.trod_int (k := .u32) Tryd.underlying22 t0
      obtain ⟨s1, e1, _, _⟩ := DataW.trod_string Tryd.underlying9 t1
      simp only [List.cons.injEq, and_true] at e0 e1
      rw [List.getElem?_map, List.getElem?_range hj', Option.map_some, Option.some.injEq] at hj
      subst hj
      refine ⟨[.int .u32 n0, .string s1], rfl, ?_, fun i u hu => ?_⟩
      · rw [e0, e1]
        exact ⟨[.int .u32 n0], [.string s1], rfl, rfl, rfl⟩
      · match i, hu with
        | 0, hu =>
          cases hu
          rw [← e0]
          exact h0
        | 1, hu =>
          cases hu
          rw [← e1]
          exact h1
end Go.Proofs.YtobjhddiieaafaaDoor.H
