/- A slice of texts that came in: what a walk reads of it. -/
import Derived.Test.YtmkeiaomclpdfaaDoorG9
import Derived.SliceStrings
import Derived.SizedLaws
import Derived.ProofKit
import Derived.OpenShut
namespace Go.Proofs.YtmkeiaomclpdfaaDoor.H
open Go.RowKit Go.ChangeShapes Go.WideShapes
set_option linter.unusedVariables false

/-- The texts of a slice. -/
def Strs (W : World) (A : Option Addr) (l : List ByteArray) : Prop := l = [] ∨ ∃ b o, A = some ⟨b, o, none⟩ ∧ b < W.heap.size ∧ ∀ (j : Nat) (x : ByteArray), l[j]? = some x → W.cell? ⟨b, o + j, none⟩ = some (.string x)
theorem Strs.below {W W' : World} {A : Option Addr} {l : List ByteArray} {n : Nat} (h : Strs W A l) (hn : W.heap.size ≤ n) (hb : Below n W W') : Strs W' A l := by
  rcases h with h | ⟨b, o, h1, h2, h3⟩
  · exact .inl h
  · exact .inr ⟨b, o, h1, Nat.lt_of_lt_of_le h2 (Nat.le_trans (Nat.le_refl _) hb.size), fun j x hj => (hb.cell (p := ⟨b, o + j, none⟩) (Nat.lt_of_lt_of_le h2 hn)).trans (h3 j x hj)⟩
theorem Strs.take {W : World} {A : Option Addr} {l : List ByteArray} (n : Nat) (h : Strs W A l) : Strs W A (l.take n) := by
  rcases h with h | ⟨b, o, h1, h2, h3⟩
  · exact .inl (by rw [h]; exact List.take_nil)
  · exact .inr ⟨b, o, h1, h2, fun j x hj => h3 j x (by
      rw [List.getElem?_take] at hj
      split at hj
      · exact hj
      · cases hj)⟩

theorem mem_weightsAll {H : Type} (P : Program) (e : TypeId) (d : DataW H) (n : Nat) (hn : n ∈ d.weights P e) : ∀ l : List (DataW H), d ∈ l → n ∈ DataW.weightsAll P e l := by
  intro l
  induction l with
  | nil => intro h; cases h
  | cons x l ih =>
    intro h
    rw [DataW.weightsAll, List.mem_append]
    rcases List.mem_cons.1 h with rfl | h
    · exact .inl hn
    · exact .inr (ih h)
theorem strs_of {H : Type} {enc : TypeId × Value → H} {w : World} {base : Nat} {spare : Nat → Bool} {held : Bool} {fu : Nat} {a : Option Addr} {len cap : Nat} {x : DataW H × List MemPlace} {ts : List TypeId} {ds : List (DataW H)} {j : Nat}
    (hsz : (DataW.weightsEach Tryd.prog ts ds).all (· ≤ reachBytes) = true) (ht : ts[j]? = some 29) (hd : ds[j]? = some x.1) (h : DataW.trod enc Tryd.prog w base spare held fu 29 [.slice a len cap] = some x) :
    ∃ L : List ByteArray, L.length = len ∧ len ≤ cap ∧ Strs w a L ∧ (∀ s ∈ L, s.size ≤ 140737488351232) ∧ len ≤ 140737488351232 ∧ (a = none → cap = 0) := by
  rcases open_strings Tryd.underlying29 Tryd.underlying9 (by kernel_rfl) h with ⟨hc, _⟩ | ⟨ad, l, c, ss, hc, _, hl, hm, hz, hx, hcell, hws⟩
  · simp only [List.cons.injEq, Value.slice.injEq, and_true] at hc
    obtain ⟨rfl, rfl, rfl⟩ := hc
    exact ⟨[], rfl, Nat.le_refl _, .inl rfl, by simp, by omega, fun _ => rfl⟩
  · simp only [List.cons.injEq, Value.slice.injEq, and_true] at hc
    obtain ⟨rfl, rfl, rfl⟩ := hc
    have hls : len ≤ ss.length := by rw [hz]; split <;> omega
    have hwt := List.all_eq_true.1 hsz
    rw [hx] at hd
    have hlen : len ≤ 140737488351232 := by
      have := hwt _ (DataW.weights_mem_each ht hd ((strs (H := H) (ss.take len)).length + (strs (H := H) (ss.drop len)).length |> (· * Tryd.prog.bytesOf 9)) (by simp [DataW.weights, Tryd.underlying29]))
      have hb : Tryd.prog.bytesOf 9 = 16 := by kernel_rfl
      rw [hb] at this
      have h2 : ((strs (H := H) (ss.take len)).length + (strs (H := H) (ss.drop len)).length) * 16 ≤ reachBytes := by simpa using this
      have h3 : (strs (H := H) (ss.take len)).length = len := by simp [strs, hls]
      have h4 : reachBytes = 140737488351232 := by decide
      omega
    refine ⟨ss.take len, by simp [hls], hl, ?_, fun s hs => ?_, hlen, fun h => nomatch h⟩
    · by_cases h0 : len = 0
      · exact .inl (by rw [h0]; rfl)
      · have hc0 := hcell 0 (by omega)
        have had : ad.add 0 = ad := by simp [Addr.add]
        rw [had] at hc0
        have hlt := World.block_lt_of_cell? w ad hc0
        obtain ⟨b, o, sp⟩ := ad
        have hsp : sp = none := by
          cases sp with
          | none => rfl
          | some s =>
            exfalso
            unfold World.cell? at hc0
            split at hc0 <;> simp at hc0
        subst hsp
        refine .inr ⟨b, o, rfl, hlt, fun j x hj => ?_⟩
        rw [List.getElem?_take] at hj
        split at hj
        · have hj2 := (List.getElem?_eq_some_iff.1 hj).1
          have := hcell j hj2
          rw [List.getD_eq_getElem?_getD, hj] at this
          rwa [show (⟨b, o, none⟩ : Addr).add j = ⟨b, o + j, none⟩ by unfold Addr.add; split <;> simp_all] at this
        · cases hj
    · have hmem : (.lit (.string s.data.toList) : DataW H) ∈ strs (ss.take len) := List.mem_map.2 ⟨s, hs, rfl⟩
      have := hwt _ (DataW.weights_mem_each ht hd s.data.toList.length (by
        simp only [DataW.weights, Tryd.underlying29, List.mem_cons, List.mem_append]
        exact .inr (.inl (mem_weightsAll _ _ _ _ (by simp [DataW.weights]) _ hmem))))
      have h4 : reachBytes = 140737488351232 := by decide
      have h2 : s.data.toList.length ≤ reachBytes := by simpa using this
      have h3 : s.size = s.data.toList.length := by simp
      omega

end Go.Proofs.YtmkeiaomclpdfaaDoor.H
