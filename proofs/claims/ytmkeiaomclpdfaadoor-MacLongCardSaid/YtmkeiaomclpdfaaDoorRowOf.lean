/- A block of words, and its list: plain facts. -/
import Derived.RowKit
import Derived.RangeFuncRecord
import Derived.RangeFuncBox
import Derived.WalkKit
namespace Go.Proofs.YtmkeiaomclpdfaaDoor.RowOf
open Go Go.RowKit

/-- The word at a place. -/
def wrd (xs : List Int) (i : Nat) : Int := xs.getD i 0

/-- A type whose blocks are known whole. -/
def wholeT : TypeId := 76
/-- The cells of the block g (of type t) begin with the words of a list. -/
def Row (W : World) (g : Nat) (t : TypeId) (xs : List Int) : Prop := ∃ cur : Array Value, W.heap[g]? = some (.cells cur t (0, 0)) ∧ ∃ rest, (t = wholeT → rest = []) ∧ cur.toList = xs.map (Value.int .u32) ++ rest
theorem row_exact {W : World} {g : Nat} {xs : List Int} (h : Row W g wholeT xs) : W.heap[g]? = some (.cells (xs.map (Value.int .u32)).toArray wholeT (0, 0)) := by
  obtain ⟨cur, h1, rest, h2, h3⟩ := h
  rw [h1, h2 rfl, List.append_nil] at *
  rw [← h3]

theorem Row.lt {W : World} {g t : Nat} {xs : List Int} (h : Row W g t xs) : g < W.heap.size := by
  obtain ⟨cur, h1, _⟩ := h
  exact (Array.getElem?_eq_some_iff.1 h1).1
theorem Row.cell {W : World} {g t : Nat} {xs : List Int} (h : Row W g t xs) (i : Nat) (hi : i < xs.length) : W.cell? ⟨g, i, none⟩ = some (.int .u32 (wrd xs i)) := by
  unfold wrd
  obtain ⟨cur, h1, rest, h0, h2⟩ := h
  have hc : cur[i]? = some (.int .u32 (xs.getD i 0)) := by
    rw [← Array.getElem?_toList, h2, List.getElem?_append_left (by simpa using hi), List.getElem?_map, List.getElem?_eq_getElem hi, List.getD_eq_getElem?_getD, List.getElem?_eq_getElem hi]
    rfl
  simp [World.cell?, h1, hc]
theorem Row.frozen {W : World} {g t : Nat} {xs : List Int} (h : Row W g t xs) (i : Nat) : W.frozen? ⟨g, i, none⟩ = false := by
  obtain ⟨cur, h1, _⟩ := h
  simp [World.frozen?, h1]
theorem Row.set {W : World} {g t : Nat} {xs : List Int} (h : Row W g t xs) (i : Nat) (hi : i < xs.length) (v : Int) : Row (W.setCell ⟨g, i, none⟩ (.int .u32 v)) g t (xs.set i v) := by
  obtain ⟨cur, h1, rest, h0, h2⟩ := h
  refine ⟨cur.setIfInBounds i (.int .u32 v), ?_, rest, h0, ?_⟩
  · simp [World.setCell, Array.getElem?_modify, h1]
  · rw [Array.toList_setIfInBounds, h2, List.set_append_left _ _ (by simpa using hi), List.map_set]
theorem Row.kept {W W' : World} {g t : Nat} {xs : List Int} (h : Row W g t xs) (he : W'.heap[g]? = W.heap[g]?) : Row W' g t xs := by
  obtain ⟨cur, h1, h2⟩ := h
  exact ⟨cur, he.trans h1, h2⟩
theorem Row.far {W : World} {g t : Nat} {xs : List Int} (h : Row W g t xs) {p : Addr} (hp : g ≠ p.block) (v : Value) : Row (W.setCell p v) g t xs := h.kept (Below.heap_setCell _ _ _ _ hp)
theorem Row.below {W W' : World} {g t n : Nat} {xs : List Int} (h : Row W g t xs) (hb : Below n W W') (hg : g < n) : Row W' g t xs := h.kept (hb.block g hg)
theorem Row.alloc {W : World} {g t : Nat} {xs : List Int} (h : Row W g t xs) (o : Obj) : Row (W.alloc o) g t xs := h.kept (Below.heap_alloc _ _ _ h.lt)
theorem gb_of_below {w w' : World} (h : Below w.heap.size w w') (row : Option Nat) : w.grownBy w' row := ⟨h.os, h.tape, h.output, h.size, fun k hk _ => h.block k hk⟩
theorem gb_trans {a b c : World} {row : Option Nat} (h : a.grownBy b row) (k : b.grownBy c row) : a.grownBy c row := by
  obtain ⟨h1, h2, h3, h4, h5⟩ := h
  obtain ⟨k1, k2, k3, k4, k5⟩ := k
  exact ⟨k1.trans h1, k2.trans h2, k3.trans h3, Nat.le_trans h4 k4, fun j hj hr => (k5 j (Nat.lt_of_lt_of_le hj h4) hr).trans (h5 j hj hr)⟩
theorem gb_set (W : World) (g i : Nat) (v : Value) : W.grownBy (W.setCell ⟨g, i, none⟩ v) (some g) :=
  ⟨rfl, rfl, rfl, by simp [World.setCell], fun k _ hr => Below.heap_setCell _ _ _ _ (fun e => hr (by rw [e]))⟩
theorem gb_set_new {w W : World} {row : Option Nat} (h : w.grownBy W row) {b : Nat} (hb : w.heap.size ≤ b) (i : Nat) (v : Value) : w.grownBy (W.setCell ⟨b, i, none⟩ v) row := by
  obtain ⟨h1, h2, h3, h4, h5⟩ := h
  exact ⟨h1, h2, h3, Nat.le_trans h4 (by simp [World.setCell]), fun k hk hr => (Below.heap_setCell _ _ _ _ (by show k ≠ b; omega)).trans (h5 k hk hr)⟩
end Go.Proofs.YtmkeiaomclpdfaaDoor.RowOf
