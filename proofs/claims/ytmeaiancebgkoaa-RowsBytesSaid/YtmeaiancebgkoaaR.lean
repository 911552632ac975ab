/- A page that came in: what the laws read of it. Written by rows_r.py. -/
import Derived.Test.YtmeaiancebgkoaaC1
import Derived.Deep.Slices
import Derived.Deep.SlicePairs
import Derived.ChangeArms
import Derived.ProofKit
import Derived.OpenShut
import Derived.ShutString
import Derived.ChangeOld
namespace Go.Proofs.Ytmeaiancebgkoaa.H
open Go.RowKit Go.Shelf Go.Proofs.YtmeaiancebgkoaaW.PrintWords Go.ChangeShapes Go.WideShapes Go.Deep
set_option linter.unusedVariables false
set_option maxRecDepth 100000

set_option maxRecDepth 100000 in
theorem trod_47 {H : Type} {enc : TypeId × Value → H} {w : World} {base : Nat} {spare : Nat → Bool} {held : Bool} {n : Nat} {cs : List Value} {x : DataW H × List MemPlace} (h : DataW.trod enc Try.prog w base spare held n 47 cs = some x) :
    ∃ (a0 : Int) (a1 : Int) (a2 : Int) (a3 : ByteArray), cs = [.int .u64 a0, .int .u32 a1, .int .u32 a2, .string a3] ∧ (Lit.int .u64 a0).wf = true ∧ (Lit.int .u32 a1).wf = true ∧ (Lit.int .u32 a2).wf = true ∧ a3.size ≤ maxLen ∧ True := by
  obtain ⟨xs, m, _, _, hl, hlen, hf⟩ := DataW.trod_struct Try.underlying47 h
  rw [show Try.prog.cellsOf 47 = 4 from by kernel_rfl] at hl
  replace hlen : xs.length = 4 := hlen
  obtain ⟨c0, c1, c2, c3, rfl⟩ : ∃ c0 c1 c2 c3, cs = [c0, c1, c2, c3] := by
    match cs, hl with
    | [c0, c1, c2, c3], _ => exact ⟨_, _, _, _, rfl⟩
  have f0 := hf 0 _ rfl
  rw [List.getElem?_eq_getElem (show 0 < xs.length by omega)] at f0
  replace f0 : DataW.trod enc Try.prog w base spare held m 45 [c0] = some xs[0] := by
    rw [← f0]
    show _ = DataW.trod enc Try.prog w base spare held m 45 (([c0, c1, c2, c3].drop 0).take (Try.prog.cellsOf 45))
    rw [show Try.prog.cellsOf 45 = 1 from by kernel_rfl]
    rfl
  obtain ⟨a0, e0, _, w0_0⟩ := DataW.trod_int Try.underlying45 f0
  simp only [List.cons.injEq, and_true] at e0
  have f1 := hf 1 _ rfl
  rw [List.getElem?_eq_getElem (show 1 < xs.length by omega)] at f1
  replace f1 : DataW.trod enc Try.prog w base spare held m 22 [c1] = some xs[1] := by
    rw [← f1]
    show _ = DataW.trod enc Try.prog w base spare held m 22 (([c0, c1, c2, c3].drop 1).take (Try.prog.cellsOf 22))
    rw [show Try.prog.cellsOf 22 = 1 from by kernel_rfl]
    rfl
  obtain ⟨a1, e1, _, w1_0⟩ := DataW.trod_int Try.underlying22 f1
  simp only [List.cons.injEq, and_true] at e1
  have f2 := hf 2 _ rfl
  rw [List.getElem?_eq_getElem (show 2 < xs.length by omega)] at f2
  replace f2 : DataW.trod enc Try.prog w base spare held m 22 [c2] = some xs[2] := by
    rw [← f2]
    show _ = DataW.trod enc Try.prog w base spare held m 22 (([c0, c1, c2, c3].drop 2).take (Try.prog.cellsOf 22))
    rw [show Try.prog.cellsOf 22 = 1 from by kernel_rfl]
    rfl
  obtain ⟨a2, e2, _, w2_0⟩ := DataW.trod_int Try.underlying22 f2
  simp only [List.cons.injEq, and_true] at e2
  have f3 := hf 3 _ rfl
  rw [List.getElem?_eq_getElem (show 3 < xs.length by omega)] at f3
  replace f3 : DataW.trod enc Try.prog w base spare held m 9 [c3] = some xs[3] := by
    rw [← f3]
    show _ = DataW.trod enc Try.prog w base spare held m 9 (([c0, c1, c2, c3].drop 3).take (Try.prog.cellsOf 9))
    rw [show Try.prog.cellsOf 9 = 1 from by kernel_rfl]
    rfl
  obtain ⟨a3, e3, _, w3_0⟩ := DataW.trod_string Try.underlying9 f3
  simp only [List.cons.injEq, and_true] at e3
  subst e0
  subst e1
  subst e2
  subst e3
  exact ⟨a0, a1, a2, a3, rfl, w0_0, w1_0, w2_0, w3_0, trivial⟩

set_option maxRecDepth 100000 in
theorem trod_28 {H : Type} {enc : TypeId × Value → H} {w : World} {base : Nat} {spare : Nat → Bool} {held : Bool} {n : Nat} {cs : List Value} {x : DataW H × List MemPlace} (h : DataW.trod enc Try.prog w base spare held n 28 cs = some x) :
    ∃ (a0 : Int) (a1 : ByteArray), cs = [.int .u32 a0, .string a1] ∧ (Lit.int .u32 a0).wf = true ∧ a1.size ≤ maxLen ∧ True := by
  obtain ⟨xs, m, _, _, hl, hlen, hf⟩ := DataW.trod_struct Try.underlying28 h
  rw [show Try.prog.cellsOf 28 = 2 from by kernel_rfl] at hl
  replace hlen : xs.length = 2 := hlen
  obtain ⟨c0, c1, rfl⟩ : ∃ c0 c1, cs = [c0, c1] := by
    match cs, hl with
    | [c0, c1], _ => exact ⟨_, _, rfl⟩
  have f0 := hf 0 _ rfl
  rw [List.getElem?_eq_getElem (show 0 < xs.length by omega)] at f0
  replace f0 : DataW.trod enc Try.prog w base spare held m 22 [c0] = some xs[0] := by
    rw [← f0]
    show _ = DataW.trod enc Try.prog w base spare held m 22 (([c0, c1].drop 0).take (Try.prog.cellsOf 22))
    rw [show Try.prog.cellsOf 22 = 1 from by kernel_rfl]
    rfl
  obtain ⟨a0, e0, _, w0_0⟩ := DataW.trod_int Try.underlying22 f0
  simp only [List.cons.injEq, and_true] at e0
  have f1 := hf 1 _ rfl
  rw [List.getElem?_eq_getElem (show 1 < xs.length by omega)] at f1
  replace f1 : DataW.trod enc Try.prog w base spare held m 9 [c1] = some xs[1] := by
    rw [← f1]
    show _ = DataW.trod enc Try.prog w base spare held m 9 (([c0, c1].drop 1).take (Try.prog.cellsOf 9))
    rw [show Try.prog.cellsOf 9 = 1 from by kernel_rfl]
    rfl
  obtain ⟨a1, e1, _, w1_0⟩ := DataW.trod_string Try.underlying9 f1
  simp only [List.cons.injEq, and_true] at e1
  subst e0
  subst e1
  exact ⟨a0, a1, rfl, w0_0, w1_0, trivial⟩

set_option maxRecDepth 100000 in
theorem trod_24 {H : Type} {enc : TypeId × Value → H} {w : World} {base : Nat} {spare : Nat → Bool} {held : Bool} {n : Nat} {cs : List Value} {x : DataW H × List MemPlace} (h : DataW.trod enc Try.prog w base spare held n 24 cs = some x) :
    ∃ (a0 : Int) (a1 : Int) (a2 : Int), cs = [.int .u32 a0, .int .u32 a1, .int .i64 a2] ∧ (Lit.int .u32 a0).wf = true ∧ (Lit.int .u32 a1).wf = true ∧ (Lit.int .i64 a2).wf = true ∧ True := by
  obtain ⟨xs, m, _, _, hl, hlen, hf⟩ := DataW.trod_struct Try.underlying24 h
  rw [show Try.prog.cellsOf 24 = 3 from by kernel_rfl] at hl
  replace hlen : xs.length = 3 := hlen
  obtain ⟨c0, c1, c2, rfl⟩ : ∃ c0 c1 c2, cs = [c0, c1, c2] := by
    match cs, hl with
    | [c0, c1, c2], _ => exact ⟨_, _, _, rfl⟩
  have f0 := hf 0 _ rfl
  rw [List.getElem?_eq_getElem (show 0 < xs.length by omega)] at f0
  replace f0 : DataW.trod enc Try.prog w base spare held m 22 [c0] = some xs[0] := by
    rw [← f0]
    show _ = DataW.trod enc Try.prog w base spare held m 22 (([c0, c1, c2].drop 0).take (Try.prog.cellsOf 22))
    rw [show Try.prog.cellsOf 22 = 1 from by kernel_rfl]
    rfl
  obtain ⟨a0, e0, _, w0_0⟩ := DataW.trod_int Try.underlying22 f0
  simp only [List.cons.injEq, and_true] at e0
  have f1 := hf 1 _ rfl
  rw [List.getElem?_eq_getElem (show 1 < xs.length by omega)] at f1
  replace f1 : DataW.trod enc Try.prog w base spare held m 22 [c1] = some xs[1] := by
    rw [← f1]
    show _ = DataW.trod enc Try.prog w base spare held m 22 (([c0, c1, c2].drop 1).take (Try.prog.cellsOf 22))
    rw [show Try.prog.cellsOf 22 = 1 from by kernel_rfl]
    rfl
  obtain ⟨a1, e1, _, w1_0⟩ := DataW.trod_int Try.underlying22 f1
  simp only [List.cons.injEq, and_true] at e1
  have f2 := hf 2 _ rfl
  rw [List.getElem?_eq_getElem (show 2 < xs.length by omega)] at f2
  replace f2 : DataW.trod enc Try.prog w base spare held m 3 [c2] = some xs[2] := by
    rw [← f2]
    show _ = DataW.trod enc Try.prog w base spare held m 3 (([c0, c1, c2].drop 2).take (Try.prog.cellsOf 3))
    rw [show Try.prog.cellsOf 3 = 1 from by kernel_rfl]
    rfl
  obtain ⟨a2, e2, _, w2_0⟩ := DataW.trod_int Try.underlying3 f2
  simp only [List.cons.injEq, and_true] at e2
  subst e0
  subst e1
  subst e2
  exact ⟨a0, a1, a2, rfl, w0_0, w1_0, w2_0, trivial⟩

instance : Inhabited Row := ⟨z47⟩
instance : Inhabited Ref := ⟨z28⟩
theorem wf64 {x : Int} (h : (Lit.int .u64 x).wf = true) : 0 ≤ x ∧ x < 18446744073709551616 := by
  simp [Lit.wf, IntKind.min, IntKind.max, IntKind.signed, IntKind.bits] at h
  omega
theorem wf32 {x : Int} (h : (Lit.int .u32 x).wf = true) : 0 ≤ x ∧ x < 4294967296 := by
  simp [Lit.wf, IntKind.min, IntKind.max, IntKind.signed, IntKind.bits] at h
  omega
theorem wfi64 {x : Int} (h : (Lit.int .i64 x).wf = true) : x < 9223372036854775808 := by
  simp [Lit.wf, IntKind.min, IntKind.max, IntKind.signed, IntKind.bits] at h
  omega
theorem rows_of {H : Type} {enc : TypeId × Value → H} {w : World} {base : Nat} {spare : Nat → Bool} {held : Bool} {fu : Nat} {c : Value} {x : DataW H × List MemPlace}
    (h : DataW.trod enc Try.prog w base spare held fu 25 [c] = some x) :
    ∃ a len cap, c = .slice a len cap ∧ len ≤ cap ∧ ∃ L : List Row, L.length = min len 10 ∧ Kd.C k47 w a L.length L ∧ ∀ r ∈ L, rowIn r := by
  rcases open_slice Try.underlying25 h with ⟨hc, _⟩ | ⟨a, len, cap, m, n, D, Pl, hc, hb, hl, hm, hmm, rfl, hx⟩
  · simp only [List.cons.injEq, and_true] at hc
    exact ⟨none, 0, 0, hc, Nat.le_refl _, [], rfl, Kd.C_nil _ _, fun r hr => by cases hr⟩
  · simp only [List.cons.injEq, and_true] at hc
    have hlm : len ≤ m := by rw [hmm]; split <;> omega
    have each : ∀ i, i < m → ∃ r : Row, (w.cell? (a.add (i * 4)) = some (.int .u64 r.f0) ∧ w.cell? (a.add (i * 4 + 1)) = some (.int .u32 r.f1) ∧ w.cell? (a.add (i * 4 + 2)) = some (.int .u32 r.f2) ∧ w.cell? (a.add (i * 4 + 3)) = some (.string r.f3)) ∧ rowIn r := by
      intro i hi
      obtain ⟨cs', h1, h2⟩ := hx i hi
      obtain ⟨a0, a1, a2, a3, rfl, w0, w1, w2, w3, _⟩ := trod_47 h2
      rw [show Try.prog.cellsOf 47 = 4 from by kernel_rfl] at h1
      obtain ⟨_, hlen, hcell⟩ := World.cells?_some h1
      have e0 := hcell 0 (by omega)
      have e1 := hcell 1 (by omega)
      have e2 := hcell 2 (by omega)
      have e3 := hcell 3 (by omega)
      rw [Deep.add_add] at e0 e1 e2 e3
      refine ⟨⟨a0, a1, a2, a3⟩, ⟨by simpa using e0, by simpa using e1, by simpa using e2, by simpa using e3⟩, ?_⟩
      have q0 := wf64 w0
      have q1 := wf32 w1
      have q2 := wf32 w2
      unfold rowIn
      simp only
      omega
    obtain ⟨q, hq⟩ := choose_lt each
    refine ⟨some a, len, cap, hc, hl, (List.range (min len 10)).map q, by rw [List.length_map, List.length_range], ?_, fun r hr => ?_⟩
    · refine ⟨rfl, by rw [List.length_map, List.length_range]; omega, fun _ => ⟨a, rfl, fun j p hj => ?_⟩⟩
      have hj' : j < min len 10 := by
        have := (List.getElem?_eq_some_iff.1 hj).1
        simpa using this
      obtain ⟨⟨e0, e1, e2, e3⟩, _⟩ := hq j (by omega)
      rw [List.getElem?_map, List.getElem?_range hj', Option.map_some, Option.some.injEq] at hj
      subst hj
      refine ⟨[.int .u64 (q j).f0, .int .u32 (q j).f1, .int .u32 (q j).f2, .string (q j).f3], rfl, k47_mk w (q j), fun i u hu => ?_⟩
      match i, hu with
      | 0, hu => cases hu; exact e0
      | 1, hu => cases hu; exact e1
      | 2, hu => cases hu; exact e2
      | 3, hu => cases hu; exact e3
    · obtain ⟨j, hj, rfl⟩ := List.mem_map.1 hr
      have := List.mem_range.1 hj
      exact (hq j (by omega)).2
theorem kids_of {H : Type} {enc : TypeId × Value → H} {w : World} {base : Nat} {spare : Nat → Bool} {held : Bool} {fu : Nat} {c : Value} {x : DataW H × List MemPlace}
    (h : DataW.trod enc Try.prog w base spare held fu 26 [c] = some x) :
    ∃ a len cap, c = .slice a len cap ∧ len ≤ cap ∧ ∃ L : List Ref, L.length = min len 10 ∧ Kd.C k28 w a L.length L ∧ ∀ r ∈ L, refIn r := by
  rcases open_slice Try.underlying26 h with ⟨hc, _⟩ | ⟨a, len, cap, m, n, D, Pl, hc, hb, hl, hm, hmm, rfl, hx⟩
  · simp only [List.cons.injEq, and_true] at hc
    exact ⟨none, 0, 0, hc, Nat.le_refl _, [], rfl, Kd.C_nil _ _, fun r hr => by cases hr⟩
  · simp only [List.cons.injEq, and_true] at hc
    have hlm : len ≤ m := by rw [hmm]; split <;> omega
    have each : ∀ i, i < m → ∃ r : Ref, (w.cell? (a.add (i * 2)) = some (.int .u32 r.f0) ∧ w.cell? (a.add (i * 2 + 1)) = some (.string r.f1)) ∧ refIn r := by
      intro i hi
      obtain ⟨cs', h1, h2⟩ := hx i hi
      obtain ⟨a0, a1, rfl, w0, w1, _⟩ := trod_28 h2
      rw [show Try.prog.cellsOf 28 = 2 from by kernel_rfl] at h1
      obtain ⟨_, hlen, hcell⟩ := World.cells?_some h1
      have e0 := hcell 0 (by omega)
      have e1 := hcell 1 (by omega)
      rw [Deep.add_add] at e0 e1
      refine ⟨⟨a0, a1⟩, ⟨by simpa using e0, by simpa using e1⟩, ?_⟩
      exact wf32 w0
    obtain ⟨q, hq⟩ := choose_lt each
    refine ⟨some a, len, cap, hc, hl, (List.range (min len 10)).map q, by rw [List.length_map, List.length_range], ?_, fun r hr => ?_⟩
    · refine ⟨rfl, by rw [List.length_map, List.length_range]; omega, fun _ => ⟨a, rfl, fun j p hj => ?_⟩⟩
      have hj' : j < min len 10 := by
        have := (List.getElem?_eq_some_iff.1 hj).1
        simpa using this
      obtain ⟨⟨e0, e1⟩, _⟩ := hq j (by omega)
      rw [List.getElem?_map, List.getElem?_range hj', Option.map_some, Option.some.injEq] at hj
      subst hj
      refine ⟨[.int .u32 (q j).f0, .string (q j).f1], rfl, k28_mk w (q j), fun i u hu => ?_⟩
      match i, hu with
      | 0, hu => cases hu; exact e0
      | 1, hu => cases hu; exact e1
    · obtain ⟨j, hj, rfl⟩ := List.mem_map.1 hr
      have := List.mem_range.1 hj
      exact (hq j (by omega)).2
theorem page_of {H : Type} {enc : TypeId × Value → H} {w : World} {base : Nat} {spare : Nat → Bool} {held : Bool} {n : Nat} {cs : List Value} {x : DataW H × List MemPlace} (h : DataW.trod enc Try.prog w base spare held n 30 cs = some x) :
    ∃ (p : Pg) (A4 A5 : Option Addr) (n4 c4 n5 c5 : Nat), cs = [.int .i64 p.k, .int .u32 p.x, .int .u32 p.y, .int .i64 p.lv, .slice A4 n4 c4, .slice A5 n5 c5, .int .u32 p.np, .string p.nt] ∧ pageIn p ∧ n4 ≤ c4 ∧ p.rows.length = min n4 10 ∧ n5 ≤ c5 ∧ p.kids.length = min n5 10 ∧ Kd.C k47 w A4 p.rows.length p.rows ∧ Kd.C k28 w A5 p.kids.length p.kids := by
  obtain ⟨xs, m, _, _, hl, hlen, hf⟩ := DataW.trod_struct Try.underlying30 h
  rw [show Try.prog.cellsOf 30 = 8 from by kernel_rfl] at hl
  replace hlen : xs.length = 5 := hlen
  obtain ⟨c0, c1, c2, c3, c4, c5, c6, c7, rfl⟩ : ∃ c0 c1 c2 c3 c4 c5 c6 c7, cs = [c0, c1, c2, c3, c4, c5, c6, c7] := by
    match cs, hl with
    | [c0, c1, c2, c3, c4, c5, c6, c7], _ => exact ⟨_, _, _, _, _, _, _, _, rfl⟩
  have f0 := hf 0 _ rfl
  rw [List.getElem?_eq_getElem (show 0 < xs.length by omega)] at f0
  replace f0 : DataW.trod enc Try.prog w base spare held m 3 [c0] = some xs[0] := by
    rw [← f0]
    show _ = DataW.trod enc Try.prog w base spare held m 3 (([c0, c1, c2, c3, c4, c5, c6, c7].drop 0).take (Try.prog.cellsOf 3))
    rw [show Try.prog.cellsOf 3 = 1 from by kernel_rfl]
    rfl
  have f1 := hf 1 _ rfl
  rw [List.getElem?_eq_getElem (show 1 < xs.length by omega)] at f1
  replace f1 : DataW.trod enc Try.prog w base spare held m 24 [c1, c2, c3] = some xs[1] := by
    rw [← f1]
    show _ = DataW.trod enc Try.prog w base spare held m 24 (([c0, c1, c2, c3, c4, c5, c6, c7].drop 1).take (Try.prog.cellsOf 24))
    rw [show Try.prog.cellsOf 24 = 3 from by kernel_rfl]
    rfl
  have f2 := hf 2 _ rfl
  rw [List.getElem?_eq_getElem (show 2 < xs.length by omega)] at f2
  replace f2 : DataW.trod enc Try.prog w base spare held m 25 [c4] = some xs[2] := by
    rw [← f2]
    show _ = DataW.trod enc Try.prog w base spare held m 25 (([c0, c1, c2, c3, c4, c5, c6, c7].drop 4).take (Try.prog.cellsOf 25))
    rw [show Try.prog.cellsOf 25 = 1 from by kernel_rfl]
    rfl
  have f3 := hf 3 _ rfl
  rw [List.getElem?_eq_getElem (show 3 < xs.length by omega)] at f3
  replace f3 : DataW.trod enc Try.prog w base spare held m 26 [c5] = some xs[3] := by
    rw [← f3]
    show _ = DataW.trod enc Try.prog w base spare held m 26 (([c0, c1, c2, c3, c4, c5, c6, c7].drop 5).take (Try.prog.cellsOf 26))
    rw [show Try.prog.cellsOf 26 = 1 from by kernel_rfl]
    rfl
  have f4 := hf 4 _ rfl
  rw [List.getElem?_eq_getElem (show 4 < xs.length by omega)] at f4
  replace f4 : DataW.trod enc Try.prog w base spare held m 28 [c6, c7] = some xs[4] := by
    rw [← f4]
    show _ = DataW.trod enc Try.prog w base spare held m 28 (([c0, c1, c2, c3, c4, c5, c6, c7].drop 6).take (Try.prog.cellsOf 28))
    rw [show Try.prog.cellsOf 28 = 2 from by kernel_rfl]
    rfl
  obtain ⟨a0, e0, _, w0⟩ := DataW.trod_int Try.underlying3 f0
  obtain ⟨a1, a2, a3, e1, w1, w2, w3, _⟩ := trod_24 f1
  obtain ⟨A4, n4, k4, e2, hk4, L4, hL4, hC4, hI4⟩ := rows_of f2
  obtain ⟨A5, n5, k5, e3, hk5, L5, hL5, hC5, hI5⟩ := kids_of f3
  obtain ⟨a6, a7, e4, w6, w7, _⟩ := trod_28 f4
  simp only [List.cons.injEq, and_true] at e0 e1 e4
  obtain ⟨rfl, rfl, rfl⟩ := e1
  obtain ⟨rfl, rfl⟩ := e4
  subst e0 e2 e3
  exact ⟨⟨a0, a1, a2, a3, L4, L5, a6, a7⟩, A4, A5, n4, k4, n5, k5, rfl, ⟨wf32 w1, wf32 w2, wf32 w6, wfi64 w3, by show L5.length ≤ 1000; omega, hI4, hI5⟩, hk4, hL4, hk5, hL5, hC4, hC5⟩
end Go.Proofs.Ytmeaiancebgkoaa.H
