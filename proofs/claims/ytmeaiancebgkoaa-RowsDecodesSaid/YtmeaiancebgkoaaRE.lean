/- rows.Encode: the walk. Written by rows_re.py. -/
import Derived.Test.YtmeaiancebgkoaaRW
import Derived.Test.YtmeaiancebgkoaaRP
import Derived.TacticsInMore
namespace Go.Proofs.Ytmeaiancebgkoaa.H
open Go.RowKit Go.Shelf Go.Proofs.YtmeaiancebgkoaaW.PrintWords Go.Proofs.YtmeaiancebgkoaaW.PrintLast Go.Proofs.YtmeaiancebgkoaaW.PrintMore
attribute [local go_sem] Oper.semAt_some
set_option linter.unusedVariables false
set_option linter.unusedSimpArgs false
set_option maxRecDepth 100000

def rowBytes (r : Row) : List UInt8 := le r.f0.toNat 8 ++ (le r.f1.toNat 4 ++ (le r.f2.toNat 4 ++ (le r.f3.size 1 ++ r.f3.data.toList)))
def kidB (r : Ref) : List UInt8 := refB r.f0.toNat r.f1
/-- A page's bytes. -/
def encL (p : Pg) : List UInt8 :=
  if p.k = 2 then le 2 1 ++ (le p.kids.length 1 ++ (le p.lv.toNat 1 ++ (le p.x.toNat 4 ++ (le p.y.toNat 4 ++ (p.kids.map kidB).flatten))))
  else le 1 1 ++ (le p.rows.length 1 ++ (refB p.np.toNat p.nt ++ (p.rows.map rowBytes).flatten))
def encP (p : Pg) : ByteArray × Int := if rightP p = true then (⟨(encL p).toArray⟩, 0) else (⟨#[]⟩, 90)
/-- Numbers within their kinds. -/
def rowIn (r : Row) : Prop := 0 ≤ r.f0 ∧ r.f0 < 18446744073709551616 ∧ 0 ≤ r.f1 ∧ r.f1 < 4294967296 ∧ 0 ≤ r.f2 ∧ r.f2 < 4294967296
def refIn (r : Ref) : Prop := 0 ≤ r.f0 ∧ r.f0 < 4294967296
instance (r : Row) : Decidable (rowIn r) := by unfold rowIn; infer_instance
instance (r : Ref) : Decidable (refIn r) := by unfold refIn; infer_instance
def pageIn (p : Pg) : Prop := (0 ≤ p.x ∧ p.x < 4294967296) ∧ (0 ≤ p.y ∧ p.y < 4294967296) ∧ (0 ≤ p.np ∧ p.np < 4294967296) ∧ p.lv < 9223372036854775808 ∧ p.kids.length ≤ 1000 ∧ (∀ r ∈ p.rows, rowIn r) ∧ (∀ r ∈ p.kids, refIn r)
instance (p : Pg) : Decidable (pageIn p) := by unfold pageIn; infer_instance
def rows_Encode.f (k x y lv : Int) (l4 : List Row) (l5 : List Ref) (np : Int) (nt : ByteArray) : Option (ByteArray × Int) :=
  if pageIn ⟨k, x, y, lv, l4, l5, np, nt⟩ then some (encP ⟨k, x, y, lv, l4, l5, np, nt⟩) else none

theorem rises_all : ∀ (l : List Row) (o : Option Int), rises o l = true → ∀ r ∈ l, rowB r = true
  | [], _, _, r, hr => by cases hr
  | a :: l, o, h, r, hr => by
    rw [rises_cons, Bool.and_eq_true, Bool.and_eq_true] at h
    rcases List.mem_cons.1 hr with rfl | hr
    · exact h.1.1
    · exact rises_all l _ h.2 r hr
theorem right1 {p : Pg} (hk : p.k = 1) (h : rightP p = true) : p.rows.length ≤ 4 ∧ rowsB p.rows = true ∧ (noneB p.np p.nt = true ∨ refOK p.np p.nt = true) ∧ p.kids.length = 0 ∧ p.x = 0 ∧ p.y = 0 ∧ p.lv = 0 := by
  rw [rightP, if_pos hk] at h
  simp only [Bool.and_eq_true, Bool.or_eq_true, decide_eq_true_eq, beq_iff_eq] at h
  exact ⟨h.2.2.1, h.2.2.2.1, h.2.2.2.2, h.2.1, h.1.1, h.1.2.1, h.1.2.2⟩
theorem right2 {p : Pg} (hk : p.k = 2) (h : rightP p = true) : p.kids.any wrongR = false ∧ p.rows.length = 0 ∧ noneB p.np p.nt = true ∧ 2 ≤ p.kids.length ∧ p.kids.length ≤ 4 ∧ cellB p.x p.y p.lv = true ∧ 0 < p.lv := by
  rw [rightP, if_neg (by omega), if_pos hk] at h
  simp only [Bool.and_eq_true, Bool.not_eq_true', decide_eq_true_eq] at h
  exact ⟨h.1, h.2.1, h.2.2.1, h.2.2.2.1, h.2.2.2.2.1, h.2.2.2.2.2.1, h.2.2.2.2.2.2⟩
theorem right_kind {p : Pg} (h : rightP p = true) : p.k = 1 ∨ p.k = 2 := by
  by_cases h1 : p.k = 1
  · exact .inl h1
  · by_cases h2 : p.k = 2
    · exact .inr h2
    · rw [rightP, if_neg h1, if_neg h2] at h
      cases h
theorem none_size {p : Int} {t : ByteArray} (h : noneB p t = true) : p = 0 ∧ t = ⟨#[]⟩ := by
  rw [noneB, Bool.and_eq_true, beq_iff_eq, beq_iff_eq] at h
  refine ⟨h.1, ?_⟩
  have h2 := h.2
  rw [Lib.toList_data] at h2
  obtain ⟨⟨d⟩⟩ := t
  simp only at h2
  rw [h2]
theorem refOK_iff {p : Int} {t : ByteArray} : refOK p t = true ↔ 2 ≤ p ∧ t.size = 32 := by
  rw [refOK, Bool.and_eq_true, decide_eq_true_eq, beq_iff_eq]
  omega
theorem next_size {p : Int} {t : ByteArray} (h : noneB p t = true ∨ refOK p t = true) : t.size ≤ 32 := by
  rcases h with h | h
  · rw [(none_size h).2]
    decide
  · have := (refOK_iff.1 h).2
    omega
theorem kid_size {l : List Ref} (h : l.any wrongR = false) : ∀ r ∈ l, 2 ≤ r.f0 ∧ r.f1.size = 32 := by
  intro r hr
  have := List.any_eq_false.1 h r hr
  rw [wrongR_eq] at this
  simp at this
  exact refOK_iff.1 this
theorem flat_le {α : Type} (f : α → List UInt8) (n : Nat) : ∀ (l : List α), (∀ x ∈ l, (f x).length ≤ n) → ((l.map f).flatten).length ≤ n * l.length
  | [], _ => by simp
  | a :: l, h => by
    have h1 := h a List.mem_cons_self
    have h2 := flat_le f n l (fun x hx => h x (List.mem_cons_of_mem _ hx))
    rw [List.map_cons, List.flatten_cons, List.length_append, List.length_cons, Nat.mul_add]
    omega
theorem flat_snoc {α : Type} (f : α → List UInt8) (l : List α) (i : Nat) (h : i < l.length) : (((l.take (i + 1)).map f).flatten) = (((l.take i).map f).flatten) ++ f l[i] := by
  rw [List.take_succ_eq_append_getElem h, List.map_append, List.flatten_append]
  simp
theorem rowBytes_le {r : Row} (h : rowB r = true) : (rowBytes r).length ≤ 33 := by
  rw [rowB, Bool.and_eq_true, decide_eq_true_eq, decide_eq_true_eq] at h
  simp only [rowBytes, List.length_append, le_length, ← ba_size]
  omega

/-- The box of a page. -/
def PBox (w : World) (N : Nat) (k x y lv : Int) (v4 v5 : Value) (np : Int) (nt : ByteArray) : Prop := w.heap[N]? = some (.cells #[.int .i64 k, .int .u32 x, .int .u32 y, .int .i64 lv, v4, v5, .int .u32 np, .string nt] 30 (0, 0))
theorem PBox.below {w w' : World} {N M : Nat} {k x y lv : Int} {v4 v5 : Value} {np : Int} {nt : ByteArray} (h : PBox w N k x y lv v4 v5 np nt) (hb : Below M w w') (hM : N < M) : PBox w' N k x y lv v4 v5 np nt := (hb.block N hM).trans h
theorem PBox.cells {w : World} {N : Nat} {k x y lv : Int} {v4 v5 : Value} {np : Int} {nt : ByteArray} (h : PBox w N k x y lv v4 v5 np nt) :
    w.cell? ⟨N, 0, none⟩ = some (.int .i64 k) ∧ w.cell? ⟨N, 1, none⟩ = some (.int .u32 x) ∧ w.cell? ⟨N, 2, none⟩ = some (.int .u32 y) ∧ w.cell? ⟨N, 3, none⟩ = some (.int .i64 lv) ∧
    w.cell? ⟨N, 4, none⟩ = some v4 ∧ w.cell? ⟨N, 5, none⟩ = some v5 ∧ w.cell? ⟨N, 6, none⟩ = some (.int .u32 np) ∧ w.cell? ⟨N, 7, none⟩ = some (.string nt) := by
  have h' : w.heap[N]? = some (.cells #[.int .i64 k, .int .u32 x, .int .u32 y, .int .i64 lv, v4, v5, .int .u32 np, .string nt] 30 (0, 0)) := h
  refine ⟨?_, ?_, ?_, ?_, ?_, ?_, ?_, ?_⟩ <;> simp [World.cell?, h']

set_option maxHeartbeats 4000000 in
theorem Encode_bad (k x y lv : Int) (A4 : Option Addr) (c4 : Nat) (rows : List Row) (A5 : Option Addr) (c5 : Nat) (kids : List Ref) (np : Int) (nt : ByteArray) (w : World)
    (hr4 : Kd.C k47 w A4 rows.length rows) (hc4 : rows.length ≤ c4) (hr5 : Kd.C k28 w A5 kids.length kids) (hc5 : kids.length ≤ c5) (hR : rows_Right.f 6 k x y lv rows kids np nt = some false) :
    Calls Try.prog 16 #[.agg #[.int .i64 k, .int .u32 x, .int .u32 y, .int .i64 lv, .slice A4 rows.length c4, .slice A5 kids.length c5, .int .u32 np, .string nt]] w fun e w' => e = .returned (.tuple #[.string ⟨#[]⟩, .int .i64 90]) ∧ Below w.heap.size w w' := by
  obtain ⟨N, hN⟩ : ∃ N, w.heap.size = N := ⟨_, rfl⟩
  have hb0 : Below N w (w.alloc (.cells #[.int .i64 k, .int .u32 x, .int .u32 y, .int .i64 lv, .slice A4 rows.length c4, .slice A5 kids.length c5, .int .u32 np, .string nt] 30)) := (Below.refl N w).alloc (by omega) _
  have hs0 : (w.alloc (.cells #[.int .i64 k, .int .u32 x, .int .u32 y, .int .i64 lv, .slice A4 rows.length c4, .slice A5 kids.length c5, .int .u32 np, .string nt] 30)).heap.size = N + 1 := by rw [World.size_alloc, hN]
  have hp0 : PBox (w.alloc (.cells #[.int .i64 k, .int .u32 x, .int .u32 y, .int .i64 lv, .slice A4 rows.length c4, .slice A5 kids.length c5, .int .u32 np, .string nt] 30)) N k x y lv (.slice A4 rows.length c4) (.slice A5 kids.length c5) np nt := by rw [← hN]; exact World.alloc_heap_new _ _
  have hC4 := Kd.C_below hr4 (by rw [hN]; exact hb0)
  have hC5 := Kd.C_below hr5 (by rw [hN]; exact hb0)
  obtain ⟨c0_, c1_, c2_, c3_, c4_, c5_, c6_, c7_⟩ := hp0.cells
  have HC4 := Lib.hid hC4
  have HC5 := Lib.hid hC5
  have Hr4 := Lib.hid hr4
  have Hr5 := Lib.hid hr5
  clear hC4 hC5 hr4 hr5
  go_enter Try.func16, Try.ntmps16
  go_wp2_with fail
  generalize w.alloc (.cells #[.int .i64 k, .int .u32 x, .int .u32 y, .int .i64 lv, .slice A4 rows.length c4, .slice A5 kids.length c5, .int .u32 np, .string nt] 30) = W0 at *
  refine (rows_Right.calls 6 k x y lv A4 c4 rows A5 c5 kids np nt false W0 HC4.out hc4 HC5.out hc5 hR).mono ?_
  rintro e w1 ⟨rfl, hb1⟩
  rw [hs0] at hb1
  have hp1 := hp0.below hb1 (Nat.lt_succ_self N)
  have hB1 : Below N w w1 := hb0.trans (hb1.mono (by omega))
  have hS1 := (Array.getElem?_eq_some_iff.1 hp1).1
  clear c0_ c1_ c2_ c3_ c4_ c5_ c6_ c7_ hp0 hb0 hb1 HC4 HC5
  go_wp2
  go_ret2
  exact ⟨rfl, by rw [hN]; exact hB1⟩

set_option maxHeartbeats 4000000 in
theorem Encode_inner (x y lv : Nat) (A4 : Option Addr) (c4 : Nat) (rows : List Row) (A5 : Option Addr) (c5 : Nat) (kids : List Ref) (nt : ByteArray) (w : World)
    (hr4 : Kd.C k47 w A4 rows.length rows) (hc4 : rows.length ≤ c4) (hr5 : Kd.C k28 w A5 kids.length kids) (hc5 : kids.length ≤ c5) (hx : x < 4294967296) (hy : y < 4294967296) (hlv : lv < 9223372036854775808) (hkn : kids.length ≤ 4) (hks : ∀ r ∈ kids, r.f1.size = 32) (hki : ∀ r ∈ kids, refIn r) (L : List UInt8) (hL : L = [] ++ le 2 1 ++ le kids.length 1 ++ le lv 1 ++ le x 4 ++ le y 4 ++ (kids.map kidB).flatten) (hR : rows_Right.f 6 2 x y lv rows kids 0 nt = some true) :
    Calls Try.prog 16 #[.agg #[.int .i64 2, .int .u32 x, .int .u32 y, .int .i64 lv, .slice A4 rows.length c4, .slice A5 kids.length c5, .int .u32 0, .string nt]] w fun e w' => e = .returned (.tuple #[.string ⟨L.toArray⟩, .int .i64 0]) ∧ Below w.heap.size w w' := by
  obtain ⟨N, hN⟩ : ∃ N, w.heap.size = N := ⟨_, rfl⟩
  have hb0 : Below N w (w.alloc (.cells #[.int .i64 2, .int .u32 x, .int .u32 y, .int .i64 lv, .slice A4 rows.length c4, .slice A5 kids.length c5, .int .u32 0, .string nt] 30)) := (Below.refl N w).alloc (by omega) _
  have hs0 : (w.alloc (.cells #[.int .i64 2, .int .u32 x, .int .u32 y, .int .i64 lv, .slice A4 rows.length c4, .slice A5 kids.length c5, .int .u32 0, .string nt] 30)).heap.size = N + 1 := by rw [World.size_alloc, hN]
  have hp0 : PBox (w.alloc (.cells #[.int .i64 2, .int .u32 x, .int .u32 y, .int .i64 lv, .slice A4 rows.length c4, .slice A5 kids.length c5, .int .u32 0, .string nt] 30)) N 2 x y lv (.slice A4 rows.length c4) (.slice A5 kids.length c5) 0 nt := by rw [← hN]; exact World.alloc_heap_new _ _
  have hC4 := Kd.C_below hr4 (by rw [hN]; exact hb0)
  have hC5 := Kd.C_below hr5 (by rw [hN]; exact hb0)
  obtain ⟨c0_, c1_, c2_, c3_, c4_, c5_, c6_, c7_⟩ := hp0.cells
  have HC4 := Lib.hid hC4
  have HC5 := Lib.hid hC5
  have Hr4 := Lib.hid hr4
  have Hr5 := Lib.hid hr5
  clear hC4 hC5 hr4 hr5
  go_enter Try.func16, Try.ntmps16
  go_wp2_with fail
  generalize w.alloc (.cells #[.int .i64 2, .int .u32 x, .int .u32 y, .int .i64 lv, .slice A4 rows.length c4, .slice A5 kids.length c5, .int .u32 0, .string nt] 30) = W0 at *
  refine (rows_Right.calls 6 2 x y lv A4 c4 rows A5 c5 kids 0 nt true W0 HC4.out hc4 HC5.out hc5 hR).mono ?_
  rintro e w1 ⟨rfl, hb1⟩
  rw [hs0] at hb1
  have hp1 := hp0.below hb1 (Nat.lt_succ_self N)
  have hB1 : Below N w w1 := hb0.trans (hb1.mono (by omega))
  have hS1 := (Array.getElem?_eq_some_iff.1 hp1).1
  clear c0_ c1_ c2_ c3_ c4_ c5_ c6_ c7_ hp0 hb0 hb1 HC4 HC5
  obtain ⟨d0, d1, d2, d3, d4, d5, d6, d7⟩ := hp1.cells
  obtain ⟨b, hb⟩ : ∃ b, w1.heap.size = b := ⟨_, rfl⟩
  have hbN : N < b := by omega
  have hw2 : Wr b b [] (w1.alloc (.cells #[.pointer none, .slice none 0 0] 55)) := by
    have h := Lib.fresh_isBuilder 55 5 w1
    rw [hb] at h
    exact h
  have hb2 : Below b w1 (w1.alloc (.cells #[.pointer none, .slice none 0 0] 55)) := (Below.refl b w1).alloc (by omega) _
  have hp2 := hp1.below hb2 hbN
  have hs2 : b ≤ (w1.alloc (.cells #[.pointer none, .slice none 0 0] 55)).heap.size := by rw [World.size_alloc]; omega
  have HW2 := Lib.hid hw2
  obtain ⟨e0, e1, e2, e3, e4, e5, e6, e7⟩ := hp2.cells
  clear hw2 hp1 hS1
  go_wp2_with fail
  generalize w1.alloc (.cells #[.pointer none, .slice none 0 0] 55) = w2 at *
  clear d0 d1 d2 d3 d4 d5 d6 d7
  refine (put_calls b b _ 2 1 (by decide) (by decide) (by simp only [List.length_append, List.length_nil, le_length]; omega) w2 HW2.out (by have := hb2.size; omega)).mono ?_
  rintro e w3 ⟨rfl, hw3, hc3, _⟩
  have hb3 := hb2.trans hc3
  have hp3 := hp2.below hc3 hbN
  have HW3 := Lib.hid hw3
  clear e0 e1 e2 e3 e4 e5 e6 e7 hw3 hc3 hb2 hp2 HW2
  obtain ⟨e0, e1, e2, e3, e4, e5, e6, e7⟩ := hp3.cells
  go_wp2_with fail
  refine (put_calls b b _ kids.length 1 (by decide) (by omega) (by simp only [List.length_append, List.length_nil, le_length]; omega) w3 HW3.out (by have := hb3.size; omega)).mono ?_
  rintro e w4 ⟨rfl, hw4, hc4, _⟩
  have hb4 := hb3.trans hc4
  have hp4 := hp3.below hc4 hbN
  have HW4 := Lib.hid hw4
  clear e0 e1 e2 e3 e4 e5 e6 e7 hw4 hc4 hb3 hp3 HW3
  obtain ⟨e0, e1, e2, e3, e4, e5, e6, e7⟩ := hp4.cells
  go_wp2_with fail
  refine (put_calls b b _ lv 1 (by decide) (by omega) (by simp only [List.length_append, List.length_nil, le_length]; omega) w4 HW4.out (by have := hb4.size; omega)).mono ?_
  rintro e w5 ⟨rfl, hw5, hc5, _⟩
  have hb5 := hb4.trans hc5
  have hp5 := hp4.below hc5 hbN
  have HW5 := Lib.hid hw5
  clear e0 e1 e2 e3 e4 e5 e6 e7 hw5 hc5 hb4 hp4 HW4
  obtain ⟨e0, e1, e2, e3, e4, e5, e6, e7⟩ := hp5.cells
  go_wp2_with fail
  refine (put_calls b b _ x 4 (by decide) (by omega) (by simp only [List.length_append, List.length_nil, le_length]; omega) w5 HW5.out (by have := hb5.size; omega)).mono ?_
  rintro e w6 ⟨rfl, hw6, hc6, _⟩
  have hb6 := hb5.trans hc6
  have hp6 := hp5.below hc6 hbN
  have HW6 := Lib.hid hw6
  clear e0 e1 e2 e3 e4 e5 e6 e7 hw6 hc6 hb5 hp5 HW5
  obtain ⟨e0, e1, e2, e3, e4, e5, e6, e7⟩ := hp6.cells
  go_wp2_with fail
  refine (put_calls b b _ y 4 (by decide) (by omega) (by simp only [List.length_append, List.length_nil, le_length]; omega) w6 HW6.out (by have := hb6.size; omega)).mono ?_
  rintro e w7 ⟨rfl, hw7, hc7, _⟩
  have hb7 := hb6.trans hc7
  have hp7 := hp6.below hc7 hbN
  have HW7 := Lib.hid hw7
  clear e0 e1 e2 e3 e4 e5 e6 e7 hw7 hc7 hb6 hp6 HW6
  obtain ⟨e0, e1, e2, e3, e4, e5, e6, e7⟩ := hp7.cells
  have HL := Lib.hid hL
  clear hL
  go_wp2
  go_loopw [49] (fun v wr => ∃ i : Nat, v = .int .i64 i ∧ i ≤ kids.length ∧ Wr b b ([] ++ le 2 1 ++ le kids.length 1 ++ le lv 1 ++ le x 4 ++ le y 4 ++ ((kids.take i).map kidB).flatten) wr ∧ Below b w1 wr) (fun v _ => kids.length - (intOf v).toNat)
  case atStart => exact ⟨0, rfl, Nat.zero_le _, by simpa using HW7.out, hb7⟩
  case round =>
    obtain ⟨i, rfl, hi, hw, hbr⟩ := hrel
    clear e0 e1 e2 e3 e4 e5 e6 e7 hp7 hb7 HW7
    by_cases hie : i = kids.length
    · subst hie
      rw [List.take_length, ← HL.out] at hw
      have hne : L ≠ [] := by
        rw [HL.out]
        simp [le]
      have HW := Lib.hid hw
      clear hw
      go_wp2_with fail
      refine (Bld.StringW b b L _ HW.out hne).mono ?_
      rintro e w8 ⟨rfl, hb8⟩
      go_wp2
      go_ret2
      exact ⟨rfl, by rw [hN]; exact hB1.trans ((hbr.trans hb8).mono (by omega))⟩
    · have hlt : decide ((i : Int) < (kids.length : Int)) = true := decide_eq_true (by omega)
      have hi0 : (0 : Int) ≤ (i : Int) := by omega
      have hi1 : (i : Int) < (kids.length : Int) := by omega
      obtain ⟨ad, rfl, hc0, hc1⟩ := at_T28 (Kd.C_below Hr5.out (by rw [hN]; exact hB1.trans (hbr.mono (by omega)))) (i : Int) hi0 (by simpa using hi1)
      rw [Int.toNat_natCast, rd_ref kids i (by omega)] at hc0
      rw [Int.toNat_natCast, rd_ref kids i (by omega)] at hc1
      have hkm : kids[i] ∈ kids := List.getElem_mem _
      have hsz := hks _ hkm
      have hin := hki _ hkm
      have hfl := flat_snoc kidB kids i (by omega)
      have hln := flat_le kidB 36 (kids.take i) (fun r hr => by rw [kidB, refB_length _ _ (by rw [hks r (List.mem_of_mem_take hr)]; decide)]; exact Nat.le_refl _)
      rw [List.length_take] at hln
      rw [kidB] at hfl
      generalize kids[i]'(by omega) = r at *
      obtain ⟨p, t⟩ := r
      obtain ⟨p, rfl⟩ : ∃ q : Nat, p = q := ⟨p.toNat, by have := hin.1; simp only at this; omega⟩
      simp only [Int.toNat_natCast] at hfl
      have hin2 : p < 4294967296 := by have := hin.2; simp only at this; omega
      have hsz2 : t.size ≤ 32 := by simp only at hsz; omega
      have Hfl := Lib.hid hfl
      have HW := Lib.hid (hw.below ((Below.refl _ wr).alloc (Nat.le_refl _) (.cells #[.int .u32 p, .string t] 28)))
      have hba : Below b w1 (wr.alloc (.cells #[.int .u32 p, .string t] 28)) := hbr.alloc (by have := hbr.size; omega) _
      clear hw hfl hin hsz hkm
      go_wp2_with fail
      generalize wr.alloc (.cells #[.int .u32 p, .string t] 28) = wa at *
      refine (ref_calls b b _ p t hin2 hsz2 (by simp only [List.length_append, List.length_nil, le_length]; omega) wa HW.out (by have := hba.size; omega)).mono ?_
      rintro e w9 ⟨rfl, hw9, hb9, _⟩
      rw [List.append_assoc _ _ (refB p t), ← Hfl.out] at hw9
      have HW9 := Lib.hid hw9
      clear hw9
      go_wp2
      exact ⟨⟨i + 1, by go_num, by omega, HW9.out, hba.trans hb9⟩, by simp [intOf]; omega⟩

theorem row_cells {w : World} {M : Nat} {p x y : Int} {t : ByteArray} (h : w.heap[M]? = some (.cells #[.int .u64 p, .int .u32 x, .int .u32 y, .string t] 47 (0, 0))) :
    w.cell? ⟨M, 0, none⟩ = some (.int .u64 p) ∧ w.cell? ⟨M, 1, none⟩ = some (.int .u32 x) ∧ w.cell? ⟨M, 2, none⟩ = some (.int .u32 y) ∧ w.cell? ⟨M, 3, none⟩ = some (.string t) := by
  refine ⟨?_, ?_, ?_, ?_⟩ <;> simp [World.cell?, h]

set_option maxHeartbeats 4000000 in
theorem Encode_leaf (np : Nat) (A4 : Option Addr) (c4 : Nat) (rows : List Row) (A5 : Option Addr) (c5 : Nat) (kids : List Ref) (nt : ByteArray) (w : World)
    (hr4 : Kd.C k47 w A4 rows.length rows) (hc4 : rows.length ≤ c4) (hr5 : Kd.C k28 w A5 kids.length kids) (hc5 : kids.length ≤ c5) (hnp : np < 4294967296) (hnt : nt.size ≤ 32) (hrn : rows.length ≤ 4) (hrs : ∀ r ∈ rows, rowB r = true) (hri : ∀ r ∈ rows, rowIn r) (L : List UInt8) (hL : L = [] ++ le 1 1 ++ le rows.length 1 ++ refB np nt ++ (rows.map rowBytes).flatten) (hR : rows_Right.f 6 1 0 0 0 rows kids np nt = some true) :
    Calls Try.prog 16 #[.agg #[.int .i64 1, .int .u32 0, .int .u32 0, .int .i64 0, .slice A4 rows.length c4, .slice A5 kids.length c5, .int .u32 np, .string nt]] w fun e w' => e = .returned (.tuple #[.string ⟨L.toArray⟩, .int .i64 0]) ∧ Below w.heap.size w w' := by
  obtain ⟨N, hN⟩ : ∃ N, w.heap.size = N := ⟨_, rfl⟩
  have hb0 : Below N w (w.alloc (.cells #[.int .i64 1, .int .u32 0, .int .u32 0, .int .i64 0, .slice A4 rows.length c4, .slice A5 kids.length c5, .int .u32 np, .string nt] 30)) := (Below.refl N w).alloc (by omega) _
  have hs0 : (w.alloc (.cells #[.int .i64 1, .int .u32 0, .int .u32 0, .int .i64 0, .slice A4 rows.length c4, .slice A5 kids.length c5, .int .u32 np, .string nt] 30)).heap.size = N + 1 := by rw [World.size_alloc, hN]
  have hp0 : PBox (w.alloc (.cells #[.int .i64 1, .int .u32 0, .int .u32 0, .int .i64 0, .slice A4 rows.length c4, .slice A5 kids.length c5, .int .u32 np, .string nt] 30)) N 1 0 0 0 (.slice A4 rows.length c4) (.slice A5 kids.length c5) np nt := by rw [← hN]; exact World.alloc_heap_new _ _
  have hC4 := Kd.C_below hr4 (by rw [hN]; exact hb0)
  have hC5 := Kd.C_below hr5 (by rw [hN]; exact hb0)
  obtain ⟨c0_, c1_, c2_, c3_, c4_, c5_, c6_, c7_⟩ := hp0.cells
  have HC4 := Lib.hid hC4
  have HC5 := Lib.hid hC5
  have Hr4 := Lib.hid hr4
  have Hr5 := Lib.hid hr5
  clear hC4 hC5 hr4 hr5
  go_enter Try.func16, Try.ntmps16
  go_wp2_with fail
  generalize w.alloc (.cells #[.int .i64 1, .int .u32 0, .int .u32 0, .int .i64 0, .slice A4 rows.length c4, .slice A5 kids.length c5, .int .u32 np, .string nt] 30) = W0 at *
  refine (rows_Right.calls 6 1 0 0 0 A4 c4 rows A5 c5 kids np nt true W0 HC4.out hc4 HC5.out hc5 hR).mono ?_
  rintro e w1 ⟨rfl, hb1⟩
  rw [hs0] at hb1
  have hp1 := hp0.below hb1 (Nat.lt_succ_self N)
  have hB1 : Below N w w1 := hb0.trans (hb1.mono (by omega))
  have hS1 := (Array.getElem?_eq_some_iff.1 hp1).1
  clear c0_ c1_ c2_ c3_ c4_ c5_ c6_ c7_ hp0 hb0 hb1 HC4 HC5
  obtain ⟨d0, d1, d2, d3, d4, d5, d6, d7⟩ := hp1.cells
  obtain ⟨b, hb⟩ : ∃ b, w1.heap.size = b := ⟨_, rfl⟩
  have hbN : N < b := by omega
  have hw2 : Wr b b [] (w1.alloc (.cells #[.pointer none, .slice none 0 0] 55)) := by
    have h := Lib.fresh_isBuilder 55 5 w1
    rw [hb] at h
    exact h
  have hb2 : Below b w1 (w1.alloc (.cells #[.pointer none, .slice none 0 0] 55)) := (Below.refl b w1).alloc (by omega) _
  have hp2 := hp1.below hb2 hbN
  have hs2 : b ≤ (w1.alloc (.cells #[.pointer none, .slice none 0 0] 55)).heap.size := by rw [World.size_alloc]; omega
  have HW2 := Lib.hid hw2
  obtain ⟨e0, e1, e2, e3, e4, e5, e6, e7⟩ := hp2.cells
  clear hw2 hp1 hS1
  go_wp2_with fail
  generalize w1.alloc (.cells #[.pointer none, .slice none 0 0] 55) = w2 at *
  clear d0 d1 d2 d3 d4 d5 d6 d7
  refine (put_calls b b _ 1 1 (by decide) (by decide) (by simp only [List.length_append, List.length_nil, le_length]; omega) w2 HW2.out (by have := hb2.size; omega)).mono ?_
  rintro e w3 ⟨rfl, hw3, hc3, _⟩
  have hb3 := hb2.trans hc3
  have hp3 := hp2.below hc3 hbN
  have HW3 := Lib.hid hw3
  clear e0 e1 e2 e3 e4 e5 e6 e7 hw3 hc3 hb2 hp2 HW2
  obtain ⟨e0, e1, e2, e3, e4, e5, e6, e7⟩ := hp3.cells
  go_wp2_with fail
  refine (put_calls b b _ rows.length 1 (by decide) (by omega) (by simp only [List.length_append, List.length_nil, le_length]; omega) w3 HW3.out (by have := hb3.size; omega)).mono ?_
  rintro e w4 ⟨rfl, hw4, hc4, _⟩
  have hb4 := hb3.trans hc4
  have hp4 := hp3.below hc4 hbN
  have HW4 := Lib.hid hw4
  clear e0 e1 e2 e3 e4 e5 e6 e7 hw4 hc4 hb3 hp3 HW3
  obtain ⟨e0, e1, e2, e3, e4, e5, e6, e7⟩ := hp4.cells
  go_wp2_with fail
  refine (ref_calls b b _ np nt hnp hnt (by simp only [List.length_append, List.length_nil, le_length]; omega) w4 HW4.out (by have := hb4.size; omega)).mono ?_
  rintro e w5 ⟨rfl, hw5, hc5, _⟩
  have hb5 := hb4.trans hc5
  have hp5 := hp4.below hc5 hbN
  have HW5 := Lib.hid hw5
  clear e0 e1 e2 e3 e4 e5 e6 e7 hw5 hc5 hb4 hp4 HW4
  obtain ⟨e0, e1, e2, e3, e4, e5, e6, e7⟩ := hp5.cells
  have HL := Lib.hid hL
  clear hL
  go_wp2
  go_loopw [70] (fun v wr => ∃ i : Nat, v = .int .i64 i ∧ i ≤ rows.length ∧ Wr b b ([] ++ le 1 1 ++ le rows.length 1 ++ refB np nt ++ ((rows.take i).map rowBytes).flatten) wr ∧ Below b w1 wr) (fun v _ => rows.length - (intOf v).toNat)
  case atStart => exact ⟨0, rfl, Nat.zero_le _, by simpa using HW5.out, hb5⟩
  case round =>
    obtain ⟨i, rfl, hi, hw, hbr⟩ := hrel
    clear e0 e1 e2 e3 e4 e5 e6 e7 hp5 hb5 HW5
    by_cases hie : i = rows.length
    · subst hie
      rw [List.take_length, ← HL.out] at hw
      have hne : L ≠ [] := by
        rw [HL.out]
        simp [le]
      have HW := Lib.hid hw
      clear hw
      go_wp2_with fail
      refine (Bld.StringW b b L _ HW.out hne).mono ?_
      rintro e w8 ⟨rfl, hb8⟩
      go_wp2
      go_ret2
      exact ⟨rfl, by rw [hN]; exact hB1.trans ((hbr.trans hb8).mono (by omega))⟩
    · have hlt : decide ((i : Int) < (rows.length : Int)) = true := decide_eq_true (by omega)
      have hi0 : (0 : Int) ≤ (i : Int) := by omega
      have hi1 : (i : Int) < (rows.length : Int) := by omega
      obtain ⟨ad, rfl, hc0, hc1, hc2, hc3⟩ := at_T47 (Kd.C_below Hr4.out (by rw [hN]; exact hB1.trans (hbr.mono (by omega)))) (i : Int) hi0 (by simpa using hi1)
      rw [Int.toNat_natCast, rd_row rows i (by omega)] at hc0
      rw [Int.toNat_natCast, rd_row rows i (by omega)] at hc1
      rw [Int.toNat_natCast, rd_row rows i (by omega)] at hc2
      rw [Int.toNat_natCast, rd_row rows i (by omega)] at hc3
      have hkm : rows[i] ∈ rows := List.getElem_mem _
      have hsz := hrs _ hkm
      have hin := hri _ hkm
      have hfl := flat_snoc rowBytes rows i (by omega)
      have hln := flat_le rowBytes 33 (rows.take i) (fun r hr => rowBytes_le (hrs r (List.mem_of_mem_take hr)))
      rw [List.length_take] at hln
      rw [rowBytes] at hfl
      generalize rows[i]'(by omega) = r at *
      obtain ⟨p, x, y, t⟩ := r
      obtain ⟨hi1_, hi2_, hi3_, hi4_, hi5_, hi6_⟩ := hin
      simp only at hi1_ hi2_ hi3_ hi4_ hi5_ hi6_
      obtain ⟨p, rfl⟩ : ∃ q : Nat, p = q := ⟨p.toNat, by omega⟩
      obtain ⟨x, rfl⟩ : ∃ q : Nat, x = q := ⟨x.toNat, by omega⟩
      obtain ⟨y, rfl⟩ : ∃ q : Nat, y = q := ⟨y.toNat, by omega⟩
      simp only [Int.toNat_natCast] at hfl
      have hpp : p < 18446744073709551616 := by omega
      have hxx : x < 4294967296 := by omega
      have hyy : y < 4294967296 := by omega
      have ht16 : t.size ≤ 16 := by
        rw [rowB, Bool.and_eq_true, decide_eq_true_eq, decide_eq_true_eq] at hsz
        have := hsz.2
        simp only at this
        omega
      have Hfl := Lib.hid hfl
      have hs6 := hbr.size
      obtain ⟨M, hM⟩ : ∃ M, wr.heap.size = M := ⟨_, rfl⟩
      have HW6 := Lib.hid (hw.below ((Below.refl _ wr).alloc (Nat.le_refl _) (.cells #[.int .u64 p, .int .u32 x, .int .u32 y, .string t] 47)))
      have hb6 : Below b w1 (wr.alloc (.cells #[.int .u64 p, .int .u32 x, .int .u32 y, .string t] 47)) := hbr.alloc (by omega) _
      have hbM : b < M := by rw [← hM]; exact hw.lt
      have hx6_ : (wr.alloc (.cells #[.int .u64 p, .int .u32 x, .int .u32 y, .string t] 47)).heap[M]? = some (.cells #[.int .u64 p, .int .u32 x, .int .u32 y, .string t] 47 (0, 0)) := by rw [← hM]; exact World.alloc_heap_new _ _
      clear hw hfl hsz hkm hi1_ hi2_ hi3_ hi4_ hi5_ hi6_ hbr
      obtain ⟨f0_, f1_, f2_, f3_⟩ := row_cells hx6_
      have hx6 := hx6_
      clear hx6_
      go_upto_region 22 with fail
      generalize wr.alloc (.cells #[.int .u64 p, .int .u32 x, .int .u32 y, .string t] 47) = w6 at *
      go_wp2_with fail
      refine (put_calls b b _ p 8 (by decide) hpp (by simp only [List.length_append, List.length_nil, le_length, refB_length _ _ hnt]; omega) w6 HW6.out (by have := hb6.size; omega)).mono ?_
      rintro e w7 ⟨rfl, hw7, hc7, hk7⟩
      have hb7 := hb6.trans hc7
      have hx7 := hk7.block hx6 (by omega) (by decide)
      have HW7 := Lib.hid hw7
      clear f0_ f1_ f2_ f3_ hw7 hc7 hk7 hb6 hx6 HW6
      obtain ⟨f0_, f1_, f2_, f3_⟩ := row_cells hx7
      go_wp2_with fail
      refine (put_calls b b _ x 4 (by decide) (by omega) (by simp only [List.length_append, List.length_nil, le_length, refB_length _ _ hnt]; omega) w7 HW7.out (by have := hb7.size; omega)).mono ?_
      rintro e w8 ⟨rfl, hw8, hc8, hk8⟩
      have hb8 := hb7.trans hc8
      have hx8 := hk8.block hx7 (by omega) (by decide)
      have HW8 := Lib.hid hw8
      clear f0_ f1_ f2_ f3_ hw8 hc8 hk8 hb7 hx7 HW7
      obtain ⟨f0_, f1_, f2_, f3_⟩ := row_cells hx8
      go_wp2_with fail
      refine (put_calls b b _ y 4 (by decide) (by omega) (by simp only [List.length_append, List.length_nil, le_length, refB_length _ _ hnt]; omega) w8 HW8.out (by have := hb8.size; omega)).mono ?_
      rintro e w9 ⟨rfl, hw9, hc9, hk9⟩
      have hb9 := hb8.trans hc9
      have hx9 := hk9.block hx8 (by omega) (by decide)
      have HW9 := Lib.hid hw9
      clear f0_ f1_ f2_ f3_ hw9 hc9 hk9 hb8 hx8 HW8
      obtain ⟨f0_, f1_, f2_, f3_⟩ := row_cells hx9
      go_wp2_with fail
      refine (put_calls b b _ t.size 1 (by decide) (by omega) (by simp only [List.length_append, List.length_nil, le_length, refB_length _ _ hnt]; omega) w9 HW9.out (by have := hb9.size; omega)).mono ?_
      rintro e w10 ⟨rfl, hw10, hc10, hk10⟩
      have hb10 := hb9.trans hc10
      have hx10 := hk10.block hx9 (by omega) (by decide)
      have HW10 := Lib.hid hw10
      clear f0_ f1_ f2_ f3_ hw10 hc10 hk10 hb9 hx9 HW9
      obtain ⟨f0_, f1_, f2_, f3_⟩ := row_cells hx10
      go_wp2_with fail
      refine (Bld.WriteStringK b b _ t w10 HW10.out (by simp only [Lib.byteCells_length, List.length_append, List.length_nil, le_length, refB_length _ _ hnt]; omega) (by have := hb10.size; omega)).mono ?_
      rintro e w11 ⟨rfl, hw11, hc11, _⟩
      have hb11 := hb10.trans hc11
      have hq : Wr b b ([] ++ le 1 1 ++ le rows.length 1 ++ refB np nt ++ ((rows.take (i + 1)).map rowBytes).flatten) w11 := by
        refine .inr ?_
        rw [strCells_eq, ← Lib.byteCells_append] at hw11
        rw [Hfl.out]
        simp only [List.append_assoc] at hw11 ⊢
        exact hw11
      have HQ := Lib.hid hq
      clear hq hw11 hc11 hb10 hx10 HW10 f0_ f1_ f2_ f3_
      go_wp2
      exact ⟨⟨i + 1, by go_num, by omega, HQ.out, hb11⟩, by simp [intOf]; omega⟩

theorem le_nat (x : Int) (n : Nat) (h : x = (n : Int)) (k : Nat) : le x.toNat k = le n k := by rw [h, Int.toNat_natCast]
theorem rows_Encode.calls (a0_0 : Int) (a0_1 : Int) (a0_2 : Int) (a0_3 : Int) (A0_4 : Option Addr) (c0_4 : Nat) (l0_4 : List (S47)) (A0_5 : Option Addr) (c0_5 : Nat) (l0_5 : List (S28)) (a0_6 : Int) (a0_7 : ByteArray) (r1 : ByteArray) (r2 : Int) (w : World) (hr0_4 : Kd.C k47 w A0_4 l0_4.length l0_4) (hc0_4 : l0_4.length ≤ c0_4) (hr0_5 : Kd.C k28 w A0_5 l0_5.length l0_5) (hc0_5 : l0_5.length ≤ c0_5) (h : rows_Encode.f a0_0 a0_1 a0_2 a0_3 l0_4 l0_5 a0_6 a0_7 = some (r1, r2)) :
    Calls Try.prog 16 #[.agg #[.int .i64 a0_0, .int .u32 a0_1, .int .u32 a0_2, .int .i64 a0_3, .slice A0_4 l0_4.length c0_4, .slice A0_5 l0_5.length c0_5, .int .u32 a0_6, .string a0_7]] w fun e w' => e = .returned (.tuple #[.string r1, .int .i64 r2]) ∧ Below w.heap.size w w' := by
  unfold rows_Encode.f at h
  split at h
  · rename_i hp
    have h := Option.some.inj h
    obtain ⟨⟨x1, x2⟩, ⟨y1, y2⟩, ⟨n1, n2⟩, hlv, hkl, hri, hki⟩ := hp
    simp only at x1 x2 y1 y2 n1 n2 hlv hkl hri hki
    have hR := Right_f ⟨a0_0, a0_1, a0_2, a0_3, l0_4, l0_5, a0_6, a0_7⟩ 6 (by decide) hkl
    simp only at hR
    unfold encP at h
    by_cases hr : rightP ⟨a0_0, a0_1, a0_2, a0_3, l0_4, l0_5, a0_6, a0_7⟩ = true
    · rw [if_pos hr] at h
      obtain ⟨rfl, rfl⟩ := Prod.mk.inj h
      rw [hr] at hR
      rcases right_kind hr with hk | hk
      · obtain ⟨q1, q2, q3, q4, q5, q6, q7⟩ := right1 hk hr
        simp only at hk q1 q2 q3 q4 q5 q6 q7
        subst hk q5 q6 q7
        obtain ⟨np, rfl⟩ : ∃ q : Nat, a0_6 = q := ⟨a0_6.toNat, by omega⟩
        have hrs := (Bool.and_eq_true _ _ ▸ q2 : rises none l0_4 = true ∧ _).1
        refine Encode_leaf np A0_4 c0_4 l0_4 A0_5 c0_5 l0_5 a0_7 w hr0_4 hc0_4 hr0_5 hc0_5 (by omega) (next_size q3) q1 (rises_all _ _ hrs) hri _ ?_ hR
        simp [encL, List.append_assoc]
      · obtain ⟨q1, q2, q3, q4, q5, q6, q7⟩ := right2 hk hr
        simp only at hk q1 q2 q3 q4 q5 q6 q7
        subst hk
        obtain ⟨x, rfl⟩ : ∃ q : Nat, a0_1 = q := ⟨a0_1.toNat, by omega⟩
        obtain ⟨y, rfl⟩ : ∃ q : Nat, a0_2 = q := ⟨a0_2.toNat, by omega⟩
        obtain ⟨lv, rfl⟩ : ∃ q : Nat, a0_3 = q := ⟨a0_3.toNat, by omega⟩
        obtain rfl := (none_size q3).1
        refine Encode_inner x y lv A0_4 c0_4 l0_4 A0_5 c0_5 l0_5 a0_7 w hr0_4 hc0_4 hr0_5 hc0_5 (by omega) (by omega) (by omega) q5 (fun r hr => (kid_size q1 r hr).2) hki _ ?_ hR
        simp [encL, List.append_assoc]
    · rw [if_neg hr] at h
      obtain ⟨rfl, rfl⟩ := Prod.mk.inj h
      rw [Bool.eq_false_iff.2 hr] at hR
      exact Encode_bad a0_0 a0_1 a0_2 a0_3 A0_4 c0_4 l0_4 A0_5 c0_5 l0_5 a0_6 a0_7 w hr0_4 hc0_4 hr0_5 hc0_5 hR
  · cases h

end Go.Proofs.Ytmeaiancebgkoaa.H
