/- (*sha.Summer).Sum: the walk. -/
import Derived.Test.YtobjhddiieaafaaDoorM5
import Derived.Deep.WholeRow
namespace Go.Proofs.YtobjhddiieaafaaDoor.M
open Go.Proofs.YtobjhddiieaafaaDoor.H
open Go.RowKit Go.Shelf Go.Proofs.YtobjhddiieaafaaDoorW.PrintWords Go.Proofs.YtobjhddiieaafaaDoorW.PrintLast Go.Proofs.YtobjhddiieaafaaDoorW.PrintMore Go.Proofs.YtobjhddiieaafaaDoor.Plain Go.Proofs.YtobjhddiieaafaaDoor.RowOf Go.Proofs.YtobjhddiieaafaaDoor.Le
attribute [local go_sem] Oper.semAt_some
set_option linter.unusedVariables false
set_option linter.unusedSimpArgs false

/-- The first bytes of a number, the greatest first. -/
def szs (b : Int) : Nat → List Int
  | 0 => []
  | j + 1 => szs b j ++ [b / 2 ^ (56 - 8 * j) % 256]
theorem szs_len (b : Int) (j : Nat) : (szs b j).length = j := by
  induction j with
  | zero => rfl
  | succ j ih => rw [szs, List.length_append, ih]; rfl
theorem reads1 (W : World) (a : Int) : ReadsRow (fun (x : Int) cs => cs = [.int .u8 x]) 1 (W.alloc (.cells #[.int .u8 a] 5 (0, 0))) (some ⟨W.heap.size, 0, none⟩) 1 [a] := by
  refine ⟨rfl, by decide, fun _ => ⟨_, rfl, fun j p hj => ⟨[.int .u8 p], rfl, rfl, fun i u hi => ?_⟩⟩⟩
  have h := World.alloc_heap_new W (.cells #[.int .u8 a] 5 (0, 0))
  obtain ⟨rfl, rfl⟩ : i = 0 ∧ u = .int .u8 p := by
    cases i with
    | zero => exact ⟨rfl, (Option.some.inj hi).symm⟩
    | succ i => cases hi
  have hc : ∀ i, (W.alloc (.cells #[.int .u8 a] 5 (0, 0))).cell? ⟨W.heap.size, i, none⟩ = (#[Value.int .u8 a] : Array Value)[i]? := fun i => by
    unfold World.cell?
    rw [h]
    rfl
  match j, hj with
  | 0, hj => obtain rfl := Option.some.inj hj; exact hc 0

theorem repeat_one (c : Nat) : Lib.repeatL (⟨#[0]⟩ : ByteArray).data.toList c = List.replicate c 0 := by
  induction c with
  | zero => rfl
  | succ c ih => rw [Lib.repeatL, ih]; rfl
theorem out_eq (H : List Int) (h : H.length = 8) : strOfNums (outP H 8) = ⟨(outs H).toArray⟩ := by
  match H, h with
  | [a, b, c, d, e, f, g, i], _ => rfl
def zSum : Obj := .cells #[.int .u32 0, .int .u32 0, .int .u32 0, .int .u32 0, .int .u32 0, .int .u32 0, .int .u32 0, .int .u32 0, .string ⟨#[]⟩, .int .i64 0] 86 (0, 0)
theorem hst10 (W : World) (cs : Array Value) (h10 : cs.size = 10) (hal : cs.all (·.oneCell') = true) :
    (storeCells ⟨W.heap.size, 0, none⟩ cs.toList).run Tryd.prog (W.alloc zSum) = .ok () (W.alloc (.cells cs 86 (0, 0))) := by
  rw [storeCells_run (World.alloc_heap_new W zSum) (by rw [h10]; rfl) hal]
  unfold zSum
  rw [World.setRow_alloc_new]

theorem szs_fill (n : Nat) : (⟨#[128]⟩ : ByteArray).data.toList ++ List.replicate ((119 - n % 64) % 64) 0 ++ (szs ((n : Int) * 8) 8).map (fun x => UInt8.ofNat x.toNat) = fill n := by
  have e : (szs ((n : Int) * 8) 8).map (fun x => UInt8.ofNat x.toNat) = size8 n := by
    have h : ∀ k : Nat, (fun x : Int => UInt8.ofNat x.toNat) ((n : Int) * 8 / 2 ^ k % 256) = UInt8.ofNat (n * 8 / 2 ^ k % 256) := by
      intro k
      show UInt8.ofNat ((n : Int) * 8 / 2 ^ k % 256).toNat = _
      congr 1
    unfold size8
    simp only [szs, List.map_append, List.map_cons, List.map_nil, List.nil_append, h]
    rfl
  rw [e]
  rfl

set_option maxRecDepth 100000 in
set_option maxHeartbeats 2000000 in
theorem Sum_calls (g : Nat) (K_ F : List Int) (t : List UInt8) (m : Nat) (hF : F.length = 8) (hK_ : K_.length = 64) (hm : m = t.length) (hm2 : m ≤ 1099511627776) (w : World) (hS : Sm w g K_ F t (m : Int)) (hG : Glob w 2 K_) :
    Calls Tryd.prog 47 #[.pointer (some ⟨g, 0, none⟩)] w fun e w' => e = .returned (.string ⟨(sum K_ F t).toArray⟩) ∧ Below w.heap.size w w' := by
  obtain ⟨r, h1, h2⟩ := hS
  have hl := absorb_len K_ t.length F t (Nat.le_refl _) hF
  have c9 := h2.cell9 hl
  obtain ⟨cs, hcs⟩ : ∃ cs, ((absorb K_ F t).1.map (Value.int .u32) ++ sumR r (m : Int)).toArray = cs := ⟨_, rfl⟩
  have hE : w.heap[g]? = some (.cells cs 86 (0, 0)) := by rw [← hcs]; exact h2
  have hsz : cs.size = 10 := by rw [← hcs]; simp [sumR, hl]
  have hal : cs.all (·.oneCell') = true := by rw [← hcs]; simp [sumR, Value.oneCell']
  have hst := hst10 w cs hsz hal
  unfold zSum at hst
  have Hcs := Lib.hid hcs
  have Hsz := Lib.hid hsz
  clear hcs hal
  obtain ⟨N, hN⟩ : ∃ N, w.heap.size = N := ⟨_, rfl⟩
  rw [hN] at hst
  have hw1 : IntKind.u64.wrap (m : Int) = (m : Int) := by show (m : Int) % 18446744073709551616 = m; omega
  have hw2 : IntKind.u64.wrap ((m : Int) * 8) = (m : Int) * 8 := by show (m : Int) * 8 % 18446744073709551616 = (m : Int) * 8; omega
  have hw3 : IntKind.i64.wrap (119 - (m : Int) % 64) = 119 - (m : Int) % 64 := by rw [i64_w]; unfold wrap64; omega
  have hm0 : (0 : Int) ≤ (m : Int) := by omega
  have hm1 : (0 : Int) ≤ 119 - (m : Int) % 64 := by omega
  have Hm := Lib.hid hm
  clear hm
  go_enter Tryd.func47, Tryd.ntmps47
  go_upto_region 4 with (first | (with_reducible refine wpList_load_row rfl 86 (.tmp 11) rfl g rfl 86 _ (0, 0) _ hE Tryd.underlying86 rfl (by rw [Hsz.out]; kernel_rfl) ?_))
  have hM0 : Summ (w.alloc (.cells cs 86)) N (absorb K_ F t).1 r (m : Int) := by
    have := World.alloc_heap_new w (.cells cs 86 (0, 0))
    rw [hN] at this
    show _ = _
    rw [this, ← Hcs.out]
  have hB0 : Below N w (w.alloc (.cells cs 86)) := by
    rw [← hN]
    exact (Below.refl _ w).alloc (Nat.le_refl _) _
  have hgN : g < N := by rw [← hN]; exact RowX.lt h2
  have hgK : 2 < N := by rw [← hN]; exact hG.lt
  have hG0 := hG.below hB0 hgK
  generalize w.alloc (.cells cs 86) = W0 at *
  clear c9
  have hM9 : Summ W0 g (absorb K_ F t).1 r (m : Int) := RowX.below h2 hB0 hgN
  have c9 := hM9.cell9 hl
  go_wp2
  clear c9 hM9
  obtain ⟨c, hc⟩ : ∃ c : Nat, (119 - (m : Int) % 64) % 64 = (c : Int) := ⟨(119 - m % 64) % 64, by omega⟩
  rw [hc]
  have hcn : c = (119 - m % 64) % 64 := by omega
  have Hc := Lib.hid hcn
  clear hc hcn hw3 hm1
  go_loopw [6, 7] (fun vo vi wr => ∃ j : Nat, vi = .int .i64 (56 - 8 * (j : Int)) ∧ j ≤ 8 ∧ Kd.R (Kd.int .u8) 5 wr N (fun _ => True) vo (szs ((m : Int) * 8) j) ∧ Summ wr N (absorb K_ F t).1 r (m : Int) ∧ Below N w wr) (fun _ vi _ => (intOf vi + 8).toNat)
  case atStart => exact ⟨0, rfl, by omega, Kd.R_nil _ _ _ _ _, hM0, hB0⟩
  case round =>
    clear hM0 hB0 hG0
    obtain ⟨j, rfl, hj, hO, hM, hB⟩ := hrel
    by_cases hj8 : j = 8
    · subst hj8
      have hge : decide ((0 : Int) ≤ 56 - 8 * ((8 : Nat) : Int)) = false := by decide
      go_wp2_with fail
      have hL := szs_len ((m : Int) * 8) 8
      obtain ⟨L, hLe⟩ : ∃ L, szs ((m : Int) * 8) 8 = L := ⟨_, rfl⟩
      rw [hLe] at hO hL
      have HL := Lib.hid hLe
      have hG1 := hG.below hB hgK
      clear hLe hst
      refine start_ (n := 7) (S := fun w' => Kd.R (Kd.int .u8) 5 w' N (fun _ => True) u6 L ∧ Summ w' N (absorb K_ F t).1 r (m : Int)) (ds := [6]) #[false, false, false, false, false, false, false] (by kernel_rfl) rfl rfl ⟨Kd.R_drew hO, RowX.kept hM rfl⟩ (fun hHeld => ?_)
      have hB2 := hB.drew
      have hG2 : Glob wr.drew 2 K_ := hG1.kept rfl
      clear hO hM hB hG1
      generalize wr.drew = V0 at hHeld hB2 hG2 ⊢
      refine pure_ (i := 0) (N := some 37) (v := ?_) (a' := ?_) #[true, false, false, false, false, false, false] rfl rfl (by kernel_rfl) (fun _ _ _ h => h) (Or.inl ⟨by rfl, ?_⟩) ?_ ?_
      rotate_left
      · intro w'
        go_simp
        try (with_reducible rfl)
      rotate_left
      · simp only [Act.put, List.setIfInBounds_toArray, List.set_cons_zero, List.set_cons_succ, i64_w, i32_w]
        rfl
      refine pure_ (i := 3) (N := some 40) (v := ?_) (a' := ?_) #[true, false, false, true, false, false, false] rfl rfl (by kernel_rfl) (fun _ _ _ h => h) (Or.inl ⟨by rfl, ?_⟩) ?_ ?_
      rotate_left
      · intro w'
        go_simp
        try (with_reducible rfl)
      rotate_left
      · simp only [Act.put, List.setIfInBounds_toArray, List.set_cons_zero, List.set_cons_succ, i64_w, i32_w]
        rfl
      refine take_ (i := 4) (N := some 41) (v := ?_) (a' := ?_) #[true, false, false, true, true, false, false] rfl rfl (by kernel_rfl) (fun _ _ _ h => h) (Or.inl ⟨by rfl, ?_⟩) hHeld ?_ ?_
      rotate_left
      · intro w' hS_
        have hcv := own_string (P := Tryd.prog) Tryd.underlying41 Tryd.underlying5 Tryd.underlying9 (Kd.own_of_R hS_.1)
        go_simp
        try (with_reducible rfl)
      rotate_left
      · simp only [Act.put, List.setIfInBounds_toArray, List.set_cons_zero, List.set_cons_succ, i64_w, i32_w]
        rfl
      refine one_ (i := 1) (N := some 38) #[true, true, false, true, true, false, false] rfl rfl (by kernel_rfl) (by decide) (fun K hK => ?_)
      refine goes_ Tryd.func49 (by kernel_rfl) rfl #[.string ⟨#[0]⟩, .int .i64 (c : Int)] (by rfl) rfl rfl (by (try simp only [List.map_toArray, List.map_cons, List.map_nil]); first | done | rfl) ?_
      have hc63 := Hc.out
      refine (Tryd.strings_Repeat ⟨#[0]⟩ c _ (by omega) (by show 1 * c ≤ _; omega)).mono ?_
      rintro e V1 ⟨rfl, hb1⟩
      refine ⟨_, rfl, ?_⟩
      have hV0 := hB2.size
      refine hK.out _ _ ⟨Kd.R_below hHeld.1 hb1, RowX.below hHeld.2 hb1 (RowX.lt hHeld.2)⟩ (fun hHeld => ?_)
      clear hK K
      obtain ⟨Z, hZ⟩ : ∃ Z : ByteArray, (⟨(Lib.repeatL (⟨#[0]⟩ : ByteArray).data.toList c).toArray⟩ : ByteArray) = Z := ⟨_, rfl⟩
      have hZs : Z.size = c := by rw [← hZ, ba_size, ba_mk, Lib.repeatL_length]; simp
      have hZl : Z.data.toList = List.replicate c 0 := by rw [← hZ, ba_mk]; exact repeat_one c
      have hYs : (strOfNums L).size = 8 := by rw [strOfNums_size, hL]
      rw [hZ]
      clear hZ
      have t1 := eq_false (show ¬ (9223372036854775807 < (⟨#[128]⟩ : ByteArray).size + Z.size) by show ¬ (9223372036854775807 < 1 + Z.size); omega)
      have t2 := eq_false (show ¬ (9223372036854775807 < 1 + Z.size) by omega)
      have t3 := eq_false (show ¬ (9223372036854775807 < 1 + Z.size + (strOfNums L).size) by omega)
      have t4 := eq_false (show ¬ (9223372036854775807 < ((⟨#[128]⟩ : ByteArray) ++ Z).size + (strOfNums L).size) by rw [ByteArray.size_append]; show ¬ (9223372036854775807 < 1 + Z.size + (strOfNums L).size); omega)
      obtain ⟨Y, hY⟩ : ∃ Y : ByteArray, strOfNums L = Y := ⟨_, rfl⟩
      rw [hY] at hYs t3 t4 ⊢
      have HY := Lib.hid hY
      have HYs := Lib.hid hYs
      have HZs := Lib.hid hZs
      have HZl := Lib.hid hZl
      clear hY hYs hZs hZl
      refine pure_ (i := 2) (N := some 39) (v := ?_) (a' := ?_) #[true, true, true, true, true, false, false] rfl rfl (by kernel_rfl) (fun _ _ _ h => h) (Or.inl ⟨by rfl, ?_⟩) ?_ ?_
      rotate_left
      · intro w'
        go_simp
        try (with_reducible rfl)
      rotate_left
      · simp only [Act.put, List.setIfInBounds_toArray, List.set_cons_zero, List.set_cons_succ, List.getElem_toArray, List.getElem_cons_succ, List.getElem_cons_zero, i64_w, i32_w]
        rfl
      refine pure_ (i := 5) (N := some 42) (v := ?_) (a' := ?_) #[true, true, true, true, true, true, false] rfl rfl (by kernel_rfl) (fun _ _ _ h => h) (Or.inl ⟨by rfl, ?_⟩) ?_ ?_
      rotate_left
      · intro w'
        go_simp
        try (with_reducible rfl)
      rotate_left
      · simp only [Act.put, List.setIfInBounds_toArray, List.set_cons_zero, List.set_cons_succ, List.getElem_toArray, List.getElem_cons_succ, List.getElem_cons_zero, i64_w, i32_w]
        rfl
      refine last_ (i := 6) (N := some 43) #[true, true, true, true, true, true, true] rfl rfl (by kernel_rfl) (by decide) (fun K hK => ?_)
      refine goes_ Tryd.func46 (by kernel_rfl) rfl #[.pointer (some ⟨N, 0, none⟩), .string ((⟨#[128]⟩ : ByteArray) ++ Z ++ Y)] (by rfl) rfl rfl (by (try simp only [List.map_toArray, List.map_cons, List.map_nil]); first | done | rfl) ?_
      have hG3 : Glob V1 2 K_ := hG2.below hb1 hG2.lt
      have hSm : Sm V1 N K_ F t (m : Int) := ⟨r, h1, hHeld.2⟩
      refine (takes_any N K_ F t ((⟨#[128]⟩ : ByteArray) ++ Z ++ Y) (m : Int) hF hK_ (by have := HYs.out; have := HZs.out; rw [ByteArray.size_append, ByteArray.size_append]; show 1 + Z.size + Y.size ≤ _; omega) V1 hSm hG3).mono ?_
      rintro e V2 ⟨rfl, hS2, hg2⟩
      refine ⟨_, rfl, ?_⟩
      have hB3 : Below N w V2 := (hB2.trans (hb1.mono (by omega))).grown hg2 (by have := hb1.size; omega) (fun k e => by cases e; omega)
      refine hK.out _ _ ?_
      clear hK K
      have hfill : ((⟨#[128]⟩ : ByteArray) ++ Z ++ Y).data.toList = fill t.length := by
        rw [ba_app, ba_app, HZl.out, ← HY.out, ← HL.out, strOfNums_data, Hc.out, Hm.out]
        exact szs_fill t.length
      rw [hfill] at hS2
      clear hHeld hG3 hSm hB2 hb1 hg2 hG2 t1 t2 t3 t4
      refine done_ (by kernel_rfl) ?_
      obtain ⟨r2, hr2, hS3⟩ := hS2
      go_wp2_with (go_at_call 54; refine (bytes_calls N 86 _ _ (absorb_len K_ _ F (t ++ fill t.length) (Nat.le_refl _) hF) (by decide) _ hS3).mono ?_; rintro e w' ⟨rfl, hb4⟩)
      go_ret
      refine ⟨?_, ?_⟩
      · show Ending.returned (.string (strOfNums (outP (absorb K_ F (t ++ fill t.length)).1 8))) = _
        rw [out_eq _ (absorb_len K_ _ F (t ++ fill t.length) (Nat.le_refl _) hF)]
        rfl
      · rw [hN]
        exact hB3.trans (hb4.mono (by have := hB3.size; omega))
    · obtain ⟨i, hi⟩ : ∃ i : Nat, (56 - 8 * (j : Int)) = (i : Int) := ⟨56 - 8 * j, by omega⟩
      rw [hi]
      have hi0 : (0 : Int) ≤ (i : Int) := by omega
      have hi56 : (i : Int) ≤ 56 := by omega
      have hge : decide ((0 : Int) ≤ (i : Int)) = true := decide_eq_true hi0
      have hwi : IntKind.i64.wrap ((i : Int) - 8) = (i : Int) - 8 := by rw [i64_w]; unfold wrap64; omega
      have hnat : i = 56 - 8 * j := by omega
      have hlen := szs_len ((m : Int) * 8) j
      have hout : szs ((m : Int) * 8) (j + 1) = szs ((m : Int) * 8) j ++ [(m : Int) * 8 / 2 ^ i % 256] := by rw [szs, hnat]
      generalize szs ((m : Int) * 8) j = L at hO hlen hout
      have hbase := hB.size
      have Hout := Lib.hid hout
      have Hi := Lib.hid hi
      clear hi hnat hout hst
      go_wp2_with ((with_reducible refine gate_builtin (b := .append) (xs := #[.tmp 30, .tmp 35]) rfl ?_); at_builtin; refine Kd.R_append_rows (Kd.int .u8) (Rr := fun x cs => cs = [.int .u8 x]) (w0 := w) N rfl (.tmp 30) (.tmp 35) 41 5 (.int .u8 0) 1 rfl Tryd.underlying41 info5 rfl (by decide) (by decide) u6 L [(m : Int) * 8 / 2 ^ i % 256] (some ⟨wr.heap.size, 0, none⟩) 1 1 (fun _ => True) (fun _ => False) rfl rfl ?p1 ?p2 (fun _ _ h => h) (fun _ h => h.elim) (fun _ _ => trivial) ?p3 ?p4 ?p5 ?_; (case p1 => exact Kd.R_alloc hO _); (case p2 => exact reads1 _ _); (case p3 => exact hB.alloc (by omega) _); (case p4 => (rw [World.size_alloc]; omega)); (case p5 => (rw [hlen]; omega)); intro v3 w3 ho3 hb3 hgr3 hat3)
      have n1 := row_ne (Kd.own_of_R hO) hM (by decide)
      have hM' : Summ w3 N (absorb K_ F t).1 r (m : Int) := RowX.kept (RowX.alloc hM (.cells #[.int .u8 ((m : Int) * 8 / 2 ^ i % 256)] 5)) (hgr3.block N (RowX.alloc hM _).lt n1)
      have := Hi.out
      refine ⟨⟨j + 1, by congr 1; omega, by omega, by rw [Hout.out]; exact ho3, hM', hb3⟩, by simp [intOf]; omega⟩

end Go.Proofs.YtobjhddiieaafaaDoor.M

namespace Go.Proofs.YtobjhddiieaafaaDoor.M
open Go.Proofs.YtobjhddiieaafaaDoor.H
open Go.RowKit Go.Shelf Go.Proofs.YtobjhddiieaafaaDoorW.PrintWords Go.Proofs.YtobjhddiieaafaaDoorW.PrintLast Go.Proofs.YtobjhddiieaafaaDoorW.PrintMore Go.Proofs.YtobjhddiieaafaaDoor.Plain Go.Proofs.YtobjhddiieaafaaDoor.RowOf Go.Proofs.YtobjhddiieaafaaDoor.Le
attribute [local go_sem] Oper.semAt_some
set_option linter.unusedVariables false
set_option linter.unusedSimpArgs false

/-- What sums rest upon: the two tables. -/
structure Tabs (W : World) (K F : List Int) : Prop where
  hK : K.length = 64
  hF : F.length = 8
  cst : Glob W 2 K
  fst : Glob W 1 F
theorem Tabs.below {W W' : World} {K F : List Int} {n : Nat} (h : Tabs W K F) (hb : Below n W W') (h1 : 2 < n) (h2 : 1 < n) : Tabs W' K F := ⟨h.hK, h.hF, h.cst.below hb h1, h.fst.below hb h2⟩
theorem Tabs.grown {W W' : World} {K F : List Int} (h : Tabs W K F) (hb : Below W.heap.size W W') : Tabs W' K F := h.below hb h.cst.lt h.fst.lt

/-- Texts behind each other. -/
def flat (l : List ByteArray) : List UInt8 := (l.map (·.data.toList)).flatten
theorem flat_snoc (l : List ByteArray) (s : ByteArray) : flat (l ++ [s]) = flat l ++ s.data.toList := by simp [flat]
theorem flat_take (l : List ByteArray) (j : Nat) (h : j < l.length) : flat (l.take (j + 1)) = flat (l.take j) ++ (l[j]).data.toList := by
  rw [List.take_succ_eq_append_getElem h, flat_snoc]
theorem flat_le (l : List ByteArray) (j : Nat) : (flat (l.take j)).length ≤ (flat l).length := by
  have h : flat l = flat (l.take j) ++ flat (l.drop j) := by
    unfold flat
    rw [← List.flatten_append, ← List.map_append, List.take_append_drop]
  rw [h, List.length_append]
  omega

theorem new_sm (w : World) (K F : List Int) : Sm (w.alloc (.cells (F.map (Value.int .u32) ++ sumR ⟨#[]⟩ 0).toArray 86)) w.heap.size K F [] ((0 : Nat) : Int) := by
  have e : absorb K F [] = (F, []) := absorb_less _ _ _ (by decide)
  refine ⟨⟨#[]⟩, by rw [e], ?_⟩
  rw [e]
  exact World.alloc_heap_new w _

set_option maxRecDepth 100000 in
set_option maxHeartbeats 2000000 in
theorem Add_calls (b o c : Nat) (l : List ByteArray) (K F : List Int) (hl : (flat l).length ≤ 1099511627776) (hll : l.length ≤ 1099511627776) (w : World) (hb : b < w.heap.size) (hc : ∀ (j : Nat) (x : ByteArray), l[j]? = some x → w.cell? ⟨b, o + j, none⟩ = some (.string x)) (hT : Tabs w K F) :
    Calls Tryd.prog 37 #[.slice (some ⟨b, o, none⟩) l.length c] w fun e w' => e = .returned (.string ⟨(sum K F (flat l)).toArray⟩) ∧ Below w.heap.size w w' := by
  obtain ⟨N, hN⟩ : ∃ N, w.heap.size = N := ⟨_, rfl⟩
  have Hc := Lib.hid hc
  have hn0 := new_sm w K F
  have hB0 : Below N w (w.alloc (.cells (F.map (Value.int .u32) ++ sumR ⟨#[]⟩ 0).toArray 86)) := by
    rw [← hN]
    exact (Below.refl _ w).alloc (Nat.le_refl _) _
  rw [hN] at hn0 hb
  clear hc
  go_enter Tryd.func37, Tryd.ntmps37
  go_wp2_with (go_at_call 45; refine (New_calls F hT.hF _ hT.fst).mono ?_; rintro e w' ⟨rfl, rfl⟩; rw [hN])
  generalize w.alloc (.cells (F.map (Value.int .u32) ++ sumR ⟨#[]⟩ 0).toArray 86) = W0 at *
  go_loopw [9] (fun vi wr => ∃ j : Nat, vi = .int .i64 j ∧ j ≤ l.length ∧ Sm wr N K F (flat (l.take j)) (((flat (l.take j)).length : Nat) : Int) ∧ Below N w wr) (fun vi _ => l.length - (intOf vi).toNat)
  case atStart => exact ⟨0, rfl, Nat.zero_le _, hn0, hB0⟩
  case round =>
    clear hn0 hB0
    obtain ⟨j, rfl, hj, hS, hB⟩ := hrel
    have hsz := hB.size
    have hTr : Tabs wr K F := hT.grown (by rw [hN]; exact hB)
    by_cases hjl : j = l.length
    · subst hjl
      rw [List.take_of_length_le (Nat.le_refl _)] at hS
      go_wp2_with (go_at_call 47; refine (Sum_calls N K F (flat l) _ hT.hF hT.hK rfl (by omega) _ hS hTr.cst).mono ?_; rintro e w' ⟨rfl, hb4⟩)
      go_ret
      refine ⟨rfl, ?_⟩
      rw [hN]
      exact hB.trans (hb4.mono (by omega))
    · have hlt : j < l.length := by omega
      have hltd : decide ((j : Int) < (l.length : Int)) = true := decide_eq_true (by omega)
      have hj0 : (0 : Int) ≤ (j : Int) := by omega
      have hji : (j : Int) < (l.length : Int) := by omega
      have hft := flat_take l j hlt
      have hfl := flat_le l (j + 1)
      rw [hft, List.length_append, ← ba_size] at hfl
      have hcell : wr.cell? ⟨b, o + j, none⟩ = some (.string l[j]) := (hB.cell (p := ⟨b, o + j, none⟩) hb).trans (Hc.out j _ (List.getElem?_eq_getElem hlt))
      obtain ⟨s, hs⟩ : ∃ s, l[j] = s := ⟨_, rfl⟩
      rw [hs] at hft hfl hcell
      obtain ⟨T, hTe⟩ : ∃ T, flat (l.take j) = T := ⟨_, rfl⟩
      rw [hTe] at hft hfl hS
      have Hft := Lib.hid hft
      clear hft hTe hs
      have hw2 : IntKind.i64.wrap ((T.length : Int) + (s.size : Int)) = (T.length : Int) + (s.size : Int) := by rw [i64_w]; unfold wrap64; omega
      go_wp2_with (go_at_call 46; refine (takes_any N K F T s _ hT.hF hT.hK (by omega) _ hS hTr.cst).mono ?_; rintro e w2 ⟨rfl, ⟨r2, hr2, hS2⟩, hg2⟩; have hl2 := absorb_len K (T ++ s.data.toList).length F (T ++ s.data.toList) (Nat.le_refl _) hT.hF; have c9 := hS2.cell9 hl2; have f9 := RowX.frozen hS2 9)
      have hS3 := Summ.set9 hS2 hl2 ((T.length : Int) + (s.size : Int))
      have hB2 : Below N w w2 := hB.grown hg2 (by omega) (fun k e => by cases e; omega)
      have hB3 : Below N w (w2.setCell ⟨N, 9, none⟩ (.int .i64 ((T.length : Int) + (s.size : Int)))) := hB2.setCell (p := ⟨N, 9, none⟩) (Nat.le_refl _) _
      have hle : (((T ++ s.data.toList).length : Nat) : Int) = (T.length : Int) + (s.size : Int) := by rw [List.length_append, ← ba_size]; omega
      refine ⟨⟨j + 1, by go_num, by omega, ?_, hB3⟩, by simp [intOf]; omega⟩
      rw [Hft.out, hle]
      exact ⟨r2, hr2, hS3⟩
set_option maxRecDepth 100000 in
set_option maxHeartbeats 2000000 in
theorem Add_none (A0 : Option Addr) (c : Nat) (K F : List Int) (w : World) (hT : Tabs w K F) :
    Calls Tryd.prog 37 #[.slice A0 0 c] w fun e w' => e = .returned (.string ⟨(sum K F []).toArray⟩) ∧ Below w.heap.size w w' := by
  obtain ⟨N, hN⟩ : ∃ N, w.heap.size = N := ⟨_, rfl⟩
  have hn0 := new_sm w K F
  have hB0 : Below N w (w.alloc (.cells (F.map (Value.int .u32) ++ sumR ⟨#[]⟩ 0).toArray 86)) := by
    rw [← hN]
    exact (Below.refl _ w).alloc (Nat.le_refl _) _
  rw [hN] at hn0
  have hT0 := hT.grown (by rw [hN]; exact hB0)
  go_enter Tryd.func37, Tryd.ntmps37
  go_wp2_with (go_at_call 45; refine (New_calls F hT.hF _ hT.fst).mono ?_; rintro e w' ⟨rfl, rfl⟩; rw [hN])
  generalize w.alloc (.cells (F.map (Value.int .u32) ++ sumR ⟨#[]⟩ 0).toArray 86) = W0 at *
  go_loopw [9] (fun vi wr => vi = .int .i64 0 ∧ wr = W0) (fun vi _ => 0)
  case atStart => exact ⟨rfl, rfl⟩
  case round =>
    obtain ⟨rfl, rfl⟩ := hrel
    go_wp2_with (go_at_call 47; refine (Sum_calls N K F [] 0 hT.hF hT.hK rfl (by omega) _ hn0 hT0.cst).mono ?_; rintro e w' ⟨rfl, hb4⟩)
    go_ret
    refine ⟨rfl, ?_⟩
    rw [hN]
    exact hB0.trans (hb4.mono (by have := hB0.size; omega))
set_option maxRecDepth 100000 in
set_option maxHeartbeats 2000000 in
theorem Sum1_calls (s : ByteArray) (K F : List Int) (hs : s.size ≤ 1099511627776) (w : World) (hT : Tabs w K F) :
    Calls Tryd.prog 48 #[.string s] w fun e w' => e = .returned (.string ⟨(sum K F s.data.toList).toArray⟩) ∧ Below w.heap.size w w' := by
  obtain ⟨N, hN⟩ : ∃ N, w.heap.size = N := ⟨_, rfl⟩
  have hB0 : Below N w (w.alloc (.cells #[.string s] 9)) := by
    rw [← hN]
    exact (Below.refl _ w).alloc (Nat.le_refl _) _
  have hbox := Boxed.new w 9 (.string s)
  rw [hN] at hbox
  have hT0 := hT.grown (by rw [hN]; exact hB0)
  have hf : flat [s] = s.data.toList := by simp [flat]
  go_enter Tryd.func48, Tryd.ntmps48
  go_wp2_with fail
  generalize w.alloc (.cells #[.string s] 9) = W0 at *
  refine (Add_calls N 0 1 [s] K F (by rw [hf, ← ba_size]; exact hs) (by show 1 ≤ _; omega) W0 hbox.lt (fun j x hj => ?_) hT0).mono ?_
  · match j, hj with
    | 0, hj =>
      obtain rfl := Option.some.inj hj
      exact hbox.cell
  rw [hf]
  rintro e w' ⟨rfl, hb4⟩
  go_wp2
  go_ret
  refine ⟨rfl, ?_⟩
  rw [hN]
  exact hB0.trans (hb4.mono (by have := hB0.size; omega))

end Go.Proofs.YtobjhddiieaafaaDoor.M
