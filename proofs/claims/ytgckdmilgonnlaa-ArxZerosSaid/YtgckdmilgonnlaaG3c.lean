/- The program's block: the walk. -/
import Derived.Test.YtgckdmilgonnlaaG3b
import Derived.Deep.WholeRow
namespace Go.Proofs.Ytgckdmilgonnlaa.H
open Go.RowKit Go.Shelf Go.Proofs.YtgckdmilgonnlaaW.PrintWords Go.Proofs.YtgckdmilgonnlaaW.PrintLast Go.Proofs.YtgckdmilgonnlaaW.PrintMore Go.Proofs.Ytgckdmilgonnlaa.Le Go.Proofs.Ytgckdmilgonnlaa.RowOf
attribute [local go_sem] Oper.semAt_some
set_option linter.unusedVariables false
set_option linter.unusedSimpArgs false

theorem rnd_two (xs : List Int) : rnd 1 4 (rnd 0 4 xs) = two xs := rfl
def arx_Block.f (a0 : ByteArray) (a1 : Int) (a2 : ByteArray) : Option (ByteArray × Int) :=
  if a0.size = 32 ∧ a2.size = 12 then (if (allW (tx a0 a1 a2)).length = 16 then some (refBlock (allW (tx a0 a1 a2)), 0) else none) else some (⟨#[]⟩, 2)

theorem begun_cs (a0 : ByteArray) (a1 : Int) (a2 : ByteArray) (w : World) (xs : List Int) (h : Hid (allW (tx a0 a1 a2) = xs)) (cs : Array Value) (hcs : Hid ((xs.map (Value.int .u32)).toArray = cs)) (h16 : cs.size = 16) :
    Calls Try.prog 21 #[.string a0, .int .u32 a1, .string a2] w fun e w' => e = .returned (.agg cs) ∧ Below w.heap.size w w' := by
  have h2 := h.out
  have h3 := hcs.out
  subst h2
  subst h3
  exact begun_calls a0 a1 a2 w (by simpa using h16)

theorem round_c0 (g : Nat) (xs : List Int) (w : World) (hR : Row w g 43 xs) (hl : xs.length = 16) :
    Calls Try.prog 22 #[.pointer (some ⟨g, 0, none⟩), .int .i64 0] w fun e w' => (∃ v, e = .returned v) ∧ Row w' g 43 (rnd 0 4 xs) ∧ w.grownBy w' (some g) := round_calls g 0 xs w hR hl (by decide)
theorem round_c1 (g : Nat) (xs : List Int) (w : World) (hR : Row w g 43 xs) (hl : xs.length = 16) :
    Calls Try.prog 22 #[.pointer (some ⟨g, 0, none⟩), .int .i64 1] w fun e w' => (∃ v, e = .returned v) ∧ Row w' g 43 (rnd 1 4 xs) ∧ w.grownBy w' (some g) := round_calls g 1 xs w hR hl (by decide)

theorem hst16 (W : World) (cs : Array Value) (h16 : cs.size = 16) (hal : cs.all (·.oneCell') = true) :
    (storeCells ⟨W.heap.size, 0, none⟩ cs.toList).run Try.prog (W.alloc z16) = .ok () (W.alloc (.cells cs 43 (0, 0))) := by
  rw [storeCells_run (World.alloc_heap_new W z16) (by rw [h16]; rfl) hal]
  unfold z16
  rw [World.setRow_alloc_new]

theorem idx16 (xs : List Int) (h : xs.length = 16) (cs : Array Value) (hcs : Hid ((xs.map (Value.int .u32)).toArray = cs)) (i : Nat) (hi : i < 16) (W : World) : (Instr.index 43 (.agg cs) (.int .i64 (i : Int))).run Try.prog W = .ok (.int .u32 (wrd xs i)) W := by
  have hcs := hcs.out
  subst hcs
  obtain ⟨x0, x1, x2, x3, x4, x5, x6, x7, x8, x9, x10, x11, x12, x13, x14, x15, rfl⟩ := list16 h
  obtain rfl | rfl | rfl | rfl | rfl | rfl | rfl | rfl | rfl | rfl | rfl | rfl | rfl | rfl | rfl | rfl : i = 0 ∨ i = 1 ∨ i = 2 ∨ i = 3 ∨ i = 4 ∨ i = 5 ∨ i = 6 ∨ i = 7 ∨ i = 8 ∨ i = 9 ∨ i = 10 ∨ i = 11 ∨ i = 12 ∨ i = 13 ∨ i = 14 ∨ i = 15 := by omega
  all_goals rfl

set_option maxRecDepth 100000 in
set_option maxHeartbeats 2000000 in
theorem arx_Block.calls (a0 : ByteArray) (a1 : Int) (a2 : ByteArray) (r1 : ByteArray) (r2 : Int) (w : World) (h : arx_Block.f a0 a1 a2 = some (r1, r2)) :
    Calls Try.prog 13 #[.string a0, .int .u32 a1, .string a2] w fun e w' => e = .returned (.tuple #[.string r1, .int .i64 r2]) ∧ Below w.heap.size w w' := by
  unfold arx_Block.f at h
  by_cases hk : a0.size = 32
  · by_cases hn : a2.size = 12
    · rw [if_pos ⟨hk, hn⟩] at h
      have hl : (allW (tx a0 a1 a2)).length = 16 := by
        by_cases h2 : (allW (tx a0 a1 a2)).length = 16
        · exact h2
        · rw [if_neg h2] at h
          cases h
      rw [if_pos hl] at h
      simp only [Option.some.injEq, Prod.mk.injEq] at h
      obtain ⟨rfl, rfl⟩ := h
      have hk1 : ((a0.size : Int) == 32) = true := by rw [hk]; rfl
      have hn1 : ((a2.size : Int) == 12) = true := by rw [hn]; rfl
      have hk2 : ((a0.size : Int) != 32) = false := by rw [hk]; rfl
      have hn2 : ((a2.size : Int) != 12) = false := by rw [hn]; rfl
      obtain ⟨xs, hxs⟩ : ∃ xs, allW (tx a0 a1 a2) = xs := ⟨_, rfl⟩
      rw [hxs] at hl ⊢
      obtain ⟨cs, hcs⟩ : ∃ cs, (xs.map (Value.int .u32)).toArray = cs := ⟨_, rfl⟩
      have hsz : cs.size = 16 := by rw [← hcs]; simp [hl]
      have hal : cs.all (·.oneCell') = true := by rw [← hcs]; simp [Value.oneCell']
      have Hcs := Lib.hid hcs
      have Hxs := Lib.hid hxs
      have Hsz := Lib.hid hsz
      clear hcs hxs hk hn hsz
      go_enter Try.func13, Try.ntmps13
      go_wp2_with (go_at_call 21; refine (begun_cs _ _ _ _ xs Hxs cs Hcs Hsz.out).mono ?_; rintro e w1 ⟨rfl, hb1⟩; have hst := hst16 w1 cs Hsz.out hal; unfold z16 at hst)
      obtain ⟨g1, hg1⟩ : ∃ g1, w1.heap.size = g1 := ⟨_, rfl⟩
      have e1 : ((w1.alloc (.cells cs 43)).alloc z16).heap[g1]? = some (.cells cs 43 (0, 0)) := by
        rw [Below.heap_alloc _ _ _ (by rw [World.size_alloc]; omega), ← hg1]
        exact World.alloc_heap_new _ _
      have e2 : ((w1.alloc (.cells cs 43)).alloc z16).heap[g1 + 1]? = some z16 := by
        have := World.alloc_heap_new (w1.alloc (.cells cs 43)) z16
        rw [World.size_alloc, hg1] at this
        exact this
      have hB2 : Below w.heap.size w ((w1.alloc (.cells cs 43)).alloc z16) := (hb1.alloc hb1.size _).alloc (by have := hb1.size; rw [World.size_alloc]; omega) _
      have hg0 : w.heap.size ≤ g1 := by have := hb1.size; omega
      rw [hg1]
      change Code.wp _ _ _ _ ((w1.alloc (.cells cs 43)).alloc z16)
      generalize (w1.alloc (.cells cs 43)).alloc z16 = W2 at e1 e2 hB2 ⊢
      clear hst hb1 hg1
      have hsrc : ∀ (j : Nat) (v : Value), (xs.map (Value.int .u32))[j]? = some v → W2.drew.cell? ((⟨g1, 0, none⟩ : Addr).add j) = some v := by
        intro j v hv
        have hadd : (⟨g1, 0, none⟩ : Addr).add j = ⟨g1, j, none⟩ := by unfold Addr.add; split <;> simp_all
        rw [hadd, cell_of_row W2.drew g1 j cs _ _ e1, ← Hcs.out]
        simpa using hv
      have Hsrc := Lib.hid hsrc
      have HE1 := Lib.hid e1
      have HE2 := Lib.hid e2
      have Hl := Lib.hid hl
      clear hsrc e1 e2 hl hal
      go_region_law (refine step_copy_splice rfl (.tmp 25) (.tmp 26) 45 45 rfl 22 Try.underlying45 (by kernel_rfl) (some ⟨g1 + 1, 0, none⟩) (some ⟨g1, 0, none⟩) 16 16 16 16 (by simp [Act.eval, Act.put]) (by simp [Act.eval, Act.put]) (g1 + 1) 0 (List.replicate 16 (.int .u32 0)) 43 HE2.out (xs.map (Value.int .u32)) (by rw [List.length_map, Hl.out]; rfl) (fun _ => ⟨rfl, _, rfl, Hsrc.out⟩) (by rw [List.length_map, Hl.out]; decide) (by simp [Value.oneCell']) (g1 + 1) W2.drew (Below.refl _ _) (Nat.le_refl _) ?_; intro W3 hg3 hb3)
      have hR2 : Row W3 (g1 + 1) 43 xs := ⟨_, hg3.out, [], fun _ => rfl, by
        rw [splice, List.take_zero, List.nil_append, List.drop_eq_nil_of_le (by rw [List.length_map, Hl.out, List.length_replicate]; omega)]⟩
      have hR1 : W3.heap[g1]? = some (.cells cs 43 (0, 0)) := (hb3.block g1 (by omega)).trans HE1.out
      have hB3 : Below w.heap.size w W3 := hB2.drew.trans (hb3.mono (by omega))
      clear hg3 hb3 hB2 HE1 HE2 Hsrc
      go_wp2
      go_loopw [28] (fun vi wr => ∃ n : Nat, vi = .int .i64 n ∧ n ≤ 10 ∧ Row wr (g1 + 1) 43 (iter n xs) ∧ wr.heap[g1]? = some (.cells cs 43 (0, 0)) ∧ Below w.heap.size w wr) (fun vi _ => 10 - (intOf vi).toNat)
      case atStart => exact ⟨0, rfl, by omega, hR2, hR1, hB3⟩
      case round =>
        clear hR2 hR1 hB3
        obtain ⟨n, rfl, hn10, hR2, hR1, hB⟩ := hrel
        have hL : (iter n xs).length = 16 := by rw [iter_length, Hl.out]
        by_cases hn1 : n = 10
        · subst hn1
          have hhi : ∀ (W : World) (m : Nat), m < 16 → (Instr.index 43 (.agg ((iter 10 xs).map (Value.int .u32)).toArray) (.int .i64 (m : Int))).run Try.prog W = .ok (.int .u32 (wrd (iter 10 xs) m)) W := fun W m hm => idx16 (iter 10 xs) hL _ (Lib.hid rfl) m hm W
          obtain ⟨c2, hc2⟩ : ∃ c2, ((iter 10 xs).map (Value.int .u32)).toArray = c2 := ⟨_, rfl⟩
          have h2s : c2.size = 16 := by rw [← hc2]; simp [hL]
          have hE : wr.heap[g1 + 1]? = some (.cells c2 43 (0, 0)) := by rw [← hc2]; exact row_exact hR2
          rw [hc2] at hhi
          have Hhi := Lib.hid hhi
          have H2s := Lib.hid h2s
          clear hc2 hhi h2s
          go_wp2_with (refine wpList_load_row rfl 43 (.tmp 9) rfl (g1 + 1) rfl 43 _ (0, 0) _ hE Try.underlying43 rfl (by rw [H2s.out]; kernel_rfl) ?_)
          clear hE hR2
          go_loopw [10, 34] (fun vo vi wr => ∃ m : Nat, vi = .int .i64 m ∧ m ≤ 16 ∧ Kd.R (Kd.int .u8) 5 wr w.heap.size (fun _ => True) vo (outB (iter 10 xs) xs m) ∧ wr.heap[g1]? = some (.cells cs 43 (0, 0)) ∧ Below w.heap.size w wr) (fun _ vi _ => 16 - (intOf vi).toNat)
          case atStart => exact ⟨0, rfl, by omega, Kd.R_nil _ _ _ _ _, hR1, hB⟩
          case round =>
            clear hR1 hB
            obtain ⟨m, rfl, hm, hO, hR1, hB⟩ := hrel
            by_cases hm1 : m = 16
            · subst hm1
              have hcv := own_string (P := Try.prog) Try.underlying35 Try.underlying5 Try.underlying9 (Kd.own_of_R hO)
              go_wp2
              go_ret2
              exact ⟨rfl, hB⟩
            · have hlt : decide ((m : Int) < 16) = true := decide_eq_true (by omega)
              have hm0 : (0 : Int) ≤ (m : Int) := by omega
              have hm16 : (m : Int) < 16 := by omega
              have hidx := fun W => Hhi.out W m (by omega)
              have hrow : Row wr g1 43 xs := ⟨_, hR1, [], fun _ => rfl, by rw [← Hcs.out]; simp⟩
              have hc := hrow.cell m (by rw [Hl.out]; omega)
              have hlen := outB_length (iter 10 xs) xs m
              go_upto_region 16 with (fail)
              generalize hx : (wrd (iter 10 xs) m + wrd xs m) % 4294967296 = x
              have hout : outB (iter 10 xs) xs (m + 1) = outB (iter 10 xs) xs m ++ wb x := by
                rw [outB, show IntKind.u32.wrap (wrd (iter 10 xs) m + wrd xs m) = x from (by rw [← hx]; rfl)]
              generalize outB (iter 10 xs) xs m = L at hO hlen hout
              have hbase := hB.size
              have Hout := Lib.hid hout
              clear hout hx hidx hc hL
              go_wp2_with ((with_reducible refine gate_builtin (b := .append) (xs := #[.tmp 43, .tmp 55]) rfl ?_); at_builtin; refine Kd.R_append_rows (Kd.int .u8) (Rr := fun x cs => cs = [.int .u8 x]) (w0 := w) w.heap.size rfl (.tmp 43) (.tmp 55) 35 5 (.int .u8 0) 1 rfl Try.underlying35 info5 rfl (by decide) (by decide) u10 L (wb x) (some ⟨wr.heap.size, 0, none⟩) 4 4 (fun _ => True) (fun _ => False) rfl rfl ?p1 ?p2 (fun _ _ h => h) (fun _ h => h.elim) (fun _ _ => trivial) ?p3 ?p4 ?p5 ?_; (case p1 => exact Kd.R_alloc hO _); (case p2 => exact reads4 _ _ _ _ _); (case p3 => exact hB.alloc hB.size _); (case p4 => (rw [World.size_alloc]; omega)); (case p5 => (rw [hlen]; omega)); intro v3 w3 ho3 hb3 hgr3 hat3)
              have n1 := row_ne (Kd.own_of_R hO) hrow (by decide)
              have hR1' := (hgr3.block g1 (by rw [World.size_alloc]; have := hrow.lt; omega) n1).trans ((Below.heap_alloc _ _ _ hrow.lt).trans hR1)
              go_round
              case rel =>
                exact ⟨m + 1, by go_num, by omega, by rw [Hout.out]; exact ho3, hR1', hb3⟩
              case measure => simp [intOf]; omega
        · have hlt : decide ((n : Int) < 10) = true := decide_eq_true (by omega)
          go_wp2_with (go_at_call 22; (first | with_reducible refine (round_c0 (g1 + 1) _ _ hR2 (by simp only [rnd_length, iter_length, Hl.out])).mono ?_ | with_reducible refine (round_c1 (g1 + 1) _ _ hR2 (by simp only [rnd_length, iter_length, Hl.out])).mono ?_); rintro e W' ⟨⟨v, rfl⟩, hA, hGr⟩; have hR1' := (hGr.block g1 (Array.getElem?_eq_some_iff.1 hR1).1 (by simp)).trans hR1; have hB' := hB.grown hGr hB.size (fun k hk => by cases hk; omega); clear hR1 hR2 hB hGr; have hR1 := hR1'; have hR2 := hA; have hB := hB'; clear hR1' hA hB')
          exact ⟨⟨n + 1, by go_num, by omega, hR2, hR1, hB⟩, by simp [intOf]; omega⟩
    · rw [if_neg (fun h => hn h.2)] at h
      simp only [Option.some.injEq, Prod.mk.injEq] at h
      obtain ⟨rfl, rfl⟩ := h
      have hk1 : ((a0.size : Int) == 32) = true := by rw [hk]; rfl
      have hk2 : ((a0.size : Int) != 32) = false := by rw [hk]; rfl
      have hn1 : ((a2.size : Int) == 12) = false := beq_eq_false_iff_ne.2 (by omega)
      have hn2 : ((a2.size : Int) != 12) = true := bne_iff_ne.2 (by omega)
      go_enter Try.func13, Try.ntmps13
      go_wp2
      go_ret2
      exact ⟨rfl, Below.refl _ _⟩
  · rw [if_neg (fun h => hk h.1)] at h
    simp only [Option.some.injEq, Prod.mk.injEq] at h
    obtain ⟨rfl, rfl⟩ := h
    have hk1 : ((a0.size : Int) == 32) = false := beq_eq_false_iff_ne.2 (by omega)
    have hk2 : ((a0.size : Int) != 32) = true := bne_iff_ne.2 (by omega)
    go_enter Try.func13, Try.ntmps13
    go_wp2
    go_ret2
    exact ⟨rfl, Below.refl _ _⟩

end Go.Proofs.Ytgckdmilgonnlaa.H
