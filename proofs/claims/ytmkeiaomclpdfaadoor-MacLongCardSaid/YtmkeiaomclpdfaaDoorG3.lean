/- (*sha.state).lays: the walk. -/
import Derived.Test.YtmkeiaomclpdfaaDoorG2
import Derived.ChangeKeysEq
import Derived.Outline
import Derived.StillTailTactics
namespace Go.Proofs.YtmkeiaomclpdfaaDoor.H
open Go.RowKit Go.Proofs.YtmkeiaomclpdfaaDoorW.PrintWords Go.Proofs.YtmkeiaomclpdfaaDoorW.PrintLast Go.Proofs.YtmkeiaomclpdfaaDoorW.PrintMore Go.Proofs.YtmkeiaomclpdfaaDoor.Plain Go.Proofs.YtmkeiaomclpdfaaDoor.RowOf
set_option linter.unusedVariables false
set_option linter.unusedSimpArgs false

/-- The block g (of type t) holds the words of a list, and the rest. -/
def RowX (W : World) (g t : Nat) (xs : List Int) (rest : List Value) : Prop := W.heap[g]? = some (.cells (xs.map (Value.int .u32) ++ rest).toArray t (0, 0))
theorem RowX.lt {W : World} {g t : Nat} {xs : List Int} {rest : List Value} (h : RowX W g t xs rest) : g < W.heap.size := (Array.getElem?_eq_some_iff.1 h).1
theorem RowX.cell {W : World} {g t : Nat} {xs : List Int} {rest : List Value} (h : RowX W g t xs rest) (i : Nat) (hi : i < xs.length) : W.cell? ⟨g, i, none⟩ = some (.int .u32 (wrd xs i)) := by
  unfold RowX at h
  have hc : (xs.map (Value.int .u32) ++ rest).toArray[i]? = some (.int .u32 (xs.getD i 0)) := by
    rw [List.getElem?_toArray, List.getElem?_append_left (by simpa using hi), List.getElem?_map, List.getElem?_eq_getElem hi, List.getD_eq_getElem?_getD, List.getElem?_eq_getElem hi]
    rfl
  simp [World.cell?, h, hc, wrd]
theorem RowX.frozen {W : World} {g t : Nat} {xs : List Int} {rest : List Value} (h : RowX W g t xs rest) (i : Nat) : W.frozen? ⟨g, i, none⟩ = false := by
  unfold RowX at h
  simp [World.frozen?, h]
theorem RowX.set {W : World} {g t : Nat} {xs : List Int} {rest : List Value} (h : RowX W g t xs rest) (i : Nat) (hi : i < xs.length) (v : Int) : RowX (W.setCell ⟨g, i, none⟩ (.int .u32 v)) g t (xs.set i v) rest := by
  unfold RowX at h ⊢
  have e : ((xs.map (Value.int .u32) ++ rest).toArray).setIfInBounds i (.int .u32 v) = ((xs.set i v).map (Value.int .u32) ++ rest).toArray := by
    rw [List.setIfInBounds_toArray, List.set_append_left _ _ (by simpa using hi), List.map_set]
  rw [← e]
  simp [World.setCell, Array.getElem?_modify, h]
theorem RowX.kept {W W' : World} {g t : Nat} {xs : List Int} {rest : List Value} (h : RowX W g t xs rest) (he : W'.heap[g]? = W.heap[g]?) : RowX W' g t xs rest := he.trans h
theorem RowX.below {W W' : World} {g t n : Nat} {xs : List Int} {rest : List Value} (h : RowX W g t xs rest) (hb : Below n W W') (hg : g < n) : RowX W' g t xs rest := h.kept (hb.block g hg)
theorem RowX.alloc {W : World} {g t : Nat} {xs : List Int} {rest : List Value} (h : RowX W g t xs rest) (o : Obj) : RowX (W.alloc o) g t xs rest := h.kept (Below.heap_alloc _ _ _ h.lt)
/-- A package variable's words. -/
def Glob (W : World) (g : Nat) (K : List Int) : Prop := ∃ (t : TypeId) (fz : Nat × Nat), W.heap[g]? = some (.cells (K.map (Value.int .u32)).toArray t fz)
theorem Glob.lt {W : World} {g : Nat} {K : List Int} (h : Glob W g K) : g < W.heap.size := by
  obtain ⟨t, fz, h⟩ := h
  exact (Array.getElem?_eq_some_iff.1 h).1
theorem Glob.kept {W W' : World} {g : Nat} {K : List Int} (h : Glob W g K) (he : W'.heap[g]? = W.heap[g]?) : Glob W' g K := by
  obtain ⟨t, fz, h⟩ := h
  exact ⟨t, fz, he.trans h⟩
theorem Glob.below {W W' : World} {g n : Nat} {K : List Int} (h : Glob W g K) (hb : Below n W W') (hg : g < n) : Glob W' g K := h.kept (hb.block g hg)
theorem Glob.cell {W : World} {g : Nat} {K : List Int} (h : Glob W g K) (i : Nat) (hi : i < K.length) : W.cell? ⟨g, i, none⟩ = some (.int .u32 (wrd K i)) := by
  obtain ⟨t, fz, h⟩ := h
  have hc : (K.map (Value.int .u32)).toArray[i]? = some (.int .u32 (K.getD i 0)) := by
    simp [List.getElem?_eq_getElem hi, List.getD_eq_getElem?_getD]
  simp [World.cell?, h, hc, wrd]

theorem run_index_agg {P : Program} {t e n : Nat} {i : TypeInfo} (hu : P.underlying t = some (.array n e)) (hi : P.info? e = some i) (ha : ∀ w : World, (isAgg e).run P w = .ok false w) (h1 : P.cellsOf e = 1) {cs : Array Value} {v : Value} (k : Nat) (hk : k < n) (hv : cs[k]? = some v) (W : World) :
    (Instr.index t (.agg cs) (.int .i64 (k : Int))).run P W = .ok v W := by
  have hk2 : (0 : Int) ≤ (k : Int) ∧ (k : Int) < (n : Int) := by omega
  simp [Instr.index, run_underlying hu, asIntOf, go_sem, hk2, hk, run_sizeOf W hi, h1, part, ha, hv]
theorem info_u32 : ∃ i, Tryd.prog.info? 55 = some i := Option.isSome_iff_exists.1 (by kernel_rfl)
theorem idx64 (cs : Array Value) (k : Nat) (hk : k < 64) (v : Value) (hv : cs[k]? = some v) (W : World) : (Instr.index 76 (.agg cs) (.int .i64 (k : Int))).run Tryd.prog W = .ok v W := by
  obtain ⟨i, hi⟩ := info_u32
  exact run_index_agg Tryd.underlying76 hi (fun w => by kernel_rfl) (by kernel_rfl) k hk hv W
theorem idx8 (cs : Array Value) (k : Nat) (hk : k < 8) (v : Value) (hv : cs[k]? = some v) (W : World) : (Instr.index 56 (.agg cs) (.int .i64 (k : Int))).run Tryd.prog W = .ok v W := by
  obtain ⟨i, hi⟩ := info_u32
  exact run_index_agg Tryd.underlying56 hi (fun w => by kernel_rfl) (by kernel_rfl) k hk hv W

theorem turn_q (x m : Int) (n : Nat) (h : n ∈ turns) (hm : (n : Int) = m) (w : World) :
    Calls Tryd.prog 47 #[.int .u32 x, .int .i64 m] w fun e w' => e = .returned (.int .u32 (rotr x n)) ∧ Drawn0 w w' := by
  subst hm
  exact turn_calls x n h w
theorem turn6_q (x : Int) (w : World) (n : Nat) : Calls Tryd.prog 47 #[.int .u32 x, .int .i64 6] (w.drewN n) fun e w'' => e = .returned (.int .u32 (rotr x 6)) ∧ ∃ m, w'' = w.drewN m :=
  (turn_q x 6 6 (by decide) rfl _).mono fun _ _ ⟨he, m, hm⟩ => ⟨he, n + m, by rw [hm, World.drewN_drewN]⟩
theorem turn11_q (x : Int) (w : World) (n : Nat) : Calls Tryd.prog 47 #[.int .u32 x, .int .i64 11] (w.drewN n) fun e w'' => e = .returned (.int .u32 (rotr x 11)) ∧ ∃ m, w'' = w.drewN m :=
  (turn_q x 11 11 (by decide) rfl _).mono fun _ _ ⟨he, m, hm⟩ => ⟨he, n + m, by rw [hm, World.drewN_drewN]⟩
theorem turn25_q (x : Int) (w : World) (n : Nat) : Calls Tryd.prog 47 #[.int .u32 x, .int .i64 25] (w.drewN n) fun e w'' => e = .returned (.int .u32 (rotr x 25)) ∧ ∃ m, w'' = w.drewN m :=
  (turn_q x 25 25 (by decide) rfl _).mono fun _ _ ⟨he, m, hm⟩ => ⟨he, n + m, by rw [hm, World.drewN_drewN]⟩
theorem turn2_q (x : Int) (w : World) (n : Nat) : Calls Tryd.prog 47 #[.int .u32 x, .int .i64 2] (w.drewN n) fun e w'' => e = .returned (.int .u32 (rotr x 2)) ∧ ∃ m, w'' = w.drewN m :=
  (turn_q x 2 2 (by decide) rfl _).mono fun _ _ ⟨he, m, hm⟩ => ⟨he, n + m, by rw [hm, World.drewN_drewN]⟩
theorem turn13_q (x : Int) (w : World) (n : Nat) : Calls Tryd.prog 47 #[.int .u32 x, .int .i64 13] (w.drewN n) fun e w'' => e = .returned (.int .u32 (rotr x 13)) ∧ ∃ m, w'' = w.drewN m :=
  (turn_q x 13 13 (by decide) rfl _).mono fun _ _ ⟨he, m, hm⟩ => ⟨he, n + m, by rw [hm, World.drewN_drewN]⟩
theorem turn22_q (x : Int) (w : World) (n : Nat) : Calls Tryd.prog 47 #[.int .u32 x, .int .i64 22] (w.drewN n) fun e w'' => e = .returned (.int .u32 (rotr x 22)) ∧ ∃ m, w'' = w.drewN m :=
  (turn_q x 22 22 (by decide) rfl _).mono fun _ _ ⟨he, m, hm⟩ => ⟨he, n + m, by rw [hm, World.drewN_drewN]⟩
/-- The eight words in their slots. -/
def Eight (q : List Int) (a b c d e f g i : Value) : Prop := ∃ x0 x1 x2 x3 x4 x5 x6 x7 : Int, q = [x0, x1, x2, x3, x4, x5, x6, x7] ∧ a = .int .u32 x0 ∧ b = .int .u32 x1 ∧ c = .int .u32 x2 ∧ d = .int .u32 x3 ∧ e = .int .u32 x4 ∧ f = .int .u32 x5 ∧ g = .int .u32 x6 ∧ i = .int .u32 x7
theorem eight_of (q : List Int) (h : q.length = 8) : Eight q (.int .u32 (wrd q 0)) (.int .u32 (wrd q 1)) (.int .u32 (wrd q 2)) (.int .u32 (wrd q 3)) (.int .u32 (wrd q 4)) (.int .u32 (wrd q 5)) (.int .u32 (wrd q 6)) (.int .u32 (wrd q 7)) := by
  match q, h with
  | [x0, x1, x2, x3, x4, x5, x6, x7], _ => exact ⟨_, _, _, _, _, _, _, _, rfl, rfl, rfl, rfl, rfl, rfl, rfl, rfl, rfl⟩

/-- The first k words are laid. -/
def part (h q : List Int) (k : Nat) : List Int := (adds h q).take k ++ h.drop k
theorem part_len (h q : List Int) (k : Nat) (hh : h.length = 8) (hq : q.length = 8) : (part h q k).length = 8 := by
  rw [part, List.length_append, List.length_take, List.length_drop, adds_len h q hh hq]
  omega

theorem cases8 {k : Nat} (hk : k < 8) : k = 0 ∨ k = 1 ∨ k = 2 ∨ k = 3 ∨ k = 4 ∨ k = 5 ∨ k = 6 ∨ k = 7 := by omega
theorem part_set (h q : List Int) (k : Nat) (hh : h.length = 8) (hq : q.length = 8) (hk : k < 8) : (part h q k).set k ((wrd (part h q k) k + wrd q k) % 4294967296) = part h q (k + 1) := by
  match h, hh, q, hq with
  | [h0, h1, h2, h3, h4, h5, h6, h7], _, [q0, q1, q2, q3, q4, q5, q6, q7], _ =>
    rcases cases8 hk with rfl | rfl | rfl | rfl | rfl | rfl | rfl | rfl
    all_goals rfl
theorem part_all (h q : List Int) (hh : h.length = 8) (hq : q.length = 8) : part h q 8 = adds h q := by
  rw [part, List.take_of_length_le (by rw [adds_len h q hh hq]; omega), List.drop_eq_nil_of_le (by omega), List.append_nil]
theorem cs8 (x0 x1 x2 x3 x4 x5 x6 x7 : Int) (k : Nat) (hk : k < 8) : (#[Value.int .u32 x0, .int .u32 x1, .int .u32 x2, .int .u32 x3, .int .u32 x4, .int .u32 x5, .int .u32 x6, .int .u32 x7] : Array Value)[k]? = some (.int .u32 (wrd [x0, x1, x2, x3, x4, x5, x6, x7] k)) := by
  rcases cases8 hk with rfl | rfl | rfl | rfl | rfl | rfl | rfl | rfl
  all_goals rfl
theorem gb_drew {a b : World} {row : Option Nat} (h : a.grownBy b row) : a.grownBy b.drew row := by
  obtain ⟨h1, h2, h3, h4, h5⟩ := h
  exact ⟨h1, h2, h3, h4, h5⟩

set_option maxRecDepth 100000 in
set_option maxHeartbeats 4000000 in
theorem lays_calls (g T : Nat) (rest : List Value) (K h : List Int) (s : ByteArray) (hs : s.size = 64) (hh : h.length = 8) (w : World) (hG : Glob w 2 K) (hK : K.length = 64) (hR : RowX w g T h rest) :
    Calls Tryd.prog 38 #[.pointer (some ⟨g, 0, none⟩), .string s] w fun e w' => e = .returned (.tuple #[]) ∧ RowX w' g T (adds h (rounds K (fun i => bt s (i : Int)) h 64)) rest ∧ w.grownBy w' (some g) := by
  have c0 := hR.cell 0 (by omega)
  have c1 := hR.cell 1 (by omega)
  have c2 := hR.cell 2 (by omega)
  have c3 := hR.cell 3 (by omega)
  have c4 := hR.cell 4 (by omega)
  have c5 := hR.cell 5 (by omega)
  have c6 := hR.cell 6 (by omega)
  have c7 := hR.cell 7 (by omega)
  go_enter Tryd.func38, Tryd.ntmps38
  go_upto_region 0 with (fail)
  go_quiet (fail)
  go_wp2_with fail
  refine (spread_calls s hs _).mono ?_
  rintro e w1 ⟨rfl, hb1⟩
  have hb0 : Below w.heap.size w (w.drewN nq) := pw_below_drewN (Below.refl _ _) nq
  have hB1 : Below w.heap.size w w1 := hb0.trans (hb1.mono hb0.size)
  have hR1 := hR.below hB1 hR.lt
  have hG1 : Glob w1 2 K := hG.below hB1 hG.lt
  clear hb1 hb0 hR c0 c1 c2 c3 c4 c5 c6 c7
  obtain ⟨ws, hws⟩ : ∃ ws, ((sched (fun i => bt s (i : Int)) 64).map (Value.int .u32)).toArray = ws := ⟨_, rfl⟩
  rw [hws]
  have Hws := Lib.hid hws
  obtain ⟨F, hF⟩ : ∃ F : Nat → Int, (fun i : Nat => bt s (i : Int)) = F := ⟨_, rfl⟩
  rw [hF] at Hws
  have HF := Lib.hid hF
  clear hF hws
  go_wp2_with fail
  go_loopw [4, 5, 6, 7, 8, 9, 10, 11, 52] (fun va vb vc vd ve vf vg vi vt wr => ∃ t : Nat, vt = .int .i64 t ∧ t ≤ 64 ∧ Eight (rounds K F h t) va vb vc vd ve vf vg vi ∧ Drawn0 w1 wr) (fun _ _ _ _ _ _ _ _ vt _ => 64 - (intOf vt).toNat)
  case atStart => exact ⟨0, rfl, by omega, eight_of h hh, 0, by rfl⟩
  case round =>
    obtain ⟨t, rfl, ht, ⟨x0, x1, x2, x3, x4, x5, x6, x7, hq, rfl, rfl, rfl, rfl, rfl, rfl, rfl, rfl⟩, ⟨nd, rfl⟩⟩ := hrel
    have hRt := hR1.kept (W' := w1.drewN nd) rfl
    have hGt : Glob (w1.drewN nd) 2 K := hG1.kept rfl
    have hBt := pw_below_drewN hB1 nd
    obtain ⟨wt, hwt⟩ : ∃ wt, w1.drewN nd = wt := ⟨_, rfl⟩
    rw [hwt] at hRt hGt hBt ⊢
    by_cases h64 : t = 64
    · subst h64
      have hL : [x0, x1, x2, x3, x4, x5, x6, x7] = rounds K F h 64 := hq.symm
      have hG0 : wt.grownBy wt (some g) := World.grownBy.refl _ _
      have hidx := fun (cs : Array Value) (k : Nat) (hk : k < 8) (v : Value) (hv : cs[k]? = some v) (W : World) => idx8 cs k hk v hv W
      have Hidx := Lib.hid hidx
      have HL := Lib.hid hL
      clear hL hq hidx hwt hGt hG1 hR1 hB1
      go_wp2
      go_loopw [123] (fun vk wr => ∃ k : Nat, vk = .int .i64 k ∧ k ≤ 8 ∧ RowX wr g T (part h [x0, x1, x2, x3, x4, x5, x6, x7] k) rest ∧ wt.grownBy wr (some g)) (fun vk _ => 8 - (intOf vk).toNat)
      case atStart => exact ⟨0, rfl, by omega, hRt, hG0⟩
      case round =>
        clear hRt hG0
        obtain ⟨k, rfl, hk, hR, hG⟩ := hrel
        by_cases hk8 : k = 8
        · subst hk8
          go_wp2
          go_end0
          refine ⟨rfl, ?_, ?_⟩
          · rw [part_all h _ hh rfl, HL.out, ← HF.out] at hR
            exact hR
          · exact gb_trans (gb_of_below hBt _) hG
        · have hlt : decide ((k : Int) < 8) = true := decide_eq_true (by omega)
          have hk0 : (0 : Int) ≤ (k : Int) := by omega
          have hki : (k : Int) < 8 := by omega
          have hix := Hidx.out #[.int .u32 x0, .int .u32 x1, .int .u32 x2, .int .u32 x3, .int .u32 x4, .int .u32 x5, .int .u32 x6, .int .u32 x7] k (by omega) (.int .u32 (wrd [x0, x1, x2, x3, x4, x5, x6, x7] k)) (cs8 _ _ _ _ _ _ _ _ k (by omega))
          have hc := hR.cell k (by rw [part_len _ _ _ hh rfl]; omega)
          have hfz := hR.frozen k
          go_upto_region 11 with (fail)
          go_still_tail 9, (by kernel_rfl)
          go_wp2
          have hR3 := hR.set k (by rw [part_len _ _ _ hh rfl]; omega) ((wrd (part h [x0, x1, x2, x3, x4, x5, x6, x7] k) k + wrd [x0, x1, x2, x3, x4, x5, x6, x7] k) % 4294967296)
          rw [part_set h [x0, x1, x2, x3, x4, x5, x6, x7] k hh rfl (by omega)] at hR3
          have hG3 := gb_drew (gb_trans hG (gb_set wr g k (.int .u32 ((wrd (part h [x0, x1, x2, x3, x4, x5, x6, x7] k) k + wrd [x0, x1, x2, x3, x4, x5, x6, x7] k) % 4294967296))))
          refine ⟨?_, by simp [intOf]; omega⟩
          repeat apply Exists.intro
          refine ⟨?_, rfl⟩
          exact ⟨k + 1, by go_num, by omega, hR3.kept rfl, hG3⟩
    · have hlt : t < 64 := by omega
      have hltd : decide ((t : Int) < 64) = true := decide_eq_true (by omega)
      have ht0 : (0 : Int) ≤ (t : Int) := by omega
      have hti : (t : Int) < 64 := by omega
      have hc2 := hGt.cell t (by omega)
      have hidx := idx64 ws t hlt (.int .u32 (at_ (sched F 64) t)) (by rw [← Hws.out]; unfold at_; simp [sched_len, hlt])
      have Hq := Lib.hid hq
      have Hwt := Lib.hid hwt
      clear hq hwt hRt hGt hBt hR1 hG1 hB1
      go_upto_region 4 with (fail)
      go_quiet ((go_at_call 47; first | with_reducible exact turn6_q _ _ _ | with_reducible exact turn11_q _ _ _ | with_reducible exact turn25_q _ _ _))
      go_wp2_with (go_at_call 47; (first | with_reducible refine (turn2_q _ _ _).mono ?_ | with_reducible refine (turn13_q _ _ _).mono ?_ | with_reducible refine (turn22_q _ _ _).mono ?_); rintro e w' ⟨rfl, nk, rfl⟩)
      refine ⟨⟨t + 1, by go_num, by omega, ⟨_, _, _, _, _, _, _, _, by rw [rounds, Hq.out]; rfl, rfl, rfl, rfl, rfl, rfl, rfl, rfl, rfl⟩, ⟨nd + nk, by rw [← Hwt.out, World.drewN_drewN]⟩⟩, by simp [intOf]; omega⟩
end Go.Proofs.YtmkeiaomclpdfaaDoor.H
