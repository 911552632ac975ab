/- sphragisref02.part: the walk. -/
import Derived.Test.YtobjhddiieaafaaDoorM8
namespace Go.Proofs.YtobjhddiieaafaaDoor.M
open Go.Proofs.YtobjhddiieaafaaDoor.H
open Go.RowKit Go.Shelf Go.Proofs.YtobjhddiieaafaaDoorW.PrintWords Go.Proofs.YtobjhddiieaafaaDoorW.PrintLast Go.Proofs.YtobjhddiieaafaaDoorW.PrintMore Go.Proofs.YtobjhddiieaafaaDoor.Plain Go.Proofs.YtobjhddiieaafaaDoor.RowOf Go.Proofs.YtobjhddiieaafaaDoor.Le
attribute [local go_sem] Oper.semAt_some
set_option linter.unusedVariables false
set_option linter.unusedSimpArgs false

theorem R_rowN {W : World} {base : Nat} {ok : Nat → Prop} {v : Value} {xs : List Int} {n : Nat} (h : Kd.R (Kd.int .u32) 22 W base ok v xs) (hl : xs.length = n) (h0 : 0 < n) : ∃ g cap, v = .slice (some ⟨g, 0, none⟩) n cap ∧ Row W g 22 xs ∧ base ≤ g := by
  subst hl
  have ho := Kd.own_of_R h
  rcases ho.2 with ⟨_, h1⟩ | ⟨g, cap, cur, h1, h2, h3, h4, h5, h6, h7⟩
  · omega
  · exact ⟨g, cap, h1, ⟨cur, h3, cur.toList.drop (xs.length * 1), (fun h => absurd h (by decide)), by
      have e : xs.map (Value.int .u32) = cur.toList.take (xs.length * 1) := h7.symm
      rw [e, List.take_append_drop]⟩, h2⟩
theorem reads1u (W : World) (a : Int) : ReadsRow (fun (x : Int) cs => cs = [.int .u32 x]) 1 (W.alloc (.cells #[.int .u32 a] 22 (0, 0))) (some ⟨W.heap.size, 0, none⟩) 1 [a] := by
  refine ⟨rfl, by decide, fun _ => ⟨_, rfl, fun j p hj => ⟨[.int .u32 p], rfl, rfl, fun i u hi => ?_⟩⟩⟩
  have h := World.alloc_heap_new W (.cells #[.int .u32 a] 22 (0, 0))
  obtain ⟨rfl, rfl⟩ : i = 0 ∧ u = .int .u32 p := by
    cases i with
    | zero => exact ⟨rfl, (Option.some.inj hi).symm⟩
    | succ i => cases hi
  have hc : ∀ i, (W.alloc (.cells #[.int .u32 a] 22 (0, 0))).cell? ⟨W.heap.size, i, none⟩ = (#[Value.int .u32 a] : Array Value)[i]? := fun i => by
    unfold World.cell?
    rw [h]
    rfl
  match j, hj with
  | 0, hj => obtain rfl := Option.some.inj hj; exact hc 0
theorem value_step {P : Program} {ops : Array Oper} {a : Act} {o : Oper} {Kc : Act → World → Prop} {Q : Exit → Act → World → Prop} {W w1 : World} {v : Value} (hw : Region.wanted o (yielded ops a.tmps) = true) (hrun : (execOp a.eval o).run P W = .ok (.value v) w1) (h : Kc (a.put o.dst v) w1) :
    if Region.wanted o (yielded ops a.tmps) = true then Oper.wp P o a W Kc Q else Kc (a.put o.dst undef) W := by
  rw [if_pos hw]
  unfold Oper.wp
  rw [hrun]
  exact h

theorem addr_add (g o j : Nat) : (⟨g, o, none⟩ : Addr).add j = ⟨g, o + j, none⟩ := by unfold Addr.add; split <;> simp_all
theorem reads_rowu {W : World} {g n : Nat} {xs : List Int} (h : Row W g 22 xs) (hl : xs.length = n) (hn : n ≤ 9223372036854775807) : ReadsRow (fun (x : Int) cs => cs = [.int .u32 x]) 1 W (some ⟨g, 0, none⟩) n xs := by
  subst hl
  refine ⟨rfl, hn, fun _ => ⟨_, rfl, fun j p hj => ⟨[.int .u32 p], rfl, rfl, fun i u hi => ?_⟩⟩⟩
  obtain ⟨rfl, rfl⟩ : i = 0 ∧ u = .int .u32 p := by
    cases i with
    | zero => exact ⟨rfl, (Option.some.inj hi).symm⟩
    | succ i => cases hi
  obtain ⟨hj1, hj2⟩ := List.getElem?_eq_some_iff.1 hj
  have := h.cell j hj1
  have e : wrd xs j = p := by rw [wrd, List.getD_eq_getElem?_getD, hj]; rfl
  rw [e] at this
  simp only [Nat.mul_one, addr_add, Nat.zero_add, Nat.add_zero]
  exact this
theorem rturn_q (x m : Int) (n : Nat) (h : n ∈ turns) (hm : (n : Int) = m) (w : World) :
    Calls Tryd.prog 51 #[.int .u32 x, .int .i64 m] w fun e w' => e = .returned (.int .u32 (rotr x n)) ∧ Drawn0 w w' := by
  subst hm
  exact turned_calls x n h w
theorem rturn6_q (x : Int) (w : World) (n : Nat) : Calls Tryd.prog 51 #[.int .u32 x, .int .i64 6] (w.drewN n) fun e w'' => e = .returned (.int .u32 (rotr x 6)) ∧ ∃ m, w'' = w.drewN m :=
  (rturn_q x 6 6 (by decide) rfl _).mono fun _ _ ⟨he, m, hm⟩ => ⟨he, n + m, by rw [hm, World.drewN_drewN]⟩
theorem rturn11_q (x : Int) (w : World) (n : Nat) : Calls Tryd.prog 51 #[.int .u32 x, .int .i64 11] (w.drewN n) fun e w'' => e = .returned (.int .u32 (rotr x 11)) ∧ ∃ m, w'' = w.drewN m :=
  (rturn_q x 11 11 (by decide) rfl _).mono fun _ _ ⟨he, m, hm⟩ => ⟨he, n + m, by rw [hm, World.drewN_drewN]⟩
theorem rturn25_q (x : Int) (w : World) (n : Nat) : Calls Tryd.prog 51 #[.int .u32 x, .int .i64 25] (w.drewN n) fun e w'' => e = .returned (.int .u32 (rotr x 25)) ∧ ∃ m, w'' = w.drewN m :=
  (rturn_q x 25 25 (by decide) rfl _).mono fun _ _ ⟨he, m, hm⟩ => ⟨he, n + m, by rw [hm, World.drewN_drewN]⟩
theorem rturn2_q (x : Int) (w : World) (n : Nat) : Calls Tryd.prog 51 #[.int .u32 x, .int .i64 2] (w.drewN n) fun e w'' => e = .returned (.int .u32 (rotr x 2)) ∧ ∃ m, w'' = w.drewN m :=
  (rturn_q x 2 2 (by decide) rfl _).mono fun _ _ ⟨he, m, hm⟩ => ⟨he, n + m, by rw [hm, World.drewN_drewN]⟩
theorem rturn13_q (x : Int) (w : World) (n : Nat) : Calls Tryd.prog 51 #[.int .u32 x, .int .i64 13] (w.drewN n) fun e w'' => e = .returned (.int .u32 (rotr x 13)) ∧ ∃ m, w'' = w.drewN m :=
  (rturn_q x 13 13 (by decide) rfl _).mono fun _ _ ⟨he, m, hm⟩ => ⟨he, n + m, by rw [hm, World.drewN_drewN]⟩
theorem rturn22_q (x : Int) (w : World) (n : Nat) : Calls Tryd.prog 51 #[.int .u32 x, .int .i64 22] (w.drewN n) fun e w'' => e = .returned (.int .u32 (rotr x 22)) ∧ ∃ m, w'' = w.drewN m :=
  (rturn_q x 22 22 (by decide) rfl _).mono fun _ _ ⟨he, m, hm⟩ => ⟨he, n + m, by rw [hm, World.drewN_drewN]⟩
theorem make8 (W : World) : (Instr.makeSlice 76 (.int .i64 0) (.int .i64 8)).run Tryd.prog W = .ok (.slice (some ⟨W.heap.size, 0, none⟩) 0 8) (W.alloc (.cells #[.int .u32 0, .int .u32 0, .int .u32 0, .int .u32 0, .int .u32 0, .int .u32 0, .int .u32 0, .int .u32 0] 22 (0, 0))) := by kernel_rfl
theorem own8 (W : World) (base : Nat) (h : base ≤ W.heap.size) : (W.alloc (.cells #[.int .u32 0, .int .u32 0, .int .u32 0, .int .u32 0, .int .u32 0, .int .u32 0, .int .u32 0, .int .u32 0] 22 (0, 0))).ownsRow base 22 1 (.slice (some ⟨W.heap.size, 0, none⟩) 0 8) 0 [] :=
  ⟨rfl, .inr ⟨_, 8, _, rfl, h, World.alloc_heap_new W _, by decide, by decide, rfl, rfl⟩⟩
/-- The first k words are laid, the other way round. -/
def partR (h q : List Int) (k : Nat) : List Int := (adds h q).take k ++ q.drop k
theorem partR_len (h q : List Int) (k : Nat) (hh : h.length = 8) (hq : q.length = 8) : (partR h q k).length = 8 := by
  rw [partR, List.length_append, List.length_take, List.length_drop, adds_len h q hh hq]
  omega
theorem partR_set (h q : List Int) (k : Nat) (hh : h.length = 8) (hq : q.length = 8) (hk : k < 8) : (partR h q k).set k ((wrd (partR h q k) k + wrd h k) % 4294967296) = partR h q (k + 1) := by
  match h, hh, q, hq with
  | [h0, h1, h2, h3, h4, h5, h6, h7], _, [q0, q1, q2, q3, q4, q5, q6, q7], _ =>
    rcases cases8 hk with rfl | rfl | rfl | rfl | rfl | rfl | rfl | rfl
    all_goals
      rw [Int.add_comm]
      rfl
theorem partR_all (h q : List Int) (hh : h.length = 8) (hq : q.length = 8) : partR h q 8 = adds h q := by
  rw [partR, List.take_of_length_le (by rw [adds_len h q hh hq]; omega), List.drop_eq_nil_of_le (by omega), List.append_nil]

set_option maxRecDepth 100000 in
set_option maxHeartbeats 4000000 in
theorem refpart_calls (gh c0h : Nat) (K h : List Int) (s : ByteArray) (hs : s.size = 64) (hh : h.length = 8) (hK : K.length = 64) (w : World) (hG : Glob w 0 K) (hR : Row w gh 22 h) :
    Calls Tryd.prog 42 #[.slice (some ⟨gh, 0, none⟩) 8 c0h, .string s] w fun e w' => (∃ g' c', e = .returned (.slice (some ⟨g', 0, none⟩) 8 c') ∧ Row w' g' 22 (adds h (rounds K (fun i => bt s (i : Int)) h 64)) ∧ w.heap.size ≤ g') ∧ Below w.heap.size w w' := by
  obtain ⟨F, hF⟩ : ∃ F : Nat → Int, (fun i : Nat => bt s (i : Int)) = F := ⟨_, rfl⟩
  rw [hF]
  have HF := Lib.hid hF
  obtain ⟨N, hN⟩ : ∃ N, w.heap.size = N := ⟨_, rfl⟩
  rw [hN]
  have hgh : gh < N := by rw [← hN]; exact hR.lt
  have hgK : 0 < N := by rw [← hN]; exact hG.lt
  clear hF
  go_enter Tryd.func42, Tryd.ntmps42
  go_wp2
  go_loopw [5, 6] (fun vw vt wr => ∃ t : Nat, vt = .int .i64 t ∧ t ≤ 64 ∧ Kd.R (Kd.int .u32) 22 wr N (fun _ => True) vw (sched F t) ∧ Below N w wr) (fun _ vt _ => 64 - (intOf vt).toNat)
  case atStart => exact ⟨0, rfl, by omega, Kd.R_nil _ _ _ _ _, Below.refl _ _⟩
  case round =>
    obtain ⟨t, rfl, ht, hO, hB⟩ := hrel
    have hBs := hB.size
    by_cases h64 : t = 64
    · subst h64
      obtain ⟨gw, cw, rfl, hRw, hgw⟩ := R_rowN hO (sched_len F 64) (by omega)
      have hRh : Row wr gh 22 h := hR.below hB hgh
      have hmk := make8 wr
      have hown := own8 wr N (by omega)
      have hO0 : Kd.R (Kd.int .u32) 22 (wr.alloc (.cells #[.int .u32 0, .int .u32 0, .int .u32 0, .int .u32 0, .int .u32 0, .int .u32 0, .int .u32 0, .int .u32 0] 22 (0, 0))) N (fun _ => True) (.slice (some ⟨wr.heap.size, 0, none⟩) 0 8) [] := Kd.R_of_own hown (fun _ _ => trivial)
      have hba := hB.alloc (by omega) (.cells #[.int .u32 0, .int .u32 0, .int .u32 0, .int .u32 0, .int .u32 0, .int .u32 0, .int .u32 0, .int .u32 0] 22 (0, 0))
      have hRha := hRh.alloc (.cells #[.int .u32 0, .int .u32 0, .int .u32 0, .int .u32 0, .int .u32 0, .int .u32 0, .int .u32 0, .int .u32 0] 22 (0, 0))
      have hRwa := hRw.alloc (.cells #[.int .u32 0, .int .u32 0, .int .u32 0, .int .u32 0, .int .u32 0, .int .u32 0, .int .u32 0, .int .u32 0] 22 (0, 0))
      have hgwl := hRw.lt
      clear hown hO
      go_upto_region 10 with (fail)
      go_wp2_with ((with_reducible refine gate_builtin (b := .append) (xs := #[.tmp 96, .tmp 97]) rfl ?_); at_builtin; refine Kd.R_append_rows (Kd.int .u32) (Rr := fun x cs => cs = [.int .u32 x]) (w0 := w) N rfl (.tmp 96) (.tmp 97) 76 22 (.int .u32 0) 4 rfl Tryd.underlying76 info22 rfl (by decide) (by decide) _ [] h (some ⟨gh, 0, none⟩) 8 c0h (fun _ => True) (fun _ => False) rfl rfl hO0 (reads_rowu hRha hh (by decide)) (fun _ _ h => h) (fun _ h => h.elim) (fun _ _ => trivial) hba (by rw [World.size_alloc]; omega) (by simp) ?_; intro v2 w2 ho2 hb2 hgr2 hat2)
      obtain ⟨gl, cl, rfl, hRl, hgl⟩ := R_rowN ho2 (by simpa using hh) (by omega)
      rw [List.nil_append] at hRl
      have hRw2 : Row w2 gw 22 (sched F 64) := hRwa.kept (hgr2.block gw hRwa.lt (fun e => by have e2 : gw = wr.heap.size := Option.some.inj e; omega))
      clear hmk hO0 hba hRha hRwa ho2 hgr2 hat2 hB hRh hRw hgwl
      obtain ⟨ws, hws⟩ : ∃ ws, sched F 64 = ws := ⟨_, rfl⟩
      have hwsl : ws.length = 64 := by rw [← hws, sched_len]
      rw [hws] at hRw2
      have Hws := Lib.hid hws
      clear hws
      go_loopw [9, 10] (fun vl vt wr => ∃ (t g c : Nat), vl = .slice (some ⟨g, 0, none⟩) 8 c ∧ vt = .int .i64 t ∧ t ≤ 64 ∧ Row wr g 22 (rounds K F h t) ∧ N ≤ g ∧ Row wr gw 22 ws ∧ Below N w wr) (fun _ vt _ => 64 - (intOf vt).toNat)
      case atStart => exact ⟨0, gl, cl, rfl, rfl, by omega, hRl, hgl, hRw2, hb2⟩
      case round =>
        clear hRl hRw2 hb2
        obtain ⟨t, g, c, rfl, rfl, ht, hRl, hgN, hRw, hB⟩ := hrel
        have hBs := hB.size
        have hql := rounds_len K F h hh t
        obtain ⟨q, hq⟩ : ∃ q, rounds K F h t = q := ⟨_, rfl⟩
        rw [hq] at hRl hql
        have Hq := Lib.hid hq
        clear hq
        by_cases h64 : t = 64
        · subst h64
          have hRh : Row wr gh 22 h := hR.below hB hgh
          go_wp2
          go_loopw [15] (fun vi wr => ∃ k : Nat, vi = .int .i64 k ∧ k ≤ 8 ∧ Row wr g 22 (partR h q k) ∧ Row wr gh 22 h ∧ Below N w wr) (fun vi _ => 8 - (intOf vi).toNat)
          case atStart => exact ⟨0, rfl, by omega, hRl, hRh, hB⟩
          case round =>
            clear hRl hRh hB
            obtain ⟨k, rfl, hk, hRl, hRh, hB⟩ := hrel
            by_cases hk8 : k = 8
            · subst hk8
              rw [partR_all h q hh hql, ← Hq.out] at hRl
              go_wp2
              go_ret
              exact ⟨⟨g, c, rfl, hRl, hgN⟩, hB⟩
            · have hltd : decide ((k : Int) < 8) = true := decide_eq_true (by omega)
              have hk0 : (0 : Int) ≤ (k : Int) := by omega
              have hki : (k : Int) < 8 := by omega
              have ca := hRl.cell k (by rw [partR_len _ _ _ hh hql]; omega)
              have fa := hRl.frozen k
              have cb := hRh.cell k (by omega)
              go_upto_region 22 with (fail)
              go_still_tail 12, (by kernel_rfl)
              go_wp2
              have hR3 := hRl.set k (by rw [partR_len _ _ _ hh hql]; omega) ((wrd (partR h q k) k + wrd h k) % 4294967296)
              rw [partR_set h q k hh hql (by omega)] at hR3
              have hRh3 := hRh.far (p := ⟨g, k, none⟩) (by show gh ≠ g; omega) (.int .u32 ((wrd (partR h q k) k + wrd h k) % 4294967296))
              have hB3 := (hB.setCell (p := ⟨g, k, none⟩) hgN (.int .u32 ((wrd (partR h q k) k + wrd h k) % 4294967296))).drew
              refine ⟨?_, by simp [intOf]; omega⟩
              repeat apply Exists.intro
              refine ⟨?_, rfl⟩
              exact ⟨k + 1, by go_num, by omega, hR3.kept rfl, hRh3.kept rfl, hB3⟩
        · have hltd : decide ((t : Int) < 64) = true := decide_eq_true (by omega)
          have ht0 : (0 : Int) ≤ (t : Int) := by omega
          have hti : (t : Int) < 64 := by omega
          match q, hql with
          | [x0, x1, x2, x3, x4, x5, x6, x7], _ =>
            have c0 : _ = some (Value.int .u32 x0) := hRl.cell 0 (by show 0 < 8; omega)
            have c1 : _ = some (Value.int .u32 x1) := hRl.cell 1 (by show 1 < 8; omega)
            have c2 : _ = some (Value.int .u32 x2) := hRl.cell 2 (by show 2 < 8; omega)
            have c3 : _ = some (Value.int .u32 x3) := hRl.cell 3 (by show 3 < 8; omega)
            have c4 : _ = some (Value.int .u32 x4) := hRl.cell 4 (by show 4 < 8; omega)
            have c5 : _ = some (Value.int .u32 x5) := hRl.cell 5 (by show 5 < 8; omega)
            have c6 : _ = some (Value.int .u32 x6) := hRl.cell 6 (by show 6 < 8; omega)
            have c7 : _ = some (Value.int .u32 x7) := hRl.cell 7 (by show 7 < 8; omega)
            have cw2 := hRw.cell t (by omega)
            have cK := (hG.below hB hgK).cell t (by omega)
            go_upto_region 16 with (fail)
            go_quiet ((go_at_call 51; first | with_reducible exact rturn6_q _ _ _ | with_reducible exact rturn11_q _ _ _ | with_reducible exact rturn25_q _ _ _))
            go_upto_region 17 with (fail)
            clear c0 c1 c2 c3 c4 c5 c6 c7 cw2 cK
            have kl := hRl.kept (W' := wr.drewN nq) rfl
            have kw := hRw.kept (W' := wr.drewN nq) rfl
            have kB := pw_below_drewN hB nq
            clear hRl hRw hB hBs
            generalize wr.drewN nq = V1 at kl kw kB ⊢
            generalize hX : ((x7 + Go.bits .xor .u32 (Go.bits .xor .u32 (rotr x4 6) (rotr x4 11)) (rotr x4 25) + Go.bits .xor .u32 (Go.bits .and .u32 x4 x5) (Go.bits .and .u32 (Go.bits .xor .u32 (if IntKind.u32.signed = true then -1 else IntKind.u32.max) x4) x6) + wrd K t) % 4294967296 + wrd ws t) % 4294967296 = X
            have HX := Lib.hid hX
            clear hX
            have c0 : _ = some (Value.int .u32 x0) := kl.cell 0 (by show 0 < 8; omega)
            have c1 : _ = some (Value.int .u32 x1) := kl.cell 1 (by show 1 < 8; omega)
            have c2 : _ = some (Value.int .u32 x2) := kl.cell 2 (by show 2 < 8; omega)
            have c3 : _ = some (Value.int .u32 x3) := kl.cell 3 (by show 3 < 8; omega)
            have c4 : _ = some (Value.int .u32 x4) := kl.cell 4 (by show 4 < 8; omega)
            have c5 : _ = some (Value.int .u32 x5) := kl.cell 5 (by show 5 < 8; omega)
            have c6 : _ = some (Value.int .u32 x6) := kl.cell 6 (by show 6 < 8; omega)
            have c7 : _ = some (Value.int .u32 x7) := kl.cell 7 (by show 7 < 8; omega)
            go_quiet ((go_at_call 51; first | with_reducible exact rturn2_q _ _ _ | with_reducible exact rturn13_q _ _ _ | with_reducible exact rturn22_q _ _ _))
            go_upto_region 18 with (fail)
            clear c0 c1 c2 c3 c4 c5 c6 c7
            have ll := kl.kept (W' := V1.drewN nq) rfl
            have lw := kw.kept (W' := V1.drewN nq) rfl
            have lB := pw_below_drewN kB nq
            clear kl kw kB
            generalize V1.drewN nq = V2 at ll lw lB ⊢
            generalize hY : (Go.bits .xor .u32 (Go.bits .xor .u32 (rotr x0 2) (rotr x0 13)) (rotr x0 22) + Go.bits .xor .u32 (Go.bits .xor .u32 (Go.bits .and .u32 x0 x1) (Go.bits .and .u32 x0 x2)) (Go.bits .and .u32 x1 x2)) % 4294967296 = Y
            have hXr : (x7 + big1 x4 + ch x4 x5 x6 + wrd K t + wrd ws t) % 4294967296 = X := by
              rw [← HX.out, Int.emod_add_emod]
              rfl
            have hnew : rounds K F h (t + 1) = [(X + Y) % 4294967296, x0, x1, x2, (x3 + X) % 4294967296, x4, x5, x6] := by
              rw [rounds, Hq.out, Hws.out, ← hXr, ← hY]
              rfl
            have Hnew := Lib.hid hnew
            clear hY hXr hnew
            have c0 : _ = some (Value.int .u32 x0) := ll.cell 0 (by show 0 < 8; omega)
            have c1 : _ = some (Value.int .u32 x1) := ll.cell 1 (by show 1 < 8; omega)
            have c2 : _ = some (Value.int .u32 x2) := ll.cell 2 (by show 2 < 8; omega)
            have c3 : _ = some (Value.int .u32 x3) := ll.cell 3 (by show 3 < 8; omega)
            have c4 : _ = some (Value.int .u32 x4) := ll.cell 4 (by show 4 < 8; omega)
            have c5 : _ = some (Value.int .u32 x5) := ll.cell 5 (by show 5 < 8; omega)
            have c6 : _ = some (Value.int .u32 x6) := ll.cell 6 (by show 6 < 8; omega)
            have c7 : _ = some (Value.int .u32 x7) := ll.cell 7 (by show 7 < 8; omega)
            go_still_tail 26, (by kernel_rfl)
            go_wp2
            have hV2 : w.heap.size ≤ V2.heap.size := lB.size
            refine ⟨⟨t + 1, V2.heap.size, 8, rfl, by go_num, by omega, ?_, by omega, (lw.alloc _).kept rfl, (lB.alloc (by omega) _).drew⟩, by simp [intOf]; omega⟩
            rw [Hnew.out]
            exact ⟨_, World.alloc_heap_new V2 _, [], fun _ => rfl, rfl⟩
    · clear hR hG
      have hlt : t < 64 := by omega
      have hltd : decide ((t : Int) < 64) = true := decide_eq_true (by omega)
      have ht0 : (0 : Int) ≤ (t : Int) := by omega
      have hlen := sched_len F t
      by_cases h16 : t < 16
      · have h16d : decide ((t : Int) < 16) = true := decide_eq_true (by omega)
        obtain ⟨a, ha⟩ : ∃ a : Nat, 4 * t = a := ⟨_, rfl⟩
        have hw0 : IntKind.i64.wrap (4 * (t : Int)) = (a : Int) := by rw [i64_w]; unfold wrap64; omega
        have hw1 : IntKind.i64.wrap ((a : Int) + 1) = (a : Int) + 1 := by rw [i64_w]; unfold wrap64; omega
        have hw2 : IntKind.i64.wrap ((a : Int) + 2) = (a : Int) + 2 := by rw [i64_w]; unfold wrap64; omega
        have hw3 : IntKind.i64.wrap ((a : Int) + 3) = (a : Int) + 3 := by rw [i64_w]; unfold wrap64; omega
        have p0 := eq_true (show (0 : Int) ≤ (a : Int) by omega)
        have p1 := eq_true (show (0 : Int) ≤ (a : Int) + 1 by omega)
        have p2 := eq_true (show (0 : Int) ≤ (a : Int) + 2 by omega)
        have p3 := eq_true (show (0 : Int) ≤ (a : Int) + 3 by omega)
        have q0 := eq_true (show (a : Int) < (s.size : Int) by omega)
        have q1 := eq_true (show (a : Int) + 1 < (s.size : Int) by omega)
        have q2 := eq_true (show (a : Int) + 2 < (s.size : Int) by omega)
        have q3 := eq_true (show (a : Int) + 3 < (s.size : Int) by omega)
        have y0 : ∀ h : a < s.size, ((s[a]'h).toNat : Int) = bt s (a : Int) := fun h => bt_at s (a : Int) h
        have y1 : ∀ h : a + 1 < s.size, ((s[a + 1]'h).toNat : Int) = bt s ((a : Int) + 1) := fun h => by
          have e : ((a : Int) + 1).toNat = a + 1 := by omega
          have z := bt_at s ((a : Int) + 1)
          simp only [e] at z
          exact z h
        have x0 := bt_at s (a : Int)
        have x1 := bt_at s ((a : Int) + 1)
        have x2 := bt_at s ((a : Int) + 2)
        have x3 := bt_at s ((a : Int) + 3)
        have hv : (Go.bits .or .u32 (Go.bits .or .u32 (Go.bits .or .u32 (shl .u32 (bt s (a : Int)) 24) (shl .u32 (bt s ((a : Int) + 1)) 16)) (shl .u32 (bt s ((a : Int) + 2)) 8)) (bt s ((a : Int) + 3))) = word F (sched F t) t := by
          rw [word, if_pos h16, be, ha, ← HF.out]
          rfl
        have Hword := Lib.hid hv
        have Hs := Lib.hid hs
        have Ha := Lib.hid ha
        clear hs ha hv
        go_upto_region 6 with (fail)
        refine start_ (n := 33) (S := fun w' => True ∧ True) (ds := [30, 31]) #[false, false, false, false, false, false, false, false, false, false, false, false, false, false, false, false, false, false, false, false, false, false, false, false, false, false, false, false, false, false, false, false, false] (by kernel_rfl) rfl rfl ⟨trivial, trivial⟩ (fun hHeld => ?_)
        have hB2 := hB.drew
        have hO2 := Kd.R_drew hO
        generalize wr.drew = W0 at hB2 hO2 ⊢
        clear hO hB
        refine pure_ (i := 0) (N := some 22) (v := ?_) (a' := ?_) #[true, false, false, false, false, false, false, false, false, false, false, false, false, false, false, false, false, false, false, false, false, false, false, false, false, false, false, false, false, false, false, false, false] rfl rfl (by kernel_rfl) (fun _ _ _ h => h) (Or.inl ⟨by rfl, ?_⟩) ?_ ?_
        rotate_left
        · intro w'
          go_simp
          try (with_reducible rfl)
        rotate_left
        · simp only [Act.put, List.setIfInBounds_toArray, List.set_cons_zero, List.set_cons_succ, i64_w, i32_w]
          rfl
        refine pure_ (i := 1) (N := some 23) (v := ?_) (a' := ?_) #[true, true, false, false, false, false, false, false, false, false, false, false, false, false, false, false, false, false, false, false, false, false, false, false, false, false, false, false, false, false, false, false, false] rfl rfl (by kernel_rfl) (fun _ _ _ h => h) (Or.inl ⟨by rfl, ?_⟩) ?_ ?_
        rotate_left
        · intro w'
          go_simp
          try (with_reducible rfl)
        rotate_left
        · simp only [Act.put, List.setIfInBounds_toArray, List.set_cons_zero, List.set_cons_succ, i64_w, i32_w]
          rfl
        refine pure_ (i := 2) (N := some 24) (v := ?_) (a' := ?_) #[true, true, true, false, false, false, false, false, false, false, false, false, false, false, false, false, false, false, false, false, false, false, false, false, false, false, false, false, false, false, false, false, false] rfl rfl (by kernel_rfl) (fun _ _ _ h => h) (Or.inl ⟨by rfl, ?_⟩) ?_ ?_
        rotate_left
        · intro w'
          go_simp
          try (with_reducible rfl)
        rotate_left
        · simp only [Act.put, List.setIfInBounds_toArray, List.set_cons_zero, List.set_cons_succ, i64_w, i32_w]
          rfl
        refine pure_ (i := 3) (N := some 25) (v := ?_) (a' := ?_) #[true, true, true, true, false, false, false, false, false, false, false, false, false, false, false, false, false, false, false, false, false, false, false, false, false, false, false, false, false, false, false, false, false] rfl rfl (by kernel_rfl) (fun _ _ _ h => h) (Or.inl ⟨by rfl, ?_⟩) ?_ ?_
        rotate_left
        · intro w'
          go_simp
          try (with_reducible rfl)
        rotate_left
        · simp only [Act.put, List.setIfInBounds_toArray, List.set_cons_zero, List.set_cons_succ, i64_w, i32_w]
          rfl
        refine pure_ (i := 4) (N := some 26) (v := ?_) (a' := ?_) #[true, true, true, true, true, false, false, false, false, false, false, false, false, false, false, false, false, false, false, false, false, false, false, false, false, false, false, false, false, false, false, false, false] rfl rfl (by kernel_rfl) (fun _ _ _ h => h) (Or.inl ⟨by rfl, ?_⟩) ?_ ?_
        rotate_left
        · intro w'
          go_simp
          try (with_reducible rfl)
        rotate_left
        · simp only [Act.put, List.setIfInBounds_toArray, List.set_cons_zero, List.set_cons_succ, i64_w, i32_w]
          rfl
        refine pure_ (i := 5) (N := some 27) (v := ?_) (a' := ?_) #[true, true, true, true, true, true, false, false, false, false, false, false, false, false, false, false, false, false, false, false, false, false, false, false, false, false, false, false, false, false, false, false, false] rfl rfl (by kernel_rfl) (fun _ _ _ h => h) (Or.inl ⟨by rfl, ?_⟩) ?_ ?_
        rotate_left
        · intro w'
          go_simp
          try (with_reducible rfl)
        rotate_left
        · simp only [Act.put, List.setIfInBounds_toArray, List.set_cons_zero, List.set_cons_succ, i64_w, i32_w]
          rfl
        refine pure_ (i := 6) (N := some 28) (v := ?_) (a' := ?_) #[true, true, true, true, true, true, true, false, false, false, false, false, false, false, false, false, false, false, false, false, false, false, false, false, false, false, false, false, false, false, false, false, false] rfl rfl (by kernel_rfl) (fun _ _ _ h => h) (Or.inl ⟨by rfl, ?_⟩) ?_ ?_
        rotate_left
        · intro w'
          go_simp
          try (with_reducible rfl)
        rotate_left
        · simp only [Act.put, List.setIfInBounds_toArray, List.set_cons_zero, List.set_cons_succ, i64_w, i32_w]
          rfl
        refine pure_ (i := 7) (N := some 29) (v := ?_) (a' := ?_) #[true, true, true, true, true, true, true, true, false, false, false, false, false, false, false, false, false, false, false, false, false, false, false, false, false, false, false, false, false, false, false, false, false] rfl rfl (by kernel_rfl) (fun _ _ _ h => h) (Or.inl ⟨by rfl, ?_⟩) ?_ ?_
        rotate_left
        · intro w'
          go_simp
          try (with_reducible rfl)
        rotate_left
        · simp only [Act.put, List.setIfInBounds_toArray, List.set_cons_zero, List.set_cons_succ, i64_w, i32_w]
          rfl
        refine pure_ (i := 8) (N := some 30) (v := ?_) (a' := ?_) #[true, true, true, true, true, true, true, true, true, false, false, false, false, false, false, false, false, false, false, false, false, false, false, false, false, false, false, false, false, false, false, false, false] rfl rfl (by kernel_rfl) (fun _ _ _ h => h) (Or.inl ⟨by rfl, ?_⟩) ?_ ?_
        rotate_left
        · intro w'
          go_simp
          try (with_reducible rfl)
        rotate_left
        · simp only [Act.put, List.setIfInBounds_toArray, List.set_cons_zero, List.set_cons_succ, i64_w, i32_w]
          rfl
        refine pure_ (i := 9) (N := some 31) (v := ?_) (a' := ?_) #[true, true, true, true, true, true, true, true, true, true, false, false, false, false, false, false, false, false, false, false, false, false, false, false, false, false, false, false, false, false, false, false, false] rfl rfl (by kernel_rfl) (fun _ _ _ h => h) (Or.inl ⟨by rfl, ?_⟩) ?_ ?_
        rotate_left
        · intro w'
          go_simp
          try (with_reducible rfl)
        rotate_left
        · simp only [Act.put, List.setIfInBounds_toArray, List.set_cons_zero, List.set_cons_succ, i64_w, i32_w]
          rfl
        refine pure_ (i := 10) (N := some 32) (v := ?_) (a' := ?_) #[true, true, true, true, true, true, true, true, true, true, true, false, false, false, false, false, false, false, false, false, false, false, false, false, false, false, false, false, false, false, false, false, false] rfl rfl (by kernel_rfl) (fun _ _ _ h => h) (Or.inl ⟨by rfl, ?_⟩) ?_ ?_
        rotate_left
        · intro w'
          go_simp
          try (with_reducible rfl)
        rotate_left
        · simp only [Act.put, List.setIfInBounds_toArray, List.set_cons_zero, List.set_cons_succ, i64_w, i32_w]
          rfl
        refine pure_ (i := 11) (N := some 33) (v := ?_) (a' := ?_) #[true, true, true, true, true, true, true, true, true, true, true, true, false, false, false, false, false, false, false, false, false, false, false, false, false, false, false, false, false, false, false, false, false] rfl rfl (by kernel_rfl) (fun _ _ _ h => h) (Or.inl ⟨by rfl, ?_⟩) ?_ ?_
        rotate_left
        · intro w'
          go_simp
          try (with_reducible rfl)
        rotate_left
        · simp only [Act.put, List.setIfInBounds_toArray, List.set_cons_zero, List.set_cons_succ, i64_w, i32_w]
          rfl
        refine pure_ (i := 12) (N := some 34) (v := ?_) (a' := ?_) #[true, true, true, true, true, true, true, true, true, true, true, true, true, false, false, false, false, false, false, false, false, false, false, false, false, false, false, false, false, false, false, false, false] rfl rfl (by kernel_rfl) (fun _ _ _ h => h) (Or.inl ⟨by rfl, ?_⟩) ?_ ?_
        rotate_left
        · intro w'
          go_simp
          try (with_reducible rfl)
        rotate_left
        · simp only [Act.put, List.setIfInBounds_toArray, List.set_cons_zero, List.set_cons_succ, i64_w, i32_w]
          rfl
        refine pure_ (i := 13) (N := some 35) (v := ?_) (a' := ?_) #[true, true, true, true, true, true, true, true, true, true, true, true, true, true, false, false, false, false, false, false, false, false, false, false, false, false, false, false, false, false, false, false, false] rfl rfl (by kernel_rfl) (fun _ _ _ h => h) (Or.inl ⟨by rfl, ?_⟩) ?_ ?_
        rotate_left
        · intro w'
          go_simp
          try (with_reducible rfl)
        rotate_left
        · simp only [Act.put, List.setIfInBounds_toArray, List.set_cons_zero, List.set_cons_succ, i64_w, i32_w]
          rfl
        refine pure_ (i := 14) (N := some 36) (v := ?_) (a' := ?_) #[true, true, true, true, true, true, true, true, true, true, true, true, true, true, true, false, false, false, false, false, false, false, false, false, false, false, false, false, false, false, false, false, false] rfl rfl (by kernel_rfl) (fun _ _ _ h => h) (Or.inl ⟨by rfl, ?_⟩) ?_ ?_
        rotate_left
        · intro w'
          go_simp
          try (with_reducible rfl)
        rotate_left
        · simp only [Act.put, List.setIfInBounds_toArray, List.set_cons_zero, List.set_cons_succ, i64_w, i32_w]
          rfl
        refine pure_ (i := 15) (N := some 37) (v := ?_) (a' := ?_) #[true, true, true, true, true, true, true, true, true, true, true, true, true, true, true, true, false, false, false, false, false, false, false, false, false, false, false, false, false, false, false, false, false] rfl rfl (by kernel_rfl) (fun _ _ _ h => h) (Or.inl ⟨by rfl, ?_⟩) ?_ ?_
        rotate_left
        · intro w'
          go_simp
          try (with_reducible rfl)
        rotate_left
        · simp only [Act.put, List.setIfInBounds_toArray, List.set_cons_zero, List.set_cons_succ, i64_w, i32_w]
          rfl
        refine pure_ (i := 16) (N := some 38) (v := ?_) (a' := ?_) #[true, true, true, true, true, true, true, true, true, true, true, true, true, true, true, true, true, false, false, false, false, false, false, false, false, false, false, false, false, false, false, false, false] rfl rfl (by kernel_rfl) (fun _ _ _ h => h) (Or.inl ⟨by rfl, ?_⟩) ?_ ?_
        rotate_left
        · intro w'
          go_simp
          try (with_reducible rfl)
        rotate_left
        · simp only [Act.put, List.setIfInBounds_toArray, List.set_cons_zero, List.set_cons_succ, i64_w, i32_w]
          rfl
        refine pure_ (i := 17) (N := some 39) (v := ?_) (a' := ?_) #[true, true, true, true, true, true, true, true, true, true, true, true, true, true, true, true, true, true, false, false, false, false, false, false, false, false, false, false, false, false, false, false, false] rfl rfl (by kernel_rfl) (fun _ _ _ h => h) (Or.inl ⟨by rfl, ?_⟩) ?_ ?_
        rotate_left
        · intro w'
          go_simp
          try (with_reducible rfl)
        rotate_left
        · simp only [Act.put, List.setIfInBounds_toArray, List.set_cons_zero, List.set_cons_succ, i64_w, i32_w]
          rfl
        refine pure_ (i := 18) (N := some 40) (v := ?_) (a' := ?_) #[true, true, true, true, true, true, true, true, true, true, true, true, true, true, true, true, true, true, true, false, false, false, false, false, false, false, false, false, false, false, false, false, false] rfl rfl (by kernel_rfl) (fun _ _ _ h => h) (Or.inl ⟨by rfl, ?_⟩) ?_ ?_
        rotate_left
        · intro w'
          go_simp
          try (with_reducible rfl)
        rotate_left
        · simp only [Act.put, List.setIfInBounds_toArray, List.set_cons_zero, List.set_cons_succ, i64_w, i32_w]
          rfl
        refine pure_ (i := 19) (N := some 41) (v := ?_) (a' := ?_) #[true, true, true, true, true, true, true, true, true, true, true, true, true, true, true, true, true, true, true, true, false, false, false, false, false, false, false, false, false, false, false, false, false] rfl rfl (by kernel_rfl) (fun _ _ _ h => h) (Or.inl ⟨by rfl, ?_⟩) ?_ ?_
        rotate_left
        · intro w'
          go_simp
          try (with_reducible rfl)
        rotate_left
        · simp only [Act.put, List.setIfInBounds_toArray, List.set_cons_zero, List.set_cons_succ, i64_w, i32_w]
          rfl
        refine pure_ (i := 20) (N := some 42) (v := ?_) (a' := ?_) #[true, true, true, true, true, true, true, true, true, true, true, true, true, true, true, true, true, true, true, true, true, false, false, false, false, false, false, false, false, false, false, false, false] rfl rfl (by kernel_rfl) (fun _ _ _ h => h) (Or.inl ⟨by rfl, ?_⟩) ?_ ?_
        rotate_left
        · intro w'
          go_simp
          try (with_reducible rfl)
        rotate_left
        · simp only [Act.put, List.setIfInBounds_toArray, List.set_cons_zero, List.set_cons_succ, i64_w, i32_w]
          rfl
        refine pure_ (i := 21) (N := some 43) (v := ?_) (a' := ?_) #[true, true, true, true, true, true, true, true, true, true, true, true, true, true, true, true, true, true, true, true, true, true, false, false, false, false, false, false, false, false, false, false, false] rfl rfl (by kernel_rfl) (fun _ _ _ h => h) (Or.inl ⟨by rfl, ?_⟩) ?_ ?_
        rotate_left
        · intro w'
          go_simp
          try (with_reducible rfl)
        rotate_left
        · simp only [Act.put, List.setIfInBounds_toArray, List.set_cons_zero, List.set_cons_succ, i64_w, i32_w]
          rfl
        refine pure_ (i := 22) (N := some 44) (v := ?_) (a' := ?_) #[true, true, true, true, true, true, true, true, true, true, true, true, true, true, true, true, true, true, true, true, true, true, true, false, false, false, false, false, false, false, false, false, false] rfl rfl (by kernel_rfl) (fun _ _ _ h => h) (Or.inl ⟨by rfl, ?_⟩) ?_ ?_
        rotate_left
        · intro w'
          go_simp
          try (with_reducible rfl)
        rotate_left
        · simp only [Act.put, List.setIfInBounds_toArray, List.set_cons_zero, List.set_cons_succ, i64_w, i32_w]
          rfl
        refine pure_ (i := 23) (N := some 45) (v := ?_) (a' := ?_) #[true, true, true, true, true, true, true, true, true, true, true, true, true, true, true, true, true, true, true, true, true, true, true, true, false, false, false, false, false, false, false, false, false] rfl rfl (by kernel_rfl) (fun _ _ _ h => h) (Or.inl ⟨by rfl, ?_⟩) ?_ ?_
        rotate_left
        · intro w'
          go_simp
          try (with_reducible rfl)
        rotate_left
        · simp only [Act.put, List.setIfInBounds_toArray, List.set_cons_zero, List.set_cons_succ, i64_w, i32_w]
          rfl
        refine pure_ (i := 24) (N := some 46) (v := ?_) (a' := ?_) #[true, true, true, true, true, true, true, true, true, true, true, true, true, true, true, true, true, true, true, true, true, true, true, true, true, false, false, false, false, false, false, false, false] rfl rfl (by kernel_rfl) (fun _ _ _ h => h) (Or.inl ⟨by rfl, ?_⟩) ?_ ?_
        rotate_left
        · intro w'
          go_simp
          try (with_reducible rfl)
        rotate_left
        · simp only [Act.put, List.setIfInBounds_toArray, List.set_cons_zero, List.set_cons_succ, i64_w, i32_w]
          rfl
        refine pure_ (i := 25) (N := some 47) (v := ?_) (a' := ?_) #[true, true, true, true, true, true, true, true, true, true, true, true, true, true, true, true, true, true, true, true, true, true, true, true, true, true, false, false, false, false, false, false, false] rfl rfl (by kernel_rfl) (fun _ _ _ h => h) (Or.inl ⟨by rfl, ?_⟩) ?_ ?_
        rotate_left
        · intro w'
          go_simp
          try (with_reducible rfl)
        rotate_left
        · simp only [Act.put, List.setIfInBounds_toArray, List.set_cons_zero, List.set_cons_succ, i64_w, i32_w]
          rfl
        refine pure_ (i := 26) (N := some 48) (v := ?_) (a' := ?_) #[true, true, true, true, true, true, true, true, true, true, true, true, true, true, true, true, true, true, true, true, true, true, true, true, true, true, true, false, false, false, false, false, false] rfl rfl (by kernel_rfl) (fun _ _ _ h => h) (Or.inl ⟨by rfl, ?_⟩) ?_ ?_
        rotate_left
        · intro w'
          go_simp
          try (with_reducible rfl)
        rotate_left
        · simp only [Act.put, List.setIfInBounds_toArray, List.set_cons_zero, List.set_cons_succ, i64_w, i32_w]
          rfl
        refine pure_ (i := 27) (N := some 49) (v := ?_) (a' := ?_) #[true, true, true, true, true, true, true, true, true, true, true, true, true, true, true, true, true, true, true, true, true, true, true, true, true, true, true, true, false, false, false, false, false] rfl rfl (by kernel_rfl) (fun _ _ _ h => h) (Or.inl ⟨by rfl, ?_⟩) ?_ ?_
        rotate_left
        · intro w'
          go_simp
          try (with_reducible rfl)
        rotate_left
        · simp only [Act.put, List.setIfInBounds_toArray, List.set_cons_zero, List.set_cons_succ, i64_w, i32_w]
          rfl
        refine pure_ (i := 28) (N := some 50) (v := ?_) (a' := ?_) #[true, true, true, true, true, true, true, true, true, true, true, true, true, true, true, true, true, true, true, true, true, true, true, true, true, true, true, true, true, false, false, false, false] rfl rfl (by kernel_rfl) (fun _ _ _ h => h) (Or.inl ⟨by rfl, ?_⟩) ?_ ?_
        rotate_left
        · intro w'
          go_simp
          try (with_reducible rfl)
        rotate_left
        · simp only [Act.put, List.setIfInBounds_toArray, List.set_cons_zero, List.set_cons_succ, i64_w, i32_w]
          rfl
        refine pure_ (i := 29) (N := some 51) (v := ?_) (a' := ?_) #[true, true, true, true, true, true, true, true, true, true, true, true, true, true, true, true, true, true, true, true, true, true, true, true, true, true, true, true, true, true, false, false, false] rfl rfl (by kernel_rfl) (fun _ _ _ h => h) (Or.inl ⟨by rfl, ?_⟩) ?_ ?_
        rotate_left
        · intro w'
          go_simp
          try (with_reducible rfl)
        rotate_left
        · simp only [Act.put, List.setIfInBounds_toArray, List.set_cons_zero, List.set_cons_succ, i64_w, i32_w]
          rfl
        refine last_ (i := 30) (N := some 52) #[true, true, true, true, true, true, true, true, true, true, true, true, true, true, true, true, true, true, true, true, true, true, true, true, true, true, true, true, true, true, true, false, false] rfl rfl (by kernel_rfl) (by decide) (fun K hK => ?_)
        refine value_step (w1 := W0.alloc (.cells #[.int .u32 (word F (sched F t) t)] 22 (0, 0))) (v := .slice (some ⟨W0.heap.size, 0, none⟩) 1 1) (by rfl) ?hr52 ?_
        case hr52 =>
          go_simp
          rw [← Hword.out]
          try simp only [wu s]
          rfl
        refine hK.out _ _ ?_
        clear hK K
        have hBa := hB2.alloc (by have := hB2.size; omega) (.cells #[.int .u32 (word F (sched F t) t)] 22 (0, 0))
        have hBs2 := hB2.size
        refine last_ (i := 31) (N := some 53) #[true, true, true, true, true, true, true, true, true, true, true, true, true, true, true, true, true, true, true, true, true, true, true, true, true, true, true, true, true, true, true, true, false] rfl rfl (by kernel_rfl) (by decide) (fun K hK => ?_)
        refine Kd.R_append_rows_step (Kd.int .u32) (Rr := fun x cs => cs = [.int .u32 x]) (w0 := w) N (by rfl) (.tmp 22) (.tmp 52) 76 22 (.int .u32 0) 4 (by rfl) Tryd.underlying76 info22 rfl (by decide) (by decide) u5 (sched F t) [word F (sched F t) t] (some ⟨W0.heap.size, 0, none⟩) 1 1 (fun _ => True) (fun _ => False) (by rfl) (by rfl) (Kd.R_alloc hO2 _) (reads1u _ _) (fun _ _ h => h) (fun _ h => h.elim) (fun _ _ => trivial) hBa (by rw [World.size_alloc]; omega) (by rw [sched_len]; omega) ?_
        intro v3 w3 ho3 hb3 hgr3 hat3
        refine hK.out _ _ ?_
        clear hK K
        refine pure_ (i := 32) (N := some 5) (v := ?_) (a' := ?_) #[true, true, true, true, true, true, true, true, true, true, true, true, true, true, true, true, true, true, true, true, true, true, true, true, true, true, true, true, true, true, true, true, true] rfl rfl (by kernel_rfl) (fun _ _ _ h => h) (Or.inl ⟨by rfl, ?_⟩) ?_ ?_
        rotate_left
        · intro w'
          go_simp
          try (with_reducible rfl)
        rotate_left
        · simp only [Act.put, List.setIfInBounds_toArray, List.set_cons_zero, List.set_cons_succ, List.getElem_toArray, List.getElem_cons_succ, List.getElem_cons_zero, i64_w, i32_w]
          rfl
        refine done_ (by kernel_rfl) ?_
        have ho4 : Kd.R (Kd.int .u32) 22 w3 N (fun _ => True) v3 (sched F (t + 1)) := ho3
        clear hHeld hB2 hO2 hBa hgr3 hat3 ho3 Hword
        go_wp2
        exact ⟨⟨t + 1, by go_num, by omega, ho4, hb3⟩, by simp [intOf]; omega⟩
      · have h16d : decide ((t : Int) < 16) = false := decide_eq_false (by omega)
        obtain ⟨g, cap, rfl, hRw, hgN⟩ := R_rowN hO hlen (by omega)
        obtain ⟨i15, h15⟩ : ∃ i : Nat, t - 15 = i := ⟨_, rfl⟩
        obtain ⟨i2, h2⟩ : ∃ i : Nat, t - 2 = i := ⟨_, rfl⟩
        obtain ⟨i16, hi16⟩ : ∃ i : Nat, t - 16 = i := ⟨_, rfl⟩
        obtain ⟨i7, h7⟩ : ∃ i : Nat, t - 7 = i := ⟨_, rfl⟩
        have hv : (((at_ (sched F t) i16 + sg0 (at_ (sched F t) i15)) % 4294967296 + at_ (sched F t) i7) % 4294967296 + sg1 (at_ (sched F t) i2)) % 4294967296 = word F (sched F t) t := by
          rw [word, if_neg h16, h15, h2, hi16, h7]
          generalize at_ (sched F t) i16 = a
          generalize at_ (sched F t) i7 = b
          generalize sg0 (at_ (sched F t) i15) = c
          generalize sg1 (at_ (sched F t) i2) = d
          omega
        have hw15 : IntKind.i64.wrap ((t : Int) - 15) = (i15 : Int) := by rw [i64_w]; unfold wrap64; omega
        have p15 := eq_true (show (0 : Int) ≤ (i15 : Int) by omega)
        have q15 := eq_true (show (i15 : Int) < (t : Int) by omega)
        have hw2 : IntKind.i64.wrap ((t : Int) - 2) = (i2 : Int) := by rw [i64_w]; unfold wrap64; omega
        have p2 := eq_true (show (0 : Int) ≤ (i2 : Int) by omega)
        have q2 := eq_true (show (i2 : Int) < (t : Int) by omega)
        have hw16 : IntKind.i64.wrap ((t : Int) - 16) = (i16 : Int) := by rw [i64_w]; unfold wrap64; omega
        have p16 := eq_true (show (0 : Int) ≤ (i16 : Int) by omega)
        have q16 := eq_true (show (i16 : Int) < (t : Int) by omega)
        have hw7 : IntKind.i64.wrap ((t : Int) - 7) = (i7 : Int) := by rw [i64_w]; unfold wrap64; omega
        have p7 := eq_true (show (0 : Int) ≤ (i7 : Int) by omega)
        have q7 := eq_true (show (i7 : Int) < (t : Int) by omega)
        have c15 : _ = some (Value.int .u32 (at_ (sched F t) i15)) := hRw.cell i15 (by rw [sched_len]; omega)
        have c2 : _ = some (Value.int .u32 (at_ (sched F t) i2)) := hRw.cell i2 (by rw [sched_len]; omega)
        have Hword := Lib.hid hv
        clear hv
        go_upto_region 9 with (fail)
        clear c15 c2
        refine start_ (n := 33) (S := fun w' => Row w' g 22 (sched F t) ∧ True) (ds := [30, 31]) #[false, false, false, false, false, false, false, false, false, false, false, false, false, false, false, false, false, false, false, false, false, false, false, false, false, false, false, false, false, false, false, false, false] (by kernel_rfl) rfl rfl ⟨hRw.kept rfl, trivial⟩ (fun hHeld => ?_)
        have hB2 := hB.drew
        have hO2 := Kd.R_drew hO
        generalize wr.drew = W0 at hHeld hB2 hO2 ⊢
        clear hO hB hRw
        refine pure_ (i := 0) (N := some 64) (v := ?_) (a' := ?_) #[true, false, false, false, false, false, false, false, false, false, false, false, false, false, false, false, false, false, false, false, false, false, false, false, false, false, false, false, false, false, false, false, false] rfl rfl (by kernel_rfl) (fun _ _ _ h => h) (Or.inl ⟨by rfl, ?_⟩) ?_ ?_
        rotate_left
        · intro w'
          go_simp
          try (with_reducible rfl)
        rotate_left
        · simp only [Act.put, List.setIfInBounds_toArray, List.set_cons_zero, List.set_cons_succ, i64_w, i32_w]
          rfl
        refine pure_ (i := 1) (N := some 65) (v := ?_) (a' := ?_) #[true, true, false, false, false, false, false, false, false, false, false, false, false, false, false, false, false, false, false, false, false, false, false, false, false, false, false, false, false, false, false, false, false] rfl rfl (by kernel_rfl) (fun _ _ _ h => h) (Or.inl ⟨by rfl, ?_⟩) ?_ ?_
        rotate_left
        · intro w'
          go_simp
          try (with_reducible rfl)
        rotate_left
        · simp only [Act.put, List.setIfInBounds_toArray, List.set_cons_zero, List.set_cons_succ, i64_w, i32_w]
          rfl
        refine pure_ (i := 2) (N := some 66) (v := ?_) (a' := ?_) #[true, true, true, false, false, false, false, false, false, false, false, false, false, false, false, false, false, false, false, false, false, false, false, false, false, false, false, false, false, false, false, false, false] rfl rfl (by kernel_rfl) (fun _ _ _ h => h) (Or.inl ⟨by rfl, ?_⟩) ?_ ?_
        rotate_left
        · intro w'
          go_simp
          try (with_reducible rfl)
        rotate_left
        · simp only [Act.put, List.setIfInBounds_toArray, List.set_cons_zero, List.set_cons_succ, i64_w, i32_w]
          rfl
        refine pure_ (i := 3) (N := some 67) (v := ?_) (a' := ?_) #[true, true, true, true, false, false, false, false, false, false, false, false, false, false, false, false, false, false, false, false, false, false, false, false, false, false, false, false, false, false, false, false, false] rfl rfl (by kernel_rfl) (fun _ _ _ h => h) (Or.inl ⟨by rfl, ?_⟩) ?_ ?_
        rotate_left
        · intro w'
          go_simp
          try (with_reducible rfl)
        rotate_left
        · simp only [Act.put, List.setIfInBounds_toArray, List.set_cons_zero, List.set_cons_succ, i64_w, i32_w]
          rfl
        refine pure_ (i := 4) (N := some 68) (v := ?_) (a' := ?_) #[true, true, true, true, true, false, false, false, false, false, false, false, false, false, false, false, false, false, false, false, false, false, false, false, false, false, false, false, false, false, false, false, false] rfl rfl (by kernel_rfl) (fun _ _ _ h => h) (Or.inl ⟨by rfl, ?_⟩) ?_ ?_
        rotate_left
        · intro w'
          go_simp
          try (with_reducible rfl)
        rotate_left
        · simp only [Act.put, List.setIfInBounds_toArray, List.set_cons_zero, List.set_cons_succ, i64_w, i32_w]
          rfl
        refine take_ (i := 5) (N := some 69) (v := ?_) (a' := ?_) #[true, true, true, true, true, true, false, false, false, false, false, false, false, false, false, false, false, false, false, false, false, false, false, false, false, false, false, false, false, false, false, false, false] rfl rfl (by kernel_rfl) (fun _ _ _ h => h) (Or.inl ⟨by rfl, ?_⟩) hHeld ?_ ?_
        rotate_left
        · intro w' hS_
          have r16 : _ = some (Value.int .u32 (at_ (sched F t) i16)) := hS_.1.cell i16 (by rw [sched_len]; omega); have r7 : _ = some (Value.int .u32 (at_ (sched F t) i7)) := hS_.1.cell i7 (by rw [sched_len]; omega)
          go_simp
          try (with_reducible rfl)
        rotate_left
        · simp only [Act.put, List.setIfInBounds_toArray, List.set_cons_zero, List.set_cons_succ, i64_w, i32_w]
          rfl
        refine pure_ (i := 6) (N := some 70) (v := ?_) (a' := ?_) #[true, true, true, true, true, true, true, false, false, false, false, false, false, false, false, false, false, false, false, false, false, false, false, false, false, false, false, false, false, false, false, false, false] rfl rfl (by kernel_rfl) (fun _ _ _ h => h) (Or.inl ⟨by rfl, ?_⟩) ?_ ?_
        rotate_left
        · intro w'
          go_simp
          try (with_reducible rfl)
        rotate_left
        · simp only [Act.put, List.setIfInBounds_toArray, List.set_cons_zero, List.set_cons_succ, i64_w, i32_w]
          rfl
        refine pure_ (i := 8) (N := some 72) (v := ?_) (a' := ?_) #[true, true, true, true, true, true, true, false, true, false, false, false, false, false, false, false, false, false, false, false, false, false, false, false, false, false, false, false, false, false, false, false, false] rfl rfl (by kernel_rfl) (fun _ _ _ h => h) (Or.inl ⟨by rfl, ?_⟩) ?_ ?_
        rotate_left
        · intro w'
          go_simp
          try (with_reducible rfl)
        rotate_left
        · simp only [Act.put, List.setIfInBounds_toArray, List.set_cons_zero, List.set_cons_succ, i64_w, i32_w]
          rfl
        refine pure_ (i := 11) (N := some 75) (v := ?_) (a' := ?_) #[true, true, true, true, true, true, true, false, true, false, false, true, false, false, false, false, false, false, false, false, false, false, false, false, false, false, false, false, false, false, false, false, false] rfl rfl (by kernel_rfl) (fun _ _ _ h => h) (Or.inl ⟨by rfl, ?_⟩) ?_ ?_
        rotate_left
        · intro w'
          go_simp
          try (with_reducible rfl)
        rotate_left
        · simp only [Act.put, List.setIfInBounds_toArray, List.set_cons_zero, List.set_cons_succ, i64_w, i32_w]
          rfl
        refine pure_ (i := 12) (N := some 76) (v := ?_) (a' := ?_) #[true, true, true, true, true, true, true, false, true, false, false, true, true, false, false, false, false, false, false, false, false, false, false, false, false, false, false, false, false, false, false, false, false] rfl rfl (by kernel_rfl) (fun _ _ _ h => h) (Or.inl ⟨by rfl, ?_⟩) ?_ ?_
        rotate_left
        · intro w'
          go_simp
          try (with_reducible rfl)
        rotate_left
        · simp only [Act.put, List.setIfInBounds_toArray, List.set_cons_zero, List.set_cons_succ, i64_w, i32_w]
          rfl
        refine pure_ (i := 15) (N := some 79) (v := ?_) (a' := ?_) #[true, true, true, true, true, true, true, false, true, false, false, true, true, false, false, true, false, false, false, false, false, false, false, false, false, false, false, false, false, false, false, false, false] rfl rfl (by kernel_rfl) (fun _ _ _ h => h) (Or.inl ⟨by rfl, ?_⟩) ?_ ?_
        rotate_left
        · intro w'
          go_simp
          try (with_reducible rfl)
        rotate_left
        · simp only [Act.put, List.setIfInBounds_toArray, List.set_cons_zero, List.set_cons_succ, i64_w, i32_w]
          rfl
        refine pure_ (i := 16) (N := some 80) (v := ?_) (a' := ?_) #[true, true, true, true, true, true, true, false, true, false, false, true, true, false, false, true, true, false, false, false, false, false, false, false, false, false, false, false, false, false, false, false, false] rfl rfl (by kernel_rfl) (fun _ _ _ h => h) (Or.inl ⟨by rfl, ?_⟩) ?_ ?_
        rotate_left
        · intro w'
          go_simp
          try (with_reducible rfl)
        rotate_left
        · simp only [Act.put, List.setIfInBounds_toArray, List.set_cons_zero, List.set_cons_succ, i64_w, i32_w]
          rfl
        refine pure_ (i := 17) (N := some 81) (v := ?_) (a' := ?_) #[true, true, true, true, true, true, true, false, true, false, false, true, true, false, false, true, true, true, false, false, false, false, false, false, false, false, false, false, false, false, false, false, false] rfl rfl (by kernel_rfl) (fun _ _ _ h => h) (Or.inl ⟨by rfl, ?_⟩) ?_ ?_
        rotate_left
        · intro w'
          go_simp
          try (with_reducible rfl)
        rotate_left
        · simp only [Act.put, List.setIfInBounds_toArray, List.set_cons_zero, List.set_cons_succ, i64_w, i32_w]
          rfl
        refine pure_ (i := 18) (N := some 82) (v := ?_) (a' := ?_) #[true, true, true, true, true, true, true, false, true, false, false, true, true, false, false, true, true, true, true, false, false, false, false, false, false, false, false, false, false, false, false, false, false] rfl rfl (by kernel_rfl) (fun _ _ _ h => h) (Or.inl ⟨by rfl, ?_⟩) ?_ ?_
        rotate_left
        · intro w'
          go_simp
          try (with_reducible rfl)
        rotate_left
        · simp only [Act.put, List.setIfInBounds_toArray, List.set_cons_zero, List.set_cons_succ, i64_w, i32_w]
          rfl
        refine take_ (i := 19) (N := some 83) (v := ?_) (a' := ?_) #[true, true, true, true, true, true, true, false, true, false, false, true, true, false, false, true, true, true, true, true, false, false, false, false, false, false, false, false, false, false, false, false, false] rfl rfl (by kernel_rfl) (fun _ _ _ h => h) (Or.inl ⟨by rfl, ?_⟩) hHeld ?_ ?_
        rotate_left
        · intro w' hS_
          have r16 : _ = some (Value.int .u32 (at_ (sched F t) i16)) := hS_.1.cell i16 (by rw [sched_len]; omega); have r7 : _ = some (Value.int .u32 (at_ (sched F t) i7)) := hS_.1.cell i7 (by rw [sched_len]; omega)
          go_simp
          try (with_reducible rfl)
        rotate_left
        · simp only [Act.put, List.setIfInBounds_toArray, List.set_cons_zero, List.set_cons_succ, i64_w, i32_w]
          rfl
        refine pure_ (i := 21) (N := some 85) (v := ?_) (a' := ?_) #[true, true, true, true, true, true, true, false, true, false, false, true, true, false, false, true, true, true, true, true, false, true, false, false, false, false, false, false, false, false, false, false, false] rfl rfl (by kernel_rfl) (fun _ _ _ h => h) (Or.inl ⟨by rfl, ?_⟩) ?_ ?_
        rotate_left
        · intro w'
          go_simp
          try (with_reducible rfl)
        rotate_left
        · simp only [Act.put, List.setIfInBounds_toArray, List.set_cons_zero, List.set_cons_succ, i64_w, i32_w]
          rfl
        refine pure_ (i := 23) (N := some 87) (v := ?_) (a' := ?_) #[true, true, true, true, true, true, true, false, true, false, false, true, true, false, false, true, true, true, true, true, false, true, false, true, false, false, false, false, false, false, false, false, false] rfl rfl (by kernel_rfl) (fun _ _ _ h => h) (Or.inl ⟨by rfl, ?_⟩) ?_ ?_
        rotate_left
        · intro w'
          go_simp
          try (with_reducible rfl)
        rotate_left
        · simp only [Act.put, List.setIfInBounds_toArray, List.set_cons_zero, List.set_cons_succ, i64_w, i32_w]
          rfl
        refine pure_ (i := 26) (N := some 90) (v := ?_) (a' := ?_) #[true, true, true, true, true, true, true, false, true, false, false, true, true, false, false, true, true, true, true, true, false, true, false, true, false, false, true, false, false, false, false, false, false] rfl rfl (by kernel_rfl) (fun _ _ _ h => h) (Or.inl ⟨by rfl, ?_⟩) ?_ ?_
        rotate_left
        · intro w'
          go_simp
          try (with_reducible rfl)
        rotate_left
        · simp only [Act.put, List.setIfInBounds_toArray, List.set_cons_zero, List.set_cons_succ, i64_w, i32_w]
          rfl
        refine pure_ (i := 27) (N := some 91) (v := ?_) (a' := ?_) #[true, true, true, true, true, true, true, false, true, false, false, true, true, false, false, true, true, true, true, true, false, true, false, true, false, false, true, true, false, false, false, false, false] rfl rfl (by kernel_rfl) (fun _ _ _ h => h) (Or.inl ⟨by rfl, ?_⟩) ?_ ?_
        rotate_left
        · intro w'
          go_simp
          try (with_reducible rfl)
        rotate_left
        · simp only [Act.put, List.setIfInBounds_toArray, List.set_cons_zero, List.set_cons_succ, i64_w, i32_w]
          rfl
        refine one_ (i := 7) (N := some 71) #[true, true, true, true, true, true, true, true, true, false, false, true, true, false, false, true, true, true, true, true, false, true, false, true, false, false, true, true, false, false, false, false, false] rfl rfl (by kernel_rfl) (by decide) (fun K hK => ?_)
        refine goes_ Tryd.func51 (by kernel_rfl) rfl #[.int .u32 (at_ (sched F t) i15), .int .i64 (7 : Nat)] (by rfl) rfl rfl (by (try simp only [List.map_toArray, List.map_cons, List.map_nil]); first | done | rfl) ?_
        refine (turned_calls (at_ (sched F t) i15) 7 (by decide) _).mono ?_
        rintro e w7 ⟨rfl, nd7, rfl⟩
        refine ⟨_, rfl, ?_⟩
        refine hK.out _ _ ⟨hHeld.1.kept rfl, hHeld.2⟩ (fun hHeld => ?_)
        clear hK K
        replace hB2 := pw_below_drewN hB2 nd7
        replace hO2 := Kd.R_drewN hO2 nd7
        generalize W0.drewN nd7 = V7 at hHeld hB2 hO2 ⊢
        refine one_ (i := 9) (N := some 73) #[true, true, true, true, true, true, true, true, true, true, false, true, true, false, false, true, true, true, true, true, false, true, false, true, false, false, true, true, false, false, false, false, false] rfl rfl (by kernel_rfl) (by decide) (fun K hK => ?_)
        refine goes_ Tryd.func51 (by kernel_rfl) rfl #[.int .u32 (at_ (sched F t) i15), .int .i64 (18 : Nat)] (by rfl) rfl rfl (by (try simp only [List.map_toArray, List.map_cons, List.map_nil]); first | done | rfl) ?_
        refine (turned_calls (at_ (sched F t) i15) 18 (by decide) _).mono ?_
        rintro e w9 ⟨rfl, nd9, rfl⟩
        refine ⟨_, rfl, ?_⟩
        refine hK.out _ _ ⟨hHeld.1.kept rfl, hHeld.2⟩ (fun hHeld => ?_)
        clear hK K
        replace hB2 := pw_below_drewN hB2 nd9
        replace hO2 := Kd.R_drewN hO2 nd9
        generalize V7.drewN nd9 = V9 at hHeld hB2 hO2 ⊢
        refine pure_ (i := 10) (N := some 74) (v := ?_) (a' := ?_) #[true, true, true, true, true, true, true, true, true, true, true, true, true, false, false, true, true, true, true, true, false, true, false, true, false, false, true, true, false, false, false, false, false] rfl rfl (by kernel_rfl) (fun _ _ _ h => h) (Or.inl ⟨by rfl, ?_⟩) ?_ ?_
        rotate_left
        · intro w'
          go_simp
          try (with_reducible rfl)
        rotate_left
        · simp only [Act.put, List.setIfInBounds_toArray, List.set_cons_zero, List.set_cons_succ, List.getElem_toArray, List.getElem_cons_succ, List.getElem_cons_zero, i64_w, i32_w]
          rfl
        refine pure_ (i := 13) (N := some 77) (v := ?_) (a' := ?_) #[true, true, true, true, true, true, true, true, true, true, true, true, true, true, false, true, true, true, true, true, false, true, false, true, false, false, true, true, false, false, false, false, false] rfl rfl (by kernel_rfl) (fun _ _ _ h => h) (Or.inl ⟨by rfl, ?_⟩) ?_ ?_
        rotate_left
        · intro w'
          go_simp
          try (with_reducible rfl)
        rotate_left
        · simp only [Act.put, List.setIfInBounds_toArray, List.set_cons_zero, List.set_cons_succ, List.getElem_toArray, List.getElem_cons_succ, List.getElem_cons_zero, i64_w, i32_w]
          rfl
        refine pure_ (i := 14) (N := some 78) (v := ?_) (a' := ?_) #[true, true, true, true, true, true, true, true, true, true, true, true, true, true, true, true, true, true, true, true, false, true, false, true, false, false, true, true, false, false, false, false, false] rfl rfl (by kernel_rfl) (fun _ _ _ h => h) (Or.inl ⟨by rfl, ?_⟩) ?_ ?_
        rotate_left
        · intro w'
          go_simp
          try (with_reducible rfl)
        rotate_left
        · simp only [Act.put, List.setIfInBounds_toArray, List.set_cons_zero, List.set_cons_succ, List.getElem_toArray, List.getElem_cons_succ, List.getElem_cons_zero, i64_w, i32_w]
          rfl
        refine pure_ (i := 20) (N := some 84) (v := ?_) (a' := ?_) #[true, true, true, true, true, true, true, true, true, true, true, true, true, true, true, true, true, true, true, true, true, true, false, true, false, false, true, true, false, false, false, false, false] rfl rfl (by kernel_rfl) (fun _ _ _ h => h) (Or.inl ⟨by rfl, ?_⟩) ?_ ?_
        rotate_left
        · intro w'
          go_simp
          try (with_reducible rfl)
        rotate_left
        · simp only [Act.put, List.setIfInBounds_toArray, List.set_cons_zero, List.set_cons_succ, List.getElem_toArray, List.getElem_cons_succ, List.getElem_cons_zero, i64_w, i32_w]
          rfl
        refine one_ (i := 22) (N := some 86) #[true, true, true, true, true, true, true, true, true, true, true, true, true, true, true, true, true, true, true, true, true, true, true, true, false, false, true, true, false, false, false, false, false] rfl rfl (by kernel_rfl) (by decide) (fun K hK => ?_)
        refine goes_ Tryd.func51 (by kernel_rfl) rfl #[.int .u32 (at_ (sched F t) i2), .int .i64 (17 : Nat)] (by rfl) rfl rfl (by (try simp only [List.map_toArray, List.map_cons, List.map_nil]); first | done | rfl) ?_
        refine (turned_calls (at_ (sched F t) i2) 17 (by decide) _).mono ?_
        rintro e w22 ⟨rfl, nd22, rfl⟩
        refine ⟨_, rfl, ?_⟩
        refine hK.out _ _ ⟨hHeld.1.kept rfl, hHeld.2⟩ (fun hHeld => ?_)
        clear hK K
        replace hB2 := pw_below_drewN hB2 nd22
        replace hO2 := Kd.R_drewN hO2 nd22
        generalize V9.drewN nd22 = V22 at hHeld hB2 hO2 ⊢
        refine one_ (i := 24) (N := some 88) #[true, true, true, true, true, true, true, true, true, true, true, true, true, true, true, true, true, true, true, true, true, true, true, true, true, false, true, true, false, false, false, false, false] rfl rfl (by kernel_rfl) (by decide) (fun K hK => ?_)
        refine goes_ Tryd.func51 (by kernel_rfl) rfl #[.int .u32 (at_ (sched F t) i2), .int .i64 (19 : Nat)] (by rfl) rfl rfl (by (try simp only [List.map_toArray, List.map_cons, List.map_nil]); first | done | rfl) ?_
        refine (turned_calls (at_ (sched F t) i2) 19 (by decide) _).mono ?_
        rintro e w24 ⟨rfl, nd24, rfl⟩
        refine ⟨_, rfl, ?_⟩
        refine hK.out _ _ ⟨hHeld.1.kept rfl, hHeld.2⟩ (fun hHeld => ?_)
        clear hK K
        replace hB2 := pw_below_drewN hB2 nd24
        replace hO2 := Kd.R_drewN hO2 nd24
        generalize V22.drewN nd24 = V24 at hHeld hB2 hO2 ⊢
        refine pure_ (i := 25) (N := some 89) (v := ?_) (a' := ?_) #[true, true, true, true, true, true, true, true, true, true, true, true, true, true, true, true, true, true, true, true, true, true, true, true, true, true, true, true, false, false, false, false, false] rfl rfl (by kernel_rfl) (fun _ _ _ h => h) (Or.inl ⟨by rfl, ?_⟩) ?_ ?_
        rotate_left
        · intro w'
          go_simp
          try (with_reducible rfl)
        rotate_left
        · simp only [Act.put, List.setIfInBounds_toArray, List.set_cons_zero, List.set_cons_succ, List.getElem_toArray, List.getElem_cons_succ, List.getElem_cons_zero, i64_w, i32_w]
          rfl
        refine pure_ (i := 28) (N := some 92) (v := ?_) (a' := ?_) #[true, true, true, true, true, true, true, true, true, true, true, true, true, true, true, true, true, true, true, true, true, true, true, true, true, true, true, true, true, false, false, false, false] rfl rfl (by kernel_rfl) (fun _ _ _ h => h) (Or.inl ⟨by rfl, ?_⟩) ?_ ?_
        rotate_left
        · intro w'
          go_simp
          try (with_reducible rfl)
        rotate_left
        · simp only [Act.put, List.setIfInBounds_toArray, List.set_cons_zero, List.set_cons_succ, List.getElem_toArray, List.getElem_cons_succ, List.getElem_cons_zero, i64_w, i32_w]
          rfl
        refine pure_ (i := 29) (N := some 93) (v := ?_) (a' := ?_) #[true, true, true, true, true, true, true, true, true, true, true, true, true, true, true, true, true, true, true, true, true, true, true, true, true, true, true, true, true, true, false, false, false] rfl rfl (by kernel_rfl) (fun _ _ _ h => h) (Or.inl ⟨by rfl, ?_⟩) ?_ ?_
        rotate_left
        · intro w'
          go_simp
          try (with_reducible rfl)
        rotate_left
        · simp only [Act.put, List.setIfInBounds_toArray, List.set_cons_zero, List.set_cons_succ, List.getElem_toArray, List.getElem_cons_succ, List.getElem_cons_zero, i64_w, i32_w]
          rfl
        refine last_ (i := 30) (N := some 94) #[true, true, true, true, true, true, true, true, true, true, true, true, true, true, true, true, true, true, true, true, true, true, true, true, true, true, true, true, true, true, true, false, false] rfl rfl (by kernel_rfl) (by decide) (fun K hK => ?_)
        refine value_step (w1 := V24.alloc (.cells #[.int .u32 (word F (sched F t) t)] 22 (0, 0))) (v := .slice (some ⟨V24.heap.size, 0, none⟩) 1 1) (by rfl) ?hr94 ?_
        case hr94 =>
          go_simp
          rw [← Hword.out]
          try simp only [wu s]
          rfl
        refine hK.out _ _ ?_
        clear hK K
        have hBa := hB2.alloc (by have := hB2.size; omega) (.cells #[.int .u32 (word F (sched F t) t)] 22 (0, 0))
        have hBs2 := hB2.size
        refine last_ (i := 31) (N := some 95) #[true, true, true, true, true, true, true, true, true, true, true, true, true, true, true, true, true, true, true, true, true, true, true, true, true, true, true, true, true, true, true, true, false] rfl rfl (by kernel_rfl) (by decide) (fun K hK => ?_)
        refine Kd.R_append_rows_step (Kd.int .u32) (Rr := fun x cs => cs = [.int .u32 x]) (w0 := w) N (by rfl) (.tmp 64) (.tmp 94) 76 22 (.int .u32 0) 4 (by rfl) Tryd.underlying76 info22 rfl (by decide) (by decide) (.slice (some ⟨g, 0, none⟩) t cap) (sched F t) [word F (sched F t) t] (some ⟨V24.heap.size, 0, none⟩) 1 1 (fun _ => True) (fun _ => False) (by rfl) (by rfl) (Kd.R_alloc hO2 _) (reads1u _ _) (fun _ _ h => h) (fun _ h => h.elim) (fun _ _ => trivial) hBa (by rw [World.size_alloc]; omega) (by rw [sched_len]; omega) ?_
        intro v3 w3 ho3 hb3 hgr3 hat3
        refine hK.out _ _ ?_
        clear hK K
        refine pure_ (i := 32) (N := some 5) (v := ?_) (a' := ?_) #[true, true, true, true, true, true, true, true, true, true, true, true, true, true, true, true, true, true, true, true, true, true, true, true, true, true, true, true, true, true, true, true, true] rfl rfl (by kernel_rfl) (fun _ _ _ h => h) (Or.inl ⟨by rfl, ?_⟩) ?_ ?_
        rotate_left
        · intro w'
          go_simp
          try (with_reducible rfl)
        rotate_left
        · simp only [Act.put, List.setIfInBounds_toArray, List.set_cons_zero, List.set_cons_succ, List.getElem_toArray, List.getElem_cons_succ, List.getElem_cons_zero, i64_w, i32_w]
          rfl
        refine done_ (by kernel_rfl) ?_
        have ho4 : Kd.R (Kd.int .u32) 22 w3 N (fun _ => True) v3 (sched F (t + 1)) := ho3
        clear hHeld hB2 hO2 hBa hgr3 hat3 ho3 Hword
        go_wp2
        exact ⟨⟨t + 1, by go_num, by omega, ho4, hb3⟩, by simp [intOf]; omega⟩

end Go.Proofs.YtobjhddiieaafaaDoor.M
