/- A reader's calls in plain words, and the walk of its iterator. Written by rows_ri.py. -/
import Derived.Test.YtmeaiancebgkoaaRS
import Derived.Test.YtmeaiancebgkoaaRangeG
import Derived.TacticsInMore
import Derived.LoopNIn
import Derived.LoopIn
import Derived.Deep.DeepCutAuto
import Derived.Outline
import Derived.OwnWalkIn
import Derived.Maps.AppendAt
import Derived.Lib.Hide
import Derived.Shelf.RegionOpen
namespace Go.Proofs.Ytmeaiancebgkoaa.H
open Go.RowKit Go.Shelf Go.Proofs.YtmeaiancebgkoaaW.PrintWords Go.Proofs.YtmeaiancebgkoaaW.PrintLast Go.Proofs.YtmeaiancebgkoaaW.PrintMore
attribute [local go_sem] Oper.semAt_some
set_option linter.unusedVariables false
set_option linter.unusedSimpArgs false
set_option maxRecDepth 100000

/-- What a reading does: the reader's own block may change, no other that is there. -/
def StR (R : Nat) (A B : World) : Prop := Below R A B ∧ KeepBut A B R none
theorem StR.refl (R : Nat) (A : World) : StR R A A := ⟨Below.refl _ _, KeepBut.refl _ _ _⟩
theorem StR.trans {R : Nat} {A B C : World} (h : StR R A B) (k : StR R B C) : StR R A C := ⟨h.1.trans k.1, h.2.trans k.2 (.inl rfl)⟩
theorem StR.of_below {R : Nat} {A B : World} (h : Below A.heap.size A B) (hR : R ≤ A.heap.size) : StR R A B := ⟨h.mono hR, KeepBut.of_below h R none⟩
theorem StR.mk' {R : Nat} {w0 A B : World} (hA : Below w0.heap.size w0 A) (hB : Below w0.heap.size w0 B) (hR : w0.heap.size ≤ R) (hRA : R ≤ A.heap.size) (k : KeepBut A B R none) : StR R A B :=
  ⟨⟨hB.os.trans hA.os.symm, hB.tape.trans hA.tape.symm, hB.output.trans hA.output.symm, k.1, fun j hj => k.2 j (by omega) (by omega) (by simp)⟩, k⟩
theorem StR.block {R g : Nat} {A B : World} {o : Obj} (h : StR R A B) (hg : A.heap[g]? = some o) (hne : g ≠ R) : B.heap[g]? = some o := (h.2.2 g (Array.getElem?_eq_some_iff.1 hg).1 hne (by simp)).trans hg
theorem StR.below0 {R : Nat} {w0 A B : World} (h : StR R A B) (hA : Below w0.heap.size w0 A) (hR : w0.heap.size ≤ R) : Below w0.heap.size w0 B := hA.trans (h.1.mono hR)
abbrev IsR (w0 W : World) (g : Nat) (st : RSt) : Prop := IsS66 w0 W g st.1 st.2

theorem take_ok (R n : Nat) (st : RSt) (hn : n ≤ 1000) (w0 w : World) (hI : IsR w0 w R st) (hB : Below w0.heap.size w0 w) :
    Calls Try.prog 55 #[.pointer (some ⟨R, 0, none⟩), .int .i64 (n : Int)] w fun e w' => e = .returned (.string (takeS st n).1) ∧ IsR w0 w' R (takeS st n).2 ∧ StR R w w' := by
  refine (rows_reader_take.calls R st.1 st.2 (n : Int) _ _ _ w0 w hI hB (take_f st n hn)).mono ?_
  rintro e w' ⟨he, h1, h2, h3⟩
  exact ⟨he, h1, StR.mk' hB h2 hI.ge (Nat.le_of_lt hI.lt) h3⟩
theorem get_ok (R n : Nat) (st : RSt) (hn : n ≤ 8) (w0 w : World) (hI : IsR w0 w R st) (hB : Below w0.heap.size w0 w) :
    Calls Try.prog 46 #[.pointer (some ⟨R, 0, none⟩), .int .i64 (n : Int)] w fun e w' => e = .returned (.int .u64 ((getS st n).1 : Int)) ∧ IsR w0 w' R (getS st n).2 ∧ StR R w w' := by
  refine (rows_reader_get.calls R st.1 st.2 (n : Int) _ _ _ w0 w hI hB (get_f st n hn)).mono ?_
  rintro e w' ⟨he, h1, h2, h3⟩
  exact ⟨he, h1, StR.mk' hB h2 hI.ge (Nat.le_of_lt hI.lt) h3⟩
theorem rref_ok (R : Nat) (st : RSt) (w0 w : World) (hI : IsR w0 w R st) (hB : Below w0.heap.size w0 w) :
    Calls Try.prog 47 #[.pointer (some ⟨R, 0, none⟩)] w fun e w' => e = .returned (.agg #[.int .u32 (refS st).1.f0, .string (refS st).1.f1]) ∧ IsR w0 w' R (refS st).2 ∧ StR R w w' := by
  refine (rows_reader_ref.calls R st.1 st.2 _ _ _ _ w0 w hI hB (ref_f st)).mono ?_
  rintro e w' ⟨he, h1, h2, h3⟩
  exact ⟨he, h1, StR.mk' hB h2 hI.ge (Nat.le_of_lt hI.lt) h3⟩

/-- Three blocks are kept. -/
def Keep3 (m a b c : Nat) (A B : World) : Prop := Below m A B ∧ B.heap[a]? = A.heap[a]? ∧ B.heap[b]? = A.heap[b]? ∧ B.heap[c]? = A.heap[c]?
/-- The box of a row. -/
def RowAt (w : World) (M : Nat) (a x y : Int) (t : ByteArray) : Prop := w.heap[M]? = some (.cells #[.int .u64 a, .int .u32 x, .int .u32 y, .string t] 47 (0, 0))
theorem RowAt.cells {w : World} {M : Nat} {p x y : Int} {t : ByteArray} (h : RowAt w M p x y t) :
    w.cell? ⟨M, 0, none⟩ = some (.int .u64 p) ∧ w.cell? ⟨M, 1, none⟩ = some (.int .u32 x) ∧ w.cell? ⟨M, 2, none⟩ = some (.int .u32 y) ∧ w.cell? ⟨M, 3, none⟩ = some (.string t) ∧ (∀ i, w.frozen? ⟨M, i, none⟩ = false) := by
  have h' : w.heap[M]? = some (.cells #[.int .u64 p, .int .u32 x, .int .u32 y, .string t] 47 (0, 0)) := h
  refine ⟨?_, ?_, ?_, ?_, fun i => ?_⟩ <;> simp [World.cell?, World.frozen?, h']
theorem skip_step {P : Program} {ops : Array Oper} {a : Act} {o : Oper} {Kc : Act → World → Prop} {Q : Exit → Act → World → Prop} {W w1 : World} (hw : Region.wanted o (yielded ops a.tmps) = true) (hrun : (execOp a.eval o).run P W = .ok .skip w1) (h : Kc (a.put o.dst undef) w1) :
    if Region.wanted o (yielded ops a.tmps) = true then Oper.wp P o a W Kc Q else Kc (a.put o.dst undef) W := by
  rw [if_pos hw]
  unfold Oper.wp
  rw [hrun, Oper.upon_skip]
  exact h

theorem RowAt.fill {V : World} {M : Nat} {p x y : Int} {t : ByteArray} (h : RowAt V M p x y t) (a b c : Int) (u : ByteArray) : RowAt ((((V.setCell ⟨M, 0, none⟩ (.int .u64 a)).setCell ⟨M, 1, none⟩ (.int .u32 b)).setCell ⟨M, 2, none⟩ (.int .u32 c)).setCell ⟨M, 3, none⟩ (.string u)) M a b c u :=
  blk_put (blk_put (blk_put (blk_put h 0 _ rfl) 1 _ rfl) 2 _ rfl) 3 _ rfl
theorem RowAt.val {V : World} {M : Nat} {p x y : Int} {t : ByteArray} (h : RowAt V M p x y t) (u : ByteArray) : RowAt (V.setCell ⟨M, 3, none⟩ (.string u)) M p x y u := blk_put h 3 _ rfl
theorem StR.set {R M i : Nat} {A B : World} (h : StR R A B) (hM : A.heap.size ≤ M) (hR : R ≤ A.heap.size) (u : Value) : StR R A (B.setCell ⟨M, i, none⟩ u) := ⟨h.1.setCell (p := ⟨M, i, none⟩) (by show R ≤ M; omega) u, keep_far h.2 (p := ⟨M, i, none⟩) hM u⟩
theorem IsR.set {w0 W : World} {R M i : Nat} {st : RSt} (h : IsR w0 W R st) (hM : M ≠ R) (u : Value) : IsR w0 (W.setCell ⟨M, i, none⟩ u) R st := h.far (p := ⟨M, i, none⟩) (fun e => hM e.symm) u

set_option maxHeartbeats 8000000 in
theorem rows1 (gn gr R n : Nat) (hn : n ≤ 255) (st : RSt) (w0 w : World) (hgn : Boxed w gn 3 (.int .i64 (n : Int))) (hgr : Boxed w gr 64 (.pointer (some ⟨R, 0, none⟩))) (hI : IsR w0 w R st) (hB : Below w0.heap.size w0 w) :
    SeqG Fence.wide 8 Try.prog 56 #[.pointer (some ⟨gn, 0, none⟩), .pointer (some ⟨gr, 0, none⟩)] (fun x : Row => #[.agg #[.int .u64 x.f0, .int .u32 x.f1, .int .u32 x.f2, .string x.f3]])
      (StR R) (Keep3 w0.heap.size gn gr R) (fun xs => xs.length = n) (fun pre => 1 ≤ pre.length ∧ pre.length ≤ n) (fun pre x => pre.length < n ∧ x = rowAt st pre.length) (fun pre W => IsR w0 W R (stAt st pre.length)) w := by
  intro l J Jx W hW hJ hY h0
  have hgnW : Boxed W gn 3 (.int .i64 (n : Int)) := (hW.block gn hgn.lt).trans hgn
  have hgrW : Boxed W gr 64 (.pointer (some ⟨R, 0, none⟩)) := (hW.block gr hgr.lt).trans hgr
  have hIW : IsR w0 W R st := hI.below hW
  have hBW : Below w0.heap.size w0 W := below_step hB hW
  have hRw : w0.heap.size ≤ R := hI.ge
  have hne : gr ≠ R := blk_ne hgr hI.1 (by decide)
  have hnn : gn ≠ R := blk_ne hgn hI.1 (by decide)
  refine callsIn_of_wp Try.func56 rfl trivial ?_ rfl
  simp only [Try.ntmps56, List.size_toArray, List.length_cons, List.length_nil, Nat.reduceAdd, Nat.reduceSub, Array.replicate_succ, Array.replicate_zero, List.push_toArray, List.append_toArray, List.nil_append, List.cons_append]
  have hc0 := hgnW.cell
  gi_wp2
  clear hc0 hgn hgr hI hB hW
  gi_loopw [6] (fun vi wr => ∃ (i : Nat) (pre : List Row), vi = .int .i64 i ∧ i = pre.length ∧ i ≤ n ∧ IsR w0 wr R (stAt st i) ∧ Boxed wr gn 3 (.int .i64 (n : Int)) ∧ Boxed wr gr 64 (.pointer (some ⟨R, 0, none⟩)) ∧ Below w0.heap.size w0 wr ∧ J pre wr) (fun vi wr => n - (intOf vi).toNat)
  case atStart => exact ⟨0, [], rfl, rfl, Nat.zero_le _, hIW, hgnW, hgrW, hBW, h0⟩
  case round =>
    clear hgnW hgrW hIW hBW h0
    obtain ⟨i, pre, rfl, hip, hin, hIr, hbn, hbg, hBr, hJr⟩ := hrel
    have Hip := Lib.hid hip
    clear hip
    by_cases hie : i = n
    · subst hie
      have e1 : decide ((i : Int) < (i : Int)) = false := decide_eq_false (by omega)
      gi_wp2
      go_end0
      exact ⟨⟨_, rfl⟩, .inl ⟨pre, Hip.out.symm, hJr, by rw [← Hip.out]; exact hIr⟩⟩
    · have e1 : decide ((i : Int) < (n : Int)) = true := decide_eq_true (by omega)
      obtain ⟨s0, hs0⟩ : ∃ s, stAt st i = s := ⟨_, rfl⟩
      rw [hs0] at hIr
      obtain ⟨⟨a, s1⟩, h0⟩ : ∃ q, getS s0 8 = q := ⟨_, rfl⟩
      obtain ⟨⟨b, s2⟩, h1⟩ : ∃ q, getS s1 4 = q := ⟨_, rfl⟩
      obtain ⟨⟨c, s3⟩, h2⟩ : ∃ q, getS s2 4 = q := ⟨_, rfl⟩
      obtain ⟨⟨d, s4⟩, h3⟩ : ∃ q, getS s3 1 = q := ⟨_, rfl⟩
      obtain ⟨⟨t, s5⟩, h4⟩ : ∃ q, takeS s4 d = q := ⟨_, rfl⟩
      have hbl : b < 4294967296 := by have := getS_lt s1 4; rw [h1] at this; exact this
      have hcl : c < 4294967296 := by have := getS_lt s2 4; rw [h2] at this; exact this
      have hdl : d < 256 := by have := getS_lt s3 1; rw [h3] at this; exact this
      have hrow : rowS s0 = (⟨(a : Int), (b : Int), (c : Int), t⟩, s5) := by
        unfold rowS
        rw [h0]
        simp only
        rw [h1]
        simp only
        rw [h2]
        simp only
        rw [h3]
        simp only
        rw [h4]
      have hb4 : IntKind.u32.wrap (b : Int) = (b : Int) := by rw [IntKind.wrap_u32]; omega
      have hc4 : IntKind.u32.wrap (c : Int) = (c : Int) := by rw [IntKind.wrap_u32]; omega
      have hrAt : rowAt st pre.length = ⟨(a : Int), (b : Int), (c : Int), t⟩ := by rw [rowAt, ← Hip.out, hs0, hrow]
      have hsAt : stAt st (i + 1) = s5 := by rw [stAt, hs0, hrow]
      have HrAt : Nat → Hid _ := fun _ => Lib.hid hrAt
      have HsAt : Nat → Hid _ := fun _ => Lib.hid hsAt
      have HB := Lib.hid hBr
      have HJ := Lib.hid hJr
      have H0 : Nat → Hid _ := fun _ => Lib.hid h0
      have H1 : Nat → Hid _ := fun _ => Lib.hid h1
      have H2 : Nat → Hid _ := fun _ => Lib.hid h2
      have H3 : Nat → Hid _ := fun _ => Lib.hid h3
      have H4 : Nat → Hid _ := fun _ => Lib.hid h4
      clear hrAt hsAt hBr hJr hrow hs0 h0 h1 h2 h3 h4
      have Hb4 : Nat → Hid _ := fun _ => Lib.hid hb4
      have Hc4 : Nat → Hid _ := fun _ => Lib.hid hc4
      have Hdl : Nat → Hid _ := fun _ => Lib.hid hdl
      clear hb4 hc4 hbl hcl hdl
      gi_wp2
      have hb4 := (Hb4 0).out
      have hc4 := (Hc4 0).out
      refine wpIn_wide.2 ?_
      have hGW : Boxed wr.drew gr 64 (.pointer (some ⟨R, 0, none⟩)) := hbg
      have hNW : Boxed wr.drew gn 3 (.int .i64 (n : Int)) := hbn
      have hIW : IsR w0 wr.drew R s0 := hIr
      have hBd : Below w0.heap.size w0 wr.drew := HB.out.trans (Below.drew (Below.refl _ wr))
      have hJd := hJ pre wr wr.drew HJ.out (StR.of_below (Below.drew (Below.refl _ wr)) (Nat.le_of_lt hIr.lt))
      refine start_ (n := 11) (S := fun V_ => Boxed V_ gr 64 (.pointer (some ⟨R, 0, none⟩))) (ds := [10]) #[false, false, false, false, false, false, false, false, false, false, false] (by kernel_rfl) rfl rfl hGW (fun hHeld => ?_)
      clear hbg hbn hIr HB HJ
      have HB := Lib.hid hBd
      have HJ := Lib.hid hJd
      clear hBd hJd
      generalize wr.drew = W at *
      have hSW : StR R W W := StR.refl R W
      refine take_ (i := 0) (N := some 8) (v := ?_) (a' := ?_) #[true, false, false, false, false, false, false, false, false, false, false] rfl rfl (by kernel_rfl) (fun _ _ _ h => h) (Or.inl ⟨by rfl, ?_⟩) hHeld ?_ ?_
      rotate_left
      · intro w' hS_
        have q0 := hS_.cell
        go_simp
        try (with_reducible rfl)
      rotate_left
      · simp only [Act.put, List.setIfInBounds_toArray, List.set_cons_zero, List.set_cons_succ, i64_w, i32_w]
        rfl
      refine take_ (i := 2) (N := some 10) (v := ?_) (a' := ?_) #[true, false, true, false, false, false, false, false, false, false, false] rfl rfl (by kernel_rfl) (fun _ _ _ h => h) (Or.inl ⟨by rfl, ?_⟩) hHeld ?_ ?_
      rotate_left
      · intro w' hS_
        have q0 := hS_.cell
        go_simp
        try (with_reducible rfl)
      rotate_left
      · simp only [Act.put, List.setIfInBounds_toArray, List.set_cons_zero, List.set_cons_succ, i64_w, i32_w]
        rfl
      refine take_ (i := 5) (N := some 13) (v := ?_) (a' := ?_) #[true, false, true, false, false, true, false, false, false, false, false] rfl rfl (by kernel_rfl) (fun _ _ _ h => h) (Or.inl ⟨by rfl, ?_⟩) hHeld ?_ ?_
      rotate_left
      · intro w' hS_
        have q0 := hS_.cell
        go_simp
        try (with_reducible rfl)
      rotate_left
      · simp only [Act.put, List.setIfInBounds_toArray, List.set_cons_zero, List.set_cons_succ, i64_w, i32_w]
        rfl
      refine join_ 1 #[true, true, true, true, true, true, true, true, true, true, false] (fun M : Nat => [(9, .int .u64 (a : Int)), (11, .int .u64 (b : Int)), (12, .int .u32 (b : Int)), (14, .int .u64 (c : Int)), (15, .int .u32 (c : Int)), (16, .agg #[.int .u64 (a : Int), .int .u32 (b : Int), .int .u32 (c : Int), .string ⟨#[]⟩]), (4, .pointer (some ⟨M, 0, none⟩))])
        (fun M V => IsR w0 V R s3 ∧ V.heap[M]? = some (.cells #[.int .u64 0, .int .u32 0, .int .u32 0, .string ⟨#[]⟩] 47 (0, 0)) ∧ StR R W V ∧ M ≠ R ∧ W.heap.size ≤ M) ?_ (fun hjoin => ?_)
      rotate_left
      · skip
        refine two_ (i := 1) (j := 9) (Ni := some 9) (Nj := some 4) #[true, true, true, false, false, true, false, false, false, false, false] #[true, false, true, false, false, true, false, false, false, true, false] rfl rfl rfl rfl (by kernel_rfl) (by decide) (by decide) (fun K hK => ?one1) (fun K hK => ?two1)
        case' one1 =>
          refine goes_ Try.func46 (by kernel_rfl) rfl #[.pointer (some ⟨R, 0, none⟩), .int .i64 ((8 : Nat) : Int)] (by rfl) rfl rfl (by (try simp only [List.map_toArray, List.map_cons, List.map_nil]); first | done | rfl) ?_
          refine (get_ok R 8 s0 (by decide) w0 W hIW (hSW.below0 HB.out hRw)).mono ?_
          rw [(H0 0).out]
          rintro e v1 ⟨rfl, hIv1, hTv1⟩
          refine ⟨_, rfl, ?_⟩
          have hSv1 := hSW.trans hTv1
          have hGv1 : Boxed v1 gr 64 (.pointer (some ⟨R, 0, none⟩)) := hTv1.block hGW hne
          refine hK.out _ _ hGv1 (fun _ => ?_)
          clear hK K
          refine two_ (i := 3) (j := 9) (Ni := some 11) (Nj := some 4) #[true, true, true, true, false, true, false, false, false, false, false] #[true, true, true, false, false, true, false, false, false, true, false] rfl rfl rfl rfl (by kernel_rfl) (by decide) (by decide) (fun K hK => ?one2) (fun K hK => ?two2)
          case' one2 =>
            refine goes_ Try.func46 (by kernel_rfl) rfl #[.pointer (some ⟨R, 0, none⟩), .int .i64 ((4 : Nat) : Int)] (by rfl) rfl rfl (by (try simp only [List.map_toArray, List.map_cons, List.map_nil]); first | done | rfl) ?_
            refine (get_ok R 4 s1 (by decide) w0 v1 hIv1 (hSv1.below0 HB.out hRw)).mono ?_
            rw [(H1 0).out]
            rintro e v2 ⟨rfl, hIv2, hTv2⟩
            refine ⟨_, rfl, ?_⟩
            have hSv2 := hSv1.trans hTv2
            have hGv2 : Boxed v2 gr 64 (.pointer (some ⟨R, 0, none⟩)) := hTv2.block hGv1 hne
            refine hK.out _ _ hGv2 (fun _ => ?_)
            clear hK K
            refine pure_ (i := 4) (N := some 12) (v := ?_) (a' := ?_) #[true, true, true, true, true, true, false, false, false, false, false] rfl rfl (by kernel_rfl) (fun _ _ _ h => h) (Or.inl ⟨by rfl, ?_⟩) ?_ ?_
            rotate_left
            · intro w'
              go_simp
              try (with_reducible rfl)
            rotate_left
            · simp only [Act.put, List.setIfInBounds_toArray, List.set_cons_zero, List.set_cons_succ, List.getElem_toArray, List.getElem_cons_succ, List.getElem_cons_zero, i64_w, i32_w]
              rfl
            refine two_ (i := 6) (j := 9) (Ni := some 14) (Nj := some 4) #[true, true, true, true, true, true, true, false, false, false, false] #[true, true, true, true, true, true, false, false, false, true, false] rfl rfl rfl rfl (by kernel_rfl) (by decide) (by decide) (fun K hK => ?one3) (fun K hK => ?two3)
            case' one3 =>
              refine goes_ Try.func46 (by kernel_rfl) rfl #[.pointer (some ⟨R, 0, none⟩), .int .i64 ((4 : Nat) : Int)] (by rfl) rfl rfl (by (try simp only [List.map_toArray, List.map_cons, List.map_nil]); first | done | rfl) ?_
              refine (get_ok R 4 s2 (by decide) w0 v2 hIv2 (hSv2.below0 HB.out hRw)).mono ?_
              rw [(H2 0).out]
              rintro e v3 ⟨rfl, hIv3, hTv3⟩
              refine ⟨_, rfl, ?_⟩
              have hSv3 := hSv2.trans hTv3
              have hGv3 : Boxed v3 gr 64 (.pointer (some ⟨R, 0, none⟩)) := hTv3.block hGv2 hne
              refine hK.out _ _ hGv3 (fun _ => ?_)
              clear hK K
              refine pure_ (i := 7) (N := some 15) (v := ?_) (a' := ?_) #[true, true, true, true, true, true, true, true, false, false, false] rfl rfl (by kernel_rfl) (fun _ _ _ h => h) (Or.inl ⟨by rfl, ?_⟩) ?_ ?_
              rotate_left
              · intro w'
                go_simp
                try (with_reducible rfl)
              rotate_left
              · simp only [Act.put, List.setIfInBounds_toArray, List.set_cons_zero, List.set_cons_succ, List.getElem_toArray, List.getElem_cons_succ, List.getElem_cons_zero, i64_w, i32_w]
                rfl
              refine pure_ (i := 8) (N := some 16) (v := ?_) (a' := ?_) #[true, true, true, true, true, true, true, true, true, false, false] rfl rfl (by kernel_rfl) (fun _ _ _ h => h) (Or.inl ⟨by rfl, ?_⟩) ?_ ?_
              rotate_left
              · intro w'
                go_simp
                try (with_reducible rfl)
              rotate_left
              · simp only [Act.put, List.setIfInBounds_toArray, List.set_cons_zero, List.set_cons_succ, List.getElem_toArray, List.getElem_cons_succ, List.getElem_cons_zero, i64_w, i32_w]
                rfl
              refine one_ (i := 9) (N := some 4) #[true, true, true, true, true, true, true, true, true, true, false] rfl rfl (by kernel_rfl) (by decide) (fun K hK => ?_)
              refine box_step ?hg (N := 4) ?hd (cs := #[.int .u64 0, .int .u32 0, .int .u32 0, .string ⟨#[]⟩]) (t := 47) ?hr ?_; (case hd => rfl); (case hg => rfl); (case hr => first | (go_simp; done) | (go_simp; rfl))
              intro M hM v4 hboxv4 hbv4
              have hTv4 : StR R v3 v4 := StR.of_below hbv4 (Nat.le_of_lt hIv3.lt)
              have hIv4 := hIv3.below hbv4
              have hSv4 := hSv3.trans hTv4
              have hGv4 : Boxed v4 gr 64 (.pointer (some ⟨R, 0, none⟩)) := hTv4.block hGv3 hne
              have hMn : W.heap.size ≤ M := by have := hSv3.2.1; omega
              have hMR : M ≠ R := by have := hIv3.lt; omega
              refine hK.out _ _ hGv4 (fun _ => ?_)
              clear hK K
              exact hjoin M v4 ⟨hIv4, hboxv4, hSv4, hMR, hMn⟩
            case' two3 =>
              refine box_step ?hg (N := 4) ?hd (cs := #[.int .u64 0, .int .u32 0, .int .u32 0, .string ⟨#[]⟩]) (t := 47) ?hr ?_; (case hd => rfl); (case hg => rfl); (case hr => first | (go_simp; done) | (go_simp; rfl))
              intro M hM v3 hboxv3 hbv3
              have hTv3 : StR R v2 v3 := StR.of_below hbv3 (Nat.le_of_lt hIv2.lt)
              have hIv3 := hIv2.below hbv3
              have hSv3 := hSv2.trans hTv3
              have hGv3 : Boxed v3 gr 64 (.pointer (some ⟨R, 0, none⟩)) := hTv3.block hGv2 hne
              have hMn : W.heap.size ≤ M := by have := hSv2.2.1; omega
              have hMR : M ≠ R := by have := hIv2.lt; omega
              refine hK.out _ _ hGv3 (fun _ => ?_)
              clear hK K
              refine one_ (i := 6) (N := some 14) #[true, true, true, true, true, true, true, false, false, true, false] rfl rfl (by kernel_rfl) (by decide) (fun K hK => ?_)
              refine goes_ Try.func46 (by kernel_rfl) rfl #[.pointer (some ⟨R, 0, none⟩), .int .i64 ((4 : Nat) : Int)] (by rfl) rfl rfl (by (try simp only [List.map_toArray, List.map_cons, List.map_nil]); first | done | rfl) ?_
              refine (get_ok R 4 s2 (by decide) w0 v3 hIv3 (hSv3.below0 HB.out hRw)).mono ?_
              rw [(H2 0).out]
              rintro e v4 ⟨rfl, hIv4, hTv4⟩
              refine ⟨_, rfl, ?_⟩
              have hSv4 := hSv3.trans hTv4
              have hGv4 : Boxed v4 gr 64 (.pointer (some ⟨R, 0, none⟩)) := hTv4.block hGv3 hne
              have hboxv4 := hTv4.block hboxv3 hMR
              refine hK.out _ _ hGv4 (fun _ => ?_)
              clear hK K
              refine pure_ (i := 7) (N := some 15) (v := ?_) (a' := ?_) #[true, true, true, true, true, true, true, true, false, true, false] rfl rfl (by kernel_rfl) (fun _ _ _ h => h) (Or.inl ⟨by rfl, ?_⟩) ?_ ?_
              rotate_left
              · intro w'
                go_simp
                try (with_reducible rfl)
              rotate_left
              · simp only [Act.put, List.setIfInBounds_toArray, List.set_cons_zero, List.set_cons_succ, List.getElem_toArray, List.getElem_cons_succ, List.getElem_cons_zero, i64_w, i32_w]
                rfl
              refine pure_ (i := 8) (N := some 16) (v := ?_) (a' := ?_) #[true, true, true, true, true, true, true, true, true, true, false] rfl rfl (by kernel_rfl) (fun _ _ _ h => h) (Or.inl ⟨by rfl, ?_⟩) ?_ ?_
              rotate_left
              · intro w'
                go_simp
                try (with_reducible rfl)
              rotate_left
              · simp only [Act.put, List.setIfInBounds_toArray, List.set_cons_zero, List.set_cons_succ, List.getElem_toArray, List.getElem_cons_succ, List.getElem_cons_zero, i64_w, i32_w]
                rfl
              exact hjoin M v4 ⟨hIv4, hboxv4, hSv4, hMR, hMn⟩
          case' two2 =>
            refine box_step ?hg (N := 4) ?hd (cs := #[.int .u64 0, .int .u32 0, .int .u32 0, .string ⟨#[]⟩]) (t := 47) ?hr ?_; (case hd => rfl); (case hg => rfl); (case hr => first | (go_simp; done) | (go_simp; rfl))
            intro M hM v2 hboxv2 hbv2
            have hTv2 : StR R v1 v2 := StR.of_below hbv2 (Nat.le_of_lt hIv1.lt)
            have hIv2 := hIv1.below hbv2
            have hSv2 := hSv1.trans hTv2
            have hGv2 : Boxed v2 gr 64 (.pointer (some ⟨R, 0, none⟩)) := hTv2.block hGv1 hne
            have hMn : W.heap.size ≤ M := by have := hSv1.2.1; omega
            have hMR : M ≠ R := by have := hIv1.lt; omega
            refine hK.out _ _ hGv2 (fun _ => ?_)
            clear hK K
            refine one_ (i := 3) (N := some 11) #[true, true, true, true, false, true, false, false, false, true, false] rfl rfl (by kernel_rfl) (by decide) (fun K hK => ?_)
            refine goes_ Try.func46 (by kernel_rfl) rfl #[.pointer (some ⟨R, 0, none⟩), .int .i64 ((4 : Nat) : Int)] (by rfl) rfl rfl (by (try simp only [List.map_toArray, List.map_cons, List.map_nil]); first | done | rfl) ?_
            refine (get_ok R 4 s1 (by decide) w0 v2 hIv2 (hSv2.below0 HB.out hRw)).mono ?_
            rw [(H1 0).out]
            rintro e v3 ⟨rfl, hIv3, hTv3⟩
            refine ⟨_, rfl, ?_⟩
            have hSv3 := hSv2.trans hTv3
            have hGv3 : Boxed v3 gr 64 (.pointer (some ⟨R, 0, none⟩)) := hTv3.block hGv2 hne
            have hboxv3 := hTv3.block hboxv2 hMR
            refine hK.out _ _ hGv3 (fun _ => ?_)
            clear hK K
            refine pure_ (i := 4) (N := some 12) (v := ?_) (a' := ?_) #[true, true, true, true, true, true, false, false, false, true, false] rfl rfl (by kernel_rfl) (fun _ _ _ h => h) (Or.inl ⟨by rfl, ?_⟩) ?_ ?_
            rotate_left
            · intro w'
              go_simp
              try (with_reducible rfl)
            rotate_left
            · simp only [Act.put, List.setIfInBounds_toArray, List.set_cons_zero, List.set_cons_succ, List.getElem_toArray, List.getElem_cons_succ, List.getElem_cons_zero, i64_w, i32_w]
              rfl
            refine one_ (i := 6) (N := some 14) #[true, true, true, true, true, true, true, false, false, true, false] rfl rfl (by kernel_rfl) (by decide) (fun K hK => ?_)
            refine goes_ Try.func46 (by kernel_rfl) rfl #[.pointer (some ⟨R, 0, none⟩), .int .i64 ((4 : Nat) : Int)] (by rfl) rfl rfl (by (try simp only [List.map_toArray, List.map_cons, List.map_nil]); first | done | rfl) ?_
            refine (get_ok R 4 s2 (by decide) w0 v3 hIv3 (hSv3.below0 HB.out hRw)).mono ?_
            rw [(H2 0).out]
            rintro e v4 ⟨rfl, hIv4, hTv4⟩
            refine ⟨_, rfl, ?_⟩
            have hSv4 := hSv3.trans hTv4
            have hGv4 : Boxed v4 gr 64 (.pointer (some ⟨R, 0, none⟩)) := hTv4.block hGv3 hne
            have hboxv4 := hTv4.block hboxv3 hMR
            refine hK.out _ _ hGv4 (fun _ => ?_)
            clear hK K
            refine pure_ (i := 7) (N := some 15) (v := ?_) (a' := ?_) #[true, true, true, true, true, true, true, true, false, true, false] rfl rfl (by kernel_rfl) (fun _ _ _ h => h) (Or.inl ⟨by rfl, ?_⟩) ?_ ?_
            rotate_left
            · intro w'
              go_simp
              try (with_reducible rfl)
            rotate_left
            · simp only [Act.put, List.setIfInBounds_toArray, List.set_cons_zero, List.set_cons_succ, List.getElem_toArray, List.getElem_cons_succ, List.getElem_cons_zero, i64_w, i32_w]
              rfl
            refine pure_ (i := 8) (N := some 16) (v := ?_) (a' := ?_) #[true, true, true, true, true, true, true, true, true, true, false] rfl rfl (by kernel_rfl) (fun _ _ _ h => h) (Or.inl ⟨by rfl, ?_⟩) ?_ ?_
            rotate_left
            · intro w'
              go_simp
              try (with_reducible rfl)
            rotate_left
            · simp only [Act.put, List.setIfInBounds_toArray, List.set_cons_zero, List.set_cons_succ, List.getElem_toArray, List.getElem_cons_succ, List.getElem_cons_zero, i64_w, i32_w]
              rfl
            exact hjoin M v4 ⟨hIv4, hboxv4, hSv4, hMR, hMn⟩
        case' two1 =>
          refine box_step ?hg (N := 4) ?hd (cs := #[.int .u64 0, .int .u32 0, .int .u32 0, .string ⟨#[]⟩]) (t := 47) ?hr ?_; (case hd => rfl); (case hg => rfl); (case hr => first | (go_simp; done) | (go_simp; rfl))
          intro M hM v1 hboxv1 hbv1
          have hTv1 : StR R W v1 := StR.of_below hbv1 (Nat.le_of_lt hIW.lt)
          have hIv1 := hIW.below hbv1
          have hSv1 := hSW.trans hTv1
          have hGv1 : Boxed v1 gr 64 (.pointer (some ⟨R, 0, none⟩)) := hTv1.block hGW hne
          have hMn : W.heap.size ≤ M := by have := hSW.2.1; omega
          have hMR : M ≠ R := by have := hIW.lt; omega
          refine hK.out _ _ hGv1 (fun _ => ?_)
          clear hK K
          refine one_ (i := 1) (N := some 9) #[true, true, true, false, false, true, false, false, false, true, false] rfl rfl (by kernel_rfl) (by decide) (fun K hK => ?_)
          refine goes_ Try.func46 (by kernel_rfl) rfl #[.pointer (some ⟨R, 0, none⟩), .int .i64 ((8 : Nat) : Int)] (by rfl) rfl rfl (by (try simp only [List.map_toArray, List.map_cons, List.map_nil]); first | done | rfl) ?_
          refine (get_ok R 8 s0 (by decide) w0 v1 hIv1 (hSv1.below0 HB.out hRw)).mono ?_
          rw [(H0 0).out]
          rintro e v2 ⟨rfl, hIv2, hTv2⟩
          refine ⟨_, rfl, ?_⟩
          have hSv2 := hSv1.trans hTv2
          have hGv2 : Boxed v2 gr 64 (.pointer (some ⟨R, 0, none⟩)) := hTv2.block hGv1 hne
          have hboxv2 := hTv2.block hboxv1 hMR
          refine hK.out _ _ hGv2 (fun _ => ?_)
          clear hK K
          refine one_ (i := 3) (N := some 11) #[true, true, true, true, false, true, false, false, false, true, false] rfl rfl (by kernel_rfl) (by decide) (fun K hK => ?_)
          refine goes_ Try.func46 (by kernel_rfl) rfl #[.pointer (some ⟨R, 0, none⟩), .int .i64 ((4 : Nat) : Int)] (by rfl) rfl rfl (by (try simp only [List.map_toArray, List.map_cons, List.map_nil]); first | done | rfl) ?_
          refine (get_ok R 4 s1 (by decide) w0 v2 hIv2 (hSv2.below0 HB.out hRw)).mono ?_
          rw [(H1 0).out]
          rintro e v3 ⟨rfl, hIv3, hTv3⟩
          refine ⟨_, rfl, ?_⟩
          have hSv3 := hSv2.trans hTv3
          have hGv3 : Boxed v3 gr 64 (.pointer (some ⟨R, 0, none⟩)) := hTv3.block hGv2 hne
          have hboxv3 := hTv3.block hboxv2 hMR
          refine hK.out _ _ hGv3 (fun _ => ?_)
          clear hK K
          refine pure_ (i := 4) (N := some 12) (v := ?_) (a' := ?_) #[true, true, true, true, true, true, false, false, false, true, false] rfl rfl (by kernel_rfl) (fun _ _ _ h => h) (Or.inl ⟨by rfl, ?_⟩) ?_ ?_
          rotate_left
          · intro w'
            go_simp
            try (with_reducible rfl)
          rotate_left
          · simp only [Act.put, List.setIfInBounds_toArray, List.set_cons_zero, List.set_cons_succ, List.getElem_toArray, List.getElem_cons_succ, List.getElem_cons_zero, i64_w, i32_w]
            rfl
          refine one_ (i := 6) (N := some 14) #[true, true, true, true, true, true, true, false, false, true, false] rfl rfl (by kernel_rfl) (by decide) (fun K hK => ?_)
          refine goes_ Try.func46 (by kernel_rfl) rfl #[.pointer (some ⟨R, 0, none⟩), .int .i64 ((4 : Nat) : Int)] (by rfl) rfl rfl (by (try simp only [List.map_toArray, List.map_cons, List.map_nil]); first | done | rfl) ?_
          refine (get_ok R 4 s2 (by decide) w0 v3 hIv3 (hSv3.below0 HB.out hRw)).mono ?_
          rw [(H2 0).out]
          rintro e v4 ⟨rfl, hIv4, hTv4⟩
          refine ⟨_, rfl, ?_⟩
          have hSv4 := hSv3.trans hTv4
          have hGv4 : Boxed v4 gr 64 (.pointer (some ⟨R, 0, none⟩)) := hTv4.block hGv3 hne
          have hboxv4 := hTv4.block hboxv3 hMR
          refine hK.out _ _ hGv4 (fun _ => ?_)
          clear hK K
          refine pure_ (i := 7) (N := some 15) (v := ?_) (a' := ?_) #[true, true, true, true, true, true, true, true, false, true, false] rfl rfl (by kernel_rfl) (fun _ _ _ h => h) (Or.inl ⟨by rfl, ?_⟩) ?_ ?_
          rotate_left
          · intro w'
            go_simp
            try (with_reducible rfl)
          rotate_left
          · simp only [Act.put, List.setIfInBounds_toArray, List.set_cons_zero, List.set_cons_succ, List.getElem_toArray, List.getElem_cons_succ, List.getElem_cons_zero, i64_w, i32_w]
            rfl
          refine pure_ (i := 8) (N := some 16) (v := ?_) (a' := ?_) #[true, true, true, true, true, true, true, true, true, true, false] rfl rfl (by kernel_rfl) (fun _ _ _ h => h) (Or.inl ⟨by rfl, ?_⟩) ?_ ?_
          rotate_left
          · intro w'
            go_simp
            try (with_reducible rfl)
          rotate_left
          · simp only [Act.put, List.setIfInBounds_toArray, List.set_cons_zero, List.set_cons_succ, List.getElem_toArray, List.getElem_cons_succ, List.getElem_cons_zero, i64_w, i32_w]
            rfl
          exact hjoin M v4 ⟨hIv4, hboxv4, hSv4, hMR, hMn⟩
      · rintro M V ⟨hIV, hbV, hSV, hMR, hMn⟩
        have hx0 : RowAt V M 0 0 0 ⟨#[]⟩ := hbV
        clear hbV
        obtain ⟨c0_, c1_, c2_, c3_, cf_⟩ := hx0.cells
        simp only [putAll, Act.put, List.setIfInBounds_toArray, List.set_cons_zero, List.set_cons_succ]
        refine last_ (i := 10) (N := none) #[true, true, true, true, true, true, true, true, true, true, true] rfl rfl (by kernel_rfl) (by decide) (fun K hK => ?_)
        refine skip_step (w1 := (((V.setCell ⟨M, 0, none⟩ (.int .u64 (a : Int))).setCell ⟨M, 1, none⟩ (.int .u32 (b : Int))).setCell ⟨M, 2, none⟩ (.int .u32 (c : Int))).setCell ⟨M, 3, none⟩ (.string ⟨#[]⟩)) (by rfl) ?hr ?_
        case hr => go_simp
        refine hK.out _ _ ?_
        clear hK K
        refine done_ (by kernel_rfl) ?_
        clear hHeld
        have hRW : R ≤ W.heap.size := by have := blk_lt hIW.1; omega
        have hx1 := hx0.fill (a : Int) (b : Int) (c : Int) ⟨#[]⟩
        have hS1 := (((hSV.set (i := 0) hMn hRW (.int .u64 (a : Int))).set (i := 1) hMn hRW (.int .u32 (b : Int))).set (i := 2) hMn hRW (.int .u32 (c : Int))).set (i := 3) hMn hRW (.string ⟨#[]⟩)
        have hI1 := (((hIV.set (i := 0) hMR (.int .u64 (a : Int))).set (i := 1) hMR (.int .u32 (b : Int))).set (i := 2) hMR (.int .u32 (c : Int))).set (i := 3) hMR (.string ⟨#[]⟩)
        generalize (((V.setCell ⟨M, 0, none⟩ (.int .u64 (a : Int))).setCell ⟨M, 1, none⟩ (.int .u32 (b : Int))).setCell ⟨M, 2, none⟩ (.int .u32 (c : Int))).setCell ⟨M, 3, none⟩ (.string ⟨#[]⟩) = V1 at *
        clear hIV hSV hx0 c0_ c1_ c2_ c3_ cf_ hb4 hc4
        have hG1 : Boxed V1 gr 64 (.pointer (some ⟨R, 0, none⟩)) := hS1.block hGW hne
        have hn1 : Boxed V1 gn 3 (.int .i64 (n : Int)) := hS1.block hNW hnn
        simp only [Act.put, List.setIfInBounds_toArray, List.set_cons_zero, List.set_cons_succ, List.getElem_toArray, List.getElem_cons_succ, List.getElem_cons_zero]
        gi_wp2
        refine wpIn_wide.2 ?_
        have hS2 : StR R W V1.drew := hS1.trans (StR.of_below (Below.drew (Below.refl _ V1)) (by have := blk_lt hI1.1; omega))
        have hI2 : IsR w0 V1.drew R s3 := hI1
        have hx2 : RowAt V1.drew M (a : Int) (b : Int) (c : Int) ⟨#[]⟩ := hx1
        have hG2 : Boxed V1.drew gr 64 (.pointer (some ⟨R, 0, none⟩)) := hG1
        clear hS1 hI1 hx1 hG1 hn1
        have hd := (Hdl 0).out
        have hdw : IntKind.i64.wrap (d : Int) = (d : Int) := by rw [i64_w]; unfold wrap64; omega
        refine start_ (n := 7) (S := fun V_ => Boxed V_ gr 64 (.pointer (some ⟨R, 0, none⟩))) (ds := [6]) #[false, false, false, false, false, false, false] (by kernel_rfl) rfl rfl hG2 (fun hHeld => ?_)
        generalize V1.drew = V2 at *
        refine take_ (i := 0) (N := some 17) (v := ?_) (a' := ?_) #[true, false, false, false, false, false, false] rfl rfl (by kernel_rfl) (fun _ _ _ h => h) (Or.inl ⟨by rfl, ?_⟩) hHeld ?_ ?_
        rotate_left
        · intro w' hS_
          have q0 := hS_.cell
          go_simp
          try (with_reducible rfl)
        rotate_left
        · simp only [Act.put, List.setIfInBounds_toArray, List.set_cons_zero, List.set_cons_succ, i64_w, i32_w]
          rfl
        refine take_ (i := 1) (N := some 18) (v := ?_) (a' := ?_) #[true, true, false, false, false, false, false] rfl rfl (by kernel_rfl) (fun _ _ _ h => h) (Or.inl ⟨by rfl, ?_⟩) hHeld ?_ ?_
        rotate_left
        · intro w' hS_
          have q0 := hS_.cell
          go_simp
          try (with_reducible rfl)
        rotate_left
        · simp only [Act.put, List.setIfInBounds_toArray, List.set_cons_zero, List.set_cons_succ, i64_w, i32_w]
          rfl
        refine one_ (i := 2) (N := some 19) #[true, true, true, false, false, false, false] rfl rfl (by kernel_rfl) (by decide) (fun K hK => ?_)
        refine goes_ Try.func46 (by kernel_rfl) rfl #[.pointer (some ⟨R, 0, none⟩), .int .i64 ((1 : Nat) : Int)] (by rfl) rfl rfl (by (try simp only [List.map_toArray, List.map_cons, List.map_nil]); first | done | rfl) ?_
        refine (get_ok R 1 s3 (by decide) w0 V2 hI2 (hS2.below0 HB.out hRw)).mono ?_
        rw [(H3 0).out]
        rintro e V3 ⟨rfl, hI3, hT3⟩
        refine ⟨_, rfl, ?_⟩
        have hS3 := hS2.trans hT3
        have hx3 : RowAt V3 M (a : Int) (b : Int) (c : Int) ⟨#[]⟩ := hT3.block hx2 hMR
        have hG3 : Boxed V3 gr 64 (.pointer (some ⟨R, 0, none⟩)) := hT3.block hG2 hne
        refine hK.out _ _ hG3 (fun _ => ?_)
        clear hK K hT3 hS2 hI2 hx2 hG2
        refine pure_ (i := 3) (N := some 20) (v := ?_) (a' := ?_) #[true, true, true, true, false, false, false] rfl rfl (by kernel_rfl) (fun _ _ _ h => h) (Or.inl ⟨by rfl, ?_⟩) ?_ ?_
        rotate_left
        · intro w'
          go_simp
          try (with_reducible rfl)
        rotate_left
        · simp only [Act.put, List.setIfInBounds_toArray, List.set_cons_zero, List.set_cons_succ, List.getElem_toArray, List.getElem_cons_succ, List.getElem_cons_zero, hdw]
          rfl
        refine one_ (i := 4) (N := some 21) #[true, true, true, true, true, false, false] rfl rfl (by kernel_rfl) (by decide) (fun K hK => ?_)
        refine goes_ Try.func55 (by kernel_rfl) rfl #[.pointer (some ⟨R, 0, none⟩), .int .i64 (d : Int)] (by rfl) rfl rfl (by (try simp only [List.map_toArray, List.map_cons, List.map_nil]); first | done | rfl) ?_
        refine (take_ok R d s4 (by omega) w0 V3 hI3 (hS3.below0 HB.out hRw)).mono ?_
        rw [(H4 0).out]
        rintro e V4 ⟨rfl, hI4, hT4⟩
        refine ⟨_, rfl, ?_⟩
        have hS4 := hS3.trans hT4
        have hx4 : RowAt V4 M (a : Int) (b : Int) (c : Int) ⟨#[]⟩ := hT4.block hx3 hMR
        have hG4 : Boxed V4 gr 64 (.pointer (some ⟨R, 0, none⟩)) := hT4.block hG3 hne
        refine hK.out _ _ hG4 (fun _ => ?_)
        clear hK K hT4 hS3 hI3 hx3 hG3
        refine pure_ (i := 5) (N := some 22) (v := ?_) (a' := ?_) #[true, true, true, true, true, true, false] rfl rfl (by kernel_rfl) (fun _ _ _ h => h) (Or.inl ⟨by rfl, ?_⟩) ?_ ?_
        rotate_left
        · intro w'
          go_simp
          try (with_reducible rfl)
        rotate_left
        · simp only [Act.put, List.setIfInBounds_toArray, List.set_cons_zero, List.set_cons_succ, List.getElem_toArray, List.getElem_cons_succ, List.getElem_cons_zero, hdw]
          rfl
        obtain ⟨c0_, c1_, c2_, c3_, cf_⟩ := hx4.cells
        refine last_ (i := 6) (N := none) #[true, true, true, true, true, true, true] rfl rfl (by kernel_rfl) (by decide) (fun K hK => ?_)
        refine skip_step (w1 := V4.setCell ⟨M, 3, none⟩ (.string t)) (by rfl) ?hr2 ?_
        case hr2 => go_simp
        refine hK.out _ _ ?_
        clear hK K hHeld
        refine done_ (by kernel_rfl) ?_
        have hx5 := hx4.val t
        have hS5 := hS4.set (i := 3) hMn hRW (.string t)
        have hI5 := hI4.set (i := 3) hMR (.string t)
        generalize V4.setCell ⟨M, 3, none⟩ (.string t) = V5 at *
        have hG5 : Boxed V5 gr 64 (.pointer (some ⟨R, 0, none⟩)) := hS5.block hGW hne
        have hn5 : Boxed V5 gn 3 (.int .i64 (n : Int)) := hS5.block hNW hnn
        clear hS4 hI4 hx4 hG4 c0_ c1_ c2_ c3_ cf_ hGW hNW
        obtain ⟨c0_, c1_, c2_, c3_, cf_⟩ := hx5.cells
        have hJ5 := hJ pre W V5 HJ.out hS5
        have hltp : pre.length < n := by have := Hip.out; omega
        have hI6 : IsR w0 V5 R (stAt st (pre ++ [(⟨(a : Int), (b : Int), (c : Int), t⟩ : Row)]).length) := by
          rw [List.length_append, ← Hip.out]
          show IsR w0 V5 R (stAt st (i + 1))
          rw [(HsAt 0).out]
          exact hI5
        obtain ⟨fn, tmps, assign, body, hy, hRd⟩ := hY pre ⟨(a : Int), (b : Int), (c : Int), t⟩ V5 hJ5 ⟨hltp, (HrAt 0).out.symm⟩ hI6
        have hB5 := hS5.below0 HB.out hRw
        have HI6 := Lib.hid hI6
        have HI5 : Nat → Hid _ := fun _ => Lib.hid hI5
        clear hI6 hI5 hJ5 hS5 hIW HB HJ hRW hMn
        simp only [Act.put, List.setIfInBounds_toArray, List.set_cons_zero, List.set_cons_succ, List.getElem_toArray, List.getElem_cons_succ, List.getElem_cons_zero]
        gi_wp2
        refine hRd.mono ?_
        clear hRd c0_ c1_ c2_ c3_ cf_
        rintro e V6 (⟨rfl, hJ6, hk0, hk1, hk2, hk3⟩ | ⟨rfl, hJx6⟩)
        · have hI6 : IsR w0 V6 R s5 := ⟨hk3.trans ((HI5 0).out.1), hRw⟩
          have hn6 : Boxed V6 gn 3 (.int .i64 (n : Int)) := hk1.trans hn5
          have hG6 : Boxed V6 gr 64 (.pointer (some ⟨R, 0, none⟩)) := hk2.trans hG5
          have hB6 := hB5.trans hk0
          have HsA := (HsAt 0).out
          rw [← HsA] at hI6
          clear HsA
          gi_wp2
          exact ⟨⟨i + 1, pre ++ [⟨(a : Int), (b : Int), (c : Int), t⟩], by go_num, by rw [List.length_append, ← Hip.out]; rfl, by omega, hI6, hn6, hG6, hB6, hJ6⟩, by simp [intOf]; omega⟩
        · gi_wp2
          refine bodyPost_ret (results_none rfl _ _ _) rfl ?_
          exact ⟨⟨_, rfl⟩, .inr ⟨pre ++ [⟨(a : Int), (b : Int), (c : Int), t⟩], ⟨by simp, by rw [List.length_append]; exact hltp⟩, hJx6⟩⟩
end Go.Proofs.Ytmeaiancebgkoaa.H
