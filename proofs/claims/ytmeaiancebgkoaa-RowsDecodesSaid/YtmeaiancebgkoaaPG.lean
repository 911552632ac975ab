/- (*rows.reader).page: the walk. Written by rows_pg.py. -/
import Derived.Test.YtmeaiancebgkoaaRI
import Derived.Test.YtmeaiancebgkoaaRE
namespace Go.Proofs.Ytmeaiancebgkoaa.H
open Go.RowKit Go.Shelf Go.Proofs.YtmeaiancebgkoaaW.PrintWords Go.Proofs.YtmeaiancebgkoaaW.PrintLast Go.Proofs.YtmeaiancebgkoaaW.PrintMore
attribute [local go_sem] Oper.semAt_some max2_int min2_int max_two min_two
attribute [local go_sem high] eqA28
set_option linter.unusedVariables false
set_option linter.unusedSimpArgs false
set_option maxRecDepth 100000

theorem calls_of_wp_marks {P : Program} {f : FuncId} {fn : Func} {c : Code} {args : Array Value} {w : World} {R : Ending → World → Prop}
    (hf : P.funcs[f]? = some fn) (hb : fn.body = some c)
    (h : c.wp P (bodyPostM Fence.wide 9 P fn R) { tmps := args ++ Array.replicate (fn.ntmps - args.size) undef, defers := [] } w) : Calls P f args w R :=
  (callsIn_wide (n := 9)).1 (callsIn_of_wp_marks hf hb trivial (wpIn_wide.2 h))
/-- A way that panics is none. -/
def calm (Q : Exit → Act → World → Prop) : Exit → Act → World → Prop
  | .panic _, _, _ => False
  | e, a, w => Q e a w
theorem calls_calm {P : Program} {f : FuncId} {fn : Func} {c : Code} {args : Array Value} {w : World} {R : Ending → World → Prop}
    (hf : P.funcs[f]? = some fn) (hb : fn.body = some c)
    (h : c.wp P (calm (bodyPostM Fence.wide 9 P fn R)) { tmps := args ++ Array.replicate (fn.ntmps - args.size) undef, defers := [] } w) : Calls P f args w R :=
  calls_of_wp_marks hf hb (wp_mono h (fun e a w h => by cases e <;> first | exact h | exact h.elim))
theorem PBox.frozen {w : World} {N : Nat} {k x y lv : Int} {v4 v5 : Value} {np : Int} {nt : ByteArray} (h : PBox w N k x y lv v4 v5 np nt) (i : Nat) : w.frozen? ⟨N, i, none⟩ = false := blk_frozen h i
theorem StR.page {R N : Nat} {A B : World} {k x y lv : Int} {v4 v5 : Value} {np : Int} {nt : ByteArray} (h : StR R A B) (hp : PBox A N k x y lv v4 v5 np nt) (hN : N ≠ R) : PBox B N k x y lv v4 v5 np nt := h.block hp hN
theorem infoRef : (Try.prog.info? 28).map (fun i => (i.zero, i.size, i.bytes)) = some (some (.agg #[(.int .u32 0), (.string ⟨#[]⟩)]), 2, 24) := by kernel_rfl
theorem infoRow : (Try.prog.info? 47).map (fun i => (i.zero, i.size, i.bytes)) = some (some (.agg #[(.int .u64 0), (.int .u32 0), (.int .u32 0), (.string ⟨#[]⟩)]), 4, 32) := by kernel_rfl
theorem R28 {R : Nat} {st : RSt} {w0 V V' : World} {base : Nat} {v : Value} {xs : List Ref} (h : StR R V V') (hI : IsR w0 V R st) (ho : Kd.R k28 28 V base (fun _ => True) v xs) : Kd.R k28 28 V' base (fun _ => True) v xs :=
  Kd.R_mono (Kd.R_step (hI.apart ho (by decide)) (fun k hk hl => h.2.2 k hl hk.2 (by simp))) (fun _ _ => trivial)
theorem R47 {R : Nat} {st : RSt} {w0 V V' : World} {base : Nat} {v : Value} {xs : List Row} (h : StR R V V') (hI : IsR w0 V R st) (ho : Kd.R k47 47 V base (fun _ => True) v xs) : Kd.R k47 47 V' base (fun _ => True) v xs :=
  Kd.R_mono (Kd.R_step (hI.apart ho (by decide)) (fun k hk hl => h.2.2 k hl hk.2 (by simp))) (fun _ _ => trivial)
theorem PBox.set0 {V : World} {N : Nat} {k x y lv : Int} {v4 v5 : Value} {np : Int} {nt : ByteArray} (h : PBox V N k x y lv v4 v5 np nt) (u : Int) : PBox (V.setCell ⟨N, 0, none⟩ (.int .i64 u)) N u x y lv v4 v5 np nt := blk_put h 0 _ rfl
theorem PBox.set3 {V : World} {N : Nat} {k x y lv : Int} {v4 v5 : Value} {np : Int} {nt : ByteArray} (h : PBox V N k x y lv v4 v5 np nt) (u : Int) : PBox (V.setCell ⟨N, 3, none⟩ (.int .i64 u)) N k x y u v4 v5 np nt := blk_put h 3 _ rfl
theorem PBox.set1 {V : World} {N : Nat} {k x y lv : Int} {v4 v5 : Value} {np : Int} {nt : ByteArray} (h : PBox V N k x y lv v4 v5 np nt) (u : Int) : PBox (V.setCell ⟨N, 1, none⟩ (.int .u32 u)) N k u y lv v4 v5 np nt := blk_put h 1 _ rfl
theorem PBox.set2 {V : World} {N : Nat} {k x y lv : Int} {v4 v5 : Value} {np : Int} {nt : ByteArray} (h : PBox V N k x y lv v4 v5 np nt) (u : Int) : PBox (V.setCell ⟨N, 2, none⟩ (.int .u32 u)) N k x u lv v4 v5 np nt := blk_put h 2 _ rfl
theorem PBox.set4 {V : World} {N : Nat} {k x y lv : Int} {v4 v5 : Value} {np : Int} {nt : ByteArray} (h : PBox V N k x y lv v4 v5 np nt) (u : Value) : PBox (V.setCell ⟨N, 4, none⟩ u) N k x y lv u v5 np nt := blk_put h 4 _ rfl
theorem PBox.set5 {V : World} {N : Nat} {k x y lv : Int} {v4 v5 : Value} {np : Int} {nt : ByteArray} (h : PBox V N k x y lv v4 v5 np nt) (u : Value) : PBox (V.setCell ⟨N, 5, none⟩ u) N k x y lv v4 u np nt := blk_put h 5 _ rfl
theorem PBox.set6 {V : World} {N : Nat} {k x y lv : Int} {v4 v5 : Value} {np : Int} {nt : ByteArray} (h : PBox V N k x y lv v4 v5 np nt) (u : Int) : PBox (V.setCell ⟨N, 6, none⟩ (.int .u32 u)) N k x y lv v4 v5 u nt := blk_put h 6 _ rfl
theorem PBox.set7 {V : World} {N : Nat} {k x y lv : Int} {v4 v5 : Value} {np : Int} {nt : ByteArray} (h : PBox V N k x y lv v4 v5 np nt) (u : ByteArray) : PBox (V.setCell ⟨N, 7, none⟩ (.string u)) N k x y lv v4 v5 np u := blk_put h 7 _ rfl
/-- A page's box is filled. -/
def fillW (V : World) (Q : Nat) (k x y lv : Int) (v4 v5 : Value) (np : Int) (nt : ByteArray) : World := ((((((((V.setCell ⟨Q, 0, none⟩ (.int .i64 k)).setCell ⟨Q, 1, none⟩ (.int .u32 x)).setCell ⟨Q, 2, none⟩ (.int .u32 y)).setCell ⟨Q, 3, none⟩ (.int .i64 lv)).setCell ⟨Q, 4, none⟩ v4).setCell ⟨Q, 5, none⟩ v5).setCell ⟨Q, 6, none⟩ (.int .u32 np)).setCell ⟨Q, 7, none⟩ (.string nt))
theorem PBox.fill {V : World} {Q : Nat} {k x y lv : Int} {v4 v5 : Value} {np : Int} {nt : ByteArray} (h : PBox V Q k x y lv v4 v5 np nt) (k' x' y' lv' : Int) (u4 u5 : Value) (np' : Int) (nt' : ByteArray) : PBox (fillW V Q k' x' y' lv' u4 u5 np' nt') Q k' x' y' lv' u4 u5 np' nt' :=
  (((((((h.set0 k').set1 x').set2 y').set3 lv').set4 u4).set5 u5).set6 np').set7 nt'
theorem IsR.fill {w0 V : World} {R Q : Nat} {st : RSt} (h : IsR w0 V R st) (hR : R ≠ Q) (k x y lv : Int) (v4 v5 : Value) (np : Int) (nt : ByteArray) : IsR w0 (fillW V Q k x y lv v4 v5 np nt) R st :=
  (((((((h.far (p := ⟨Q, 0, none⟩) hR _).far (p := ⟨Q, 1, none⟩) hR _).far (p := ⟨Q, 2, none⟩) hR _).far (p := ⟨Q, 3, none⟩) hR _).far (p := ⟨Q, 4, none⟩) hR _).far (p := ⟨Q, 5, none⟩) hR _).far (p := ⟨Q, 6, none⟩) hR _).far (p := ⟨Q, 7, none⟩) hR _
theorem below_fill {w0 V : World} {Q : Nat} (h : Below w0.heap.size w0 V) (hQ : w0.heap.size ≤ Q) (k x y lv : Int) (v4 v5 : Value) (np : Int) (nt : ByteArray) : Below w0.heap.size w0 (fillW V Q k x y lv v4 v5 np nt) :=
  below_set (below_set (below_set (below_set (below_set (below_set (below_set (below_set h hQ) hQ) hQ) hQ) hQ) hQ) hQ) hQ
theorem R28.fill {V : World} {Q base : Nat} {v : Value} {xs : List Ref} {k x y lv : Int} {v4 v5 : Value} {np : Int} {nt : ByteArray} (ho : Kd.R k28 28 V base (fun _ => True) v xs) (hp : PBox V Q k x y lv v4 v5 np nt) (k' x' y' lv' : Int) (u4 u5 : Value) (np' : Int) (nt' : ByteArray) :
    Kd.R k28 28 (fillW V Q k' x' y' lv' u4 u5 np' nt') base (fun _ => True) v xs := by
  have h := Kd.R_types ho hp (by decide)
  have f : ∀ (W : World) (i : Nat) (u : Value), Kd.R k28 28 W base (fun k => True ∧ k ≠ Q) v xs → Kd.R k28 28 (W.setCell ⟨Q, i, none⟩ u) base (fun k => True ∧ k ≠ Q) v xs := fun W i u h => Kd.R_far h (p := ⟨Q, i, none⟩) (fun k hk => hk.2) u
  exact Kd.R_mono (f _ 7 _ (f _ 6 _ (f _ 5 _ (f _ 4 _ (f _ 3 _ (f _ 2 _ (f _ 1 _ (f _ 0 _ h)))))))) (fun _ _ => trivial)
theorem R47.fill {V : World} {Q base : Nat} {v : Value} {xs : List Row} {k x y lv : Int} {v4 v5 : Value} {np : Int} {nt : ByteArray} (ho : Kd.R k47 47 V base (fun _ => True) v xs) (hp : PBox V Q k x y lv v4 v5 np nt) (k' x' y' lv' : Int) (u4 u5 : Value) (np' : Int) (nt' : ByteArray) :
    Kd.R k47 47 (fillW V Q k' x' y' lv' u4 u5 np' nt') base (fun _ => True) v xs := by
  have h := Kd.R_types ho hp (by decide)
  have f : ∀ (W : World) (i : Nat) (u : Value), Kd.R k47 47 W base (fun k => True ∧ k ≠ Q) v xs → Kd.R k47 47 (W.setCell ⟨Q, i, none⟩ u) base (fun k => True ∧ k ≠ Q) v xs := fun W i u h => Kd.R_far h (p := ⟨Q, i, none⟩) (fun k hk => hk.2) u
  exact Kd.R_mono (f _ 7 _ (f _ 6 _ (f _ 5 _ (f _ 4 _ (f _ 3 _ (f _ 2 _ (f _ 1 _ (f _ 0 _ h)))))))) (fun _ _ => trivial)
theorem ba_inj {a b : ByteArray} (h : a.toList = b.toList) : a = b := by
  rw [Lib.toList_data, Lib.toList_data] at h
  obtain ⟨⟨a⟩⟩ := a
  obtain ⟨⟨b⟩⟩ := b
  simp only at h
  rw [h]
theorem R_append_in {P : Program} {ops : Array Oper} {rest : List Oper} {o : Oper} {a : Act} {Q : Exit → Act → World → Prop} {α : Type} (d : Kd α) {l m : Nat} {w0 W : World} (base : Nat) (hgd : o.guard = none) (s x : Operand) (t e : TypeId) (z : Value) (bytes : Nat)
    (ho : o.op = .call { callee := .builtin .append, args := #[s, x], argTypes := #[t, t] })
    (ht : P.underlying t = some (.slice e)) (hinfo : (P.info? e).map (fun i => (i.zero, i.size, i.bytes)) = some (some z, d.sz, bytes)) (hz : z.cells.size = d.sz) (hs0 : 0 < d.sz) (hb0 : 0 < bytes)
    (v : Value) (xs : List α) (p : α) (cs : List Value) (ok okp : Nat → Prop) (hs : a.eval s = v) (hx : a.eval x = .slice (some ⟨W.heap.size, 0, none⟩) 1 1) (hp : d.M W base okp p cs) (hokp : ∀ k, okp k → ok k ∧ some k ≠ v.ownBlock) (hfresh : ∀ k, W.heap.size ≤ k → ok k)
    (HO : d.R e W base ok v xs) (HB : Below base w0 W) (hbase : base ≤ W.heap.size) (hl : (xs.length + 1) * bytes ≤ 140737488355328)
    (h : ∀ v1 w1, d.R e w1 base ok v1 (xs ++ [p]) → Below base w0 w1 → W.grownBy w1 v.ownBlock → (v1.ownBlock = v.ownBlock ∨ ∃ b, v1.ownBlock = some b ∧ W.heap.size ≤ b) → wpListIn (Fence.wide.inRound l) m P ops Q rest (a.put o.dst v1) w1) :
    wpListIn (Fence.wide.inRound l) m P ops Q (o :: rest) a (W.alloc (.cells cs.toArray e)) := by
  refine wpListIn_plain hgd (fun K hK => oper_wpIn_of_wp (fun c => by rw [ho]; simp) ?_)
  have hw : Region.wanted o (yielded ops a.tmps) = true := by simp only [Region.wanted, hgd]
  have h2 := Kd.R_append_step (ops := ops) (o := o) (a := a) (Kc := K) (Q := Q) d base hw s x t e z bytes ho ht hinfo hz hs0 hb0 v xs p cs ok okp hs hx hp hokp hfresh HO HB hbase hl (fun v1 w1 h1 h2 h3 h4 => hK _ _ (h v1 w1 h1 h2 h3 h4))
  rwa [if_pos hw] at h2
theorem heap_own {W W' : World} {row : Option Nat} {b : Nat} {cs : Array Value} {t : TypeId} {fz : Nat × Nat} (h : W.heap[b]? = some (.cells cs t fz)) (hg : W.grownBy W' row) (hr : ∀ r, row = some r → ∃ o : Obj, W.heap[r]? = some o ∧ o.isCells = false) : W'.heap[b]? = some (.cells cs t fz) :=
  (hg.block b (Array.getElem?_eq_some_iff.1 h).1 (fun e => by
    obtain ⟨o, ho, hc⟩ := hr b e.symm
    rw [h] at ho
    cases ho
    cases hc)).trans h
theorem R47_own {W W' : World} {row : Option Nat} {base R : Nat} {v : Value} {xs : List Row} (h : Kd.R k47 47 W base (fun k => k ≠ R) v xs) (hg : W.grownBy W' row) (hr : ∀ r, row = some r → ∃ o : Obj, W.heap[r]? = some o ∧ o.isCells = false) : Kd.R k47 47 W' base (fun k => k ≠ R) v xs :=
  Kd.R_mono (Kd.R_grown (Kd.R_bound h) hg (fun k hk e => by
    obtain ⟨_, _, _, q, _, cells, hc⟩ := hk
    obtain ⟨o, ho, hn⟩ := hr k e.symm
    rw [hc] at ho
    cases ho
    cases hn)) (fun _ hk => hk.1)
theorem R47_step {R base : Nat} {V V' : World} {v : Value} {xs : List Row} (h : StR R V V') (ho : Kd.R k47 47 V base (fun k => k ≠ R) v xs) : Kd.R k47 47 V' base (fun k => k ≠ R) v xs :=
  Kd.R_step ho (fun k hk hl => h.2.2 k hl hk (by simp))
theorem rows_any (R : Nat) (n : Int) (w : World) : Calls Try.prog 48 #[.pointer (some ⟨R, 0, none⟩), .int .i64 n] w fun e w' =>
    e = .returned (.func (.func 56) #[] #[.pointer (some ⟨w.heap.size + 1, 0, none⟩), .pointer (some ⟨w.heap.size, 0, none⟩)]) ∧ (w.alloc (.cells #[.pointer (some ⟨R, 0, none⟩)] 64)).alloc (.cells #[.int .i64 n] 3) = w' := by
  go_enter Try.func48, Try.ntmps48
  go_wp2
  go_ret
  exact ⟨rfl, rfl⟩
/-- What the range keeps: k rows are read. -/
structure LK (w0 : World) (g gn gr R Q P n : Nat) (kd np : Int) (nt : ByteArray) (l : List Row) (V : World) : Prop where
  g : Boxed V g 64 (.pointer (some ⟨R, 0, none⟩))
  n : Boxed V gn 3 (.int .i64 (n : Int))
  r : Boxed V gr 64 (.pointer (some ⟨R, 0, none⟩))
  q : PBox V Q 0 0 0 0 (.slice none 0 0) (.slice none 0 0) 0 ⟨#[]⟩
  b : Below w0.heap.size w0 V
  o : ∃ A c, PBox V P kd 0 0 0 (.slice A l.length c) (.slice none 0 0) np nt ∧ Kd.R k47 47 V w0.heap.size (fun k => k ≠ R) (.slice A l.length c) l
section
variable {w0 : World} {g gn gr R Q P n : Nat} {kd np : Int} {nt : ByteArray} {l : List Row} {V V' : World}
theorem LK.step (h : LK w0 g gn gr R Q P n kd np nt l V) (hT : StR R V V') (hR : w0.heap.size ≤ R) (h1 : g ≠ R) (h2 : gn ≠ R) (h3 : gr ≠ R) (h4 : Q ≠ R) (h5 : P ≠ R) : LK w0 g gn gr R Q P n kd np nt l V' := by
  obtain ⟨A, c, hp, ho⟩ := h.o
  exact ⟨hT.block h.g h1, hT.block h.n h2, hT.block h.r h3, hT.page h.q h4, hT.below0 h.b hR, A, c, hT.page hp h5, R47_step hT ho⟩
theorem LK.below (h : LK w0 g gn gr R Q P n kd np nt l V) (hb : Below V.heap.size V V') : LK w0 g gn gr R Q P n kd np nt l V' := by
  obtain ⟨A, c, hp, ho⟩ := h.o
  exact ⟨(hb.block _ h.g.lt).trans h.g, (hb.block _ h.n.lt).trans h.n, (hb.block _ h.r.lt).trans h.r, (hb.block _ (blk_lt h.q)).trans h.q, below_step h.b hb, A, c, (hb.block _ (blk_lt hp)).trans hp, Kd.R_below ho hb⟩
theorem LK.own {row : Option Nat} (h : LK w0 g gn gr R Q P n kd np nt l V) (hg : V.grownBy V' row) {D : Nat} (hD : w0.heap.size ≤ D) (hr : ∀ r, row = some r → D ≤ r ∧ ∃ o : Obj, V.heap[r]? = some o ∧ o.isCells = false) : LK w0 g gn gr R Q P n kd np nt l V' := by
  have hr2 : ∀ r, row = some r → ∃ o : Obj, V.heap[r]? = some o ∧ o.isCells = false := fun r e => (hr r e).2
  obtain ⟨A, c, hp, ho⟩ := h.o
  exact ⟨heap_own h.g hg hr2, heap_own h.n hg hr2, heap_own h.r hg hr2, heap_own h.q hg hr2, h.b.grown hg h.b.size (fun r e => by have := (hr r e).1; omega), A, c, heap_own hp hg hr2, R47_own ho hg hr2⟩
end
def LInv (w0 : World) (g gn gr R Q P n : Nat) (kd np : Int) (nt : ByteArray) (st : RSt) (pre : List Row) (V : World) : Prop :=
  LK w0 g gn gr R Q P n kd np nt pre V ∧ pre = rowsTo st pre.length ∧ ∀ j, 1 ≤ j → j ≤ pre.length → stops st j = false
def LOut (w0 : World) (g gn gr R Q P n : Nat) (kd np : Int) (nt : ByteArray) (st : RSt) (c : Code) (pre : List Row) (V : World) : Prop :=
  c = .exit 2 ∧ LK w0 g gn gr R Q P n kd np nt pre V ∧ IsR w0 V R (stAt st pre.length) ∧ pre = rowsTo st pre.length ∧ stops st pre.length = true ∧ ∀ j, 1 ≤ j → j < pre.length → stops st j = false
theorem IsR_own {w0 V : World} {R : Nat} {st : RSt} {V' : World} {row : Option Nat} (h : IsR w0 V R st) (hg : V.grownBy V' row) (hr : ∀ r, row = some r → ∃ o : Obj, V.heap[r]? = some o ∧ o.isCells = false) : IsR w0 V' R st := ⟨heap_own h.1 hg hr, h.2⟩
theorem LInv_own {w0 : World} {g gn gr R Q P n : Nat} {kd np : Int} {nt : ByteArray} {st : RSt} {D : Nat} (hD : w0.heap.size ≤ D) : OwnFrom D (LInv w0 g gn gr R Q P n kd np nt st) := by
  rintro s A B row ⟨h1, h2, h3⟩ hg hr
  exact ⟨h1.own hg hD hr, h2, h3⟩
theorem LOut_own {w0 : World} {g gn gr R Q P n : Nat} {kd np : Int} {nt : ByteArray} {st : RSt} {D : Nat} (hD : w0.heap.size ≤ D) (c : Code) : OwnFrom D (LOut w0 g gn gr R Q P n kd np nt st c) := by
  rintro s A B row ⟨h0, h1, h2, h3⟩ hg hr
  exact ⟨h0, h1.own hg hD hr, IsR_own h2 hg (fun r e => (hr r e).2), h3⟩
theorem Below.between {m : Nat} {w0 A B : World} (hA : Below m w0 A) (hB : Below m w0 B) (hs : A.heap.size ≤ B.heap.size) : Below m A B :=
  ⟨hB.os.trans hA.os.symm, hB.tape.trans hA.tape.symm, hB.output.trans hA.output.symm, hs, fun k hk => (hB.block k hk).trans (hA.block k hk).symm⟩
theorem keeps_row {D : Nat} {A B : World} {row : Option Nat} (hg : A.grownBy B row) (hr : ∀ r, row = some r → ∃ cs t fz, A.heap[r]? = some (.cells cs t fz)) : KeepsFrom D A B :=
  ⟨hg.size, fun k o _ ho hc => (hg.block k (Array.getElem?_eq_some_iff.1 ho).1 (fun e => by
    obtain ⟨cs, t, fz, h⟩ := hr k e.symm
    rw [ho] at h
    cases h
    cases hc)).trans ho⟩
theorem keeps_set {D P i : Nat} {A : World} {cs : Array Value} {t : TypeId} {fz : Nat × Nat} (h : A.heap[P]? = some (.cells cs t fz)) (u : Value) : KeepsFrom D A (A.setCell ⟨P, i, none⟩ u) :=
  ⟨by simp [World.setCell], fun k o _ ho hc => (Below.heap_setCell A ⟨P, i, none⟩ u k (fun e => by
    have e' : k = P := e
    subst e'
    rw [ho] at h
    cases h
    cases hc)).trans ho⟩
theorem fill_other (V : World) (Q D : Nat) (hD : D ≠ Q) (k x y lv : Int) (v4 v5 : Value) (np : Int) (nt : ByteArray) {o : Obj} (h : V.heap[D]? = some o) : (fillW V Q k x y lv v4 v5 np nt).heap[D]? = some o := by
  unfold fillW
  iterate 8 rw [Below.heap_setCell _ _ _ D hD]
  exact h
theorem R47.fill' {V : World} {Q base R : Nat} {v : Value} {xs : List Row} {k x y lv : Int} {v4 v5 : Value} {np : Int} {nt : ByteArray} (ho : Kd.R k47 47 V base (fun k => k ≠ R) v xs) (hp : PBox V Q k x y lv v4 v5 np nt) (k' x' y' lv' : Int) (u4 u5 : Value) (np' : Int) (nt' : ByteArray) :
    Kd.R k47 47 (fillW V Q k' x' y' lv' u4 u5 np' nt') base (fun k => k ≠ R) v xs := by
  have h := Kd.R_types ho hp (by decide)
  have f : ∀ (W : World) (i : Nat) (u : Value), Kd.R k47 47 W base (fun k => k ≠ R ∧ k ≠ Q) v xs → Kd.R k47 47 (W.setCell ⟨Q, i, none⟩ u) base (fun k => k ≠ R ∧ k ≠ Q) v xs := fun W i u h => Kd.R_far h (p := ⟨Q, i, none⟩) (fun k hk => hk.2) u
  exact Kd.R_mono (f _ 7 _ (f _ 6 _ (f _ 5 _ (f _ 4 _ (f _ 3 _ (f _ 2 _ (f _ 1 _ (f _ 0 _ h)))))))) (fun _ hk => hk.1)
theorem page_end {W : World} {D : Nat} {tmps : Array Value} {R : Ending → World → Prop} {g : Nat} {cs : Array Value} (hD : W.heap[D]? = some (.deferred (some []))) (hp : tmps.getD 2 undef = .pointer (some ⟨g, 0, none⟩)) (hg : (W.putObj D (.deferred none)).heap[g]? = some (.cells cs 30 (0, 0))) (hi : (Try.prog.info? 30).map (·.size) = some cs.size) (hR : R (.returned (.agg cs)) (W.putObj D (.deferred none))) :
    calm (bodyPostM Fence.wide 9 Try.prog Try.f34 R) .ret { tmps := tmps, defers := [{ target := .collected D, args := #[] }] } W := by
  refine ⟨by simp, .inl ⟨D, _, rfl, run_takeDeferred hD, ?_⟩⟩
  exact ⟨_, results_cell_row rfl _ _ g 30 cs (0, 0) _ hp hg Try.underlying30 rfl hi, hR⟩
theorem readTo_eq (st : RSt) (n m : Nat) (hm : m ≤ n) (hno : ∀ j, 1 ≤ j → j < m → stops st j = false) (hend : m = n ∨ (1 ≤ m ∧ stops st m = true)) : ∀ (f k : Nat), k ≤ m → m ≤ f + k → (k = m → m = n ∨ k = 0 ∧ m = 0) → readTo st n f k = m := by
  intro f
  induction f with
  | zero => intro k hk hf hc; rw [readTo]; omega
  | succ f ih =>
    intro k hk hf hc
    rw [readTo]
    by_cases h1 : k = n
    · rw [if_pos h1]; omega
    · rw [if_neg h1]
      have hkm : k < m := by
        rcases Nat.lt_or_ge k m with h | h
        · exact h
        · have := hc (by omega)
          rcases hend with h2 | h2 <;> omega
      by_cases h2 : k + 1 = m
      · by_cases h3 : stops st (k + 1) = true
        · rw [if_pos h3]; exact h2
        · rw [if_neg h3]
          refine ih (k + 1) (by omega) (by omega) (fun _ => ?_)
          rcases hend with h4 | h4
          · exact .inl h4
          · rw [h2] at h3; exact absurd h4.2 h3
      · rw [if_neg (by rw [hno (k + 1) (by omega) (by omega)]; decide)]
        exact ih (k + 1) (by omega) (by omega) (fun e => absurd e h2)
/-- What page keeps while it reads. -/
structure PK (w0 : World) (g R Q P : Nat) (st : RSt) (k x y lv : Int) (v4 v5 : Value) (np : Int) (nt : ByteArray) (V : World) : Prop where
  r : IsR w0 V R st
  g : Boxed V g 64 (.pointer (some ⟨R, 0, none⟩))
  q : PBox V Q 0 0 0 0 (.slice none 0 0) (.slice none 0 0) 0 ⟨#[]⟩
  p : PBox V P k x y lv v4 v5 np nt
  b : Below w0.heap.size w0 V
section
variable {w0 : World} {g R Q P : Nat} {st : RSt} {k x y lv : Int} {v4 v5 : Value} {np : Int} {nt : ByteArray} {V V' : World}
theorem PK.step (h : PK w0 g R Q P st k x y lv v4 v5 np nt V) {st' : RSt} (hI : IsR w0 V' R st') (hT : StR R V V') (hg : g ≠ R) (hQ : Q ≠ R) (hP : P ≠ R) : PK w0 g R Q P st' k x y lv v4 v5 np nt V' :=
  ⟨hI, hT.block h.g hg, hT.page h.q hQ, hT.page h.p hP, hT.below0 h.b hI.ge⟩
theorem PK.set {k' x' y' lv' : Int} {u4 u5 : Value} {np' : Int} {nt' : ByteArray} (h : PK w0 g R Q P st k x y lv v4 v5 np nt V) {i : Nat} {u : Value} (hp : PBox (V.setCell ⟨P, i, none⟩ u) P k' x' y' lv' u4 u5 np' nt') (hg : g ≠ P) (hQ : Q ≠ P) (hR : R ≠ P) (hw : w0.heap.size ≤ P) : PK w0 g R Q P st k' x' y' lv' u4 u5 np' nt' (V.setCell ⟨P, i, none⟩ u) :=
  ⟨h.r.far (p := ⟨P, i, none⟩) hR u, (Below.heap_setCell _ ⟨P, i, none⟩ _ g hg).trans h.g, blk_far h.q (p := ⟨P, i, none⟩) hQ u, hp, below_set h.b hw⟩
theorem PK.below (h : PK w0 g R Q P st k x y lv v4 v5 np nt V) (hb : Below V.heap.size V V') : PK w0 g R Q P st k x y lv v4 v5 np nt V' :=
  ⟨h.r.below hb, (hb.block _ h.g.lt).trans h.g, (hb.block _ (blk_lt h.q)).trans h.q, (hb.block _ (blk_lt h.p)).trans h.p, below_step h.b hb⟩
end

set_option maxHeartbeats 4000000 in
theorem page_inner (R : Nat) (st : RSt) (w0 w : World) (hI : IsR w0 w R st) (hB : Below w0.heap.size w0 w) (n : Nat) (s1 s2 : RSt) (h1 : getS st 1 = (2, s1)) (h2 : getS s1 1 = (n, s2)) (lv : Nat) (s3 : RSt) (h3 : getS s2 1 = (lv, s3)) (x : Nat) (s4 : RSt) (h4 : getS s3 4 = (x, s4)) (y : Nat) (s5 : RSt) (h5 : getS s4 4 = (y, s5)) :
    Calls Try.prog 34 #[.pointer (some ⟨R, 0, none⟩)] w fun e w' => ∃ v4 v5, e = .returned (.agg #[.int .i64 2, .int .u32 (x : Int), .int .u32 (y : Int), .int .i64 (lv : Int), v4, v5, .int .u32 0, .string ⟨#[]⟩]) ∧
      Kd.R k47 47 w' w0.heap.size (fun _ => True) v4 [] ∧ Kd.R k28 28 w' w0.heap.size (fun _ => True) v5 (kidsAt s5 (min n 5)).1 ∧ IsR w0 w' R (kidsAt s5 (min n 5)).2 ∧ Below w0.heap.size w0 w' := by
  have hnl : n < 256 := by have := getS_lt s1 1; rw [h2] at this; exact this
  have hnw : IntKind.i64.wrap (n : Int) = (n : Int) := by rw [i64_w]; unfold wrap64; omega
  have hRw : w0.heap.size ≤ R := hI.ge
  obtain ⟨g, hg⟩ : ∃ g, w.heap.size = g := ⟨_, rfl⟩
  have hRg : R < g := by rw [← hg]; exact hI.lt
  have H1 : Nat → Hid _ := fun _ => Lib.hid h1
  have H2 : Nat → Hid _ := fun _ => Lib.hid h2
  have H3 : Nat → Hid _ := fun _ => Lib.hid h3
  have hll : lv < 256 := by have := getS_lt s2 1; rw [h3] at this; exact this
  have hlw : IntKind.i64.wrap (lv : Int) = (lv : Int) := by rw [i64_w]; unfold wrap64; omega
  have H4 : Nat → Hid _ := fun _ => Lib.hid h4
  have H5 : Nat → Hid _ := fun _ => Lib.hid h5
  have hxl : x < 4294967296 := by have := getS_lt s3 4; rw [h4] at this; exact this
  have hyl : y < 4294967296 := by have := getS_lt s4 4; rw [h5] at this; exact this
  have hxw : IntKind.u32.wrap (x : Int) = (x : Int) := by rw [IntKind.wrap_u32]; omega
  have hyw : IntKind.u32.wrap (y : Int) = (y : Int) := by rw [IntKind.wrap_u32]; omega
  clear h1 h2 h3 h4 h5 hnl hll hxl hyl
  refine calls_calm Try.func34 rfl ?_
  simp only [Try.ntmps34, List.size_toArray, List.length_cons, List.length_nil, Nat.reduceAdd, Nat.reduceSub, Array.replicate_succ, Array.replicate_zero, List.push_toArray, List.append_toArray, List.nil_append, List.cons_append]
  go_wp2
  refine wp_scope_straight ?_
  go_upto_region 1 with (fail)
  have hbel : Below w.heap.size w ((w.alloc (.cells #[.pointer (some ⟨R, 0, none⟩)] 64)).alloc (.cells #[.int .i64 0, .int .u32 0, .int .u32 0, .int .i64 0, .slice none 0 0, .slice none 0 0, .int .u32 0, .string ⟨#[]⟩] 30)) := ((Below.refl _ w).alloc (Nat.le_refl _) _).alloc (by simp) _
  have hG := (Boxed.new w 64 (.pointer (some ⟨R, 0, none⟩))).alloc (.cells #[.int .i64 0, .int .u32 0, .int .u32 0, .int .i64 0, .slice none 0 0, .slice none 0 0, .int .u32 0, .string ⟨#[]⟩] 30)
  have hQ : PBox ((w.alloc (.cells #[.pointer (some ⟨R, 0, none⟩)] 64)).alloc (.cells #[.int .i64 0, .int .u32 0, .int .u32 0, .int .i64 0, .slice none 0 0, .slice none 0 0, .int .u32 0, .string ⟨#[]⟩] 30)) (g + 1) 0 0 0 0 (.slice none 0 0) (.slice none 0 0) 0 ⟨#[]⟩ := by
    have h := World.alloc_heap_new (w.alloc (.cells #[.pointer (some ⟨R, 0, none⟩)] 64)) (.cells #[.int .i64 0, .int .u32 0, .int .u32 0, .int .i64 0, .slice none 0 0, .slice none 0 0, .int .u32 0, .string ⟨#[]⟩] 30)
    rw [World.size_alloc, hg] at h
    exact h
  have hI1 := hI.below hbel
  have hB1 := below_step hB hbel
  have hs1 : ((w.alloc (.cells #[.pointer (some ⟨R, 0, none⟩)] 64)).alloc (.cells #[.int .i64 0, .int .u32 0, .int .u32 0, .int .i64 0, .slice none 0 0, .slice none 0 0, .int .u32 0, .string ⟨#[]⟩] 30)).heap.size = g + 2 := by rw [World.size_alloc, World.size_alloc, hg]
  rw [hg] at hG
  change Code.wp _ _ _ _ ((w.alloc (.cells #[.pointer (some ⟨R, 0, none⟩)] 64)).alloc (.cells #[.int .i64 0, .int .u32 0, .int .u32 0, .int .i64 0, .slice none 0 0, .slice none 0 0, .int .u32 0, .string ⟨#[]⟩] 30))
  generalize (w.alloc (.cells #[.pointer (some ⟨R, 0, none⟩)] 64)).alloc (.cells #[.int .i64 0, .int .u32 0, .int .u32 0, .int .i64 0, .slice none 0 0, .slice none 0 0, .int .u32 0, .string ⟨#[]⟩] 30) = W1 at *
  have c0 := hG.cell
  clear hI hB hbel hg
  have hgR : g ≠ R := by omega
  have hQR : g + 1 ≠ R := by omega
  go_wp2_with fail
  refine (get_ok R 1 st (by decide) w0 W1 hI1 hB1).mono ?_
  rw [(H1 0).out]
  rintro e W2 ⟨rfl, hI2, hT2⟩
  have hG2 : Boxed W2 g 64 (.pointer (some ⟨R, 0, none⟩)) := hT2.block hG hgR
  have hQ2 := hT2.page hQ hQR
  have hB2 := hT2.below0 hB1 hRw
  obtain ⟨P, hP⟩ : ∃ P, W2.heap.size = P := ⟨_, rfl⟩
  have hgP : g + 1 < P := by have := hT2.1.size; omega
  have hPR : P ≠ R := by omega
  clear hG hQ hI1 hB1 hT2 c0 hs1
  have hb3 : Below W2.heap.size W2 (W2.alloc (.cells #[.int .i64 2, .int .u32 0, .int .u32 0, .int .i64 0, .slice none 0 0, .slice none 0 0, .int .u32 0, .string ⟨#[]⟩] 30)) := (Below.refl _ W2).alloc (Nat.le_refl _) _
  have hp3 : PBox (W2.alloc (.cells #[.int .i64 2, .int .u32 0, .int .u32 0, .int .i64 0, .slice none 0 0, .slice none 0 0, .int .u32 0, .string ⟨#[]⟩] 30)) P 2 0 0 0 (.slice none 0 0) (.slice none 0 0) 0 ⟨#[]⟩ := by rw [← hP]; exact World.alloc_heap_new _ _
  have hK3 : PK w0 g R (g + 1) P s1 2 0 0 0 (.slice none 0 0) (.slice none 0 0) 0 ⟨#[]⟩ (W2.alloc (.cells #[.int .i64 2, .int .u32 0, .int .u32 0, .int .i64 0, .slice none 0 0, .slice none 0 0, .int .u32 0, .string ⟨#[]⟩] 30)) := ⟨hI2.below hb3, (hb3.block _ hG2.lt).trans hG2, (hb3.block _ (blk_lt hQ2)).trans hQ2, hp3, below_step hB2 hb3⟩
  have hs3 : (W2.alloc (.cells #[.int .i64 2, .int .u32 0, .int .u32 0, .int .i64 0, .slice none 0 0, .slice none 0 0, .int .u32 0, .string ⟨#[]⟩] 30)).heap.size = P + 1 := by rw [World.size_alloc, hP]
  clear hG2 hQ2 hI2 hB2 hb3 hp3
  have c0 := hK3.g.cell
  go_upto_region 2 with (fail)
  generalize W2.alloc (.cells #[.int .i64 2, .int .u32 0, .int .u32 0, .int .i64 0, .slice none 0 0, .slice none 0 0, .int .u32 0, .string ⟨#[]⟩] 30) = W3 at *
  clear hs3
  have hgP' : g ≠ P := by omega
  have hQP : g + 1 ≠ P := by omega
  have hRP : R ≠ P := by omega
  have hwP : w0.heap.size ≤ P := by omega
  go_wp2_with fail
  refine (get_ok R 1 s1 (by decide) w0 W3 hK3.r hK3.b).mono ?_
  rw [(H2 0).out]
  rintro e W4 ⟨rfl, hI4, hT4⟩
  have hK4 := hK3.step hI4 hT4 hgR hQR hPR
  clear hK3 hI4 hT4 c0
  obtain ⟨e0, e1, e2, e3, e4, e5, e6, e7⟩ := hK4.p.cells
  have ez := hK4.p.frozen
  have c0 := hK4.g.cell
  go_wp2_with fail
  refine (get_ok R 1 s2 (by decide) w0 W4 hK4.r hK4.b).mono ?_
  rw [(H3 0).out]
  rintro e W5 ⟨rfl, hI5, hT5⟩
  have hK5 := hK4.step hI5 hT5 hgR hQR hPR
  clear hK4 hI5 hT5 c0 e0 e1 e2 e3 e4 e5 e6 e7 ez
  obtain ⟨e0, e1, e2, e3, e4, e5, e6, e7⟩ := hK5.p.cells
  have ez := hK5.p.frozen
  go_upto_region 5 with fail
  have hK6 := hK5.set (hK5.p.set3 (lv : Int)) hgP' hQP hRP hwP
  clear hK5 e0 e1 e2 e3 e4 e5 e6 e7 ez
  generalize W5.setCell ⟨P, 3, none⟩ (.int .i64 (lv : Int)) = W6 at *
  have hK7 : PK w0 g R (g + 1) P s3 (2 : Int) 0 0 (lv : Int) (.slice none 0 0) (.slice none 0 0) 0 ⟨#[]⟩ W6.drew := hK6.below (Below.drew (Below.refl _ W6))
  clear hK6
  refine start_ (n := 12) (S := fun V_ => Boxed V_ g 64 (.pointer (some ⟨R, 0, none⟩))) (ds := [11]) #[false, false, false, false, false, false, false, false, false, false, false, false] (by kernel_rfl) rfl rfl hK7.g (fun hHeld => ?_)
  generalize W6.drew = W7 at *
  refine take_ (i := 0) (N := some 21) (v := ?_) (a' := ?_) #[true, false, false, false, false, false, false, false, false, false, false, false] rfl rfl (by kernel_rfl) (fun _ _ _ h => h) (Or.inl ⟨by rfl, ?_⟩) hHeld ?_ ?_
  rotate_left
  · intro w' hS_
    have q0 := hS_.cell
    go_simp
    try (with_reducible rfl)
  rotate_left
  · simp only [Act.put, List.setIfInBounds_toArray, List.set_cons_zero, List.set_cons_succ, i64_w, i32_w]
    rfl
  refine take_ (i := 3) (N := some 24) (v := ?_) (a' := ?_) #[true, false, false, true, false, false, false, false, false, false, false, false] rfl rfl (by kernel_rfl) (fun _ _ _ h => h) (Or.inl ⟨by rfl, ?_⟩) hHeld ?_ ?_
  rotate_left
  · intro w' hS_
    have q0 := hS_.cell
    go_simp
    try (with_reducible rfl)
  rotate_left
  · simp only [Act.put, List.setIfInBounds_toArray, List.set_cons_zero, List.set_cons_succ, i64_w, i32_w]
    rfl
  refine one_ (i := 1) (N := some 22) #[true, true, false, true, false, false, false, false, false, false, false, false] rfl rfl (by kernel_rfl) (by decide) (fun K hK => ?_)
  refine goes_ Try.func46 (by kernel_rfl) rfl #[.pointer (some ⟨R, 0, none⟩), .int .i64 ((4 : Nat) : Int)] (by rfl) rfl rfl (by (try simp only [List.map_toArray, List.map_cons, List.map_nil]); first | done | rfl) ?_
  refine (get_ok R 4 s3 (by decide) w0 W7 hK7.r hK7.b).mono ?_
  rw [(H4 0).out]
  rintro e W8 ⟨rfl, hI8, hT8⟩
  refine ⟨_, rfl, ?_⟩
  have hK8 := hK7.step hI8 hT8 hgR hQR hPR
  refine hK.out _ _ hK8.g (fun _ => ?_)
  clear hK K hK7 hI8 hT8 hHeld
  refine pure_ (i := 2) (N := some 23) (v := ?_) (a' := ?_) #[true, true, true, true, false, false, false, false, false, false, false, false] rfl rfl (by kernel_rfl) (fun _ _ _ h => h) (Or.inl ⟨by rfl, ?_⟩) ?_ ?_
  rotate_left
  · intro w'
    go_simp
    try (with_reducible rfl)
  rotate_left
  · simp only [Act.put, List.setIfInBounds_toArray, List.set_cons_zero, List.set_cons_succ, List.getElem_toArray, List.getElem_cons_succ, List.getElem_cons_zero, hxw, hyw]
    rfl
  refine pure_ (i := 6) (N := some 27) (v := ?_) (a' := ?_) #[true, true, true, true, false, false, true, false, false, false, false, false] rfl rfl (by kernel_rfl) (fun _ _ _ h => h) (Or.inl ⟨by rfl, ?_⟩) ?_ ?_
  rotate_left
  · intro w'
    go_simp
    try (with_reducible rfl)
  rotate_left
  · simp only [Act.put, List.setIfInBounds_toArray, List.set_cons_zero, List.set_cons_succ, List.getElem_toArray, List.getElem_cons_succ, List.getElem_cons_zero, hxw, hyw]
    rfl
  refine pure_ (i := 7) (N := some 28) (v := ?_) (a' := ?_) #[true, true, true, true, false, false, true, true, false, false, false, false] rfl rfl (by kernel_rfl) (fun _ _ _ h => h) (Or.inl ⟨by rfl, ?_⟩) ?_ ?_
  rotate_left
  · intro w'
    go_simp
    try (with_reducible rfl)
  rotate_left
  · simp only [Act.put, List.setIfInBounds_toArray, List.set_cons_zero, List.set_cons_succ, List.getElem_toArray, List.getElem_cons_succ, List.getElem_cons_zero, hxw, hyw]
    rfl
  refine one_ (i := 4) (N := some 25) #[true, true, true, true, true, false, true, true, false, false, false, false] rfl rfl (by kernel_rfl) (by decide) (fun K hK => ?_)
  refine goes_ Try.func46 (by kernel_rfl) rfl #[.pointer (some ⟨R, 0, none⟩), .int .i64 ((4 : Nat) : Int)] (by rfl) rfl rfl (by (try simp only [List.map_toArray, List.map_cons, List.map_nil]); first | done | rfl) ?_
  refine (get_ok R 4 s4 (by decide) w0 W8 hK8.r hK8.b).mono ?_
  rw [(H5 0).out]
  rintro e W9 ⟨rfl, hI9, hT9⟩
  refine ⟨_, rfl, ?_⟩
  have hK9 := hK8.step hI9 hT9 hgR hQR hPR
  refine hK.out _ _ hK9.g (fun _ => ?_)
  clear hK K hK8 hI9 hT9
  refine pure_ (i := 5) (N := some 26) (v := ?_) (a' := ?_) #[true, true, true, true, true, true, true, true, false, false, false, false] rfl rfl (by kernel_rfl) (fun _ _ _ h => h) (Or.inl ⟨by rfl, ?_⟩) ?_ ?_
  rotate_left
  · intro w'
    go_simp
    try (with_reducible rfl)
  rotate_left
  · simp only [Act.put, List.setIfInBounds_toArray, List.set_cons_zero, List.set_cons_succ, List.getElem_toArray, List.getElem_cons_succ, List.getElem_cons_zero, hxw, hyw]
    rfl
  obtain ⟨e0, e1, e2, e3, e4, e5, e6, e7⟩ := hK9.p.cells
  have ez := hK9.p.frozen
  refine one_ (i := 8) (N := none) #[true, true, true, true, true, true, true, true, true, false, false, false] rfl rfl (by kernel_rfl) (by decide) (fun K hK => ?_)
  refine skip_step (w1 := W9.setCell ⟨P, 1, none⟩ (.int .u32 (x : Int))) (by rfl) ?hr1 ?_
  case hr1 => go_simp
  have hKa := hK9.set (hK9.p.set1 (x : Int)) hgP' hQP hRP hwP
  clear e0 e1 e2 e3 e4 e5 e6 e7 ez hK9
  generalize W9.setCell ⟨P, 1, none⟩ (.int .u32 (x : Int)) = Wa at *
  refine hK.out _ _ hKa.g (fun _ => ?_)
  clear hK K
  obtain ⟨e0, e1, e2, e3, e4, e5, e6, e7⟩ := hKa.p.cells
  refine pure_ (i := 9) (N := some 29) (v := ?_) (a' := ?_) #[true, true, true, true, true, true, true, true, true, true, false, false] rfl rfl (by kernel_rfl) (fun _ _ _ h => h) (Or.inl ⟨by rfl, ?_⟩) ?_ ?_
  rotate_left
  · intro w'
    go_simp
    try (with_reducible rfl)
  rotate_left
  · simp only [Act.put, List.setIfInBounds_toArray, List.set_cons_zero, List.set_cons_succ, List.getElem_toArray, List.getElem_cons_succ, List.getElem_cons_zero, hxw, hyw]
    rfl
  refine pure_ (i := 10) (N := some 30) (v := ?_) (a' := ?_) #[true, true, true, true, true, true, true, true, true, true, true, false] rfl rfl (by kernel_rfl) (fun _ _ _ h => h) (Or.inl ⟨by rfl, ?_⟩) ?_ ?_
  rotate_left
  · intro w'
    go_simp
    try (with_reducible rfl)
  rotate_left
  · simp only [Act.put, List.setIfInBounds_toArray, List.set_cons_zero, List.set_cons_succ, List.getElem_toArray, List.getElem_cons_succ, List.getElem_cons_zero, hxw, hyw]
    rfl
  have ez := hKa.p.frozen
  refine last_ (i := 11) (N := none) #[true, true, true, true, true, true, true, true, true, true, true, true] rfl rfl (by kernel_rfl) (by decide) (fun K hK => ?_)
  refine skip_step (w1 := Wa.setCell ⟨P, 2, none⟩ (.int .u32 (y : Int))) (by rfl) ?hr2 ?_
  case hr2 => go_simp
  have hKb := hKa.set (hKa.p.set2 (y : Int)) hgP' hQP hRP hwP
  clear e0 e1 e2 e3 e4 e5 e6 e7 ez hKa
  generalize Wa.setCell ⟨P, 2, none⟩ (.int .u32 (y : Int)) = Wb at *
  refine hK.out _ _ ?_
  clear hK K
  refine done_ (by kernel_rfl) ?_
  simp only [Act.put, List.setIfInBounds_toArray, List.set_cons_zero, List.set_cons_succ, List.getElem_toArray, List.getElem_cons_succ, List.getElem_cons_zero]
  obtain ⟨m, hm⟩ : ∃ m, min n 5 = m := ⟨_, rfl⟩
  have hmin : (if 5 < (n : Int) then 5 else (n : Int)) = (m : Int) := by split <;> omega
  have hm5 : m ≤ 5 := by omega
  have HM := Lib.hid hm
  clear hm
  go_wp2
  go_loopw [33] (fun v wr => ∃ (i : Nat) (A : Option Addr) (c : Nat), v = .int .i64 i ∧ i ≤ m ∧ PK w0 g R (g + 1) P (kidsAt s5 i).2 (2 : Int) (x : Int) (y : Int) (lv : Int) (.slice none 0 0) (.slice A i c) 0 ⟨#[]⟩ wr ∧ Kd.R k28 28 wr w0.heap.size (fun _ => True) (.slice A i c) (kidsAt s5 i).1) (fun v _ => m - (intOf v).toNat)
  case atStart => exact ⟨0, none, 0, rfl, Nat.zero_le _, hKb, Kd.R_nil _ _ _ _ _⟩
  case round =>
    clear hKb
    obtain ⟨i, A, c, rfl, hi, hKc, hO⟩ := hrel
    by_cases hie : i = m
    · subst hie
      have e1 : decide ((i : Int) < (i : Int)) = false := decide_eq_false (by omega)
      obtain ⟨e0, e1, e2, e3, e4, e5, e6, e7⟩ := hKc.p.cells
      have ez := hKc.q.frozen
      obtain ⟨q0, q1, q2, q3, q4, q5, q6, q7⟩ := hKc.q.cells
      have hwQ : w0.heap.size ≤ g + 1 := by omega
      have hRQ : R ≠ g + 1 := by omega
      go_wp2
      refine ⟨_, results_cell_row rfl _ _ (g + 1) 30 #[.int .i64 2, .int .u32 (x : Int), .int .u32 (y : Int), .int .i64 (lv : Int), .slice none 0 0, .slice A i c, .int .u32 0, .string ⟨#[]⟩] (0, 0) _ rfl (PBox.fill hKc.q 2 (x : Int) (y : Int) (lv : Int) (.slice none 0 0) (.slice A i c) 0 ⟨#[]⟩) Try.underlying30 rfl (by kernel_rfl), ?_⟩
      exact ⟨_, _, rfl, Kd.R_nil _ _ _ _ _, by rw [HM.out]; exact R28.fill hO hKc.q _ _ _ _ _ _ _ _, by rw [HM.out]; exact IsR.fill hKc.r hRQ _ _ _ _ _ _ _ _, below_fill hKc.b hwQ _ _ _ _ _ _ _ _⟩
    · have hlt : decide ((i : Int) < (m : Int)) = true := decide_eq_true (by omega)
      obtain ⟨⟨rf, s6⟩, hrf⟩ : ∃ q, refS (kidsAt s5 i).2 = q := ⟨_, rfl⟩
      have hk6 : kidsAt s5 (i + 1) = ((kidsAt s5 i).1 ++ [rf], s6) := by rw [kidsAt, hrf]
      have Hk6 : Nat → Hid _ := fun _ => Lib.hid hk6
      have Hrf : Nat → Hid _ := fun _ => Lib.hid hrf
      clear hk6 hrf
      obtain ⟨kl, hkl⟩ : ∃ l, (kidsAt s5 i).1 = l := ⟨_, rfl⟩
      have hkn : kl.length = i := by rw [← hkl, kidsAt_length]
      rw [hkl] at hO Hk6
      clear hkl
      go_upto_region 8 with fail
      have hKd : PK w0 g R (g + 1) P (kidsAt s5 i).2 (2 : Int) (x : Int) (y : Int) (lv : Int) (.slice none 0 0) (.slice A i c) 0 ⟨#[]⟩ wr.drew := hKc.below (Below.drew (Below.refl _ wr))
      have hOd := Kd.R_drew hO
      clear hKc hO
      refine start_ (n := 8) (S := fun V_ => Boxed V_ g 64 (.pointer (some ⟨R, 0, none⟩)) ∧ V_.cell? ⟨P, 5, none⟩ = some (.slice A i c)) (ds := [7]) #[false, false, false, false, false, false, false, false] (by kernel_rfl) rfl rfl ⟨hKd.g, hKd.p.cells.2.2.2.2.2.1⟩ (fun hHeld => ?_)
      generalize wr.drew = Wd at *
      refine pure_ (i := 0) (N := some 35) (v := ?_) (a' := ?_) #[true, false, false, false, false, false, false, false] rfl rfl (by kernel_rfl) (fun _ _ _ h => h) (Or.inl ⟨by rfl, ?_⟩) ?_ ?_
      rotate_left
      · intro w'
        go_simp
        try (with_reducible rfl)
      rotate_left
      · simp only [Act.put, List.setIfInBounds_toArray, List.set_cons_zero, List.set_cons_succ, i64_w, i32_w]
        rfl
      refine take_ (i := 1) (N := some 36) (v := ?_) (a' := ?_) #[true, true, false, false, false, false, false, false] rfl rfl (by kernel_rfl) (fun _ _ _ h => h) (Or.inl ⟨by rfl, ?_⟩) hHeld ?_ ?_
      rotate_left
      · intro w' hS_
        have q0 := hS_.1.cell; have q1 := hS_.2
        go_simp
        try (with_reducible rfl)
      rotate_left
      · simp only [Act.put, List.setIfInBounds_toArray, List.set_cons_zero, List.set_cons_succ, i64_w, i32_w]
        rfl
      refine take_ (i := 2) (N := some 37) (v := ?_) (a' := ?_) #[true, true, true, false, false, false, false, false] rfl rfl (by kernel_rfl) (fun _ _ _ h => h) (Or.inl ⟨by rfl, ?_⟩) hHeld ?_ ?_
      rotate_left
      · intro w' hS_
        have q0 := hS_.1.cell; have q1 := hS_.2
        go_simp
        try (with_reducible rfl)
      rotate_left
      · simp only [Act.put, List.setIfInBounds_toArray, List.set_cons_zero, List.set_cons_succ, i64_w, i32_w]
        rfl
      refine one_ (i := 3) (N := some 38) #[true, true, true, true, false, false, false, false] rfl rfl (by kernel_rfl) (by decide) (fun K hK => ?_)
      refine goes_ Try.func47 (by kernel_rfl) rfl #[.pointer (some ⟨R, 0, none⟩)] (by rfl) rfl rfl (by (try simp only [List.map_toArray, List.map_cons, List.map_nil]); first | done | rfl) ?_
      refine (rref_ok R (kidsAt s5 i).2 w0 Wd hKd.r hKd.b).mono ?_
      rw [(Hrf 0).out]
      rintro e We ⟨rfl, hIe, hTe⟩
      refine ⟨_, rfl, ?_⟩
      have hKe := hKd.step hIe hTe hgR hQR hPR
      have hOe := R28 hTe hKd.r hOd
      refine hK.out _ _ ⟨hKe.g, hKe.p.cells.2.2.2.2.2.1⟩ (fun _ => ?_)
      clear hK K hHeld hIe hTe hOd hKd
      obtain ⟨p, t⟩ := rf
      simp only
      have hKf := hKe.below ((Below.refl _ We).alloc (Nat.le_refl _) (.cells #[.int .u32 p, .string t] 28))
      refine one_ (i := 4) (N := some 39) #[true, true, true, true, true, false, false, false] rfl rfl (by kernel_rfl) (by decide) (fun K hK => ?_)
      refine value_ (w1 := ?_) (v := ?_) (by rfl) rfl ?_ ?_
      rotate_left 2
      · go_simp
        constructor
        · rfl
        · rfl
      refine hK.out _ _ ⟨hKf.g, hKf.p.cells.2.2.2.2.2.1⟩ (fun _ => ?_)
      clear hK K
      refine norm_ (a' := ?_) ?_ ?_
      rotate_left
      · show Act.put _ (some 39) _ = _
        simp only [Act.put, List.setIfInBounds_toArray, List.set_cons_zero, List.set_cons_succ, i64_w, i32_w]
        rfl
      refine one_ (i := 5) (N := some 40) #[true, true, true, true, true, true, false, false] rfl rfl (by kernel_rfl) (by decide) (fun K hK => ?_)
      refine Kd.R_append_step k28 (w0 := w0) w0.heap.size (by rfl) (.tmp 36) (.tmp 39) 26 28 (.agg #[(.int .u32 0), (.string ⟨#[]⟩)]) 24 rfl Try.underlying26 infoRef rfl (by decide) (by omega) (.slice A i c) kl (⟨p, t⟩ : Ref) [.int .u32 p, .string t] (fun _ => True) (fun _ => False) rfl rfl (k28_mkM _ _ _ (⟨p, t⟩ : Ref)) (fun _ hk => hk.elim) (fun _ _ => trivial) hOe hKe.b hKe.b.size (by omega) ?_
      intro vg Wg hOg hbg hgg hag
      have hKg : PK w0 g R (g + 1) P s6 (2 : Int) (x : Int) (y : Int) (lv : Int) (.slice none 0 0) (.slice A i c) 0 ⟨#[]⟩ Wg := ⟨hKe.r.grown hgg (Kd.R_ne hOe hKe.r.1 (by decide)), blk_grown hKe.g hgg (Kd.R_ne hOe hKe.g (by decide)), blk_grown hKe.q hgg (Kd.R_ne hOe hKe.q (by decide)), blk_grown hKe.p hgg (Kd.R_ne hOe hKe.p (by decide)), hbg⟩
      obtain ⟨Ag, cg, rfl⟩ := Kd.R_slice hOg
      rw [List.length_append, hkn, List.length_singleton] at hOg
      rw [List.length_append, hkn, List.length_singleton]
      refine hK.out _ _ ⟨hKg.g, hKg.p.cells.2.2.2.2.2.1⟩ (fun _ => ?_)
      clear hK K hOe hKe hKf hgg hag hbg
      refine norm_ (a' := ?_) ?_ ?_
      rotate_left
      · show Act.put _ (some 40) _ = _
        simp only [Act.put, List.setIfInBounds_toArray, List.set_cons_zero, List.set_cons_succ, i64_w, i32_w]
        rfl
      refine pure_ (i := 6) (N := some 41) (v := ?_) (a' := ?_) #[true, true, true, true, true, true, true, false] rfl rfl (by kernel_rfl) (fun _ _ _ h => h) (Or.inl ⟨by rfl, ?_⟩) ?_ ?_
      rotate_left
      · intro w'
        go_simp
        try (with_reducible rfl)
      rotate_left
      · simp only [Act.put, List.setIfInBounds_toArray, List.set_cons_zero, List.set_cons_succ, List.getElem_toArray, List.getElem_cons_succ, List.getElem_cons_zero, i64_w, i32_w]
        rfl
      obtain ⟨e0, e1, e2, e3, e4, e5, e6, e7⟩ := hKg.p.cells
      have ez := hKg.p.frozen
      refine last_ (i := 7) (N := none) #[true, true, true, true, true, true, true, true] rfl rfl (by kernel_rfl) (by decide) (fun K hK => ?_)
      refine skip_step (w1 := Wg.setCell ⟨P, 5, none⟩ (.slice Ag (i + 1) cg)) (by rfl) ?hr2 ?_
      case hr2 => go_simp
      have hKh := hKg.set (hKg.p.set5 (.slice Ag (i + 1) cg)) hgP' hQP hRP hwP
      have hOh : Kd.R k28 28 (Wg.setCell ⟨P, 5, none⟩ (.slice Ag (i + 1) cg)) w0.heap.size (fun _ => True) (.slice Ag (i + 1) cg) (kl ++ [⟨p, t⟩]) :=
        Kd.R_mono (Kd.R_far (Kd.R_types hOg hKg.p (by decide)) (p := ⟨P, 5, none⟩) (fun k hk => hk.2) _) (fun _ _ => trivial)
      generalize Wg.setCell ⟨P, 5, none⟩ (.slice Ag (i + 1) cg) = Wh at *
      refine hK.out _ _ ?_
      clear hK K e0 e1 e2 e3 e4 e5 e6 e7 ez hKg hOg
      refine done_ (by kernel_rfl) ?_
      simp only [Act.put, List.setIfInBounds_toArray, List.set_cons_zero, List.set_cons_succ, List.getElem_toArray, List.getElem_cons_succ, List.getElem_cons_zero]
      go_wp2
      have hk6 := (Hk6 0).out
      exact ⟨⟨i + 1, Ag, cg, by go_num, by omega, by rw [hk6]; exact hKh, by rw [hk6]; exact hOh⟩, by simp [intOf]; omega⟩

set_option maxHeartbeats 4000000 in
theorem page_leaf (R : Nat) (st : RSt) (w0 w : World) (hI : IsR w0 w R st) (hB : Below w0.heap.size w0 w) (k n : Nat) (s1 s2 : RSt) (h1 : getS st 1 = (k, s1)) (h2 : getS s1 1 = (n, s2)) (hk : k ≠ 2) (p : Int) (t : ByteArray) (s3 : RSt) (h3 : refS s2 = (⟨p, t⟩, s3)) (nt : ByteArray) (hnt : (if p = 0 ∧ t = zeros 32 then ⟨#[]⟩ else t) = nt) :
    Calls Try.prog 34 #[.pointer (some ⟨R, 0, none⟩)] w fun e w' => ∃ v4 v5, e = .returned (.agg #[.int .i64 (k : Int), .int .u32 0, .int .u32 0, .int .i64 0, v4, v5, .int .u32 p, .string nt]) ∧
      Kd.R k47 47 w' w0.heap.size (fun _ => True) v4 (rowsTo s3 (readTo s3 n n 0)) ∧ Kd.R k28 28 w' w0.heap.size (fun _ => True) v5 [] ∧ IsR w0 w' R (stAt s3 (readTo s3 n n 0)) ∧ Below w0.heap.size w0 w' := by
  have hkl : k < 256 := by have := getS_lt st 1; rw [h1] at this; exact this
  have hnl : n < 256 := by have := getS_lt s1 1; rw [h2] at this; exact this
  have hkw : IntKind.i64.wrap (k : Int) = (k : Int) := by rw [i64_w]; unfold wrap64; omega
  have hnw : IntKind.i64.wrap (n : Int) = (n : Int) := by rw [i64_w]; unfold wrap64; omega
  have hRw : w0.heap.size ≤ R := hI.ge
  obtain ⟨g, hg⟩ : ∃ g, w.heap.size = g := ⟨_, rfl⟩
  have hRg : R < g := by rw [← hg]; exact hI.lt
  have H1 : Nat → Hid _ := fun _ => Lib.hid h1
  have H2 : Nat → Hid _ := fun _ => Lib.hid h2
  have H3 : Nat → Hid _ := fun _ => Lib.hid h3
  have Hnt : Nat → Hid _ := fun _ => Lib.hid hnt
  have hk2 : ((k : Int) == 2) = false := beq_eq_false_iff_ne.2 (by omega)
  have hk3 : ¬ (k : Int) = 2 := by omega
  have hn255 : n ≤ 255 := by omega
  clear h1 h2 h3 hnt hkl hnl hk
  refine calls_calm Try.func34 rfl ?_
  simp only [Try.ntmps34, List.size_toArray, List.length_cons, List.length_nil, Nat.reduceAdd, Nat.reduceSub, Array.replicate_succ, Array.replicate_zero, List.push_toArray, List.append_toArray, List.nil_append, List.cons_append]
  go_wp2
  refine wp_scope_straight ?_
  go_upto_region 1 with (fail)
  have hbel : Below w.heap.size w ((w.alloc (.cells #[.pointer (some ⟨R, 0, none⟩)] 64)).alloc (.cells #[.int .i64 0, .int .u32 0, .int .u32 0, .int .i64 0, .slice none 0 0, .slice none 0 0, .int .u32 0, .string ⟨#[]⟩] 30)) := ((Below.refl _ w).alloc (Nat.le_refl _) _).alloc (by simp) _
  have hG := (Boxed.new w 64 (.pointer (some ⟨R, 0, none⟩))).alloc (.cells #[.int .i64 0, .int .u32 0, .int .u32 0, .int .i64 0, .slice none 0 0, .slice none 0 0, .int .u32 0, .string ⟨#[]⟩] 30)
  have hQ : PBox ((w.alloc (.cells #[.pointer (some ⟨R, 0, none⟩)] 64)).alloc (.cells #[.int .i64 0, .int .u32 0, .int .u32 0, .int .i64 0, .slice none 0 0, .slice none 0 0, .int .u32 0, .string ⟨#[]⟩] 30)) (g + 1) 0 0 0 0 (.slice none 0 0) (.slice none 0 0) 0 ⟨#[]⟩ := by
    have h := World.alloc_heap_new (w.alloc (.cells #[.pointer (some ⟨R, 0, none⟩)] 64)) (.cells #[.int .i64 0, .int .u32 0, .int .u32 0, .int .i64 0, .slice none 0 0, .slice none 0 0, .int .u32 0, .string ⟨#[]⟩] 30)
    rw [World.size_alloc, hg] at h
    exact h
  have hI1 := hI.below hbel
  have hB1 := below_step hB hbel
  have hs1 : ((w.alloc (.cells #[.pointer (some ⟨R, 0, none⟩)] 64)).alloc (.cells #[.int .i64 0, .int .u32 0, .int .u32 0, .int .i64 0, .slice none 0 0, .slice none 0 0, .int .u32 0, .string ⟨#[]⟩] 30)).heap.size = g + 2 := by rw [World.size_alloc, World.size_alloc, hg]
  rw [hg] at hG
  change Code.wp _ _ _ _ ((w.alloc (.cells #[.pointer (some ⟨R, 0, none⟩)] 64)).alloc (.cells #[.int .i64 0, .int .u32 0, .int .u32 0, .int .i64 0, .slice none 0 0, .slice none 0 0, .int .u32 0, .string ⟨#[]⟩] 30))
  generalize (w.alloc (.cells #[.pointer (some ⟨R, 0, none⟩)] 64)).alloc (.cells #[.int .i64 0, .int .u32 0, .int .u32 0, .int .i64 0, .slice none 0 0, .slice none 0 0, .int .u32 0, .string ⟨#[]⟩] 30) = W1 at *
  have c0 := hG.cell
  clear hI hB hbel hg
  have hgR : g ≠ R := by omega
  have hQR : g + 1 ≠ R := by omega
  go_wp2_with fail
  refine (get_ok R 1 st (by decide) w0 W1 hI1 hB1).mono ?_
  rw [(H1 0).out]
  rintro e W2 ⟨rfl, hI2, hT2⟩
  have hG2 : Boxed W2 g 64 (.pointer (some ⟨R, 0, none⟩)) := hT2.block hG hgR
  have hQ2 := hT2.page hQ hQR
  have hB2 := hT2.below0 hB1 hRw
  obtain ⟨P, hP⟩ : ∃ P, W2.heap.size = P := ⟨_, rfl⟩
  have hgP : g + 1 < P := by have := hT2.1.size; omega
  have hPR : P ≠ R := by omega
  clear hG hQ hI1 hB1 hT2 c0 hs1
  have hb3 : Below W2.heap.size W2 (W2.alloc (.cells #[.int .i64 (k : Int), .int .u32 0, .int .u32 0, .int .i64 0, .slice none 0 0, .slice none 0 0, .int .u32 0, .string ⟨#[]⟩] 30)) := (Below.refl _ W2).alloc (Nat.le_refl _) _
  have hp3 : PBox (W2.alloc (.cells #[.int .i64 (k : Int), .int .u32 0, .int .u32 0, .int .i64 0, .slice none 0 0, .slice none 0 0, .int .u32 0, .string ⟨#[]⟩] 30)) P (k : Int) 0 0 0 (.slice none 0 0) (.slice none 0 0) 0 ⟨#[]⟩ := by rw [← hP]; exact World.alloc_heap_new _ _
  have hK3 : PK w0 g R (g + 1) P s1 (k : Int) 0 0 0 (.slice none 0 0) (.slice none 0 0) 0 ⟨#[]⟩ (W2.alloc (.cells #[.int .i64 (k : Int), .int .u32 0, .int .u32 0, .int .i64 0, .slice none 0 0, .slice none 0 0, .int .u32 0, .string ⟨#[]⟩] 30)) := ⟨hI2.below hb3, (hb3.block _ hG2.lt).trans hG2, (hb3.block _ (blk_lt hQ2)).trans hQ2, hp3, below_step hB2 hb3⟩
  have hs3 : (W2.alloc (.cells #[.int .i64 (k : Int), .int .u32 0, .int .u32 0, .int .i64 0, .slice none 0 0, .slice none 0 0, .int .u32 0, .string ⟨#[]⟩] 30)).heap.size = P + 1 := by rw [World.size_alloc, hP]
  clear hG2 hQ2 hI2 hB2 hb3 hp3
  have c0 := hK3.g.cell
  go_upto_region 2 with (fail)
  generalize W2.alloc (.cells #[.int .i64 (k : Int), .int .u32 0, .int .u32 0, .int .i64 0, .slice none 0 0, .slice none 0 0, .int .u32 0, .string ⟨#[]⟩] 30) = W3 at *
  clear hs3
  have hgP' : g ≠ P := by omega
  have hQP : g + 1 ≠ P := by omega
  have hRP : R ≠ P := by omega
  have hwP : w0.heap.size ≤ P := by omega
  go_wp2_with fail
  refine (get_ok R 1 s1 (by decide) w0 W3 hK3.r hK3.b).mono ?_
  rw [(H2 0).out]
  rintro e W4 ⟨rfl, hI4, hT4⟩
  have hK4 := hK3.step hI4 hT4 hgR hQR hPR
  clear hK3 hI4 hT4 c0
  obtain ⟨e0, e1, e2, e3, e4, e5, e6, e7⟩ := hK4.p.cells
  have ez := hK4.p.frozen
  have c0 := hK4.g.cell
  go_wp2_with fail
  refine (rref_ok R s2 w0 W4 hK4.r hK4.b).mono ?_
  rw [(H3 0).out]
  rintro e W5 ⟨rfl, hI5, hT5⟩
  simp only at hI5 ⊢
  have hK5 := hK4.step hI5 hT5 hgR hQR hPR
  clear hK4 hI5 hT5 c0 e0 e1 e2 e3 e4 e5 e6 e7 ez
  obtain ⟨e0, e1, e2, e3, e4, e5, e6, e7⟩ := hK5.p.cells
  have ez := hK5.p.frozen
  go_upto_region 12 with fail
  have hK6 := hK5.set (hK5.p.set6 p) hgP' hQP hRP hwP
  have hK7 := hK6.set (hK6.p.set7 t) hgP' hQP hRP hwP
  clear hK5 hK6 e0 e1 e2 e3 e4 e5 e6 e7 ez
  generalize (W5.setCell ⟨P, 6, none⟩ (.int .u32 p)).setCell ⟨P, 7, none⟩ (.string t) = W7 at *
  have hK8 := hK7.below (Below.drew (Below.refl _ W7))
  clear hK7
  refine start_ (n := 5) (S := fun V_ => V_.cell? ⟨P, 6, none⟩ = some (.int .u32 p) ∧ V_.cell? ⟨P, 7, none⟩ = some (.string t)) (ds := []) #[false, false, false, false, false] (by kernel_rfl) rfl rfl ⟨hK8.p.cells.2.2.2.2.2.2.1, hK8.p.cells.2.2.2.2.2.2.2⟩ (fun hHeld => ?_)
  generalize W7.drew = W8 at *
  refine pure_ (i := 0) (N := some 47) (v := ?_) (a' := ?_) #[true, false, false, false, false] rfl rfl (by kernel_rfl) (fun _ _ _ h => h) (Or.inl ⟨by rfl, ?_⟩) ?_ ?_
  rotate_left
  · intro w'
    go_simp
    try (with_reducible rfl)
  rotate_left
  · simp only [Act.put, List.setIfInBounds_toArray, List.set_cons_zero, List.set_cons_succ, i64_w, i32_w]
    rfl
  refine take_ (i := 1) (N := some 48) (v := ?_) (a' := ?_) #[true, true, false, false, false] rfl rfl (by kernel_rfl) (fun _ _ _ h => h) (Or.inl ⟨by rfl, ?_⟩) hHeld ?_ ?_
  rotate_left
  · intro w' hS_
    have q0 := hS_.1; have q1 := hS_.2
    go_simp
    try (with_reducible rfl)
  rotate_left
  · simp only [Act.put, List.setIfInBounds_toArray, List.set_cons_zero, List.set_cons_succ, i64_w, i32_w]
    rfl
  refine one_ (i := 2) (N := some 49) #[true, true, true, false, false] rfl rfl (by kernel_rfl) (by decide) (fun K hK => ?_)
  refine goes_ Try.func44 (by kernel_rfl) rfl #[.string ⟨#[0]⟩, .int .i64 ((32 : Nat) : Int)] (by rfl) rfl rfl (by (try simp only [List.map_toArray, List.map_cons, List.map_nil]); first | done | rfl) ?_
  refine (strings_Repeat.calls ⟨#[0]⟩ ((32 : Nat) : Int) (zeros 32) W8 (repeat_f 32 (by decide))).mono ?_
  rintro e W9 ⟨rfl, hb9⟩
  refine ⟨_, rfl, ?_⟩
  have hK9 := hK8.below hb9
  refine hK.out _ _ ⟨hK9.p.cells.2.2.2.2.2.2.1, hK9.p.cells.2.2.2.2.2.2.2⟩ (fun _ => ?_)
  clear hK K hK8 hb9 hHeld
  obtain ⟨Z, hZ⟩ : ∃ Z, zeros 32 = Z := ⟨_, rfl⟩
  rw [hZ]
  have HZ := Lib.hid hZ
  clear hZ
  obtain ⟨b, hb⟩ : ∃ b, (p == 0 && (t.toList == Z.toList)) = b := ⟨_, rfl⟩
  have Hb := Lib.hid hb
  refine pure_ (i := 3) (N := some 50) (v := ?_) (a' := ?_) #[true, true, true, true, false] rfl rfl (by kernel_rfl) (fun _ _ _ h => h) (Or.inl ⟨by rfl, ?_⟩) ?_ ?_
  rotate_left
  · intro w'
    go_simp
    try (with_reducible rfl)
  rotate_left
  · simp only [Act.put, List.setIfInBounds_toArray, List.set_cons_zero, List.set_cons_succ, List.getElem_toArray, List.getElem_cons_succ, List.getElem_cons_zero]
    rfl
  refine pure_ (i := 4) (N := some 51) (v := ?_) (a' := ?_) #[true, true, true, true, true] rfl rfl (by kernel_rfl) (fun _ _ _ h => h) (Or.inl ⟨by rfl, ?_⟩) ?_ ?_
  rotate_left
  · intro w'
    go_simp
    try (with_reducible rfl)
  rotate_left
  · simp only [Act.put, List.setIfInBounds_toArray, List.set_cons_zero, List.set_cons_succ, List.getElem_toArray, List.getElem_cons_succ, List.getElem_cons_zero]
    rfl
  refine done_ (by kernel_rfl) ?_
  clear hb
  obtain ⟨e0, e1, e2, e3, e4, e5, e6, e7⟩ := hK9.p.cells
  have ez := hK9.p.frozen
  cases b
  case' true =>
    have hnt : (⟨#[]⟩ : ByteArray) = nt := by
      have h := (Hnt 0).out
      have h2 := Hb.out
      rw [Bool.and_eq_true, beq_iff_eq, beq_iff_eq] at h2
      rw [if_pos ⟨h2.1, by rw [HZ.out]; exact ba_inj h2.2⟩] at h
      exact h
    go_wp2
    have hKa := hK9.set (hK9.p.set7 ⟨#[]⟩) hgP' hQP hRP hwP
    rw [hnt] at hKa ⊢
    generalize W9.setCell ⟨P, 7, none⟩ (.string nt) = Wa at *
  case' false =>
    have hnt : t = nt := by
      have h := (Hnt 0).out
      have h2 := Hb.out
      rw [if_neg (fun h3 => by
        rw [h3.1, h3.2, HZ.out] at h2
        simp at h2)] at h
      exact h
    go_wp2
    have hKa := hK9
    rw [hnt] at hKa
    generalize W9 = Wa at *
  case true =>
    refine wp_label ?_
    clear e0 e1 e2 e3 e4 e5 e6 e7 ez hK9 Hb HZ Hnt H1 H2 H3
    have c0 := hKa.g.cell
    go_wp2_with (go_at_call 48; refine (rows_any _ _ _).mono ?_; rintro e w' ⟨rfl, rfl⟩)
    refine (wpIn_wide (n := 9)).1 ?_
    obtain ⟨M, hM⟩ : ∃ M, Wa.heap.size = M := ⟨_, rfl⟩
    have hbel : Below Wa.heap.size Wa ((Wa.alloc (.cells #[.pointer (some ⟨R, 0, none⟩)] 64)).alloc (.cells #[.int .i64 (n : Int)] 3)) := ((Below.refl _ Wa).alloc (Nat.le_refl _) _).alloc (by simp) _
    have eR := (Boxed.new Wa 64 (.pointer (some ⟨R, 0, none⟩))).alloc (.cells #[.int .i64 (n : Int)] 3)
    have eN := Boxed.new (Wa.alloc (.cells #[.pointer (some ⟨R, 0, none⟩)] 64)) 3 (.int .i64 (n : Int))
    rw [World.size_alloc, hM] at eN
    rw [hM] at eR
    have hs2 : ((Wa.alloc (.cells #[.pointer (some ⟨R, 0, none⟩)] 64)).alloc (.cells #[.int .i64 (n : Int)] 3)).heap.size = M + 2 := by rw [World.size_alloc, World.size_alloc, hM]
    have hKb := hKa.below hbel
    have hPM : P < M := by rw [← hM]; exact blk_lt hKa.p
    have hMR : M ≠ R := by omega
    have hNR : M + 1 ≠ R := by omega
    clear hKa hbel c0
    rw [hM]
    generalize (Wa.alloc (.cells #[.pointer (some ⟨R, 0, none⟩)] 64)).alloc (.cells #[.int .i64 (n : Int)] 3) = V2 at *
    clear hM
    have hL0 : LK w0 g (M + 1) M R (g + 1) P n (k : Int) p nt [] V2 := ⟨hKb.g, eN, eR, hKb.q, hKb.b, none, 0, hKb.p, Kd.R_nil _ _ _ _ _⟩
    refine wpIn_rangeFunc_g (F := Fence.wide) (n := 9) rfl (by omega) (gf := 56) (lb := #[.pointer (some ⟨M + 1, 0, none⟩), .pointer (some ⟨M, 0, none⟩)]) rfl trivial (enters_of Try.func56 (by kernel_rfl) rfl)
      (rows1 (M + 1) M R n hn255 s3 w0 V2 eN eR hKb.r hKb.b) (fun s => by rintro _ A B row h hg hr; exact IsR_own h hg (fun r e => (hr r e).2))
      (fun A B h k o hk ho _ => h.block ho (by omega)) (fun h k => ⟨h.1.trans k.1, k.2.1.trans h.2.1, k.2.2.1.trans h.2.2.1, k.2.2.2.trans h.2.2.2⟩)
      (fun W l o o' hl hk ho _ => ⟨(Below.refl _ W).grown (grownBy_putObj' W l o') (by have := (Array.getElem?_eq_some_iff.1 hk).1; omega) (fun r e => by cases e; omega), World.putObj_heap_other (by omega), World.putObj_heap_other (by omega), World.putObj_heap_other (by omega)⟩) (Below.refl _ _) (fun _ => rfl)
      (LInv w0 g (M + 1) M R (g + 1) P n (k : Int) p nt s3) (LOut w0 g (M + 1) M R (g + 1) P n (k : Int) p nt s3) (LInv_own (by omega)) (LOut_own (by omega))
      (fun s A B h hT => ⟨h.1.step hT hRw hgR hNR hMR hQR hPR, h.2⟩) (fun s A B h hb => ⟨h.1.below hb, h.2⟩) (fun s A B h hb => IsS66.below h hb)
      (fun A B hw hb => ⟨hb.mono (by omega), hb.block _ (by omega), hb.block _ (by omega), hb.block _ (by omega)⟩)
      ⟨hL0, rfl, fun j h1 h2 => by simp at h2; omega⟩
      (fun x M V => RowAt V M x.f0 x.f1 x.f2 x.f3) (fun x M => by rintro _ A B row h hg hr; exact heap_own h hg (fun r e => (hr r e).2)) ?a1x ?assignx ?bodyx ?donex ?stopx
    case assignx =>
      intro l x W K hK
      obtain ⟨M2, hM2⟩ : ∃ M, W.heap.size = M := ⟨_, rfl⟩
      gi_wp2
      refine hK M2 _ (by rw [← hM2]; exact World.alloc_heap_new _ _) ((Below.refl _ W).alloc (Nat.le_refl _) _) (by omega)
    case bodyx =>
      rintro l pre x M2 W ⟨hL, hpre, hno⟩ ⟨hlt, hx⟩ hGi hBx hM2
      obtain ⟨A, c, hp, ho⟩ := hL.o
      have Hpre : Nat → Hid _ := fun _ => Lib.hid hpre
      have Hx : Nat → Hid _ := fun _ => Lib.hid hx
      have Hno : Nat → Hid _ := fun _ => Lib.hid hno
      have HGi : Nat → Hid _ := fun _ => Lib.hid hGi
      obtain ⟨sh, hsh⟩ : ∃ q, stAt s3 (pre ++ [x]).length = q := ⟨_, rfl⟩
      have hGi2 : IsR w0 W R sh := by rw [← hsh]; exact hGi
      have Hsh : Nat → Hid _ := fun _ => Lib.hid hsh
      obtain ⟨a, b, d, v⟩ := x
      clear hpre hx hno hGi hsh hL0 hKb eR eN
      have c0 := hL.g.cell
      obtain ⟨e0, e1, e2, e3, e4, e5, e6, e7⟩ := hp.cells
      obtain ⟨f0, f1, f2, f3, ff⟩ := hBx.cells
      have hRlt : R < W.heap.size := hGi2.lt
      gi_wp2_with (refine R_append_in k47 (w0 := w0) w0.heap.size rfl (.tmp 59) (.tmp 61) 25 47 (.agg #[(.int .u64 0), (.int .u32 0), (.int .u32 0), (.string ⟨#[]⟩)]) 32 rfl Try.underlying25 infoRow rfl (by decide) (by omega) (.slice A pre.length c) pre (⟨a, b, d, v⟩ : Row) [.int .u64 a, .int .u32 b, .int .u32 d, .string v] (fun k => k ≠ R) (fun _ => False) rfl rfl (k47_mkM _ _ _ (⟨a, b, d, v⟩ : Row)) (fun _ hk => hk.elim) (fun k hk => by omega) ho hL.b hL.b.size (by omega) ?_)
      rintro v1 W1 hO1 hb1 hg1 hat
      obtain ⟨A1, c1, rfl⟩ := Kd.R_slice hO1
      rw [List.length_append, List.length_singleton] at hO1
      rw [List.length_append, List.length_singleton]
      have hG1 : Boxed W1 g 64 (.pointer (some ⟨R, 0, none⟩)) := blk_grown hL.g hg1 (Kd.R_ne ho hL.g (by decide))
      have hN1 : Boxed W1 (M + 1) 3 (.int .i64 (n : Int)) := blk_grown hL.n hg1 (Kd.R_ne ho hL.n (by decide))
      have hR1 : Boxed W1 M 64 (.pointer (some ⟨R, 0, none⟩)) := blk_grown hL.r hg1 (Kd.R_ne ho hL.r (by decide))
      have hQ1 : PBox W1 (g + 1) 0 0 0 0 (.slice none 0 0) (.slice none 0 0) 0 ⟨#[]⟩ := blk_grown hL.q hg1 (Kd.R_ne ho hL.q (by decide))
      have hP1 : PBox W1 P (k : Int) 0 0 0 (.slice A pre.length c) (.slice none 0 0) p nt := blk_grown hp hg1 (Kd.R_ne ho hp (by decide))
      have hI1 : IsR w0 W1 R sh := hGi2.grown hg1 (Kd.R_ne ho hGi2.1 (by decide))
      have hK1 : KeepsFrom (M + 2) W W1 := keeps_row hg1 (fun r hr => by
        obtain ⟨_, _, _, q, _, cells, hc⟩ := Kd.R_bound ho |>.1 r hr
        exact ⟨cells, q, _, hc⟩)
      have hsz1 := hg1.size
      clear c0 e0 e1 e2 e3 e4 e5 e6 e7 f0 f1 f2 f3 ff hg1 hat ho hp
      obtain ⟨e0, e1, e2, e3, e4, e5, e6, e7⟩ := hP1.cells
      have ez := hP1.frozen
      have hP2 := hP1.set4 (.slice A1 (pre.length + 1) c1)
      have hO2 : Kd.R k47 47 (W1.setCell ⟨P, 4, none⟩ (.slice A1 (pre.length + 1) c1)) w0.heap.size (fun k => k ≠ R) (.slice A1 (pre.length + 1) c1) (pre ++ [⟨a, b, d, v⟩]) :=
        Kd.R_mono (Kd.R_far (Kd.R_types hO1 hP1 (by decide)) (p := ⟨P, 4, none⟩) (fun k hk => hk.2) _) (fun _ hk => hk.1)
      have hG2 : Boxed (W1.setCell ⟨P, 4, none⟩ (.slice A1 (pre.length + 1) c1)) g 64 (.pointer (some ⟨R, 0, none⟩)) := (Below.heap_setCell _ ⟨P, 4, none⟩ _ g hgP').trans hG1
      have hN2 : Boxed (W1.setCell ⟨P, 4, none⟩ (.slice A1 (pre.length + 1) c1)) (M + 1) 3 (.int .i64 (n : Int)) := (Below.heap_setCell _ ⟨P, 4, none⟩ _ (M + 1) (by show M + 1 ≠ P; omega)).trans hN1
      have hR2 : Boxed (W1.setCell ⟨P, 4, none⟩ (.slice A1 (pre.length + 1) c1)) M 64 (.pointer (some ⟨R, 0, none⟩)) := (Below.heap_setCell _ ⟨P, 4, none⟩ _ M (by show M ≠ P; omega)).trans hR1
      have hQ2 : PBox (W1.setCell ⟨P, 4, none⟩ (.slice A1 (pre.length + 1) c1)) (g + 1) 0 0 0 0 (.slice none 0 0) (.slice none 0 0) 0 ⟨#[]⟩ := blk_far hQ1 (p := ⟨P, 4, none⟩) hQP _
      have hI2 : IsR w0 (W1.setCell ⟨P, 4, none⟩ (.slice A1 (pre.length + 1) c1)) R sh := hI1.far (p := ⟨P, 4, none⟩) hRP _
      have hb2 : Below w0.heap.size w0 (W1.setCell ⟨P, 4, none⟩ (.slice A1 (pre.length + 1) c1)) := below_set hb1 hwP
      have hK2 : KeepsFrom (M + 2) W (W1.setCell ⟨P, 4, none⟩ (.slice A1 (pre.length + 1) c1)) := hK1.trans (keeps_set hP1 _)
      have hsz2 : W.heap.size ≤ (W1.setCell ⟨P, 4, none⟩ (.slice A1 (pre.length + 1) c1)).heap.size := by simpa [World.setCell] using hsz1
      clear hO1 hb1 hG1 hN1 hR1 hQ1 hP1 hI1 hK1 hsz1
      obtain ⟨W2, hW2⟩ : ∃ W2, W1.setCell ⟨P, 4, none⟩ (.slice A1 (pre.length + 1) c1) = W2 := ⟨_, rfl⟩
      rw [hW2] at hP2 hO2 hG2 hN2 hR2 hQ2 hI2 hb2 hK2 hsz2
      have hL2 : LK w0 g (M + 1) M R (g + 1) P n (k : Int) p nt (pre ++ [⟨a, b, d, v⟩]) W2 := ⟨hG2, hN2, hR2, hQ2, hb2, A1, c1, by rw [List.length_append]; exact hP2, by rw [List.length_append]; exact hO2⟩
      have hKp : Keep3 w0.heap.size (M + 1) M R W W2 := ⟨Below.between hL.b hb2 hsz2, hN2.trans hL.n.symm, hR2.trans hL.r.symm, hI2.1.trans hGi2.1.symm⟩
      have HL2 : Nat → Hid _ := fun _ => Lib.hid hL2
      have HKp : Nat → Hid _ := fun _ => Lib.hid hKp
      have HI2 : Nat → Hid _ := fun _ => Lib.hid hI2
      have c0 := hG2.cell
      have r1 : W2.cell? ⟨R, 1, none⟩ = some (.bool sh.2) := cellS66_1 hI2.1
      obtain ⟨k0, k1, k2, k3, k4, k5, k6, k7⟩ := hP2.cells
      clear hL hL2 hKp hG2 hN2 hR2 hQ2 hb2 hP2 hO2 hGi2 hI2 hBx hsz2 e0 e1 e2 e3 e5 e6 e7 k0 k1 k2 k3 k5 k6 k7
      have hfin : (pre ++ [(⟨a, b, d, v⟩ : Row)]) = rowsTo s3 (pre ++ [(⟨a, b, d, v⟩ : Row)]).length := by
        rw [List.length_append, List.length_singleton, rowsTo_succ, ← (Hpre 0).out, ← (Hx 0).out]
      have hstp : stops s3 (pre.length + 1) = (sh.2 || decide (4 < pre.length + 1)) := by
        have h := (Hsh 0).out
        rw [List.length_append, List.length_singleton] at h
        rw [stops, h]
      have Hfin : Nat → Hid _ := fun _ => Lib.hid hfin
      have Hstp : Nat → Hid _ := fun _ => Lib.hid hstp
      clear hfin hstp
      obtain ⟨u, bb⟩ := sh
      simp only at r1
      cases bb
      case' false =>
        by_cases h4 : 4 < pre.length + 1
        case' pos =>
          have d4 : decide ((4 : Int) < (pre.length : Int) + 1) = true := decide_eq_true (by omega)
          have d5 : decide ((4 : Int) < ((pre.length + 1 : Nat) : Int)) = true := decide_eq_true (by omega)
        case' neg =>
          have d4 : decide ((4 : Int) < (pre.length : Int) + 1) = false := decide_eq_false (by omega)
          have d5 : decide ((4 : Int) < ((pre.length + 1 : Nat) : Int)) = false := decide_eq_false (by omega)
      all_goals gi_wp2
      · refine ⟨hK2, (HKp 0).out, (HL2 0).out, (Hfin 0).out, fun j h1 h2 => ?_⟩
        rw [List.length_append, List.length_singleton] at h2
        by_cases hj : j = pre.length + 1
        · rw [hj, (Hstp 0).out, decide_eq_false h4]; rfl
        · exact (Hno 0).out j h1 (by omega)
      · refine ⟨hK2, rfl, (HL2 0).out, by rw [(Hsh 0).out]; exact (HI2 0).out, (Hfin 0).out, ?_, fun j h1 h2 => ?_⟩
        · rw [List.length_append, List.length_singleton, (Hstp 0).out, decide_eq_true h4]; rfl
        · rw [List.length_append, List.length_singleton] at h2
          exact (Hno 0).out j h1 (by omega)
      · refine ⟨hK2, rfl, (HL2 0).out, by rw [(Hsh 0).out]; exact (HI2 0).out, (Hfin 0).out, ?_, fun j h1 h2 => ?_⟩
        · rw [List.length_append, List.length_singleton, (Hstp 0).out]; rfl
        · rw [List.length_append, List.length_singleton] at h2
          exact (Hno 0).out j h1 (by omega)
    case' donex =>
      rintro D ys W hD hxl ⟨hL, hfin, hno⟩ hGx hDd
      have hm : readTo s3 n n 0 = ys.length := readTo_eq s3 n ys.length (by omega) (fun j h1 h2 => hno j h1 (by omega)) (.inl hxl) n 0 (Nat.zero_le _) (by omega) (fun e => .inl hxl)
      clear hno hxl
    case' stopx =>
      rintro D c ys W hD ⟨hp1, hp2⟩ ⟨rfl, hL, hGx, hfin, hst, hno⟩ hDd
      have hm : readTo s3 n n 0 = ys.length := readTo_eq s3 n ys.length hp2 hno (.inr ⟨hp1, hst⟩) n 0 (Nat.zero_le _) (by omega) (fun e => by omega)
      clear hno hst hp1 hp2
      refine wpIn_exit ?_
    all_goals
      have Hm : Nat → Hid _ := fun _ => Lib.hid hm
      have Hfin : Nat → Hid _ := fun _ => Lib.hid hfin
      have HGx : Nat → Hid _ := fun _ => Lib.hid hGx
      have HDd : Nat → Hid _ := fun _ => Lib.hid hDd
      obtain ⟨A, c, hp, ho⟩ := hL.o
      clear hm hfin hGx hDd hL0 hKb eR eN
      obtain ⟨e0, e1, e2, e3, e4, e5, e6, e7⟩ := hp.cells
      obtain ⟨q0, q1, q2, q3, q4, q5, q6, q7⟩ := hL.q.cells
      have ez := hL.q.frozen
      rw [hs2] at hD
      have hQD : g + 1 ≠ D := by omega
      have hwQ : w0.heap.size ≤ g + 1 := by omega
      have hRQ : R ≠ g + 1 := by omega
      have hDf : (fillW W (g + 1) (k : Int) 0 0 0 (.slice A ys.length c) (.slice none 0 0) p nt).heap[D]? = some (.deferred (some [])) := fill_other W (g + 1) D (fun e => hQD e.symm) _ _ _ _ _ _ _ _ (HDd 0).out
      have hgD := grownBy_putObj' (fillW W (g + 1) (k : Int) 0 0 0 (.slice A ys.length c) (.slice none 0 0) p nt) D (.deferred none)
      have hrD : ∀ r, some D = some r → ∃ o : Obj, (fillW W (g + 1) (k : Int) 0 0 0 (.slice A ys.length c) (.slice none 0 0) p nt).heap[r]? = some o ∧ o.isCells = false := fun r e => by cases e; exact ⟨_, hDf, rfl⟩
      have hq2 := heap_own (PBox.fill hL.q (k : Int) 0 0 0 (.slice A ys.length c) (.slice none 0 0) p nt) hgD (fun r e => hrD r e)
      have ho2 := Kd.R_mono (R47_own (R47.fill' ho hL.q (k : Int) 0 0 0 (.slice A ys.length c) (.slice none 0 0) p nt) hgD (fun r e => hrD r e)) (fun _ _ => trivial) (ok' := fun _ => True)
      have hI2 := IsR_own (IsR.fill (HGx 0).out hRQ (k : Int) 0 0 0 (.slice A ys.length c) (.slice none 0 0) p nt) hgD (fun r e => hrD r e)
      have hB2 := (below_fill hL.b hwQ (k : Int) 0 0 0 (.slice A ys.length c) (.slice none 0 0) p nt).grown hgD (below_fill hL.b hwQ (k : Int) 0 0 0 (.slice A ys.length c) (.slice none 0 0) p nt).size (fun r e => by cases e; omega)
      clear ho hp
      go_wp2
      refine page_end hDf rfl hq2 rfl ⟨_, _, rfl, ?_, Kd.R_nil _ _ _ _ _, ?_, hB2⟩
      · rw [(Hm 0).out, ← (Hfin 0).out]
        exact ho2
      · rw [(Hm 0).out]
        exact hI2
  case false =>
    refine wp_label ?_
    clear e0 e1 e2 e3 e4 e5 e6 e7 ez hK9 Hb HZ Hnt H1 H2 H3
    have c0 := hKa.g.cell
    go_wp2_with (go_at_call 48; refine (rows_any _ _ _).mono ?_; rintro e w' ⟨rfl, rfl⟩)
    refine (wpIn_wide (n := 9)).1 ?_
    obtain ⟨M, hM⟩ : ∃ M, Wa.heap.size = M := ⟨_, rfl⟩
    have hbel : Below Wa.heap.size Wa ((Wa.alloc (.cells #[.pointer (some ⟨R, 0, none⟩)] 64)).alloc (.cells #[.int .i64 (n : Int)] 3)) := ((Below.refl _ Wa).alloc (Nat.le_refl _) _).alloc (by simp) _
    have eR := (Boxed.new Wa 64 (.pointer (some ⟨R, 0, none⟩))).alloc (.cells #[.int .i64 (n : Int)] 3)
    have eN := Boxed.new (Wa.alloc (.cells #[.pointer (some ⟨R, 0, none⟩)] 64)) 3 (.int .i64 (n : Int))
    rw [World.size_alloc, hM] at eN
    rw [hM] at eR
    have hs2 : ((Wa.alloc (.cells #[.pointer (some ⟨R, 0, none⟩)] 64)).alloc (.cells #[.int .i64 (n : Int)] 3)).heap.size = M + 2 := by rw [World.size_alloc, World.size_alloc, hM]
    have hKb := hKa.below hbel
    have hPM : P < M := by rw [← hM]; exact blk_lt hKa.p
    have hMR : M ≠ R := by omega
    have hNR : M + 1 ≠ R := by omega
    clear hKa hbel c0
    rw [hM]
    generalize (Wa.alloc (.cells #[.pointer (some ⟨R, 0, none⟩)] 64)).alloc (.cells #[.int .i64 (n : Int)] 3) = V2 at *
    clear hM
    have hL0 : LK w0 g (M + 1) M R (g + 1) P n (k : Int) p nt [] V2 := ⟨hKb.g, eN, eR, hKb.q, hKb.b, none, 0, hKb.p, Kd.R_nil _ _ _ _ _⟩
    refine wpIn_rangeFunc_g (F := Fence.wide) (n := 9) rfl (by omega) (gf := 56) (lb := #[.pointer (some ⟨M + 1, 0, none⟩), .pointer (some ⟨M, 0, none⟩)]) rfl trivial (enters_of Try.func56 (by kernel_rfl) rfl)
      (rows1 (M + 1) M R n hn255 s3 w0 V2 eN eR hKb.r hKb.b) (fun s => by rintro _ A B row h hg hr; exact IsR_own h hg (fun r e => (hr r e).2))
      (fun A B h k o hk ho _ => h.block ho (by omega)) (fun h k => ⟨h.1.trans k.1, k.2.1.trans h.2.1, k.2.2.1.trans h.2.2.1, k.2.2.2.trans h.2.2.2⟩)
      (fun W l o o' hl hk ho _ => ⟨(Below.refl _ W).grown (grownBy_putObj' W l o') (by have := (Array.getElem?_eq_some_iff.1 hk).1; omega) (fun r e => by cases e; omega), World.putObj_heap_other (by omega), World.putObj_heap_other (by omega), World.putObj_heap_other (by omega)⟩) (Below.refl _ _) (fun _ => rfl)
      (LInv w0 g (M + 1) M R (g + 1) P n (k : Int) p nt s3) (LOut w0 g (M + 1) M R (g + 1) P n (k : Int) p nt s3) (LInv_own (by omega)) (LOut_own (by omega))
      (fun s A B h hT => ⟨h.1.step hT hRw hgR hNR hMR hQR hPR, h.2⟩) (fun s A B h hb => ⟨h.1.below hb, h.2⟩) (fun s A B h hb => IsS66.below h hb)
      (fun A B hw hb => ⟨hb.mono (by omega), hb.block _ (by omega), hb.block _ (by omega), hb.block _ (by omega)⟩)
      ⟨hL0, rfl, fun j h1 h2 => by simp at h2; omega⟩
      (fun x M V => RowAt V M x.f0 x.f1 x.f2 x.f3) (fun x M => by rintro _ A B row h hg hr; exact heap_own h hg (fun r e => (hr r e).2)) ?a1y ?assigny ?bodyy ?doney ?stopy
    case assigny =>
      intro l x W K hK
      obtain ⟨M2, hM2⟩ : ∃ M, W.heap.size = M := ⟨_, rfl⟩
      gi_wp2
      refine hK M2 _ (by rw [← hM2]; exact World.alloc_heap_new _ _) ((Below.refl _ W).alloc (Nat.le_refl _) _) (by omega)
    case bodyy =>
      rintro l pre x M2 W ⟨hL, hpre, hno⟩ ⟨hlt, hx⟩ hGi hBx hM2
      obtain ⟨A, c, hp, ho⟩ := hL.o
      have Hpre : Nat → Hid _ := fun _ => Lib.hid hpre
      have Hx : Nat → Hid _ := fun _ => Lib.hid hx
      have Hno : Nat → Hid _ := fun _ => Lib.hid hno
      have HGi : Nat → Hid _ := fun _ => Lib.hid hGi
      obtain ⟨sh, hsh⟩ : ∃ q, stAt s3 (pre ++ [x]).length = q := ⟨_, rfl⟩
      have hGi2 : IsR w0 W R sh := by rw [← hsh]; exact hGi
      have Hsh : Nat → Hid _ := fun _ => Lib.hid hsh
      obtain ⟨a, b, d, v⟩ := x
      clear hpre hx hno hGi hsh hL0 hKb eR eN
      have c0 := hL.g.cell
      obtain ⟨e0, e1, e2, e3, e4, e5, e6, e7⟩ := hp.cells
      obtain ⟨f0, f1, f2, f3, ff⟩ := hBx.cells
      have hRlt : R < W.heap.size := hGi2.lt
      gi_wp2_with (refine R_append_in k47 (w0 := w0) w0.heap.size rfl (.tmp 59) (.tmp 61) 25 47 (.agg #[(.int .u64 0), (.int .u32 0), (.int .u32 0), (.string ⟨#[]⟩)]) 32 rfl Try.underlying25 infoRow rfl (by decide) (by omega) (.slice A pre.length c) pre (⟨a, b, d, v⟩ : Row) [.int .u64 a, .int .u32 b, .int .u32 d, .string v] (fun k => k ≠ R) (fun _ => False) rfl rfl (k47_mkM _ _ _ (⟨a, b, d, v⟩ : Row)) (fun _ hk => hk.elim) (fun k hk => by omega) ho hL.b hL.b.size (by omega) ?_)
      rintro v1 W1 hO1 hb1 hg1 hat
      obtain ⟨A1, c1, rfl⟩ := Kd.R_slice hO1
      rw [List.length_append, List.length_singleton] at hO1
      rw [List.length_append, List.length_singleton]
      have hG1 : Boxed W1 g 64 (.pointer (some ⟨R, 0, none⟩)) := blk_grown hL.g hg1 (Kd.R_ne ho hL.g (by decide))
      have hN1 : Boxed W1 (M + 1) 3 (.int .i64 (n : Int)) := blk_grown hL.n hg1 (Kd.R_ne ho hL.n (by decide))
      have hR1 : Boxed W1 M 64 (.pointer (some ⟨R, 0, none⟩)) := blk_grown hL.r hg1 (Kd.R_ne ho hL.r (by decide))
      have hQ1 : PBox W1 (g + 1) 0 0 0 0 (.slice none 0 0) (.slice none 0 0) 0 ⟨#[]⟩ := blk_grown hL.q hg1 (Kd.R_ne ho hL.q (by decide))
      have hP1 : PBox W1 P (k : Int) 0 0 0 (.slice A pre.length c) (.slice none 0 0) p nt := blk_grown hp hg1 (Kd.R_ne ho hp (by decide))
      have hI1 : IsR w0 W1 R sh := hGi2.grown hg1 (Kd.R_ne ho hGi2.1 (by decide))
      have hK1 : KeepsFrom (M + 2) W W1 := keeps_row hg1 (fun r hr => by
        obtain ⟨_, _, _, q, _, cells, hc⟩ := Kd.R_bound ho |>.1 r hr
        exact ⟨cells, q, _, hc⟩)
      have hsz1 := hg1.size
      clear c0 e0 e1 e2 e3 e4 e5 e6 e7 f0 f1 f2 f3 ff hg1 hat ho hp
      obtain ⟨e0, e1, e2, e3, e4, e5, e6, e7⟩ := hP1.cells
      have ez := hP1.frozen
      have hP2 := hP1.set4 (.slice A1 (pre.length + 1) c1)
      have hO2 : Kd.R k47 47 (W1.setCell ⟨P, 4, none⟩ (.slice A1 (pre.length + 1) c1)) w0.heap.size (fun k => k ≠ R) (.slice A1 (pre.length + 1) c1) (pre ++ [⟨a, b, d, v⟩]) :=
        Kd.R_mono (Kd.R_far (Kd.R_types hO1 hP1 (by decide)) (p := ⟨P, 4, none⟩) (fun k hk => hk.2) _) (fun _ hk => hk.1)
      have hG2 : Boxed (W1.setCell ⟨P, 4, none⟩ (.slice A1 (pre.length + 1) c1)) g 64 (.pointer (some ⟨R, 0, none⟩)) := (Below.heap_setCell _ ⟨P, 4, none⟩ _ g hgP').trans hG1
      have hN2 : Boxed (W1.setCell ⟨P, 4, none⟩ (.slice A1 (pre.length + 1) c1)) (M + 1) 3 (.int .i64 (n : Int)) := (Below.heap_setCell _ ⟨P, 4, none⟩ _ (M + 1) (by show M + 1 ≠ P; omega)).trans hN1
      have hR2 : Boxed (W1.setCell ⟨P, 4, none⟩ (.slice A1 (pre.length + 1) c1)) M 64 (.pointer (some ⟨R, 0, none⟩)) := (Below.heap_setCell _ ⟨P, 4, none⟩ _ M (by show M ≠ P; omega)).trans hR1
      have hQ2 : PBox (W1.setCell ⟨P, 4, none⟩ (.slice A1 (pre.length + 1) c1)) (g + 1) 0 0 0 0 (.slice none 0 0) (.slice none 0 0) 0 ⟨#[]⟩ := blk_far hQ1 (p := ⟨P, 4, none⟩) hQP _
      have hI2 : IsR w0 (W1.setCell ⟨P, 4, none⟩ (.slice A1 (pre.length + 1) c1)) R sh := hI1.far (p := ⟨P, 4, none⟩) hRP _
      have hb2 : Below w0.heap.size w0 (W1.setCell ⟨P, 4, none⟩ (.slice A1 (pre.length + 1) c1)) := below_set hb1 hwP
      have hK2 : KeepsFrom (M + 2) W (W1.setCell ⟨P, 4, none⟩ (.slice A1 (pre.length + 1) c1)) := hK1.trans (keeps_set hP1 _)
      have hsz2 : W.heap.size ≤ (W1.setCell ⟨P, 4, none⟩ (.slice A1 (pre.length + 1) c1)).heap.size := by simpa [World.setCell] using hsz1
      clear hO1 hb1 hG1 hN1 hR1 hQ1 hP1 hI1 hK1 hsz1
      obtain ⟨W2, hW2⟩ : ∃ W2, W1.setCell ⟨P, 4, none⟩ (.slice A1 (pre.length + 1) c1) = W2 := ⟨_, rfl⟩
      rw [hW2] at hP2 hO2 hG2 hN2 hR2 hQ2 hI2 hb2 hK2 hsz2
      have hL2 : LK w0 g (M + 1) M R (g + 1) P n (k : Int) p nt (pre ++ [⟨a, b, d, v⟩]) W2 := ⟨hG2, hN2, hR2, hQ2, hb2, A1, c1, by rw [List.length_append]; exact hP2, by rw [List.length_append]; exact hO2⟩
      have hKp : Keep3 w0.heap.size (M + 1) M R W W2 := ⟨Below.between hL.b hb2 hsz2, hN2.trans hL.n.symm, hR2.trans hL.r.symm, hI2.1.trans hGi2.1.symm⟩
      have HL2 : Nat → Hid _ := fun _ => Lib.hid hL2
      have HKp : Nat → Hid _ := fun _ => Lib.hid hKp
      have HI2 : Nat → Hid _ := fun _ => Lib.hid hI2
      have c0 := hG2.cell
      have r1 : W2.cell? ⟨R, 1, none⟩ = some (.bool sh.2) := cellS66_1 hI2.1
      obtain ⟨k0, k1, k2, k3, k4, k5, k6, k7⟩ := hP2.cells
      clear hL hL2 hKp hG2 hN2 hR2 hQ2 hb2 hP2 hO2 hGi2 hI2 hBx hsz2 e0 e1 e2 e3 e5 e6 e7 k0 k1 k2 k3 k5 k6 k7
      have hfin : (pre ++ [(⟨a, b, d, v⟩ : Row)]) = rowsTo s3 (pre ++ [(⟨a, b, d, v⟩ : Row)]).length := by
        rw [List.length_append, List.length_singleton, rowsTo_succ, ← (Hpre 0).out, ← (Hx 0).out]
      have hstp : stops s3 (pre.length + 1) = (sh.2 || decide (4 < pre.length + 1)) := by
        have h := (Hsh 0).out
        rw [List.length_append, List.length_singleton] at h
        rw [stops, h]
      have Hfin : Nat → Hid _ := fun _ => Lib.hid hfin
      have Hstp : Nat → Hid _ := fun _ => Lib.hid hstp
      clear hfin hstp
      obtain ⟨u, bb⟩ := sh
      simp only at r1
      cases bb
      case' false =>
        by_cases h4 : 4 < pre.length + 1
        case' pos =>
          have d4 : decide ((4 : Int) < (pre.length : Int) + 1) = true := decide_eq_true (by omega)
          have d5 : decide ((4 : Int) < ((pre.length + 1 : Nat) : Int)) = true := decide_eq_true (by omega)
        case' neg =>
          have d4 : decide ((4 : Int) < (pre.length : Int) + 1) = false := decide_eq_false (by omega)
          have d5 : decide ((4 : Int) < ((pre.length + 1 : Nat) : Int)) = false := decide_eq_false (by omega)
      all_goals gi_wp2
      · refine ⟨hK2, (HKp 0).out, (HL2 0).out, (Hfin 0).out, fun j h1 h2 => ?_⟩
        rw [List.length_append, List.length_singleton] at h2
        by_cases hj : j = pre.length + 1
        · rw [hj, (Hstp 0).out, decide_eq_false h4]; rfl
        · exact (Hno 0).out j h1 (by omega)
      · refine ⟨hK2, rfl, (HL2 0).out, by rw [(Hsh 0).out]; exact (HI2 0).out, (Hfin 0).out, ?_, fun j h1 h2 => ?_⟩
        · rw [List.length_append, List.length_singleton, (Hstp 0).out, decide_eq_true h4]; rfl
        · rw [List.length_append, List.length_singleton] at h2
          exact (Hno 0).out j h1 (by omega)
      · refine ⟨hK2, rfl, (HL2 0).out, by rw [(Hsh 0).out]; exact (HI2 0).out, (Hfin 0).out, ?_, fun j h1 h2 => ?_⟩
        · rw [List.length_append, List.length_singleton, (Hstp 0).out]; rfl
        · rw [List.length_append, List.length_singleton] at h2
          exact (Hno 0).out j h1 (by omega)
    case' doney =>
      rintro D ys W hD hxl ⟨hL, hfin, hno⟩ hGx hDd
      have hm : readTo s3 n n 0 = ys.length := readTo_eq s3 n ys.length (by omega) (fun j h1 h2 => hno j h1 (by omega)) (.inl hxl) n 0 (Nat.zero_le _) (by omega) (fun e => .inl hxl)
      clear hno hxl
    case' stopy =>
      rintro D c ys W hD ⟨hp1, hp2⟩ ⟨rfl, hL, hGx, hfin, hst, hno⟩ hDd
      have hm : readTo s3 n n 0 = ys.length := readTo_eq s3 n ys.length hp2 hno (.inr ⟨hp1, hst⟩) n 0 (Nat.zero_le _) (by omega) (fun e => by omega)
      clear hno hst hp1 hp2
      refine wpIn_exit ?_
    all_goals
      have Hm : Nat → Hid _ := fun _ => Lib.hid hm
      have Hfin : Nat → Hid _ := fun _ => Lib.hid hfin
      have HGx : Nat → Hid _ := fun _ => Lib.hid hGx
      have HDd : Nat → Hid _ := fun _ => Lib.hid hDd
      obtain ⟨A, c, hp, ho⟩ := hL.o
      clear hm hfin hGx hDd hL0 hKb eR eN
      obtain ⟨e0, e1, e2, e3, e4, e5, e6, e7⟩ := hp.cells
      obtain ⟨q0, q1, q2, q3, q4, q5, q6, q7⟩ := hL.q.cells
      have ez := hL.q.frozen
      rw [hs2] at hD
      have hQD : g + 1 ≠ D := by omega
      have hwQ : w0.heap.size ≤ g + 1 := by omega
      have hRQ : R ≠ g + 1 := by omega
      have hDf : (fillW W (g + 1) (k : Int) 0 0 0 (.slice A ys.length c) (.slice none 0 0) p nt).heap[D]? = some (.deferred (some [])) := fill_other W (g + 1) D (fun e => hQD e.symm) _ _ _ _ _ _ _ _ (HDd 0).out
      have hgD := grownBy_putObj' (fillW W (g + 1) (k : Int) 0 0 0 (.slice A ys.length c) (.slice none 0 0) p nt) D (.deferred none)
      have hrD : ∀ r, some D = some r → ∃ o : Obj, (fillW W (g + 1) (k : Int) 0 0 0 (.slice A ys.length c) (.slice none 0 0) p nt).heap[r]? = some o ∧ o.isCells = false := fun r e => by cases e; exact ⟨_, hDf, rfl⟩
      have hq2 := heap_own (PBox.fill hL.q (k : Int) 0 0 0 (.slice A ys.length c) (.slice none 0 0) p nt) hgD (fun r e => hrD r e)
      have ho2 := Kd.R_mono (R47_own (R47.fill' ho hL.q (k : Int) 0 0 0 (.slice A ys.length c) (.slice none 0 0) p nt) hgD (fun r e => hrD r e)) (fun _ _ => trivial) (ok' := fun _ => True)
      have hI2 := IsR_own (IsR.fill (HGx 0).out hRQ (k : Int) 0 0 0 (.slice A ys.length c) (.slice none 0 0) p nt) hgD (fun r e => hrD r e)
      have hB2 := (below_fill hL.b hwQ (k : Int) 0 0 0 (.slice A ys.length c) (.slice none 0 0) p nt).grown hgD (below_fill hL.b hwQ (k : Int) 0 0 0 (.slice A ys.length c) (.slice none 0 0) p nt).size (fun r e => by cases e; omega)
      clear ho hp
      go_wp2
      refine page_end hDf rfl hq2 rfl ⟨_, _, rfl, ?_, Kd.R_nil _ _ _ _ _, ?_, hB2⟩
      · rw [(Hm 0).out, ← (Hfin 0).out]
        exact ho2
      · rw [(Hm 0).out]
        exact hI2
end Go.Proofs.Ytmeaiancebgkoaa.H
