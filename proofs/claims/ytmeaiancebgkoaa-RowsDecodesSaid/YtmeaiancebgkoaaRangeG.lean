/- A law for a loop over an iterator that keeps a state of its own in cells (what the iterator's own steps may do is a relation St, which the loop's invariant must abide) and says which value comes next (V). -/
import Derived.RangeFuncNested
import Derived.RangeFuncBound
import Derived.RangeFuncCalls
import Derived.RangeFuncLeaves
import Derived.RangeFuncBox
import Derived.OrdersIn
import Derived.StillTailTactics
namespace Go.Proofs.Ytmeaiancebgkoaa
open Go.RowKit

/-- An iterator's contract over the steps St of its own. -/
def SeqG {α : Type} (F : Fence) (n : Nat) (P : Program) (g : Nat) (lb : Array Value) (encs : α → Array Value) (St Kp : World → World → Prop) (S Sp : List α → Prop) (V : List α → α → Prop) (G : List α → World → Prop) (w : World) : Prop :=
  ∀ (l : Nat) (J Jx : List α → World → Prop) (W : World), Below w.heap.size w W →
    (∀ s A B, J s A → St A B → J s B) →
    (∀ pre x W1, J pre W1 → V pre x → G (pre ++ [x]) W1 → YieldAt F (n - 1) P l (encs x) W1 fun e W' =>
      (e = .returned (.bool true) ∧ J (pre ++ [x]) W' ∧ Kp W1 W') ∨ (e = .returned (.bool false) ∧ Jx (pre ++ [x]) W')) →
    J [] W →
    CallsIn F n P g (#[.func (.yield l) #[] #[]] ++ lb) W fun e W' => (∃ v, e = .returned v) ∧ ((∃ xs, S xs ∧ J xs W' ∧ G xs W') ∨ (∃ pre, Sp pre ∧ Jx pre W'))

/-- What a loop of a frame lays: the block for its rounds' deferred calls, and its record. -/
structure Laid (D : Nat) (R : Loop) (W : World) : Prop where
  rec_ : W.heap[D + 1]? = some (.loop R)
  def_ : W.heap[D]? = some (.deferred (some []))

/-- A step that leaves alone whatever lies at or beyond D and is no cells. -/
def Spares (D : Nat) (A B : World) : Prop := ∀ (k : Nat) (o : Obj), D ≤ k → A.heap[k]? = some o → o.isCells = false → B.heap[k]? = some o

theorem Laid.spared {D : Nat} {R : Loop} {A B : World} (h : Laid D R A) (hs : Spares D A B) : Laid D R B :=
  ⟨hs _ _ (by omega) h.rec_ rfl, hs _ _ (Nat.le_refl _) h.def_ rfl⟩

theorem Laid.put {D : Nat} {R : Loop} {A : World} (h : Laid D R A) (R' : Loop) : Laid D R' (A.putObj (D + 1) (.loop R')) :=
  ⟨World.putObj_heap_same (Array.getElem?_eq_some_iff.1 h.rec_).1, (World.putObj_heap_other (by omega)).trans h.def_⟩

theorem spares_of_grownBy {D : Nat} {A B : World} {row : Option Nat} (hg : A.grownBy B row) (hr : ∀ j, row = some j → j < D) : Spares D A B :=
  fun k o hk h _ => (hg.block k (Array.getElem?_eq_some_iff.1 h).1 (fun e => by have := hr k e.symm; omega)).trans h

variable {F : Fence} {n : Nat} {P : Program}

theorem wpIn_rangeFunc_g {α : Type} {g : Operand} {ps : Array Tmp} {assign body : Code} {Q : Exit → Act → World → Prop} {a : Act} {w : World}
    (hro : F.round = none) (h1 : 1 ≤ n) {gf : Nat} {lb : Array Value} (hg : a.eval g = .func (.func gf) #[] lb) (hFg : F.fn gf)
    (eg : ∀ args w, (callFunc gf args).run P w = .ok (.enter gf args) w)
    {encs : α → Array Value} {St Kp : World → World → Prop} {S Sp : List α → Prop} {V : List α → α → Prop} {G : List α → World → Prop} {w0 : World} (hseq : SeqG F (n - 1) P gf lb encs St Kp S Sp V G w0) (hG : ∀ s, OwnFrom w.heap.size (fun (_ : Unit) => G s))
    (hSt : ∀ A B, St A B → Spares w.heap.size A B)
    (hKt : ∀ {A B C : World}, Kp A B → Kp B C → Kp A C)
    (hKb : ∀ (W : World) (l : Nat) (o o' : Obj), w.heap.size ≤ l → W.heap[l]? = some o → o.isCells = false → o.isWalk = false → Kp W (W.putObj l o'))
    (hb0 : Below w0.heap.size w0 w) (hps : ∀ x, (encs x).size = ps.size)
    (I : List α → World → Prop) (Ix : Code → List α → World → Prop) (hI : OwnFrom w.heap.size I) (hIx : ∀ c, OwnFrom w.heap.size (Ix c))
    (hIs : ∀ s A B, I s A → St A B → I s B) (hIb : ∀ s A B, I s A → Below A.heap.size A B → I s B) (hGb : ∀ s A B, G s A → Below A.heap.size A B → G s B) (hKw : ∀ A B, w.heap.size ≤ A.heap.size → Below A.heap.size A B → Kp A B) (h0 : I [] w) (BX : α → Nat → World → Prop) (hBX : ∀ x M, OwnFrom w.heap.size (fun (_ : Unit) => BX x M)) (a₁ : α → Nat → Act)
    (hassign : ∀ (l : Nat) (x : α) (W : World) (K : Act → World → Prop), (∀ M W', BX x M W' → Below W.heap.size W W' → W.heap.size ≤ M → K (a₁ x M) W') →
      assign.wpIn (F.inRound l) (n - 1 - 1) P (Exit.then K (fun _ _ _ => False)) { tmps := (ps.zip (encs x)).foldl (fun t (p, v) => t.setIfInBounds p v) a.tmps, defers := [] } W)
    (hbody : ∀ (l : Nat) (pre : List α) (x : α) (M : Nat) (W : World), I pre W → V pre x → G (pre ++ [x]) W → BX x M W → w.heap.size ≤ M → body.wpIn (F.inRound l) (n - 1 - 1) P (ownPostG w.heap.size Kp I Ix (pre ++ [x]) W) (a₁ x M) W)
    (hdone : ∀ (D : Nat) (xs : List α) (W : World), w.heap.size ≤ D → S xs → I xs W → G xs W → W.heap[D]? = some (.deferred (some [])) →
      Q .normal { a with defers := { target := .collected D, args := #[] } :: a.defers } W)
    (hstop : ∀ (D : Nat) (c : Code) (pre : List α) (W : World), w.heap.size ≤ D → Sp pre → Ix c pre W → W.heap[D]? = some (.deferred (some [])) →
      c.wpIn F n P Q { a with defers := { target := .collected D, args := #[] } :: a.defers } W) :
    (Code.rangeFunc g ps assign body).wpIn F n P Q a w := by
  refine wpIn_rangeFunc fun fn hfn => ?_
  rw [hro]
  have hR : ∃ R : LoopState → Option Code → Loop, R = fun st pe => { state := st, pending := pe, fn, tmps := a.tmps, params := ps, assign, body, defers := w.heap.size } := ⟨_, rfl⟩
  obtain ⟨R, hR⟩ := hR
  have hent := run_enterLoop_outer (P := P) (w := w) fn a.tmps ps assign body
  have hW1 : ∃ W1, (w.alloc (.deferred (some []))).alloc (.loop (R .ready none)) = W1 := ⟨_, rfl⟩
  obtain ⟨W1, hW1⟩ := hW1
  have hL1 : Laid w.heap.size (R .ready none) W1 := by
    subst hW1
    refine ⟨?_, (Below.heap_alloc _ _ _ (by simp)).trans (World.alloc_heap_new w _)⟩
    have := World.alloc_heap_new (w.alloc (.deferred (some []))) (.loop (R .ready none))
    rwa [World.size_alloc] at this
  have hI1 : I [] W1 := hW1 ▸ hI.alloc _ (hI.alloc _ h0)
  have hb1 : Below w0.heap.size w0 W1 := by
    subst hW1
    exact hb0.trans ((((Below.refl _ w).alloc (Nat.le_refl _) _).alloc (by simp) _).mono hb0.size)
  refine ⟨w.heap.size + 1, [{ target := .collected w.heap.size, args := #[] }], W1, { target := .fn (.func gf) lb, args := #[.func (.yield (w.heap.size + 1)) #[] #[]] }, W1, gf,
    #[.func (.yield (w.heap.size + 1)) #[] #[]] ++ lb, W1, by rw [← hW1, hR]; exact hent, by simp only [resolve, hg]; simp [go_sem],
    fun f' hf' => by simp [Target.leads] at hf'; subst hf'; exact hFg, by simp [invoke, go_sem, eg], fun _ => h1, ?_⟩
  refine (hseq (w.heap.size + 1) (fun pre W => I pre W ∧ Laid w.heap.size (R .ready none) W) (fun pre W => ∃ c, Ix c pre W ∧ Laid w.heap.size (R .done (some c)) W) W1 hb1
    (fun s A B hs hst => ⟨hIs s A B hs.1 hst, hs.2.spared (hSt A B hst)⟩)
    ?_ ⟨hI1, hL1⟩).mono ?_
  · rintro pre x W0 ⟨hi0, hl0⟩ hlen hg0
    have hy := run_yield (P := P) (args := encs x) hl0.rec_ (by rw [hR]; exact hps x)
    rw [hR] at hy
    have hsz0 : w.heap.size ≤ W0.heap.size := by have := (Array.getElem?_eq_some_iff.1 hl0.rec_).1; omega
    refine ⟨fn, _, assign, body, hy, roundIn_of_wpIn hfn (hassign _ x W0 _ (fun M W hbx hbel hM => ?_))⟩
    have hl : Laid w.heap.size (R .ready none) W := hl0.spared (fun k o _ h _ => (hbel.block k (Array.getElem?_eq_some_iff.1 h).1).trans h)
    have hi := hIb _ _ _ hi0 hbel
    have hg := hGb _ _ _ hg0 hbel
    refine ⟨_, run_beginRound hl.rec_ (by rw [hR]), ?_⟩
    have hl2 := hl.put { R .ready none with state := .busy }
    have hi2 := hI.putObj (.loop { R .ready none with state := .busy }) hi (by omega) hl.rec_ rfl
    have hg2 := (hG (pre ++ [x])).putObj (s := ()) (.loop { R .ready none with state := .busy }) hg (by omega) hl.rec_ rfl
    have hbx2 := (hBX x M).putObj (s := ()) (.loop { R .ready none with state := .busy }) hbx (by omega) hl.rec_ rfl
    have hk2 := hKt (hKw W0 W hsz0 hbel) (hKb W (w.heap.size + 1) _ (.loop { R .ready none with state := .busy }) (by omega) hl.rec_ rfl rfl)
    refine wpIn_mono (hbody _ pre x M _ hi2 hlen hg2 hbx2 (by omega)) fun e a3 W3 hp => ?_
    have fin : ∀ jump : Option Code, KeepsFrom w.heap.size (W.putObj (w.heap.size + 1) (.loop { R .ready none with state := .busy })) W3 →
        (Instr.endRound (w.heap.size + 1) jump).run P W3 = .ok (.bool jump.isNone) (W3.putObj (w.heap.size + 1) (.loop (R (if jump.isNone then .ready else .done) jump))) ∧
        Laid w.heap.size { R .ready none with state := .busy } W3 := by
      intro jump hk
      have hl3 : Laid w.heap.size { R .ready none with state := .busy } W3 := hl2.spared hk.same
      have := run_endRound (P := P) jump hl3.rec_
      rw [hR] at this ⊢
      exact ⟨this, by rw [hR] at hl3; exact hl3⟩
    cases e with
    | normal =>
      obtain ⟨hk, hkp, hi3⟩ := hp
      obtain ⟨hr, hl3⟩ := fin none hk
      exact ⟨_, _, hr, .inl ⟨rfl, ⟨hI.putObj _ hi3 (by omega) hl3.rec_ rfl, hl3.put _⟩, hKt (hKt hk2 hkp) (hKb _ _ _ _ (by omega) hl3.rec_ rfl rfl)⟩⟩
    | ret =>
      obtain ⟨hr, hl3⟩ := fin (some .ret) hp.1
      exact ⟨_, _, hr, .inr ⟨rfl, .ret, (hIx _).putObj _ hp.2 (by omega) hl3.rec_ rfl, hl3.put _⟩⟩
    | exit id =>
      obtain ⟨hr, hl3⟩ := fin (some (.exit id)) hp.1
      exact ⟨_, _, hr, .inr ⟨rfl, .exit id, (hIx _).putObj _ hp.2 (by omega) hl3.rec_ rfl, hl3.put _⟩⟩
    | goto t =>
      obtain ⟨hr, hl3⟩ := fin (some (.goto t)) hp.1
      exact ⟨_, _, hr, .inr ⟨rfl, .goto t, (hIx _).putObj _ hp.2 (by omega) hl3.rec_ rfl, hl3.put _⟩⟩
    | panic ch => exact hp.elim
    | outgrown => exact hp.elim
  · rintro e W2 ⟨⟨v, rfl⟩, (⟨xs, hS, ⟨hi, hl⟩, hg⟩ | ⟨pre, hSp, c, hi, hl⟩)⟩
    · exact ⟨none, _, by have := run_endLoop (P := P) hl.rec_ (by rw [hR]; simp); rw [hR] at this; exact this,
        hdone _ xs _ (Nat.le_refl _) hS (hI.putObj _ hi (by omega) hl.rec_ rfl) ((hG xs).putObj (s := ()) _ hg (by omega) hl.rec_ rfl) ((World.putObj_heap_other (by omega)).trans hl.def_)⟩
    · exact ⟨some c, _, by have := run_endLoop (P := P) hl.rec_ (by rw [hR]; simp); rw [hR] at this; exact this,
        hstop _ c pre _ (Nat.le_refl _) hSp ((hIx c).putObj _ hi (by omega) hl.rec_ rfl) ((World.putObj_heap_other (by omega)).trans hl.def_)⟩

/-! ### A region that draws its order, in a round: its quiet head in the text's order, then its tail -/
theorem oper_wpIn_of_wp {l m : Nat} {o : Oper} {a : Act} {w : World} {K : Act → World → Prop} {Q : Exit → Act → World → Prop} (hd : ∀ c, o.op ≠ .defer c)
    (h : o.wp P a w K Q) : o.wpIn (Fence.wide.inRound l) m P a w K Q := by
  refine ⟨fun _ _ => trivial, ?_⟩
  show o.uponIn _ m P a K Q ((o.semAt (some l) a.eval).run P w)
  rw [Oper.semAt_eq _ _ _ hd]
  unfold Oper.wp at h
  generalize (execOp a.eval o).run P w = r at h
  cases r with
  | ok x w' =>
    cases x <;> simp only [Oper.upon, Oper.uponIn] at h ⊢
    case value => exact h
    case skip => exact h
    case defer => exact h
    case enter => exact ⟨fun h => (by cases h), CallsIn.inRound l ((callsIn_wide (n := m - 1)).2 h)⟩
    case row =>
      refine ⟨fun h => (by cases h), fun c cs _ => ?_⟩
      obtain ⟨v, w'', hR, hs⟩ := h c cs
      exact ⟨v, w'', hR, stepsIn_wide.2 hs⟩
  | halt x w' => cases x <;> simp only [Oper.upon, Oper.uponIn] at h ⊢ <;> exact h

theorem wpAnyIn_of_wpAny {l m : Nat} {md : Region.Mode} {ops : Array Oper} {Q : Exit → Act → World → Prop} (hd : ∀ (i : Nat) (o : Oper), ops[i]? = some o → ∀ c, o.op ≠ .defer c) (hno : ¬ LetsOut Q) :
    ∀ (fuel : Nat) (listed : Array Bool) (a : Act) (w : World), wpAny P md ops Q fuel listed a w → wpAnyIn (Fence.wide.inRound l) m P md ops Q fuel listed a w := by
  intro fuel
  induction fuel with
  | zero => exact fun _ _ _ h => h
  | succ fuel ih =>
    rintro listed a w ⟨h1, h2⟩
    refine ⟨h1, fun i hi => ?_⟩
    have h3 := h2 i hi
    unfold wpOp at h3
    unfold wpOpIn
    cases ho : ops[i]? with
    | none => simp only [ho] at h3 ⊢; exact ih _ _ _ h3
    | some o =>
      simp only [ho] at h3 ⊢
      split
      · rename_i hw
        simp only [hw, if_true] at h3
        rcases h3 with h3 | ⟨_, h3⟩
        · exact Oper.wpIn_mono (fun a w => ih _ a w) (oper_wpIn_of_wp (hd i o ho) h3)
        · exact absurd h3 hno
      · rename_i hw
        simp only [hw, if_false, Bool.false_eq_true] at h3
        exact ⟨fun _ _ => trivial, ih _ _ _ h3⟩

def noDefer (l : List Oper) : Bool := l.all fun o => match o.op with | .defer _ => false | _ => true
theorem noDefer_spec {l : List Oper} (h : noDefer l = true) (i : Nat) (o : Oper) (ho : l.toArray[i]? = some o) (c : Call) : o.op ≠ .defer c := by
  intro e
  have hm : o ∈ l := List.mem_of_getElem? (by simpa using ho)
  have := List.all_eq_true.1 h o hm
  rw [e] at this
  cases this

theorem wpIn_round_still_tail {r m id : Nat} {Q : Exit → Act → World → Prop} {a : Act} {w : World} {l : List Oper} (n : Nat) (hm : P.follows .mixedOrders = true) (hB : Region.lexTailB .any l.toArray n = true) (hd : noDefer l = true) (hno : ¬ LetsOut Q)
    (h : wpStill P l.toArray w.drew (fun a' => wpList P l.toArray Q (l.drop n) a' w.drew) (l.take n) a) : (Code.region id l.toArray true).wpIn (Fence.wide.inRound r) m P Q a w := by
  simp only [Region.lexTailB, Bool.and_eq_true, decide_eq_true_eq] at hB
  obtain ⟨⟨⟨⟨hsel, hn⟩, hs⟩, hc⟩, hlex⟩ := hB
  have hn' : n < l.length := by simpa using hn
  have htl : (l.take n).length = n := by simp; omega
  have hdl : (l.drop n).length = l.toArray.size - n := by simp
  have inv0 : HeadInv .any l.toArray n (Array.replicate l.toArray.size false) :=
    ⟨by simp, fun j oj _ hl => (by rw [getD_replicate_false] at hl; cases hl), fun t _ ht => getD_in (by simpa using ht) (getD_replicate_false _ _)⟩
  have H := wpAnyL_lex (md := .any) (g := l.toArray.size - n) hsel hs hc hn (l.take n) 0 _ a (fun j hj => by
    have hj' : j < n := by rw [htl] at hj; exact hj
    simp [hj']) (by simpa using htl) inv0 (by rw [htl]; exact hlex) h
  refine wpIn_region_any hm (wpAnyIn_of_wpAny (fun i o ho c => noDefer_spec hd i o ho c) hno _ _ _ _ ?_)
  have := wpAny_of_head (Q' := Q) (g := l.toArray.size - n) (fun listed a' hL => by
    have := wpAny_of_seq (md := .any) (Q' := Q) (l.drop n) n listed a' w.drew (fun j => by simp [List.getElem?_drop]) (by rw [hdl]; exact hL.1) hL.2
    rwa [hdl] at this) _ _ _ H
  rw [htl, show n + (l.toArray.size - n) = l.toArray.size by omega] at this
  exact this

end Go.Proofs.Ytmeaiancebgkoaa
