/- The program's block: the walks. -/
import Derived.Test.YtgckdmilgonnlaaG3
import Derived.Test.YtgckdmilgonnlaaG3a
import Derived.Test.YtgckdmilgonnlaaRange
import Derived.Test.YtgckdmilgonnlaaG2b
import Derived.Laws.CopyOwn
namespace Go.Proofs.Ytgckdmilgonnlaa.H
open Go.RowKit Go.Shelf Go.Proofs.YtgckdmilgonnlaaW.PrintWords Go.Proofs.YtgckdmilgonnlaaW.PrintLast Go.Proofs.YtgckdmilgonnlaaW.PrintMore Go.Proofs.Ytgckdmilgonnlaa.Le Go.Proofs.Ytgckdmilgonnlaa.RowOf
attribute [local go_sem] Oper.semAt_some
set_option linter.unusedVariables false
set_option linter.unusedSimpArgs false

theorem calls_of_wp_marks {P : Program} {f : FuncId} {fn : Func} {c : Code} {args : Array Value} {w : World} {R : Ending → World → Prop}
    (hf : P.funcs[f]? = some fn) (hb : fn.body = some c)
    (h : c.wp P (bodyPostM Fence.wide 9 P fn R) { tmps := args ++ Array.replicate (fn.ntmps - args.size) undef, defers := [] } w) : Calls P f args w R :=
  (callsIn_wide (n := 9)).1 (callsIn_of_wp_marks hf hb trivial (wpIn_wide.2 h))

theorem convert4 (W : World) (B : Nat) (a b c d : Int) (hB : W.heap.size = B) : (convert 35 9 (.slice (some ⟨B, 0, none⟩) 4 4)).run Try.prog (W.alloc (.cells #[.int .u8 a, .int .u8 b, .int .u8 c, .int .u8 d] 5 (0, 0))) = .ok (.string (strOfNums [a, b, c, d])) (W.alloc (.cells #[.int .u8 a, .int .u8 b, .int .u8 c, .int .u8 d] 5 (0, 0))) :=
  own_string (base := 0) (e' := 5) (n := 4) (xs := [a, b, c, d]) Try.underlying35 Try.underlying5 Try.underlying9 ⟨rfl, .inr ⟨_, 4, _, rfl, Nat.zero_le _, by rw [← hB]; exact World.alloc_heap_new W _, by decide, by decide, rfl, rfl⟩⟩

theorem words_any (A : Option Addr) (n c : Nat) (w : World) : Calls Try.prog 27 #[.slice A n c] w fun e w' =>
    e = .returned (.func (.func 30) #[] #[.pointer (some ⟨w.heap.size, 0, none⟩)]) ∧ w.alloc (.cells #[.slice A n c] 64) = w' := by
  go_enter Try.func27, Try.ntmps27
  go_wp2
  go_ret
  exact ⟨rfl, rfl⟩

/-- The cells of the block g are the words of a list. -/
def ERow (W : World) (g : Nat) (xs : List Int) : Prop := W.heap[g]? = some (.cells (xs.map (Value.int .u32)).toArray 43 (0, 0))
theorem ERow.row {W : World} {g : Nat} {xs : List Int} (h : ERow W g xs) : Row W g 43 xs := ⟨_, h, [], fun _ => rfl, by simp⟩
theorem ERow.set {W : World} {g : Nat} {xs : List Int} (h : ERow W g xs) (i : Nat) (v : Int) : ERow (W.setCell ⟨g, i, none⟩ (.int .u32 v)) g (xs.set i v) := by
  unfold ERow at *
  simp [World.setCell, Array.getElem?_modify, h]
theorem ERow.kept {W W' : World} {g : Nat} {xs : List Int} (h : ERow W g xs) (he : W'.heap[g]? = W.heap[g]?) : ERow W' g xs := he.trans h
theorem storeCells_run {P : Program} {W : World} {g : Nat} {t : TypeId} {old cs : Array Value} (hg : W.heap[g]? = some (.cells old t (0, 0))) (ho : cs.size = old.size) (h1 : cs.all (·.oneCell') = true) :
    (storeCells ⟨g, 0, none⟩ cs.toList).run P W = .ok () (W.setRow g cs) := by
  have := run_storeCells_from (P := P) g t cs.toList 0 old W hg (by simp; omega) (fun v hv => (Array.all_eq_true_iff_forall_mem.1 h1) v (by simpa using hv))
  simpa using this
theorem begun_end {W : World} {N D : Nat} {tmps : Array Value} {R : Ending → World → Prop} {cs : Array Value} (hD : W.heap[D]? = some (.deferred (some []))) (h6 : tmps.getD 6 undef = .pointer (some ⟨N, 0, none⟩))
    (hR0 : (W.putObj D (.deferred none)).heap[N]? = some (.cells cs 43 (0, 0))) (hcs : cs.size = 16) (hR : R (.returned (.agg cs)) (W.putObj D (.deferred none))) :
    bodyPostM Fence.wide 9 Try.prog Try.f21 R .ret { tmps := tmps, defers := [{ target := .collected D, args := #[] }] } W := by
  refine ⟨by simp, .inl ⟨D, _, rfl, run_takeDeferred hD, ?_⟩⟩
  refine ⟨_, ?_, hR⟩
  exact results_cell_row rfl tmps _ N 43 cs (0, 0) _ h6 hR0 Try.underlying43 rfl (by rw [hcs]; kernel_rfl)
theorem lay_set (pre : List Int) (x : Int) (h : pre.length < 16) : (pre ++ List.replicate (16 - pre.length) 0).set pre.length x = (pre ++ [x]) ++ List.replicate (16 - (pre ++ [x]).length) 0 := by
  rw [List.set_append_right _ _ (Nat.le_refl _), Nat.sub_self]
  obtain ⟨m, hm⟩ : ∃ m, 16 - pre.length = m + 1 := ⟨16 - pre.length - 1, by omega⟩
  rw [hm, List.length_append, show 16 - (pre.length + [x].length) = m by simp; omega, List.replicate_succ, List.set_cons_zero, List.append_assoc]
  rfl
theorem list16 {xs : List Int} (h : xs.length = 16) : ∃ x0 x1 x2 x3 x4 x5 x6 x7 x8 x9 x10 x11 x12 x13 x14 x15, xs = [x0, x1, x2, x3, x4, x5, x6, x7, x8, x9, x10, x11, x12, x13, x14, x15] := by
  match xs, h with
  | [x0, x1, x2, x3, x4, x5, x6, x7, x8, x9, x10, x11, x12, x13, x14, x15], _ => exact ⟨x0, x1, x2, x3, x4, x5, x6, x7, x8, x9, x10, x11, x12, x13, x14, x15, rfl⟩
/-- Between two words: the first words are laid, the rest is 0. -/
def BInv (N : Nat) (W0 : World) (pre : List Int) (W : World) : Prop :=
  ERow W (N + 1) (pre ++ List.replicate (16 - pre.length) 0) ∧ Boxed W (N + 2) 3 (.int .i64 pre.length) ∧ pre.length ≤ 16 ∧ Below (N + 1) W0 W
theorem BInv_own {N : Nat} {W0 : World} (hN : W0.heap.size = N + 6) : OwnFrom W0.heap.size (BInv N W0) := by
  rintro s A B row ⟨h1, h2, h3, h4⟩ hg hr
  have hrow : ∀ k, k < N + 6 → some k ≠ row := fun k hk e => by
    have := (hr k e.symm).1
    omega
  exact ⟨h1.kept (hg.block _ h1.row.lt (hrow _ (by omega))), h2.kept hg (hrow _ (by omega)), h3, h4.grown hg (by have := h4.size; omega) (fun k e => by have := (hr k e).1; omega)⟩

def z16 : Obj := .cells #[.int .u32 0, .int .u32 0, .int .u32 0, .int .u32 0, .int .u32 0, .int .u32 0, .int .u32 0, .int .u32 0, .int .u32 0, .int .u32 0, .int .u32 0, .int .u32 0, .int .u32 0, .int .u32 0, .int .u32 0, .int .u32 0] 43 (0, 0)
/-- The texts whose words are the state. -/
def tx (key : ByteArray) (ctr : Int) (nonce : ByteArray) : List ByteArray := [⟨#[101, 120, 112, 97, 110, 100, 32, 51, 50, 45, 98, 121, 116, 101, 32, 107]⟩, key, strOfNums (wb ctr), nonce]
/-- The value of sixteen words. -/
def agg16 (xs : List Int) : Value := .agg ((xs.map (Value.int .u32)).toArray)

set_option maxRecDepth 100000 in
set_option maxHeartbeats 2000000 in
theorem begun_calls (a0 : ByteArray) (a1 : Int) (a2 : ByteArray) (w : World) (h16 : (allW (tx a0 a1 a2)).length = 16) :
    Calls Try.prog 21 #[.string a0, .int .u32 a1, .string a2] w fun e w' => e = .returned (agg16 (allW (tx a0 a1 a2))) ∧ Below w.heap.size w w' := by
  refine calls_of_wp_marks Try.func21 rfl ?_
  simp only [Try.ntmps21, List.size_toArray, List.length_cons, List.length_nil, Nat.reduceAdd, Nat.reduceSub, Array.replicate_succ, Array.replicate_zero, List.push_toArray, List.append_toArray, List.nil_append, List.cons_append]
  go_wp2
  refine wp_scope_straight ?_
  go_wp2
  rw [convert4 _ _ _ _ _ _ (by simp only [World.size_alloc])]
  go_wp2
  refine wp_label ?_
  go_wp2_with (go_at_call 27; refine (words_any _ _ _ _).mono ?_; rintro e w' ⟨rfl, rfl⟩)
  refine (wpIn_wide (n := 9)).1 ?_
  obtain ⟨N, hN⟩ : ∃ N, w.heap.size = N := ⟨_, rfl⟩
  change Code.wpIn _ _ _ _ _ _ ((((((w.alloc z16).alloc z16).alloc (.cells #[.int .i64 0] 3)).alloc (.cells #[.int .u8 (a1 % 256), .int .u8 (a1 / 256 % 256), .int .u8 (a1 / 65536 % 256), .int .u8 (a1 / 16777216 % 256)] 5)).alloc (.cells ((tx a0 a1 a2).map Value.string).toArray 9)).alloc (.cells #[.slice (some ⟨w.heap.size + 1 + 1 + 1 + 1, 0, none⟩) 4 4] 64))
  have q1 : (w.alloc z16).heap.size = N + 1 := by rw [World.size_alloc, hN]
  have q2 : ((w.alloc z16).alloc z16).heap.size = N + 2 := by rw [World.size_alloc, q1]
  have b2 : Boxed (((w.alloc z16).alloc z16).alloc (.cells #[.int .i64 0] 3)) (N + 2) 3 (.int .i64 0) := by rw [← q2]; exact Boxed.new _ _ _
  have r1 : ((w.alloc z16).alloc z16).heap[N + 1]? = some z16 := by rw [← q1]; exact World.alloc_heap_new _ _
  have r0 : (w.alloc z16).heap[N]? = some z16 := by rw [← hN]; exact World.alloc_heap_new _ _
  have q3 : (((w.alloc z16).alloc z16).alloc (.cells #[.int .i64 0] 3)).heap.size = N + 3 := by rw [World.size_alloc, q2]
  have q4 : ((((w.alloc z16).alloc z16).alloc (.cells #[.int .i64 0] 3)).alloc (.cells #[.int .u8 (a1 % 256), .int .u8 (a1 / 256 % 256), .int .u8 (a1 / 65536 % 256), .int .u8 (a1 / 16777216 % 256)] 5)).heap.size = N + 4 := by rw [World.size_alloc, q3]
  have q5 : (((((w.alloc z16).alloc z16).alloc (.cells #[.int .i64 0] 3)).alloc (.cells #[.int .u8 (a1 % 256), .int .u8 (a1 / 256 % 256), .int .u8 (a1 / 65536 % 256), .int .u8 (a1 / 16777216 % 256)] 5)).alloc (.cells ((tx a0 a1 a2).map Value.string).toArray 9)).heap.size = N + 5 := by rw [World.size_alloc, q4]
  have t4 : (((((w.alloc z16).alloc z16).alloc (.cells #[.int .i64 0] 3)).alloc (.cells #[.int .u8 (a1 % 256), .int .u8 (a1 / 256 % 256), .int .u8 (a1 / 65536 % 256), .int .u8 (a1 / 16777216 % 256)] 5)).alloc (.cells ((tx a0 a1 a2).map Value.string).toArray 9)).heap[N + 4]? = some (.cells ((tx a0 a1 a2).map Value.string).toArray 9 (0, 0)) := by rw [← q4]; exact World.alloc_heap_new _ _
  rw [show w.heap.size + 1 + 1 + 1 + 1 = N + 4 by omega, show w.heap.size + 1 + 1 + 1 = N + 3 by omega, show w.heap.size + 1 + 1 = N + 2 by omega, show w.heap.size + 1 = N + 1 by omega, hN]
  generalize ho4 : (.cells ((tx a0 a1 a2).map Value.string).toArray 9 (0, 0) : Obj) = o4 at *
  generalize ho3 : (.cells #[.int .u8 (a1 % 256), .int .u8 (a1 / 256 % 256), .int .u8 (a1 / 65536 % 256), .int .u8 (a1 / 16777216 % 256)] 5 (0, 0) : Obj) = o3 at *
  generalize ho2 : (.cells #[.int .i64 0] 3 (0, 0) : Obj) = o2 at *
  generalize ho5 : (.cells #[.slice (some ⟨N + 4, 0, none⟩) 4 4] 64 (0, 0) : Obj) = o5 at *
  have b5 : Boxed ((((((w.alloc z16).alloc z16).alloc o2).alloc o3).alloc o4).alloc o5) (N + 5) 64 (.slice (some ⟨N + 4, 0, none⟩) 4 4) := by rw [← q5, ← ho5]; exact Boxed.new _ _ _
  have b2' := ((b2.alloc o3).alloc o4).alloc o5
  have t4' : ((((((w.alloc z16).alloc z16).alloc o2).alloc o3).alloc o4).alloc o5).heap[N + 4]? = some o4 := (Below.heap_alloc _ _ _ (by omega)).trans t4
  have r1' : ((((((w.alloc z16).alloc z16).alloc o2).alloc o3).alloc o4).alloc o5).heap[N + 1]? = some z16 := by
    rw [Below.heap_alloc _ _ _ (by omega), Below.heap_alloc _ _ _ (by omega), Below.heap_alloc _ _ _ (by omega), Below.heap_alloc _ _ _ (by omega)]
    exact r1
  have r0' : ((((((w.alloc z16).alloc z16).alloc o2).alloc o3).alloc o4).alloc o5).heap[N]? = some z16 := by
    rw [Below.heap_alloc _ _ _ (by omega), Below.heap_alloc _ _ _ (by omega), Below.heap_alloc _ _ _ (by omega), Below.heap_alloc _ _ _ (by omega), Below.heap_alloc _ _ _ (by omega)]
    exact r0
  have hbw : Below N w ((((((w.alloc z16).alloc z16).alloc o2).alloc o3).alloc o4).alloc o5) := by
    rw [← hN]
    exact ((((((Below.refl _ w).alloc (Nat.le_refl _) _).alloc (by omega) _).alloc (by omega) _).alloc (by omega) _).alloc (by omega) _).alloc (by omega) _
  have hs6 : ((((((w.alloc z16).alloc z16).alloc o2).alloc o3).alloc o4).alloc o5).heap.size = N + 6 := by rw [World.size_alloc, q5]
  generalize ((((((w.alloc z16).alloc z16).alloc o2).alloc o3).alloc o4).alloc o5) = W0 at b5 b2' t4' r1' r0' hbw hs6 ⊢
  clear b2 r1 r0 q1 q2 q3 q4 q5 t4
  subst ho4
  have hE0 : ERow W0 (N + 1) ([] ++ List.replicate (16 - ([] : List Int).length) 0) := r1'
  refine wpIn_rangeFunc_st (F := Fence.wide) (n := 9) rfl (by omega) (gf := 30) (lb := #[.pointer (some ⟨N + 4 + 1, 0, none⟩)]) rfl trivial (enters_of Try.func30 (by kernel_rfl) rfl)
    (words1 (N + 5) (N + 4) (tx a0 a1 a2) W0 b5 t4' (by simp [tx])) (fun A B h => by obtain ⟨n, rfl⟩ := h; exact fun k o _ h _ => (by with_reducible exact blk_drewN h _))
    (fun h k => k.trans h) (fun W l o o' hl hk ho _ => World.putObj_heap_other (by omega)) (Below.refl _ _) (fun _ => rfl)
    (BInv N W0) (fun _ _ _ => False) (BInv_own hs6) (fun _ _ _ _ _ h _ _ => h) (fun s A B h hs => by obtain ⟨n, rfl⟩ := hs; obtain ⟨h1, h2, h3, h4⟩ := h; exact ⟨blk_drewN (w := A) h1 _, blk_drewN (w := A) h2 _, h3, pw_below_drewN h4 _⟩) (fun _ _ _ _ h _ => h)
    ⟨hE0, b2', by simp, Below.refl _ _⟩
    (fun x => { tmps := #[.string a0, .int .u32 a1, .string a2, undef, undef, undef, .pointer (some ⟨N, 0, none⟩), .pointer (some ⟨N + 1, 0, none⟩), .pointer (some ⟨N + 2, 0, none⟩),
        .string (strOfNums [a1 % 256, a1 / 256 % 256, a1 / 65536 % 256, a1 / 16777216 % 256]), .int .u32 x,
        .int .u32 a1, .int .u8 (a1 % 256), .int .u32 a1, .int .u32 (a1 / 256), .int .u8 (a1 / 256 % 256), .int .u32 a1, .int .u32 (a1 / 65536), .int .u8 (a1 / 65536 % 256), .int .u32 a1, .int .u32 (a1 / 16777216), .int .u8 (a1 / 16777216 % 256),
        .slice (some ⟨N + 3, 0, none⟩) 4 4, .string (strOfNums [a1 % 256, a1 / 256 % 256, a1 / 65536 % 256, a1 / 16777216 % 256]), .string a0, .string (strOfNums [a1 % 256, a1 / 256 % 256, a1 / 65536 % 256, a1 / 16777216 % 256]), .string a2, .slice (some ⟨N + 4, 0, none⟩) 4 4,
        .func (.func 30) #[] #[.pointer (some ⟨N + 4 + 1, 0, none⟩)], .int .u32 x, undef, undef, undef, undef, undef, undef, undef, undef], defers := [] }) ?assign ?body ?done ?stop
  case assign =>
    intro l x W K hK
    gi_wp2
    exact hK
  case body =>
    rintro l pre x W ⟨hE, hb, hl, hB⟩ hlt
    rw [h16] at hlt
    have hc := hb.cell
    have hbf := hb.frozen
    have hne : ((pre.length : Int) == 16) = false := beq_eq_false_iff_ne.2 (by omega)
    have hc2 := hE.row.cell pre.length (by simp; omega)
    have hf2 := hE.row.frozen
    have hp0 : (0 : Int) ≤ (pre.length : Int) := by omega
    have hp1 : (pre.length : Int) < 16 := by omega
    gi_wp2
    have hE2 : ERow (W.setCell ⟨N + 1, pre.length, none⟩ (.int .u32 x)) (N + 1) ((pre ++ [x]) ++ List.replicate (16 - (pre ++ [x]).length) 0) := by
      have := hE.set pre.length x
      rw [lay_set _ _ hlt] at this
      exact this
    have hb2 : Boxed (W.setCell ⟨N + 1, pre.length, none⟩ (.int .u32 x)) (N + 2) 3 (.int .i64 pre.length) := hb.kept (gb_set W (N + 1) _ _) (by simp)
    have hb3 := hb2.set (.int .i64 (pre.length + 1))
    have hE3 := hE2.kept (Below.heap_setCell (W.setCell ⟨N + 1, pre.length, none⟩ (.int .u32 x)) ⟨N + 2, 0, none⟩ (.int .i64 (pre.length + 1)) (N + 1) (by simp))
    refine ⟨((KeepsOthers.setCell _ _ _).trans (KeepsOthers.setCell _ _ _)).from _, ?_, hE3, ?_, by simp; omega, ?_⟩
    · exact (Below.heap_setCell _ _ _ (N + 4) (by simp)).trans (Below.heap_setCell _ _ _ (N + 4) (by simp))
    · simpa using hb3
    · exact (hB.setCell (p := ⟨N + 1, pre.length, none⟩) (Nat.le_refl _) _).setCell (p := ⟨N + 2, 0, none⟩) (Nat.le_succ _) _
  case stop =>
    rintro D c pre W hD hSp h hK
    exact h.elim
  case done =>
    rintro D xs W hD rfl ⟨hE, hb, hl, hB⟩ hK
    have hB2 : Below N w W := hbw.trans (hB.mono (by omega))
    have hq : W.heap[N]? = some z16 := (hB.block N (by omega)).trans r0'
    rw [h16] at hE
    have hE' : ERow W (N + 1) (allW (tx a0 a1 a2)) := by simpa using hE
    clear hE
    have hDN : D ≠ N := by omega
    have hE3 : W.heap[N + 1]? = some (.cells ((allW (tx a0 a1 a2)).map (Value.int .u32)).toArray 43 (0, 0)) := hE'
    have hsz : ((allW (tx a0 a1 a2)).map (Value.int .u32)).toArray.size = 16 := by simp [h16]
    have hal : ((allW (tx a0 a1 a2)).map (Value.int .u32)).toArray.all (·.oneCell') = true := by simp [Value.oneCell']
    obtain ⟨cs, hcs⟩ : ∃ cs, ((allW (tx a0 a1 a2)).map (Value.int .u32)).toArray = cs := ⟨_, rfl⟩
    rw [hcs] at hE3 hsz hal
    have Hcs := Lib.hid hcs
    clear hE' hcs
    have hst := storeCells_run (P := Try.prog) hq (by rw [hsz]; rfl) hal
    go_wp2_with (first | (with_reducible refine wpList_load_row rfl 43 (.tmp 7) rfl (N + 1) rfl 43 _ (0, 0) _ hE3 Try.underlying43 rfl (by rw [hsz]; kernel_rfl) ?_))
    have hlD := (Array.getElem?_eq_some_iff.1 hK).1
    have hlN := (Array.getElem?_eq_some_iff.1 hq).1
    have hq2 := setRow_heap W N _ cs _ _ hq
    have hK2 := (setRow_other W N D cs hDN).trans hK
    have hq3 : ((W.setRow N cs).putObj D (.deferred none)).heap[N]? = some (.cells cs 43 (0, 0)) := (World.putObj_heap_other (by omega)).trans hq2
    refine begun_end hK2 rfl hq3 hsz ⟨by rw [← Hcs.out]; rfl, ?_⟩
    have hB3 := below_setRow hB2 (Nat.le_refl N) cs
    rw [hN]
    exact hB3.grown (grownBy_putObj' _ D _) (by have := hB3.size; omega) (fun k e => by cases e; omega)

end Go.Proofs.Ytgckdmilgonnlaa.H
