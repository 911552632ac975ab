/- keys.Right: the walk over the iterator of generations. -/
import Derived.Test.YtdoaohmjhbefdaaRange
import Derived.Test.YtdoaohmjhbefdaaH0
import Derived.WalkKit
import Derived.OwnWalkIn
import Derived.TacticsInMore
import Derived.LoopNIn
import Derived.LoopIn
import Derived.Maps.AppendAt
import Derived.Shelf.RegionOpen
import Derived.Outline
import Derived.Lib.Hide
namespace Go.Proofs.Ytdoaohmjhbefdaa.H
open Go.RowKit Go.Shelf Go.Proofs.YtdoaohmjhbefdaaW.PrintWords Go.Proofs.YtdoaohmjhbefdaaW.PrintLast Go.Proofs.YtdoaohmjhbefdaaW.PrintMore
attribute [local go_sem] Oper.semAt_some
set_option linter.unusedVariables false
set_option linter.unusedSimpArgs false

/-- What the iterator tells: each generation, and whether its key may stand there. -/
def okK (last : Int) (k : S25) : Bool := decide (last < k.f0) && ((k.f1.size : Int) == 32)
def gens : Int → List S25 → List (Int × Bool)
  | _, [] => []
  | last, k :: l => (k.f0, okK last k) :: gens k.f0 l
theorem gens_length (l : List S25) : ∀ last, (gens last l).length = l.length := by
  induction l with
  | nil => intro; rfl
  | cons k l ih => intro last; simp [gens, ih]

/-- Below N, and every block of cells but the N-th, stay. -/
def KeepR (N : Nat) (A B : World) : Prop := Below N A B ∧ ∀ (k : Nat) (o : Obj), k ≠ N → A.heap[k]? = some o → o.isCells = true → B.heap[k]? = some o
theorem KeepR.trans {N : Nat} {A B C : World} (h : KeepR N A B) (k : KeepR N B C) : KeepR N A C := ⟨h.1.trans k.1, fun j o hj ho hc => k.2 j o hj (h.2 j o hj ho hc) hc⟩
theorem KeepR.put {N : Nat} (W : World) (l : Nat) (o o' : Obj) (hl : N ≤ l) (hk : W.heap[l]? = some o) (hc : o.isCells = false) : KeepR N W (W.putObj l o') :=
  ⟨(Below.refl N W).grown (grownBy_putObj' W l o') (by have := (Array.getElem?_eq_some_iff.1 hk).1; omega) (fun k e => by cases e; omega), fun j o2 hj ho h2 => by
    by_cases e : j = l
    · subst e
      rw [hk] at ho
      cases ho
      rw [hc] at h2
      cases h2
    · exact (World.putObj_heap_other e).trans ho⟩

theorem box2_at {W : World} {B : Nat} {a : Int} {s : ByteArray} (h : W.heap[B]? = some (.cells #[.int .u32 a, .string s] 25 (0, 0))) : W.cell? ⟨B, 0, none⟩ = some (.int .u32 a) ∧ W.cell? ⟨B, 1, none⟩ = some (.string s) ∧ ∀ i, W.frozen? ⟨B, i, none⟩ = false := by
  refine ⟨?_, ?_, fun i => ?_⟩ <;> simp [World.cell?, World.frozen?, h]

set_option maxRecDepth 100000 in
set_option maxHeartbeats 1000000 in
theorem gens1 (N g : Nat) (A0 : Option Addr) (c0 : Nat) (l : List S25) (w0 w : World) (hg : Boxed w g 22 (.slice A0 l.length c0)) (hNg : N < g) (hr : Kd.C k25 w0 A0 l.length l) (hw0 : w0.heap.size ≤ N) (hb0 : Below N w0 w) (hl : l.length ≤ 5864062014805) :
    SeqB Fence.wide 8 Try.prog 32 #[.pointer (some ⟨g, 0, none⟩)] (fun x : Int × Bool => #[.int .u32 x.1, .bool x.2])
      (fun A B => Below A.heap.size A B) (KeepR N)
      (fun xs => xs = gens 0 l) (fun pre => pre <+: gens 0 l) (gens 0 l).length w := by
  intro lp J Jx W hW hJ hJx hY h0
  have hgW : Boxed W g 22 (.slice A0 l.length c0) := (hW.block g hg.lt).trans hg
  have hbW : Below N w0 W := hb0.trans (hW.mono (by have := hg.lt; omega))
  have hbc := hgW.cell
  refine callsIn_of_wp Try.func32 rfl trivial ?_ rfl
  simp only [Try.ntmps32, List.size_toArray, List.length_cons, List.length_nil, Nat.reduceAdd, Nat.reduceSub, Array.replicate_succ, Array.replicate_zero, List.push_toArray, List.append_toArray, List.nil_append, List.cons_append]
  gi_wp2
  gi_loopw [3, 8] (fun v3 v8 wr => ∃ (i : Nat) (last : Int) (pre : List (Int × Bool)), v8 = .int .i64 i ∧ v3 = .int .u32 last ∧ i ≤ l.length ∧ pre.length = i ∧ gens 0 l = pre ++ gens last (l.drop i) ∧ J pre wr ∧ Boxed wr g 22 (.slice A0 l.length c0) ∧ Below N w0 wr) (fun _ v8 _ => l.length - (intOf v8).toNat)
  case atStart => exact ⟨0, 0, [], rfl, rfl, Nat.zero_le _, rfl, rfl, h0, hgW, hbW⟩
  case round =>
    obtain ⟨i, last, pre, rfl, rfl, hi, hpl, hpre, hJ1, hgr, hbr⟩ := hrel
    by_cases hie : i = l.length
    · subst hie
      rw [List.drop_length, gens, List.append_nil] at hpre
      gi_wp2
      go_end0
      exact ⟨⟨_, rfl⟩, .inl ⟨_, rfl, by rw [hpre]; exact hJ1⟩⟩
    · have hlt : decide ((i : Int) < (l.length : Int)) = true := decide_eq_true (by omega)
      have hi0 : (0 : Int) ≤ (i : Int) := by omega
      have hi1 : (i : Int) < (l.length : Int) := by omega
      have hC := Kd.C_below hr (hbr.mono hw0)
      obtain ⟨ad, rfl, hc0, hc1⟩ := at_T25 hC (i : Int) hi0 (by simpa using hi1)
      rw [Int.toNat_natCast] at hc0 hc1
      have hdrop : l.drop i = rd_T25 l i :: l.drop (i + 1) := by
        rw [List.drop_eq_getElem_cons (by omega), rd_T25, Int.toNat_natCast, List.getD_eq_getElem?_getD, List.getElem?_eq_getElem (by omega)]
        rfl
      rw [hdrop, gens] at hpre
      generalize rd_T25 l i = k at *
      obtain ⟨gn, sc⟩ := k
      have Hpre := Lib.hid hpre
      clear hpre hdrop
      have hgl := gens_length l 0
      have hws : N < wr.heap.size := by have := hgr.lt; omega
      by_cases h1 : last < gn
      · have hd1 : decide (last < gn) = true := decide_eq_true h1
        by_cases h2 : sc.size = 32
        · have hd2 : ((sc.size : Int) == 32) = true := by rw [h2]; rfl
          have hok : okK last ⟨gn, sc⟩ = true := by rw [okK, hd1, hd2]; rfl
          have hJ2 : J pre (wr.alloc (.cells #[.int .u32 gn, .string sc] 25)) := hJ _ _ _ hJ1 ((Below.refl _ _).alloc (Nat.le_refl _) _)
          obtain ⟨fn, tmps, assign, body, hy, hRd⟩ := hY pre (gn, true) _ hJ2 (by rw [hgl]; omega)
          gi_wp2
          refine hRd.mono ?_
          rintro e W3 (⟨rfl, hJ3, hk3⟩ | ⟨rfl, hJx3⟩)
          · have hb3 : W3.heap[wr.heap.size]? = some (.cells #[.int .u32 gn, .string sc] 25 (0, 0)) := hk3.2 _ _ (by omega) (World.alloc_heap_new _ _) rfl
            have hg3 : Boxed W3 g 22 (.slice (some ad) l.length c0) := hk3.2 _ _ (by omega) (Boxed.alloc hgr _) rfl
            have hB3 : Below N w0 W3 := (hbr.alloc (by omega) _).trans hk3.1
            obtain ⟨d0, d1, d2⟩ := box2_at hb3
            gi_wp2
            exact ⟨⟨i + 1, gn, _, by go_num, rfl, by omega, by simp [hpl], by rw [Hpre.out, hok]; simp, hJ3, hg3, hB3⟩, by simp [intOf]; omega⟩
          · gi_wp2
            refine bodyPost_ret (results_none rfl _ _ _) rfl ?_
            exact ⟨⟨_, rfl⟩, .inr ⟨_, ⟨gens gn (l.drop (i + 1)), by rw [Hpre.out, hok]; simp⟩, hJx3⟩⟩
        · have hd2 : ((sc.size : Int) == 32) = false := beq_eq_false_iff_ne.2 (by omega)
          have hok : okK last ⟨gn, sc⟩ = false := by rw [okK, hd1, hd2]; rfl
          have hJ2 : J pre (wr.alloc (.cells #[.int .u32 gn, .string sc] 25)) := hJ _ _ _ hJ1 ((Below.refl _ _).alloc (Nat.le_refl _) _)
          obtain ⟨fn, tmps, assign, body, hy, hRd⟩ := hY pre (gn, false) _ hJ2 (by rw [hgl]; omega)
          gi_wp2
          refine hRd.mono ?_
          rintro e W3 (⟨rfl, hJ3, hk3⟩ | ⟨rfl, hJx3⟩)
          · have hb3 : W3.heap[wr.heap.size]? = some (.cells #[.int .u32 gn, .string sc] 25 (0, 0)) := hk3.2 _ _ (by omega) (World.alloc_heap_new _ _) rfl
            have hg3 : Boxed W3 g 22 (.slice (some ad) l.length c0) := hk3.2 _ _ (by omega) (Boxed.alloc hgr _) rfl
            have hB3 : Below N w0 W3 := (hbr.alloc (by omega) _).trans hk3.1
            obtain ⟨d0, d1, d2⟩ := box2_at hb3
            gi_wp2
            exact ⟨⟨i + 1, gn, _, by go_num, rfl, by omega, by simp [hpl], by rw [Hpre.out, hok]; simp, hJ3, hg3, hB3⟩, by simp [intOf]; omega⟩
          · gi_wp2
            refine bodyPost_ret (results_none rfl _ _ _) rfl ?_
            exact ⟨⟨_, rfl⟩, .inr ⟨_, ⟨gens gn (l.drop (i + 1)), by rw [Hpre.out, hok]; simp⟩, hJx3⟩⟩
      · have hd1 : decide (last < gn) = false := decide_eq_false h1
        have hok : okK last ⟨gn, sc⟩ = false := by rw [okK, hd1]; rfl
        have hJ2 : J pre (wr.alloc (.cells #[.int .u32 gn, .string sc] 25)) := hJ _ _ _ hJ1 ((Below.refl _ _).alloc (Nat.le_refl _) _)
        obtain ⟨fn, tmps, assign, body, hy, hRd⟩ := hY pre (gn, false) _ hJ2 (by rw [hgl]; omega)
        gi_wp2
        refine hRd.mono ?_
        rintro e W3 (⟨rfl, hJ3, hk3⟩ | ⟨rfl, hJx3⟩)
        · have hb3 : W3.heap[wr.heap.size]? = some (.cells #[.int .u32 gn, .string sc] 25 (0, 0)) := hk3.2 _ _ (by omega) (World.alloc_heap_new _ _) rfl
          have hg3 : Boxed W3 g 22 (.slice (some ad) l.length c0) := hk3.2 _ _ (by omega) (Boxed.alloc hgr _) rfl
          have hB3 : Below N w0 W3 := (hbr.alloc (by omega) _).trans hk3.1
          obtain ⟨d0, d1, d2⟩ := box2_at hb3
          gi_wp2
          exact ⟨⟨i + 1, gn, _, by go_num, rfl, by omega, by simp [hpl], by rw [Hpre.out, hok]; simp, hJ3, hg3, hB3⟩, by simp [intOf]; omega⟩
        · gi_wp2
          refine bodyPost_ret (results_none rfl _ _ _) rfl ?_
          exact ⟨⟨_, rfl⟩, .inr ⟨_, ⟨gens gn (l.drop (i + 1)), by rw [Hpre.out, hok]; simp⟩, hJx3⟩⟩

theorem generations_any (A : Option Addr) (n c : Nat) (w : World) : Calls Try.prog 28 #[.slice A n c] w fun e w' =>
    e = .returned (.func (.func 32) #[] #[.pointer (some ⟨w.heap.size, 0, none⟩)]) ∧ w.alloc (.cells #[.slice A n c] 22) = w' := by
  go_enter Try.func28, Try.ntmps28
  go_wp2
  go_ret
  exact ⟨rfl, rfl⟩

theorem calls_of_wp_marks {P : Program} {f : FuncId} {fn : Func} {c : Code} {args : Array Value} {w : World} {R : Ending → World → Prop}
    (hf : P.funcs[f]? = some fn) (hb : fn.body = some c)
    (h : c.wp P (bodyPostM Fence.wide 9 P fn R) { tmps := args ++ Array.replicate (fn.ntmps - args.size) undef, defers := [] } w) : Calls P f args w R :=
  (callsIn_wide (n := 9)).1 (callsIn_of_wp_marks hf hb trivial (wpIn_wide.2 h))

def rightB (l : List S25) : Bool := decide (l.length ≤ 16) && (gens 0 l).all (·.2)
def keys_Right.f (l : List S25) : Option Bool := if l.length ≤ 5864062014805 then some (rightB l) else none

def RInv (N : Nat) (g0 : Bool) (w : World) (pre : List (Int × Bool)) (W : World) : Prop := Boxed W N 4 (.bool g0) ∧ pre.all (·.2) = true ∧ Below N w W
def ROut (N : Nat) (w : World) (c : Code) (pre : List (Int × Bool)) (W : World) : Prop := Boxed W N 4 (.bool false) ∧ pre.all (·.2) = false ∧ Below N w W ∧ c = .exit 0
theorem RInv_own {N : Nat} {g0 : Bool} {w W0 : World} (hN : W0.heap.size = N + 2) : OwnFrom W0.heap.size (RInv N g0 w) := by
  rintro s A B row ⟨h1, h2, h3⟩ hg hr
  exact ⟨h1.kept hg (fun e => by have := (hr _ e.symm).1; omega), h2, h3.grown hg (by have := h1.lt; omega) (fun k e => by have := (hr k e).1; omega)⟩
theorem ROut_own {N : Nat} {w W0 : World} (hN : W0.heap.size = N + 2) (c : Code) : OwnFrom W0.heap.size (ROut N w c) := by
  rintro s A B row ⟨h1, h2, h3, h4⟩ hg hr
  exact ⟨h1.kept hg (fun e => by have := (hr _ e.symm).1; omega), h2, h3.grown hg (by have := h1.lt; omega) (fun k e => by have := (hr k e).1; omega), h4⟩

theorem right_end {W : World} {D : Nat} {tmps : Array Value} {R : Ending → World → Prop} {v : Value} (hD : W.heap[D]? = some (.deferred (some []))) (h2 : tmps[2]?.getD undef = v) (hR : R (.returned v) (W.putObj D (.deferred none))) :
    bodyPostM Fence.wide 9 Try.prog Try.f18 R .ret { tmps := tmps, defers := [{ target := .collected D, args := #[] }] } W := by
  refine ⟨by simp, .inl ⟨D, _, rfl, run_takeDeferred hD, ?_⟩⟩
  refine ⟨_, ?_, hR⟩
  simp [results, Try.results18, h2, go_sem]

set_option maxRecDepth 100000 in
set_option maxHeartbeats 2000000 in
theorem keys_Right.calls (A0 : Option Addr) (c0 : Nat) (l0 : List (S25)) (r : Bool) (w : World) (hr0 : Kd.C k25 w A0 l0.length l0) (hc0 : l0.length ≤ c0) (h : keys_Right.f l0 = some r) :
    Calls Try.prog 18 #[.slice A0 l0.length c0] w fun e w' => e = .returned (.bool r) ∧ Below w.heap.size w w' := by
  have hsz : l0.length ≤ 5864062014805 := by
    unfold keys_Right.f at h
    split at h
    · assumption
    · cases h
  rw [keys_Right.f, if_pos hsz] at h
  obtain rfl := Option.some.inj h
  clear h
  obtain ⟨g0, hg0⟩ : ∃ g0, decide ((l0.length : Int) ≤ 16) = g0 := ⟨_, rfl⟩
  have Hg0 := Lib.hid hg0
  refine calls_of_wp_marks Try.func18 rfl ?_
  simp only [Try.ntmps18, List.size_toArray, List.length_cons, List.length_nil, Nat.reduceAdd, Nat.reduceSub, Array.replicate_succ, Array.replicate_zero, List.push_toArray, List.append_toArray, List.nil_append, List.cons_append]
  go_wp2
  refine wp_scope_straight ?_
  go_wp2
  refine wp_label ?_
  go_wp2_with (go_at_call 28; refine (generations_any _ _ _ _).mono ?_; rintro e w' ⟨rfl, rfl⟩)
  refine (wpIn_wide (n := 9)).1 ?_
  clear hg0
  obtain ⟨N, hN⟩ : ∃ N, w.heap.size = N := ⟨_, rfl⟩
  have q1 : (w.alloc (.cells #[.bool g0] 4)).heap.size = N + 1 := by rw [World.size_alloc, hN]
  have b1 : Boxed (w.alloc (.cells #[.bool g0] 4)) N 4 (.bool g0) := by rw [← hN]; exact Boxed.new _ _ _
  have b1' := b1.alloc (.cells #[.slice A0 l0.length c0] 22)
  have b2 : Boxed ((w.alloc (.cells #[.bool g0] 4)).alloc (.cells #[.slice A0 l0.length c0] 22)) (N + 1) 22 (.slice A0 l0.length c0) := by rw [← q1]; exact Boxed.new _ _ _
  have hs2 : ((w.alloc (.cells #[.bool g0] 4)).alloc (.cells #[.slice A0 l0.length c0] 22)).heap.size = N + 2 := by rw [World.size_alloc, q1]
  have hbw : Below N w ((w.alloc (.cells #[.bool g0] 4)).alloc (.cells #[.slice A0 l0.length c0] 22)) := by
    rw [← hN]
    exact ((Below.refl _ w).alloc (Nat.le_refl _) _).alloc (by omega) _
  rw [hN]
  change Code.wpIn _ _ _ _ _ _ ((w.alloc (.cells #[.bool g0] 4)).alloc (.cells #[.slice A0 l0.length c0] 22))
  generalize (w.alloc (.cells #[.bool g0] 4)).alloc (.cells #[.slice A0 l0.length c0] 22) = W0 at b1' b2 hs2 hbw ⊢
  clear b1 q1
  have Hr0 := Lib.hid hr0
  clear hr0
  refine wpIn_rangeFunc_st (F := Fence.wide) (n := 9) rfl (by omega) (gf := 32) (lb := #[.pointer (some ⟨N + 1, 0, none⟩)]) rfl trivial (enters_of Try.func32 (by kernel_rfl) rfl)
    (gens1 N (N + 1) A0 c0 l0 w W0 b2 (by omega) Hr0.out (by omega) hbw hsz) (fun A B h => fun k o _ ho _ => (h.block k (Array.getElem?_eq_some_iff.1 ho).1).trans ho)
    KeepR.trans (fun W l o o' hl hk ho _ => KeepR.put W l o o' (by omega) hk ho) (Below.refl _ _) (fun _ => rfl)
    (RInv N g0 w) (ROut N w) (RInv_own hs2) (ROut_own hs2) (fun s A B h hs => ⟨(hs.block _ h.1.lt).trans h.1, h.2.1, h.2.2.trans (hs.mono (by have := h.1.lt; omega))⟩) (fun c s A B h hs => ⟨(hs.block _ h.1.lt).trans h.1, h.2.1, h.2.2.1.trans (hs.mono (by have := h.1.lt; omega)), h.2.2.2⟩)
    ⟨b1', rfl, hbw⟩
    (fun x => { tmps := #[.slice A0 l0.length c0, undef, .bool false, .pointer (some ⟨N, 0, none⟩), undef, .bool x.2, .slice A0 l0.length c0, .int .i64 l0.length, .bool g0, .slice A0 l0.length c0, .func (.func 32) #[] #[.pointer (some ⟨N + 1, 0, none⟩)], .int .u32 x.1, .bool x.2, undef, undef, undef], defers := [] }) ?assign ?body ?done ?stop
  case assign =>
    intro l x W K hK
    gi_wp2
    exact hK
  case body =>
    rintro l pre ⟨gn, ok⟩ W ⟨hb, hall, hB⟩ hlt
    have hbc := hb.cell
    have hbf := hb.frozen
    cases ok with
    | true =>
      gi_wp2
      exact ⟨(KeepsOthers.refl _).from _, ⟨Below.refl _ _, fun _ _ _ h _ => h⟩, hb, by rw [List.all_append, hall]; rfl, hB⟩
    | false =>
      gi_wp2
      exact ⟨(KeepsOthers.setCell _ _ _).from _, hb.set _, by rw [List.all_append, hall]; rfl, hB.setCell (p := ⟨N, 0, none⟩) (Nat.le_refl _) _, rfl⟩
  case' done =>
    rintro D xs W hD rfl ⟨hb, hall, hB⟩ hK
  case' stop =>
    rintro D c pre W hD hSp ⟨hb, hall, hB, rfl⟩ hK
    have hall2 : (gens 0 l0).all (·.2) = false := by
      obtain ⟨rest, hrest⟩ := hSp
      rw [← hrest, List.all_append, hall]
      rfl
    clear hall hSp
    refine wpIn_exit ?_
  all_goals
    have hc := hb.cell
    have hlD := (Array.getElem?_eq_some_iff.1 hK).1
    go_wp2
    refine right_end hK rfl ⟨?_, ?_⟩
    · show Ending.returned (.bool _) = Ending.returned (.bool _)
      first
      | rw [rightB, hall2, Bool.and_false]
      | (rw [rightB, hall, Bool.and_true, ← Hg0.out, show decide ((l0.length : Int) ≤ 16) = decide (l0.length ≤ 16) from decide_eq_decide.2 (by omega)])
    · rw [hN]
      exact hB.grown (grownBy_putObj' _ D _) (by have := hB.size; omega) (fun k e => by cases e; omega)

end Go.Proofs.Ytdoaohmjhbefdaa.H
