/- keys.Right: the walk over the iterator of generations. -/
import Derived.Test.YtobjhddiieaafaaDoorRange
import Derived.Test.YtobjhddiieaafaaDoorH0
import Derived.WalkKit
import Derived.OwnWalkIn
import Derived.TacticsInMore
import Derived.LoopNIn
import Derived.LoopIn
import Derived.Maps.AppendAt
import Derived.Shelf.RegionOpen
import Derived.Outline
import Derived.Lib.Hide
import Derived.Deep.QuietTactic
import Derived.BigQuiet
namespace Go.Proofs.YtobjhddiieaafaaDoor.H
open Go.RowKit Go.Shelf Go.Proofs.YtobjhddiieaafaaDoorW.PrintWords Go.Proofs.YtobjhddiieaafaaDoorW.PrintLast Go.Proofs.YtobjhddiieaafaaDoorW.PrintMore
attribute [local go_sem] Oper.semAt_some
set_option linter.unusedVariables false
set_option linter.unusedSimpArgs false

/-- What the iterator tells: each generation, and whether its key may stand there. -/
def okK (last : Int) (k : S24) : Bool := decide (last < k.f0) && ((k.f1.size : Int) == 32)
def gens : Int → List S24 → List (Int × Bool)
  | _, [] => []
  | last, k :: l => (k.f0, okK last k) :: gens k.f0 l
theorem gens_length (l : List S24) : ∀ last, (gens last l).length = l.length := by
  induction l with
  | nil => intro; rfl
  | cons k l ih => intro last; simp [gens, ih]

/-- Below N, and every block of cells but the N-th, stay. -/
def KeepR (N : Nat) (A B : World) : Prop := Below N A B ∧ ∀ (k : Nat) (o : Obj), k ≠ N → A.heap[k]? = some o → o.isCells = true → B.heap[k]? = some o
theorem KeepR.trans {N : Nat} {A B C : World} (h : KeepR N A B) (k : KeepR N B C) : KeepR N A C := ⟨h.1.trans k.1, fun j o hj ho hc => k.2 j o hj (h.2 j o hj ho hc) hc⟩
theorem KeepR.put {N : Nat} (W : World) (l : Nat) (o o' : Obj) (hl : N ≤ l) (hk : W.heap[l]? = some o) (hc : o.isCells = false) : KeepR N W (W.putObj l o') :=
  ⟨(Below.refl N W).grown (grownBy_putObj' W l o') (by have := (Array.getElem?_eq_some_iff.1 hk).1; omega) (fun k e => by cases e; omega), fun j o2 hj ho h2 => by
    by_cases e : j = l
    · subst e
      rw [hk] at ho
      cases ho
      rw [hc] at h2
      cases h2
    · exact (World.putObj_heap_other e).trans ho⟩

theorem box2_at {W : World} {B : Nat} {a : Int} {s : ByteArray} (h : W.heap[B]? = some (.cells #[.int .u32 a, .string s] 24 (0, 0))) : W.cell? ⟨B, 0, none⟩ = some (.int .u32 a) ∧ W.cell? ⟨B, 1, none⟩ = some (.string s) ∧ ∀ i, W.frozen? ⟨B, i, none⟩ = false := by
  refine ⟨?_, ?_, fun i => ?_⟩ <;> simp [World.cell?, World.frozen?, h]

set_option maxRecDepth 100000 in
set_option maxHeartbeats 1000000 in
theorem gens1 (N g : Nat) (A0 : Option Addr) (c0 : Nat) (l : List S24) (w0 w : World) (hg : Boxed w g 30 (.slice A0 l.length c0)) (hNg : N < g) (hr : Kd.C k24 w0 A0 l.length l) (hw0 : w0.heap.size ≤ N) (hb0 : Below N w0 w) (hl : l.length ≤ 5864062014805) :
    SeqB Fence.wide 8 Tryd.prog 30 #[.pointer (some ⟨g, 0, none⟩)] (fun x : Int × Bool => #[.int .u32 x.1, .bool x.2])
      (fun A B => Below A.heap.size A B) (KeepR N)
      (fun xs => xs = gens 0 l) (fun pre => pre <+: gens 0 l) (gens 0 l).length w := by
  intro lp J Jx W hW hJ hJx hY h0
  have hgW : Boxed W g 30 (.slice A0 l.length c0) := (hW.block g hg.lt).trans hg
  have hbW : Below N w0 W := hb0.trans (hW.mono (by have := hg.lt; omega))
  have hbc := hgW.cell
  refine callsIn_of_wp Tryd.func30 rfl trivial ?_ rfl
  simp only [Tryd.ntmps30, List.size_toArray, List.length_cons, List.length_nil, Nat.reduceAdd, Nat.reduceSub, Array.replicate_succ, Array.replicate_zero, List.push_toArray, List.append_toArray, List.nil_append, List.cons_append]
  gi_wp2
  gi_loopw [3, 8] (fun v3 v8 wr => ∃ (i : Nat) (last : Int) (pre : List (Int × Bool)), v8 = .int .i64 i ∧ v3 = .int .u32 last ∧ i ≤ l.length ∧ pre.length = i ∧ gens 0 l = pre ++ gens last (l.drop i) ∧ J pre wr ∧ Boxed wr g 30 (.slice A0 l.length c0) ∧ Below N w0 wr) (fun _ v8 _ => l.length - (intOf v8).toNat)
  case atStart => exact ⟨0, 0, [], rfl, rfl, Nat.zero_le _, rfl, rfl, h0, hgW, hbW⟩
  case round =>
    obtain ⟨i, last, pre, rfl, rfl, hi, hpl, hpre, hJ1, hgr, hbr⟩ := hrel
    by_cases hie : i = l.length
    · subst hie
      rw [List.drop_length, gens, List.append_nil] at hpre
      gi_wp2
      go_end0
      exact ⟨⟨_, rfl⟩, .inl ⟨_, rfl, by rw [hpre]; exact hJ1⟩⟩
    · have hlt : decide ((i : Int) < (l.length : Int)) = true := decide_eq_true (by omega)
      have hi0 : (0 : Int) ≤ (i : Int) := by omega
      have hi1 : (i : Int) < (l.length : Int) := by omega
      have hC := Kd.C_below hr (hbr.mono hw0)
      obtain ⟨ad, rfl, hc0, hc1⟩ := at_T24 hC (i : Int) hi0 (by simpa using hi1)
      rw [Int.toNat_natCast] at hc0 hc1
      have hdrop : l.drop i = rd_T24 l i :: l.drop (i + 1) := by
        rw [List.drop_eq_getElem_cons (by omega), rd_T24, Int.toNat_natCast, List.getD_eq_getElem?_getD, List.getElem?_eq_getElem (by omega)]
        rfl
      rw [hdrop, gens] at hpre
      generalize rd_T24 l i = k at *
      obtain ⟨gn, sc⟩ := k
      have Hpre := Lib.hid hpre
      clear hpre hdrop
      have hgl := gens_length l 0
      have hws : N < wr.heap.size := by have := hgr.lt; omega
      by_cases h1 : last < gn
      · have hd1 : decide (last < gn) = true := decide_eq_true h1
        by_cases h2 : sc.size = 32
        · have hd2 : ((sc.size : Int) == 32) = true := by rw [h2]; rfl
          have hok : okK last ⟨gn, sc⟩ = true := by rw [okK, hd1, hd2]; rfl
          have hJ2 : J pre (wr.alloc (.cells #[.int .u32 gn, .string sc] 24)) := hJ _ _ _ hJ1 ((Below.refl _ _).alloc (Nat.le_refl _) _)
          obtain ⟨fn, tmps, assign, body, hy, hRd⟩ := hY pre (gn, true) _ hJ2 (by rw [hgl]; omega)
          gi_wp2
          refine hRd.mono ?_
          rintro e W3 (⟨rfl, hJ3, hk3⟩ | ⟨rfl, hJx3⟩)
          · have hb3 : W3.heap[wr.heap.size]? = some (.cells #[.int .u32 gn, .string sc] 24 (0, 0)) := hk3.2 _ _ (by omega) (World.alloc_heap_new _ _) rfl
            have hg3 : Boxed W3 g 30 (.slice (some ad) l.length c0) := hk3.2 _ _ (by omega) (Boxed.alloc hgr _) rfl
            have hB3 : Below N w0 W3 := (hbr.alloc (by omega) _).trans hk3.1
            obtain ⟨d0, d1, d2⟩ := box2_at hb3
            gi_wp2
            exact ⟨⟨i + 1, gn, _, by go_num, rfl, by omega, by simp [hpl], by rw [Hpre.out, hok]; simp, hJ3, hg3, hB3⟩, by simp [intOf]; omega⟩
          · gi_wp2
            refine bodyPost_ret (results_none rfl _ _ _) rfl ?_
            exact ⟨⟨_, rfl⟩, .inr ⟨_, ⟨gens gn (l.drop (i + 1)), by rw [Hpre.out, hok]; simp⟩, hJx3⟩⟩
        · have hd2 : ((sc.size : Int) == 32) = false := beq_eq_false_iff_ne.2 (by omega)
          have hok : okK last ⟨gn, sc⟩ = false := by rw [okK, hd1, hd2]; rfl
          have hJ2 : J pre (wr.alloc (.cells #[.int .u32 gn, .string sc] 24)) := hJ _ _ _ hJ1 ((Below.refl _ _).alloc (Nat.le_refl _) _)
          obtain ⟨fn, tmps, assign, body, hy, hRd⟩ := hY pre (gn, false) _ hJ2 (by rw [hgl]; omega)
          gi_wp2
          refine hRd.mono ?_
          rintro e W3 (⟨rfl, hJ3, hk3⟩ | ⟨rfl, hJx3⟩)
          · have hb3 : W3.heap[wr.heap.size]? = some (.cells #[.int .u32 gn, .string sc] 24 (0, 0)) := hk3.2 _ _ (by omega) (World.alloc_heap_new _ _) rfl
            have hg3 : Boxed W3 g 30 (.slice (some ad) l.length c0) := hk3.2 _ _ (by omega) (Boxed.alloc hgr _) rfl
            have hB3 : Below N w0 W3 := (hbr.alloc (by omega) _).trans hk3.1
            obtain ⟨d0, d1, d2⟩ := box2_at hb3
            gi_wp2
            exact ⟨⟨i + 1, gn, _, by go_num, rfl, by omega, by simp [hpl], by rw [Hpre.out, hok]; simp, hJ3, hg3, hB3⟩, by simp [intOf]; omega⟩
          · gi_wp2
            refine bodyPost_ret (results_none rfl _ _ _) rfl ?_
            exact ⟨⟨_, rfl⟩, .inr ⟨_, ⟨gens gn (l.drop (i + 1)), by rw [Hpre.out, hok]; simp⟩, hJx3⟩⟩
      · have hd1 : decide (last < gn) = false := decide_eq_false h1
        have hok : okK last ⟨gn, sc⟩ = false := by rw [okK, hd1]; rfl
        have hJ2 : J pre (wr.alloc (.cells #[.int .u32 gn, .string sc] 24)) := hJ _ _ _ hJ1 ((Below.refl _ _).alloc (Nat.le_refl _) _)
        obtain ⟨fn, tmps, assign, body, hy, hRd⟩ := hY pre (gn, false) _ hJ2 (by rw [hgl]; omega)
        gi_wp2
        refine hRd.mono ?_
        rintro e W3 (⟨rfl, hJ3, hk3⟩ | ⟨rfl, hJx3⟩)
        · have hb3 : W3.heap[wr.heap.size]? = some (.cells #[.int .u32 gn, .string sc] 24 (0, 0)) := hk3.2 _ _ (by omega) (World.alloc_heap_new _ _) rfl
          have hg3 : Boxed W3 g 30 (.slice (some ad) l.length c0) := hk3.2 _ _ (by omega) (Boxed.alloc hgr _) rfl
          have hB3 : Below N w0 W3 := (hbr.alloc (by omega) _).trans hk3.1
          obtain ⟨d0, d1, d2⟩ := box2_at hb3
          gi_wp2
          exact ⟨⟨i + 1, gn, _, by go_num, rfl, by omega, by simp [hpl], by rw [Hpre.out, hok]; simp, hJ3, hg3, hB3⟩, by simp [intOf]; omega⟩
        · gi_wp2
          refine bodyPost_ret (results_none rfl _ _ _) rfl ?_
          exact ⟨⟨_, rfl⟩, .inr ⟨_, ⟨gens gn (l.drop (i + 1)), by rw [Hpre.out, hok]; simp⟩, hJx3⟩⟩

theorem generations_any (A : Option Addr) (n c : Nat) (w : World) : Calls Tryd.prog 20 #[.slice A n c] w fun e w' =>
    e = .returned (.func (.func 30) #[] #[.pointer (some ⟨w.heap.size, 0, none⟩)]) ∧ w.alloc (.cells #[.slice A n c] 30) = w' := by
  go_enter Tryd.func20, Tryd.ntmps20
  go_wp2
  go_ret
  exact ⟨rfl, rfl⟩

theorem calls_of_wp_marks {P : Program} {f : FuncId} {fn : Func} {c : Code} {args : Array Value} {w : World} {R : Ending → World → Prop}
    (hf : P.funcs[f]? = some fn) (hb : fn.body = some c)
    (h : c.wp P (bodyPostM Fence.wide 9 P fn R) { tmps := args ++ Array.replicate (fn.ntmps - args.size) undef, defers := [] } w) : Calls P f args w R :=
  (callsIn_wide (n := 9)).1 (callsIn_of_wp_marks hf hb trivial (wpIn_wide.2 h))

def rightB (l : List S24) : Bool := decide (l.length ≤ 16) && (gens 0 l).all (·.2)
def keys_Right.f (l : List S24) : Option Bool := if l.length ≤ 5864062014805 then some (rightB l) else none

def RInv (N : Nat) (g0 : Bool) (w : World) (pre : List (Int × Bool)) (W : World) : Prop := Boxed W N 4 (.bool g0) ∧ pre.all (·.2) = true ∧ Below N w W
def ROut (N : Nat) (w : World) (c : Code) (pre : List (Int × Bool)) (W : World) : Prop := Boxed W N 4 (.bool false) ∧ pre.all (·.2) = false ∧ Below N w W ∧ c = .exit 0
theorem RInv_own {N : Nat} {g0 : Bool} {w W0 : World} (hN : W0.heap.size = N + 2) : OwnFrom W0.heap.size (RInv N g0 w) := by
  rintro s A B row ⟨h1, h2, h3⟩ hg hr
  exact ⟨h1.kept hg (fun e => by have := (hr _ e.symm).1; omega), h2, h3.grown hg (by have := h1.lt; omega) (fun k e => by have := (hr k e).1; omega)⟩
theorem ROut_own {N : Nat} {w W0 : World} (hN : W0.heap.size = N + 2) (c : Code) : OwnFrom W0.heap.size (ROut N w c) := by
  rintro s A B row ⟨h1, h2, h3, h4⟩ hg hr
  exact ⟨h1.kept hg (fun e => by have := (hr _ e.symm).1; omega), h2, h3.grown hg (by have := h1.lt; omega) (fun k e => by have := (hr k e).1; omega), h4⟩

theorem right_end {W : World} {D : Nat} {tmps : Array Value} {R : Ending → World → Prop} {v : Value} (hD : W.heap[D]? = some (.deferred (some []))) (h2 : tmps[2]?.getD undef = v) (hR : R (.returned v) (W.putObj D (.deferred none))) :
    bodyPostM Fence.wide 9 Tryd.prog Tryd.f10 R .ret { tmps := tmps, defers := [{ target := .collected D, args := #[] }] } W := by
  refine ⟨by simp, .inl ⟨D, _, rfl, run_takeDeferred hD, ?_⟩⟩
  refine ⟨_, ?_, hR⟩
  simp [results, Tryd.results10, h2, go_sem]

set_option maxRecDepth 100000 in
set_option maxHeartbeats 2000000 in
theorem keys_Right.calls (A0 : Option Addr) (c0 : Nat) (l0 : List (S24)) (r : Bool) (w : World) (hr0 : Kd.C k24 w A0 l0.length l0) (hc0 : l0.length ≤ c0) (h : keys_Right.f l0 = some r) :
    Calls Tryd.prog 10 #[.slice A0 l0.length c0] w fun e w' => e = .returned (.bool r) ∧ Below w.heap.size w w' := by
  have hsz : l0.length ≤ 5864062014805 := by
    unfold keys_Right.f at h
    split at h
    · assumption
    · cases h
  rw [keys_Right.f, if_pos hsz] at h
  obtain rfl := Option.some.inj h
  clear h
  obtain ⟨g0, hg0⟩ : ∃ g0, decide ((l0.length : Int) ≤ 16) = g0 := ⟨_, rfl⟩
  have Hg0 := Lib.hid hg0
  refine calls_of_wp_marks Tryd.func10 rfl ?_
  simp only [Tryd.ntmps10, List.size_toArray, List.length_cons, List.length_nil, Nat.reduceAdd, Nat.reduceSub, Array.replicate_succ, Array.replicate_zero, List.push_toArray, List.append_toArray, List.nil_append, List.cons_append]
  go_wp2
  refine wp_scope_straight ?_
  go_wp2
  refine wp_label ?_
  go_wp2_with (go_at_call 20; refine (generations_any _ _ _ _).mono ?_; rintro e w' ⟨rfl, rfl⟩)
  refine (wpIn_wide (n := 9)).1 ?_
  clear hg0
  obtain ⟨N, hN⟩ : ∃ N, w.heap.size = N := ⟨_, rfl⟩
  have q1 : (w.alloc (.cells #[.bool g0] 4)).heap.size = N + 1 := by rw [World.size_alloc, hN]
  have b1 : Boxed (w.alloc (.cells #[.bool g0] 4)) N 4 (.bool g0) := by rw [← hN]; exact Boxed.new _ _ _
  have b1' := b1.alloc (.cells #[.slice A0 l0.length c0] 30)
  have b2 : Boxed ((w.alloc (.cells #[.bool g0] 4)).alloc (.cells #[.slice A0 l0.length c0] 30)) (N + 1) 30 (.slice A0 l0.length c0) := by rw [← q1]; exact Boxed.new _ _ _
  have hs2 : ((w.alloc (.cells #[.bool g0] 4)).alloc (.cells #[.slice A0 l0.length c0] 30)).heap.size = N + 2 := by rw [World.size_alloc, q1]
  have hbw : Below N w ((w.alloc (.cells #[.bool g0] 4)).alloc (.cells #[.slice A0 l0.length c0] 30)) := by
    rw [← hN]
    exact ((Below.refl _ w).alloc (Nat.le_refl _) _).alloc (by omega) _
  rw [hN]
  change Code.wpIn _ _ _ _ _ _ ((w.alloc (.cells #[.bool g0] 4)).alloc (.cells #[.slice A0 l0.length c0] 30))
  generalize (w.alloc (.cells #[.bool g0] 4)).alloc (.cells #[.slice A0 l0.length c0] 30) = W0 at b1' b2 hs2 hbw ⊢
  clear b1 q1
  have Hr0 := Lib.hid hr0
  clear hr0
  refine wpIn_rangeFunc_st (F := Fence.wide) (n := 9) rfl (by omega) (gf := 30) (lb := #[.pointer (some ⟨N + 1, 0, none⟩)]) rfl trivial (enters_of Tryd.func30 (by kernel_rfl) rfl)
    (gens1 N (N + 1) A0 c0 l0 w W0 b2 (by omega) Hr0.out (by omega) hbw hsz) (fun A B h => fun k o _ ho _ => (h.block k (Array.getElem?_eq_some_iff.1 ho).1).trans ho)
    KeepR.trans (fun W l o o' hl hk ho _ => KeepR.put W l o o' (by omega) hk ho) (Below.refl _ _) (fun _ => rfl)
    (RInv N g0 w) (ROut N w) (RInv_own hs2) (ROut_own hs2) (fun s A B h hs => ⟨(hs.block _ h.1.lt).trans h.1, h.2.1, h.2.2.trans (hs.mono (by have := h.1.lt; omega))⟩) (fun c s A B h hs => ⟨(hs.block _ h.1.lt).trans h.1, h.2.1, h.2.2.1.trans (hs.mono (by have := h.1.lt; omega)), h.2.2.2⟩)
    ⟨b1', rfl, hbw⟩
    (fun x => { tmps := #[.slice A0 l0.length c0, undef, .bool false, .pointer (some ⟨N, 0, none⟩), undef, .bool x.2, .slice A0 l0.length c0, .int .i64 l0.length, .bool g0, .slice A0 l0.length c0, .func (.func 30) #[] #[.pointer (some ⟨N + 1, 0, none⟩)], .int .u32 x.1, .bool x.2, undef, undef, undef], defers := [] }) ?assign ?body ?done ?stop
  case assign =>
    intro l x W K hK
    gi_wp2
    exact hK
  case body =>
    rintro l pre ⟨gn, ok⟩ W ⟨hb, hall, hB⟩ hlt
    have hbc := hb.cell
    have hbf := hb.frozen
    cases ok with
    | true =>
      gi_wp2
      exact ⟨(KeepsOthers.refl _).from _, ⟨Below.refl _ _, fun _ _ _ h _ => h⟩, hb, by rw [List.all_append, hall]; rfl, hB⟩
    | false =>
      gi_wp2
      exact ⟨(KeepsOthers.setCell _ _ _).from _, hb.set _, by rw [List.all_append, hall]; rfl, hB.setCell (p := ⟨N, 0, none⟩) (Nat.le_refl _) _, rfl⟩
  case' done =>
    rintro D xs W hD rfl ⟨hb, hall, hB⟩ hK
  case' stop =>
    rintro D c pre W hD hSp ⟨hb, hall, hB, rfl⟩ hK
    have hall2 : (gens 0 l0).all (·.2) = false := by
      obtain ⟨rest, hrest⟩ := hSp
      rw [← hrest, List.all_append, hall]
      rfl
    clear hall hSp
    refine wpIn_exit ?_
  all_goals
    have hc := hb.cell
    have hlD := (Array.getElem?_eq_some_iff.1 hK).1
    go_wp2
    refine right_end hK rfl ⟨?_, ?_⟩
    · show Ending.returned (.bool _) = Ending.returned (.bool _)
      first
      | rw [rightB, hall2, Bool.and_false]
      | (rw [rightB, hall, Bool.and_true, ← Hg0.out, show decide ((l0.length : Int) ≤ 16) = decide (l0.length ≤ 16) from decide_eq_decide.2 (by omega)])
    · rw [hN]
      exact hB.grown (grownBy_putObj' _ D _) (by have := hB.size; omega) (fun k e => by cases e; omega)

end Go.Proofs.YtobjhddiieaafaaDoor.H

namespace Go.Proofs.YtobjhddiieaafaaDoor.H
open Go.RowKit Go.Shelf Go.Proofs.YtobjhddiieaafaaDoorW.PrintWords Go.Proofs.YtobjhddiieaafaaDoorW.PrintLast Go.Proofs.YtobjhddiieaafaaDoorW.PrintMore
attribute [local go_sem] Oper.semAt_some
set_option linter.unusedVariables false
set_option linter.unusedSimpArgs false

/-- Where the first one stands of which p is true, or -1. -/
def idx (p : S24 → Bool) (l : List S24) : Int := match l.findIdx? p with
  | some i => (i : Int)
  | none => -1
theorem idx_at (p : S24 → Bool) (l : List S24) (i : Nat) (hi : i < l.length) (hp : p (rd_T24 l i) = true) (hq : ∀ j, j < i → p (rd_T24 l j) = false) : idx p l = (i : Int) := by
  have : l.findIdx? p = some i := by
    rw [List.findIdx?_eq_some_iff_getElem]
    have e : ∀ j (h : j < l.length), l[j] = rd_T24 l (j : Int) := fun j h => by
      rw [rd_T24, Int.toNat_natCast, List.getD_eq_getElem?_getD, List.getElem?_eq_getElem h]
      rfl
    refine ⟨hi, by rw [e]; exact hp, fun j hj => ?_⟩
    rw [e j (by omega), hq j hj]
    decide
  rw [idx, this]
theorem idx_none (p : S24 → Bool) (l : List S24) (hq : ∀ j, j < l.length → p (rd_T24 l j) = false) : idx p l = -1 := by
  have : l.findIdx? p = none := by
    rw [List.findIdx?_eq_none_iff]
    intro x hx
    obtain ⟨j, hj, rfl⟩ := List.mem_iff_getElem.1 hx
    have := hq j hj
    rw [rd_T24, Int.toNat_natCast, List.getD_eq_getElem?_getD, List.getElem?_eq_getElem hj] at this
    exact this
  rw [idx, this]

theorem place1 (x : S24) (g : Nat) (gen : Int) (w : World) (hg : Boxed w g 22 (.int .u32 gen)) :
    Calls Tryd.prog 27 #[.agg #[.int .u32 x.f0, .string x.f1], .pointer (some ⟨g, 0, none⟩)] w fun e w' => e = .returned (.bool (decide (gen ≤ x.f0))) ∧ Below w.heap.size w w' := by
  have hc := hg.cell
  have hlt := hg.lt
  obtain ⟨b, hb⟩ : ∃ b, decide (gen ≤ x.f0) = b := ⟨_, rfl⟩
  have hb2 : decide (x.f0 ≥ gen) = b := hb
  rw [hb]
  go_enter Tryd.func27, Tryd.ntmps27
  go_wp2
  go_ret
  exact ⟨rfl, (Below.refl _ _).alloc (Nat.le_refl _) _⟩

set_option maxRecDepth 100000 in
set_option maxHeartbeats 1000000 in
theorem indexFunc_place (A0 : Option Addr) (c0 : Nat) (l : List S24) (g : Nat) (gen : Int) (w : World) (hg : Boxed w g 22 (.int .u32 gen)) (hr : Kd.C k24 w A0 l.length l) (hl : l.length ≤ 5864062014805) :
    Calls Tryd.prog 26 #[.slice A0 l.length c0, .func (.func 27) #[] #[.pointer (some ⟨g, 0, none⟩)]] w fun e w' => e = .returned (.int .i64 (idx (fun x => decide (gen ≤ x.f0)) l)) ∧ Below w.heap.size w w' := by
  have Hr := Lib.hid hr
  clear hr
  go_enter Tryd.func26, Tryd.ntmps26
  go_wp2
  go_loopw [8] (fun v wr => ∃ i : Nat, v = .int .i64 i ∧ i ≤ l.length ∧ (∀ j, j < i → decide (gen ≤ (rd_T24 l j).f0) = false) ∧ Below w.heap.size w wr) (fun v _ => l.length - (intOf v).toNat)
  case atStart => exact ⟨0, rfl, Nat.zero_le _, fun j h => by omega, Below.refl _ _⟩
  case round =>
    obtain ⟨i, rfl, hi, hq, hB⟩ := hrel
    have Hq := Lib.hid hq
    clear hq
    by_cases hie : i = l.length
    · subst hie
      go_wp2
      go_ret
      exact ⟨by rw [idx_none _ _ Hq.out]; rfl, hB⟩
    · have hlt : decide ((i : Int) < (l.length : Int)) = true := decide_eq_true (by omega)
      have hi0 : (0 : Int) ≤ (i : Int) := by omega
      have hi1 : (i : Int) < (l.length : Int) := by omega
      obtain ⟨ad, rfl, hc0, hc1⟩ := at_T24 (Kd.C_below Hr.out hB) (i : Int) hi0 (by simpa using hi1)
      rw [Int.toNat_natCast] at hc0 hc1
      have hgr : Boxed wr g 22 (.int .u32 gen) := (hB.block g hg.lt).trans hg
      have hat := idx_at (fun x => decide (gen ≤ x.f0)) l i (by omega)
      have hnx : decide (gen ≤ (rd_T24 l i).f0) = false → ∀ j, j < i + 1 → decide (gen ≤ (rd_T24 l j).f0) = false := fun h j hj => by
        by_cases e : j = i
        · subst e; exact h
        · exact Hq.out j (by omega)
      have hp1 := place1 (rd_T24 l i) g gen wr hgr
      obtain ⟨b, hb⟩ : ∃ b, decide (gen ≤ (rd_T24 l i).f0) = b := ⟨_, rfl⟩
      rw [hb] at hp1 hnx
      have Hat := Lib.hid hat
      have Hb := Lib.hid hb
      have Hnx := Lib.hid hnx
      have Hp1 := Lib.hid hp1
      clear hat hb hnx hp1
      cases b with
      | true =>
        go_wp2_with (go_at_call 27; refine Hp1.out.mono ?_; rintro e w1 ⟨rfl, hb1⟩)
        go_ret
        exact ⟨by rw [Hat.out Hb.out Hq.out]; rfl, hB.trans (hb1.mono hB.size)⟩
      | false =>
        go_wp2_with (go_at_call 27; refine Hp1.out.mono ?_; rintro e w1 ⟨rfl, hb1⟩)
        exact ⟨⟨i + 1, by go_num, by omega, Hnx.out (by trivial), hB.trans (hb1.mono hB.size)⟩, by simp [intOf]; omega⟩

def placeOf (l : List S24) (gen : Int) : Int × Bool := if idx (fun x => decide (gen ≤ x.f0)) l < 0 then ((l.length : Int), false) else (idx (fun x => decide (gen ≤ x.f0)) l, (rd_T24 l (idx (fun x => decide (gen ≤ x.f0)) l)).f0 == gen)
def keys_place.f (l : List S24) (gen : Int) : Option (Int × Bool) := if l.length ≤ 5864062014805 then some (placeOf l gen) else none

theorem idx_range (p : S24 → Bool) (l : List S24) : idx p l < (l.length : Int) := by
  unfold idx
  split
  · rename_i i h
    have := (List.findIdx?_eq_some_iff_getElem.1 h).1
    omega
  · omega

set_option maxRecDepth 100000 in
set_option maxHeartbeats 1000000 in
theorem keys_place.calls (A0 : Option Addr) (c0 : Nat) (l0 : List (S24)) (a1 : Int) (r1 : Int) (r2 : Bool) (w : World) (hr0 : Kd.C k24 w A0 l0.length l0) (hc0 : l0.length ≤ c0) (h : keys_place.f l0 a1 = some (r1, r2)) :
    Calls Tryd.prog 17 #[.slice A0 l0.length c0, .int .u32 a1] w fun e w' => e = .returned (.tuple #[.int .i64 r1, .bool r2]) ∧ Below w.heap.size w w' := by
  have hsz : l0.length ≤ 5864062014805 := by
    unfold keys_place.f at h
    split at h
    · assumption
    · cases h
  rw [keys_place.f, if_pos hsz] at h
  have h := Option.some.inj h
  have hif := indexFunc_place A0 c0 l0 w.heap.size a1 (w.alloc (.cells #[.int .u32 a1] 22)) (Boxed.new _ _ _) (Kd.C_below hr0 ((Below.refl _ w).alloc (Nat.le_refl _) _)) hsz
  have hrg := idx_range (fun x => decide (a1 ≤ x.f0)) l0
  rw [placeOf] at h
  generalize idx (fun x => decide (a1 ≤ x.f0)) l0 = n at *
  have Hif := Lib.hid hif
  have Hr0 := Lib.hid hr0
  clear hif hr0
  by_cases hn : n < 0
  · rw [if_pos hn] at h
    obtain ⟨rfl, rfl⟩ := Prod.mk.inj h
    clear h
    have hd : decide (n < 0) = true := decide_eq_true hn
    go_enter Tryd.func17, Tryd.ntmps17
    go_wp2_with (go_at_call 26; refine Hif.out.mono ?_; rintro e w1 ⟨rfl, hb1⟩)
    go_ret2
    exact ⟨rfl, ((Below.refl _ w).alloc (Nat.le_refl _) _).trans (hb1.mono (by rw [World.size_alloc]; omega))⟩
  · rw [if_neg hn] at h
    obtain ⟨rfl, rfl⟩ := Prod.mk.inj h
    clear h
    have hd : decide (n < 0) = false := decide_eq_false hn
    have hn0 : 0 ≤ n := by omega
    go_enter Tryd.func17, Tryd.ntmps17
    go_upto_region 4 with (go_at_call 26; refine Hif.out.mono ?_; rintro e w1 ⟨rfl, hb1⟩)
    have hbx : Boxed w1 w.heap.size 22 (.int .u32 a1) := (hb1.block _ (Boxed.new w 22 (.int .u32 a1)).lt).trans (Boxed.new w 22 (.int .u32 a1))
    have hC := Kd.C_below Hr0.out (((Below.refl _ w).alloc (Nat.le_refl _) (.cells #[.int .u32 a1] 22)).trans (hb1.mono (by rw [World.size_alloc]; omega)))
    obtain ⟨ad, rfl, hc0, hc1⟩ := at_T24 hC n hn0 (by omega)
    have hbc := hbx.cell
    go_quiet (fail)
    go_wp2
    go_ret2
    exact ⟨rfl, pw_below_drewN (((Below.refl _ w).alloc (Nat.le_refl _) _).trans (hb1.mono (by rw [World.size_alloc]; omega))) _⟩

end Go.Proofs.YtobjhddiieaafaaDoor.H
