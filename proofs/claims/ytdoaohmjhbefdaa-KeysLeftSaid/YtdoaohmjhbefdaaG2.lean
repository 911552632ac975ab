/- keys.place: the walk over slices.IndexFunc. -/
import Derived.Test.YtdoaohmjhbefdaaG1
import Derived.Deep.QuietTactic
import Derived.BigQuiet
namespace Go.Proofs.Ytdoaohmjhbefdaa.H
open Go.RowKit Go.Shelf Go.Proofs.YtdoaohmjhbefdaaW.PrintWords Go.Proofs.YtdoaohmjhbefdaaW.PrintLast Go.Proofs.YtdoaohmjhbefdaaW.PrintMore
attribute [local go_sem] Oper.semAt_some
set_option linter.unusedVariables false
set_option linter.unusedSimpArgs false

/-- Where the first one stands of which p is true, or -1. -/
def idx (p : S25 → Bool) (l : List S25) : Int := match l.findIdx? p with
  | some i => (i : Int)
  | none => -1
theorem idx_at (p : S25 → Bool) (l : List S25) (i : Nat) (hi : i < l.length) (hp : p (rd_T25 l i) = true) (hq : ∀ j, j < i → p (rd_T25 l j) = false) : idx p l = (i : Int) := by
  have : l.findIdx? p = some i := by
    rw [List.findIdx?_eq_some_iff_getElem]
    have e : ∀ j (h : j < l.length), l[j] = rd_T25 l (j : Int) := fun j h => by
      rw [rd_T25, Int.toNat_natCast, List.getD_eq_getElem?_getD, List.getElem?_eq_getElem h]
      rfl
    refine ⟨hi, by rw [e]; exact hp, fun j hj => ?_⟩
    rw [e j (by omega), hq j hj]
    decide
  rw [idx, this]
theorem idx_none (p : S25 → Bool) (l : List S25) (hq : ∀ j, j < l.length → p (rd_T25 l j) = false) : idx p l = -1 := by
  have : l.findIdx? p = none := by
    rw [List.findIdx?_eq_none_iff]
    intro x hx
    obtain ⟨j, hj, rfl⟩ := List.mem_iff_getElem.1 hx
    have := hq j hj
    rw [rd_T25, Int.toNat_natCast, List.getD_eq_getElem?_getD, List.getElem?_eq_getElem hj] at this
    exact this
  rw [idx, this]

theorem place1 (x : S25) (g : Nat) (gen : Int) (w : World) (hg : Boxed w g 23 (.int .u32 gen)) :
    Calls Try.prog 29 #[.agg #[.int .u32 x.f0, .string x.f1], .pointer (some ⟨g, 0, none⟩)] w fun e w' => e = .returned (.bool (decide (gen ≤ x.f0))) ∧ Below w.heap.size w w' := by
  have hc := hg.cell
  have hlt := hg.lt
  obtain ⟨b, hb⟩ : ∃ b, decide (gen ≤ x.f0) = b := ⟨_, rfl⟩
  have hb2 : decide (x.f0 ≥ gen) = b := hb
  rw [hb]
  go_enter Try.func29, Try.ntmps29
  go_wp2
  go_ret
  exact ⟨rfl, (Below.refl _ _).alloc (Nat.le_refl _) _⟩

set_option maxRecDepth 100000 in
set_option maxHeartbeats 1000000 in
theorem indexFunc_place (A0 : Option Addr) (c0 : Nat) (l : List S25) (g : Nat) (gen : Int) (w : World) (hg : Boxed w g 23 (.int .u32 gen)) (hr : Kd.C k25 w A0 l.length l) (hl : l.length ≤ 5864062014805) :
    Calls Try.prog 26 #[.slice A0 l.length c0, .func (.func 29) #[] #[.pointer (some ⟨g, 0, none⟩)]] w fun e w' => e = .returned (.int .i64 (idx (fun x => decide (gen ≤ x.f0)) l)) ∧ Below w.heap.size w w' := by
  have Hr := Lib.hid hr
  clear hr
  go_enter Try.func26, Try.ntmps26
  go_wp2
  go_loopw [8] (fun v wr => ∃ i : Nat, v = .int .i64 i ∧ i ≤ l.length ∧ (∀ j, j < i → decide (gen ≤ (rd_T25 l j).f0) = false) ∧ Below w.heap.size w wr) (fun v _ => l.length - (intOf v).toNat)
  case atStart => exact ⟨0, rfl, Nat.zero_le _, fun j h => by omega, Below.refl _ _⟩
  case round =>
    obtain ⟨i, rfl, hi, hq, hB⟩ := hrel
    have Hq := Lib.hid hq
    clear hq
    by_cases hie : i = l.length
    · subst hie
      go_wp2
      go_ret
      exact ⟨by rw [idx_none _ _ Hq.out]; rfl, hB⟩
    · have hlt : decide ((i : Int) < (l.length : Int)) = true := decide_eq_true (by omega)
      have hi0 : (0 : Int) ≤ (i : Int) := by omega
      have hi1 : (i : Int) < (l.length : Int) := by omega
      obtain ⟨ad, rfl, hc0, hc1⟩ := at_T25 (Kd.C_below Hr.out hB) (i : Int) hi0 (by simpa using hi1)
      rw [Int.toNat_natCast] at hc0 hc1
      have hgr : Boxed wr g 23 (.int .u32 gen) := (hB.block g hg.lt).trans hg
      have hat := idx_at (fun x => decide (gen ≤ x.f0)) l i (by omega)
      have hnx : decide (gen ≤ (rd_T25 l i).f0) = false → ∀ j, j < i + 1 → decide (gen ≤ (rd_T25 l j).f0) = false := fun h j hj => by
        by_cases e : j = i
        · subst e; exact h
        · exact Hq.out j (by omega)
      have hp1 := place1 (rd_T25 l i) g gen wr hgr
      obtain ⟨b, hb⟩ : ∃ b, decide (gen ≤ (rd_T25 l i).f0) = b := ⟨_, rfl⟩
      rw [hb] at hp1 hnx
      have Hat := Lib.hid hat
      have Hb := Lib.hid hb
      have Hnx := Lib.hid hnx
      have Hp1 := Lib.hid hp1
      clear hat hb hnx hp1
      cases b with
      | true =>
        go_wp2_with (go_at_call 29; refine Hp1.out.mono ?_; rintro e w1 ⟨rfl, hb1⟩)
        go_ret
        exact ⟨by rw [Hat.out Hb.out Hq.out]; rfl, hB.trans (hb1.mono hB.size)⟩
      | false =>
        go_wp2_with (go_at_call 29; refine Hp1.out.mono ?_; rintro e w1 ⟨rfl, hb1⟩)
        exact ⟨⟨i + 1, by go_num, by omega, Hnx.out (by trivial), hB.trans (hb1.mono hB.size)⟩, by simp [intOf]; omega⟩

def placeOf (l : List S25) (gen : Int) : Int × Bool := if idx (fun x => decide (gen ≤ x.f0)) l < 0 then ((l.length : Int), false) else (idx (fun x => decide (gen ≤ x.f0)) l, (rd_T25 l (idx (fun x => decide (gen ≤ x.f0)) l)).f0 == gen)
def keys_place.f (l : List S25) (gen : Int) : Option (Int × Bool) := if l.length ≤ 5864062014805 then some (placeOf l gen) else none

theorem idx_range (p : S25 → Bool) (l : List S25) : idx p l < (l.length : Int) := by
  unfold idx
  split
  · rename_i i h
    have := (List.findIdx?_eq_some_iff_getElem.1 h).1
    omega
  · omega

set_option maxRecDepth 100000 in
set_option maxHeartbeats 1000000 in
theorem keys_place.calls (A0 : Option Addr) (c0 : Nat) (l0 : List (S25)) (a1 : Int) (r1 : Int) (r2 : Bool) (w : World) (hr0 : Kd.C k25 w A0 l0.length l0) (hc0 : l0.length ≤ c0) (h : keys_place.f l0 a1 = some (r1, r2)) :
    Calls Try.prog 23 #[.slice A0 l0.length c0, .int .u32 a1] w fun e w' => e = .returned (.tuple #[.int .i64 r1, .bool r2]) ∧ Below w.heap.size w w' := by
  have hsz : l0.length ≤ 5864062014805 := by
    unfold keys_place.f at h
    split at h
    · assumption
    · cases h
  rw [keys_place.f, if_pos hsz] at h
  have h := Option.some.inj h
  have hif := indexFunc_place A0 c0 l0 w.heap.size a1 (w.alloc (.cells #[.int .u32 a1] 23)) (Boxed.new _ _ _) (Kd.C_below hr0 ((Below.refl _ w).alloc (Nat.le_refl _) _)) hsz
  have hrg := idx_range (fun x => decide (a1 ≤ x.f0)) l0
  rw [placeOf] at h
  generalize idx (fun x => decide (a1 ≤ x.f0)) l0 = n at *
  have Hif := Lib.hid hif
  have Hr0 := Lib.hid hr0
  clear hif hr0
  by_cases hn : n < 0
  · rw [if_pos hn] at h
    obtain ⟨rfl, rfl⟩ := Prod.mk.inj h
    clear h
    have hd : decide (n < 0) = true := decide_eq_true hn
    go_enter Try.func23, Try.ntmps23
    go_wp2_with (go_at_call 26; refine Hif.out.mono ?_; rintro e w1 ⟨rfl, hb1⟩)
    go_ret2
    exact ⟨rfl, ((Below.refl _ w).alloc (Nat.le_refl _) _).trans (hb1.mono (by rw [World.size_alloc]; omega))⟩
  · rw [if_neg hn] at h
    obtain ⟨rfl, rfl⟩ := Prod.mk.inj h
    clear h
    have hd : decide (n < 0) = false := decide_eq_false hn
    have hn0 : 0 ≤ n := by omega
    go_enter Try.func23, Try.ntmps23
    go_upto_region 4 with (go_at_call 26; refine Hif.out.mono ?_; rintro e w1 ⟨rfl, hb1⟩)
    have hbx : Boxed w1 w.heap.size 23 (.int .u32 a1) := (hb1.block _ (Boxed.new w 23 (.int .u32 a1)).lt).trans (Boxed.new w 23 (.int .u32 a1))
    have hC := Kd.C_below Hr0.out (((Below.refl _ w).alloc (Nat.le_refl _) (.cells #[.int .u32 a1] 23)).trans (hb1.mono (by rw [World.size_alloc]; omega)))
    obtain ⟨ad, rfl, hc0, hc1⟩ := at_T25 hC n hn0 (by omega)
    have hbc := hbx.cell
    go_quiet (fail)
    go_wp2
    go_ret2
    exact ⟨rfl, pw_below_drewN (((Below.refl _ w).alloc (Nat.le_refl _) _).trans (hb1.mono (by rw [World.size_alloc]; omega))) _⟩

end Go.Proofs.Ytdoaohmjhbefdaa.H
