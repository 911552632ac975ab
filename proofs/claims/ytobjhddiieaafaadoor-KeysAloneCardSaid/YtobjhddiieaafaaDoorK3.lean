/- slices.Insert of one key, in the middle, without room: the walk. -/
import Derived.Test.YtobjhddiieaafaaDoorKC
namespace Go.Proofs.YtobjhddiieaafaaDoor.H
open Go.RowKit Go.Shelf Go.Proofs.YtobjhddiieaafaaDoorW.PrintWords Go.Proofs.YtobjhddiieaafaaDoorW.PrintLast Go.Proofs.YtobjhddiieaafaaDoorW.PrintMore Go.Proofs.YtobjhddiieaafaaDoor.CopyK
attribute [local go_sem] Oper.semAt_some
set_option linter.unusedVariables false
set_option linter.unusedSimpArgs false

set_option maxRecDepth 100000 in
set_option maxHeartbeats 2000000 in
theorem insert_grow (B g c i : Nat) (cur : Array Value) (k : S24) (l : List S24) (base : Nat) (w0 w : World) (hg : w.heap[g]? = some (.cells cur 24 (0, 0))) (hcz : cur.size = c * 2) (htk : cur.toList.take (l.length * 2) = ens l) (hbs : base ≤ w.heap.size)
    (hk : w.heap[B]? = some (elt k)) (hi : i < l.length) (hlc : l.length ≤ c) (hroom : c < l.length + 1) (hl : l.length ≤ 1000000) (hB : Below base w0 w) :
    Calls Tryd.prog 18 #[.slice (some ⟨g, 0, none⟩) l.length c, .int .i64 i, .slice (some ⟨B, 0, none⟩) 1 1] w fun e w' => ∃ v', e = .returned v' ∧ Kd.R k24 24 w' base (fun _ => True) v' (l.take i ++ [k] ++ l.drop i) ∧ Below base w0 w' := by
  obtain ⟨i0, hi0', hz0, hzs, hzb⟩ := info_parts info24
  have hgl := (Array.getElem?_eq_some_iff.1 hg).1
  have hkl := (Array.getElem?_eq_some_iff.1 hk).1
  have hcs : cur.toList.length = c * 2 := by rw [Array.length_toList]; exact hcz
  have hsplit : ens l = ens (l.take i) ++ ens (l.drop i) := by rw [← ens_append, List.take_append_drop]
  have hti : (ens (l.take i)).length = i * 2 := by rw [ens_length, List.length_take]; omega
  have hdi : (ens (l.drop i)).length = (l.length - i) * 2 := by rw [ens_length, List.length_drop]
  have hcur : cur.toList = ens (l.take i) ++ ens (l.drop i) ++ cur.toList.drop (l.length * 2) := by rw [← hsplit, ← htk, List.take_append_drop]
  have hold : (Builtin.firstCells i0.size i (.slice (some ⟨g, 0, none⟩) i c)).run Tryd.prog w.drew = .ok (ens (l.take i)).toArray w.drew := by
    rw [hzs]
    refine run_firstCells_some w.drew 2 i ⟨g, 0, none⟩ i c (ens (l.take i)) hti (fun j v hj => ?_)
    rw [add_at, Nat.zero_add, cell_of_row w.drew g j cur _ _ hg, ← Array.getElem?_toList, hcur, List.append_assoc, List.getElem?_append_left (by have := (List.getElem?_eq_some_iff.1 hj).1; exact this)]
    exact hj
  have hkk : (l.length : Int) + 1 - (i : Int) = ((l.length + 1 - i : Nat) : Int) := by omega
  have hik : i + (l.length + 1 - i) = l.length + 1 := by omega
  obtain ⟨ROW, hROW⟩ : ∃ ROW : Array Value, ROW = (ens (l.take i)).toArray ++ Builtin.zeroCells (Value.agg #[(.int .u32 0), (.string ⟨#[]⟩)]).cells (l.length + 1 - i) ++ Builtin.zeroCells (Value.agg #[(.int .u32 0), (.string ⟨#[]⟩)]).cells (grownCap w (l.length + 1) c 24 - (l.length + 1)) := ⟨_, rfl⟩
  have hrz : ∀ ty, (Builtin.append_ #[30, 3] ty #[.slice (some ⟨g, 0, none⟩) i c, .int .i64 ((l.length : Int) + 1 - (i : Int))]).run Tryd.prog w =
      .ok (.slice (some ⟨w.heap.size, 0, none⟩) (l.length + 1) (grownCap w (l.length + 1) c 24)) (w.drew.alloc (.cells ROW 24)) := fun ty => by
    have h := Lib.run_append_grow_zeros w 30 3 ty 24 i0 _ .i64 .i64 Tryd.underlying30 Tryd.underlying3 hi0' hz0 (some ⟨g, 0, none⟩) i c (ens (l.take i)) hold (l.length + 1 - i) (by omega) (by omega) (by omega) (by omega) (by rw [hzb]; omega) (by rw [hzb, hik]; exact growslice_fits hroom (by omega))
    rw [hik] at h
    rw [hkk, hROW]
    exact h
  have hGn : l.length + 1 ≤ grownCap w (l.length + 1) c 24 := grownCap_ge w _ _ _
  have hGm : grownCap w (l.length + 1) c 24 ≤ maxLen := grownCap_le_maxLen w _ _ _ (by unfold maxLen; omega)
  generalize grownCap w (l.length + 1) c 24 = G at *
  obtain ⟨T, hT, hTl⟩ : ∃ T : List Value, ROW.toList = ens (l.take i) ++ T ∧ T.length = (G - i) * 2 := by
    refine ⟨(Builtin.zeroCells (Value.agg #[(.int .u32 0), (.string ⟨#[]⟩)]).cells (l.length + 1 - i) ++ Builtin.zeroCells (Value.agg #[(.int .u32 0), (.string ⟨#[]⟩)]).cells (G - (l.length + 1))).toList, ?_, ?_⟩
    · rw [hROW]
      simp
    · rw [Array.length_toList, Array.size_append, size_zeroCells, size_zeroCells]
      show (l.length + 1 - i) * 2 + (G - (l.length + 1)) * 2 = _
      omega
  have hRs : ROW.size = G * 2 := by rw [← Array.length_toList, hT, List.length_append, hti, hTl]; omega
  obtain ⟨W1, hW1⟩ : ∃ W1, w.drew.alloc (.cells ROW 24) = W1 := ⟨_, rfl⟩
  rw [hW1] at hrz
  have hN1 : W1.heap[w.heap.size]? = some (.cells ROW 24 (0, 0)) := by rw [← hW1]; exact World.alloc_heap_new w.drew _
  have hg1 : W1.heap[g]? = some (.cells cur 24 (0, 0)) := by rw [← hW1]; exact (Below.heap_alloc _ _ _ hgl).trans hg
  have hk1 : W1.heap[B]? = some (elt k) := by rw [← hW1]; exact (Below.heap_alloc _ _ _ hkl).trans hk
  have hB1 : Below base w0 W1 := by rw [← hW1]; exact hB.drew.alloc hbs _
  have e1 : ((i : Int) == (l.length : Int)) = false := beq_eq_false_iff_ne.2 (by omega)
  have e2 : (c : Int) < (l.length : Int) + 1 := by omega
  have e2'' : decide ((c : Int) < (l.length : Int) + 1) = true := decide_eq_true e2
  have hi00 : (0 : Int) ≤ (i : Int) := by omega
  have hi1 : (i : Int) ≤ (l.length : Int) := by omega
  have hi2 : (0 : Int) ≤ (i : Int) + 1 := by omega
  have hi3 : (i : Int) ≤ (l.length : Int) + 1 := by omega
  have hi4 : ¬ (c = i) := by omega
  have hi5 : ¬ (G = i + 1) := by omega
  have hi8 : ¬ (G = i) := by omega
  have hi9 : (i : Int) ≤ (c : Int) := by omega
  have hi6 : (i : Int) + 1 ≤ (l.length : Int) + 1 := by omega
  have hi7 : ((i : Int) + 1).toNat = i + 1 := by omega
  have hNg : g ≠ w.heap.size := by omega
  have hNB : B ≠ w.heap.size := by omega
  unfold maxLen at hGm
  have Hsplit := Lib.hid hsplit
  have Hti := Lib.hid hti
  have Hdi := Lib.hid hdi
  have Hcur := Lib.hid hcur
  have Hcs := Lib.hid hcs
  have HT := Lib.hid hT
  have HTl := Lib.hid hTl
  have HRs := Lib.hid hRs
  have HN1 := Lib.hid hN1
  have Hg1 := Lib.hid hg1
  have Hk1 := Lib.hid hk1
  have Hrz := Lib.hid hrz
  clear hsplit hti hdi hcur hcs hT hTl hRs hN1 hg1 hk1 hrz hold hkk hik hROW hi0' hz0 hzs hzb hW1 htk hcz hg hk
  go_enter Tryd.func18, Tryd.ntmps18
  go_upto_region 10 with (at_builtin; refine Lib.wpList_append_run _ rfl _ _ _ _ rfl _ _ rfl rfl _ _ (Hrz.out _) ?_)
  obtain ⟨NB, hNBe⟩ : ∃ NB, w.heap.size = NB := ⟨_, rfl⟩
  rw [hNBe] at HN1 hNg hNB hbs hgl hkl ⊢
  clear hNBe
  obtain ⟨C1, hC1⟩ : ∃ C1, (ROW.toList.take (i * 2) ++ (en k ++ ROW.toList.drop (i * 2 + (en k).length))).toArray = C1 := ⟨_, rfl⟩
  have hC1l : C1.toList = ens (l.take i) ++ en k ++ T.drop 2 := by
    rw [← hC1, List.toList_toArray, HT.out, ← Hti.out, List.take_left, List.drop_append, List.drop_of_length_le (by omega)]
    rw [List.nil_append, List.append_assoc, show (ens (l.take i)).length + (en k).length - (ens (l.take i)).length = 2 by show _ + 2 - _ = 2; omega]
  have hC1s : C1.size = G * 2 := by
    rw [← Array.length_toList, hC1l, List.length_append, List.length_append, Hti.out, List.length_drop, HTl.out]
    show i * 2 + 2 + _ = _
    omega
  have hsrc1 : ∀ (j : Nat) (v : Value), (en k)[j]? = some v → W1.cell? ((⟨B, 0, none⟩ : Addr).add j) = some v := by
    intro j v hj
    match j, hj with
    | 0, hj => obtain rfl := Option.some.inj hj; rw [add_at, cell_of_row _ B _ _ _ _ Hk1.out]; rfl
    | 1, hj => obtain rfl := Option.some.inj hj; rw [add_at, cell_of_row _ B _ _ _ _ Hk1.out]; rfl
  have Hn1 : Hid ((en k).length = Nat.min 1 (l.length + 1 - i) * 2) := Lib.hid (by simp only [Nat.min_def]; split <;> first | rfl | omega)
  have Hfit1 : Hid (i * 2 + (en k).length ≤ ROW.size) := Lib.hid (by rw [HRs.out]; show i * 2 + 2 ≤ _; omega)
  have Hsrc1 := Lib.hid hsrc1
  have HC1 := Lib.hid hC1
  have HC1l := Lib.hid hC1l
  have HC1s := Lib.hid hC1s
  clear hC1 hC1l hC1s hsrc1
  go_upto_region 11 with (refine wpList_copy_k rfl (.tmp 43) (.tmp 44) 30 30 rfl 24 2 Tryd.underlying30 (by kernel_rfl) NB (i * 2) (l.length + 1 - i) (G - i) ⟨B, 0, none⟩ 1 1 rfl rfl ROW 24 HN1.out (en k) Hn1.out Hsrc1.out Hfit1.out (en_one k) ?_)
  rw [HC1.out]
  have hN2 : (W1.setRow NB C1).heap[NB]? = some (.cells C1 24 (0, 0)) := setRow_heap W1 NB ROW C1 _ _ HN1.out
  have hg2 : (W1.setRow NB C1).heap[g]? = some (.cells cur 24 (0, 0)) := (setRow_other W1 NB g C1 hNg).trans Hg1.out
  have hB2 : Below base w0 (W1.setRow NB C1) := below_setRow hB1 hbs C1
  have hsrc2 : ∀ (j : Nat) (v : Value), (ens (l.drop i))[j]? = some v → (W1.setRow NB C1).drew.cell? ((⟨g, i * 2, none⟩ : Addr).add j) = some v := by
    intro j v hj
    have hjl : j < (l.length - i) * 2 := by rw [← Hdi.out]; exact (List.getElem?_eq_some_iff.1 hj).1
    have h1 := Hti.out
    have h2 := Hdi.out
    rw [add_at g (i * 2) j, cell_of_row (W1.setRow NB C1).drew g (i * 2 + j) cur _ _ hg2, ← Array.getElem?_toList, Hcur.out, List.append_assoc, List.getElem?_append_right (by omega), h1, show i * 2 + j - i * 2 = j by omega, List.getElem?_append_left (by omega)]
    exact hj
  have Hn2 : Hid ((ens (l.drop i)).length = Nat.min (l.length - i) (l.length + 1 - (i + 1)) * 2) := Lib.hid (by rw [Hdi.out]; simp only [Nat.min_def]; split <;> omega)
  have Hfit2 : Hid ((i + 1) * 2 + (ens (l.drop i)).length ≤ C1.size) := Lib.hid (by rw [Hdi.out, HC1s.out]; omega)
  have HN2 := Lib.hid hN2
  have Hsrc2 := Lib.hid hsrc2
  generalize W1.setRow NB C1 = W2 at hB2 HN2 Hsrc2 ⊢
  clear hN2 hg2 hsrc2 HN1 Hg1 Hk1 Hsrc1 hB1 Hrz
  have hw1 : IntKind.i64.wrap ((i : Int) + 1) = (i : Int) + 1 := by rw [IntKind.wrap_i64]; omega
  go_region_law (refine step_copy_k rfl (.tmp 50) (.tmp 53) 30 30 rfl 24 2 Tryd.underlying30 (by kernel_rfl) NB ((i + 1) * 2) (l.length + 1 - (i + 1)) (G - (i + 1)) ⟨g, i * 2, none⟩ (l.length - i) (c - i) (by simp [Act.eval, Act.put]) (by simp [Act.eval, Act.put]) C1 24 HN2.out (ens (l.drop i)) Hn2.out Hsrc2.out Hfit2.out (ens_one _) ?_)
  clear hw1
  have hC2 : C1.toList.take ((i + 1) * 2) ++ (ens (l.drop i) ++ C1.toList.drop ((i + 1) * 2 + (ens (l.drop i)).length)) = ens (l.take i ++ [k] ++ l.drop i) ++ C1.toList.drop ((i + 1) * 2 + (ens (l.drop i)).length) := by
    have h1 := Hti.out
    rw [HC1l.out, show (i + 1) * 2 = (ens (l.take i) ++ en k).length by rw [List.length_append, h1]; show _ = _ + 2; omega, List.take_left, ens_append, ens_append, ens_cons, show ens [] = [] from rfl, List.append_nil]
    simp only [List.append_assoc]
  rw [hC2]
  go_wp2
  go_ret
  have hnl : (l.take i ++ [k] ++ l.drop i).length = l.length + 1 := by
    rw [List.length_append, List.length_append, List.length_take, List.length_drop]
    simp only [List.length_cons, List.length_nil]
    omega
  refine ⟨_, rfl, R24 ?_ (fun _ _ => trivial), below_setRow hB2.drew hbs _⟩
  rw [hnl]
  refine ⟨by rw [ens_length, hnl], .inr ⟨NB, G, _, rfl, hbs, setRow_heap W2.drew NB C1 _ _ _ HN2.out, hGn, by unfold maxLen; omega, ?_, ?_⟩⟩
  · have h5 : C1.toList.length = G * 2 := by rw [Array.length_toList]; exact HC1s.out
    rw [List.size_toArray, List.length_append, ens_length, hnl, List.length_drop, h5, Hdi.out]
    omega
  · rw [List.toList_toArray, List.take_left' (by rw [ens_length, hnl])]

/-- One key, anywhere. -/
theorem insert_calls (v : Value) (B i : Nat) (k : S24) (l : List S24) (base : Nat) (w0 w : World) (hv : Kd.R k24 24 w base (fun _ => True) v l) (hvB : v.ownBlock ≠ some B) (hk : w.heap[B]? = some (elt k)) (hi : i ≤ l.length) (hl : l.length ≤ 1000000) (hB : Below base w0 w) (hbs : base ≤ w.heap.size) :
    Calls Tryd.prog 18 #[v, .int .i64 i, .slice (some ⟨B, 0, none⟩) 1 1] w fun e w' => ∃ v', e = .returned v' ∧ Kd.R k24 24 w' base (fun _ => True) v' (l.take i ++ [k] ++ l.drop i) ∧ Below base w0 w' := by
  by_cases hil : i = l.length
  · subst hil
    rw [List.take_length, List.drop_length, List.append_nil]
    exact insert_end v B k l base w0 w hv hk hl hB hbs
  · rcases (own24 hv).2 with ⟨h1, h2⟩ | ⟨g, c, cur, rfl, hbg, hg, hlc, hcm, hcz, htk⟩
    · omega
    · by_cases hr : l.length + 1 ≤ c
      · exact insert_room B g c i cur k l base w0 w hg hcz htk hcm hbg hk (fun e => hvB (by rw [e]; rfl)) (by omega) hr hl hB
      · exact insert_grow B g c i cur k l base w0 w hg hcz htk hbs hk (by omega) hlc (by omega) hl hB

end Go.Proofs.YtobjhddiieaafaaDoor.H

namespace Go.Proofs.YtobjhddiieaafaaDoor.H
open Go.RowKit Go.Shelf Go.Proofs.YtobjhddiieaafaaDoorW.PrintWords Go.Proofs.YtobjhddiieaafaaDoorW.PrintLast Go.Proofs.YtobjhddiieaafaaDoorW.PrintMore Go.Proofs.YtobjhddiieaafaaDoor.CopyK
attribute [local go_sem] Oper.semAt_some
set_option linter.unusedVariables false
set_option linter.unusedSimpArgs false

/-- A ring with a key more. -/
def addL (l : List S24) (k : S24) : List S24 := l.take (placeOf l k.f0).1.toNat ++ [k] ++ l.drop (placeOf l k.f0).1.toNat
def addOf (l : List S24) (k : S24) : List S24 × Int := if (placeOf l k.f0).2 = false ∧ rightB l = true ∧ rightB (addL l k) = true then (addL l k, 0) else ([], 40)
def keys_Add.f (l : List S24) (g : Int) (s : ByteArray) : Option (List S24 × Int) := if l.length ≤ 100000 then some (addOf l ⟨g, s⟩) else none

theorem idx_lo (p : S24 → Bool) (l : List S24) : -1 ≤ idx p l := by
  unfold idx
  split <;> omega
theorem place_le (l : List S24) (g : Int) : ∃ i : Nat, (placeOf l g).1 = (i : Int) ∧ i ≤ l.length := by
  unfold placeOf
  have := idx_range (fun x => decide (g ≤ x.f0)) l
  split
  · exact ⟨l.length, rfl, Nat.le_refl _⟩
  · exact ⟨(idx (fun x => decide (g ≤ x.f0)) l).toNat, by show idx _ l = _; omega, by omega⟩

set_option maxRecDepth 100000 in
set_option maxHeartbeats 4000000 in
theorem keys_Add.calls (A0 : Option Addr) (c0 : Nat) (l0 : List (S24)) (a1_0 : Int) (a1_1 : ByteArray) (r1 : List (S24)) (r2 : Int) (w : World) (hr0 : Kd.C k24 w A0 l0.length l0) (hc0 : l0.length ≤ c0) (h : keys_Add.f l0 a1_0 a1_1 = some (r1, r2)) :
    Calls Tryd.prog 8 #[.slice A0 l0.length c0, .agg #[.int .u32 a1_0, .string a1_1]] w fun e w' => ∃ v0_ : Value, e = .returned (.tuple #[v0_, .int .i64 r2]) ∧ Kd.R k24 24 w' w.heap.size (fun _ => True) v0_ r1 ∧ Below w.heap.size w w' := by
  have hsz : l0.length ≤ 100000 := by
    unfold keys_Add.f at h
    split at h
    · assumption
    · cases h
  rw [keys_Add.f, if_pos hsz] at h
  replace h := Option.some.inj h
  obtain ⟨k, hk⟩ : ∃ k : S24, k = ⟨a1_0, a1_1⟩ := ⟨_, rfl⟩
  have hk0 : a1_0 = k.f0 := by rw [hk]
  have hk1 : a1_1 = k.f1 := by rw [hk]
  rw [← hk] at h
  clear hk
  subst hk0
  subst hk1
  obtain ⟨i, hi, hil⟩ := place_le l0 k.f0
  obtain ⟨th, hth⟩ : ∃ th, (placeOf l0 k.f0).2 = th := ⟨_, rfl⟩
  have hpl : keys_place.f l0 k.f0 = some ((i : Int), th) := by rw [keys_place.f, if_pos (by omega), ← hi, ← hth]
  have hout : addL l0 k = l0.take i ++ [k] ++ l0.drop i := by rw [addL, hi, Int.toNat_natCast]
  have hR1 : ∀ l : List S24, l.length ≤ 200000 → keys_Right.f l = some (rightB l) := fun l hl => by rw [keys_Right.f, if_pos (by omega)]
  have hol : (l0.take i ++ [k] ++ l0.drop i).length = l0.length + 1 := by
    rw [List.length_append, List.length_append, List.length_take, List.length_drop]
    simp only [List.length_cons, List.length_nil]
    omega
  have hC1 := Kd.C_below hr0 ((Below.refl _ w).alloc (Nat.le_refl _) (elt k))
  have hbx : (w.alloc (elt k)).heap[w.heap.size]? = some (elt k) := World.alloc_heap_new w _
  have hpc := fun W hW => keys_place.calls A0 c0 l0 k.f0 (i : Int) th W (Kd.C_below hr0 hW) hc0 hpl
  rw [addOf, hth, hout] at h
  have HH := Lib.hid h
  have HR := Lib.hid hR1
  have Hol := Lib.hid hol
  have Hr0 := Lib.hid hr0
  have Hbx := Lib.hid hbx
  have Hpc := Lib.hid hpc
  have hi0 : (0 : Int) ≤ (i : Int) := by omega
  have hb0 := box2_at hbx
  obtain ⟨d0, d1, d2⟩ := hb0
  unfold elt at d0 d1 d2
  have hBw : Below w.heap.size w (w.alloc (elt k)) := (Below.refl _ w).alloc (Nat.le_refl _) _
  unfold elt at hBw
  clear h hR1 hol hr0 hbx hpc hC1 hout hpl hth hi
  go_enter Tryd.func8, Tryd.ntmps8
  go_upto_region 2 with (go_at_call 17; refine (Hpc.out _ hBw).mono ?_; rintro e w1 ⟨rfl, hb1⟩)
  clear d0 d1 d2
  have s1 := hb1.size
  have hbx1 : w1.heap[w.heap.size]? = some (elt k) := (hb1.block _ (by rw [World.size_alloc]; omega)).trans Hbx.out
  have hB1 : Below w.heap.size w w1 := hBw.trans (hb1.mono (by rw [World.size_alloc]; omega))
  have hC1 := Kd.C_below Hr0.out hB1
  obtain ⟨wb, hwb⟩ : ∃ wb, w.heap.size = wb := ⟨_, rfl⟩
  rw [hwb] at hbx1 hB1 ⊢
  have Hwb := Lib.hid hwb
  clear hb1 s1 Hbx Hpc hBw hwb
  refine start_ (n := 7) (S := fun W => W.heap[wb]? = some (elt k) ∧ Kd.C k24 W A0 l0.length l0) (ds := [5]) #[false, false, false, false, false, false, false] (by kernel_rfl) rfl rfl ⟨hbx1, Kd.C_below hC1 (Below.drew (Below.refl _ _))⟩ (fun hHeld => ?_)
  have hB2 := hB1.drew
  generalize w1.drew = W0 at hHeld hB2 ⊢
  have hwbl := (Array.getElem?_eq_some_iff.1 hHeld.1).1
  clear hbx1 hB1 hC1
  refine pure_ (i := 0) (N := some 16) (v := ?_) (a' := ?_) #[true, false, false, false, false, false, false] rfl rfl (by kernel_rfl) (fun _ _ _ h => h) (Or.inl ⟨by rfl, ?_⟩) ?_ ?_
  rotate_left
  · intro w'
    go_simp
    try (with_reducible rfl)
  rotate_left
  · simp only [Act.put, List.setIfInBounds_toArray, List.set_cons_zero, List.set_cons_succ, i64_w, i32_w]
    rfl
  refine pure_ (i := 2) (N := some 18) (v := ?_) (a' := ?_) #[true, false, true, false, false, false, false] rfl rfl (by kernel_rfl) (fun _ _ _ h => h) (Or.inl ⟨by rfl, ?_⟩) ?_ ?_
  rotate_left
  · intro w'
    go_simp
    try (with_reducible rfl)
  rotate_left
  · simp only [Act.put, List.setIfInBounds_toArray, List.set_cons_zero, List.set_cons_succ, i64_w, i32_w]
    rfl
  refine take_ (i := 3) (N := some 19) (v := ?_) (a' := ?_) #[true, false, true, true, false, false, false] rfl rfl (by kernel_rfl) (fun _ _ _ h => h) (Or.inl ⟨by rfl, ?_⟩) hHeld ?_ ?_
  rotate_left
  · intro w' hS_
    obtain ⟨d0, d1, d2⟩ := box2_at hS_.1
    go_simp
    try (with_reducible rfl)
  rotate_left
  · simp only [Act.put, List.setIfInBounds_toArray, List.set_cons_zero, List.set_cons_succ, i64_w, i32_w]
    rfl
  refine two_ (i := 1) (j := 4) (Ni := some 17) (Nj := some 20) #[true, true, true, true, false, false, false] #[true, false, true, true, true, false, false] rfl rfl rfl rfl (by kernel_rfl) (by decide) (by decide) (fun K hK => ?one) (fun K hK => ?two)
  case' one =>
    refine goes_ Tryd.func19 (by kernel_rfl) rfl #[.slice A0 l0.length c0] (by rfl) rfl rfl (by (try simp only [List.map_toArray, List.map_cons, List.map_nil]); first | done | rfl) ?_
    refine (clone_calls A0 c0 l0 _ hHeld.2 (by omega)).mono ?_
    rintro e w2 ⟨v, rfl, hv, hb2⟩
    refine ⟨_, rfl, ?_⟩
    have hx2 := (hb2.block wb (Array.getElem?_eq_some_iff.1 hHeld.1).1).trans hHeld.1
    have hC2 := Kd.C_below hHeld.2 hb2
    refine hK.out _ _ ⟨hx2, hC2⟩ (fun hHeld1 => ?_)
    clear hK K
    refine one_ (i := 4) (N := some 20) #[true, true, true, true, true, false, false] rfl rfl (by kernel_rfl) (by decide) (fun K hK => ?_)
    refine event_step (v := .slice (some ⟨w2.heap.size, 0, none⟩) 1 1) (w1 := w2.alloc (elt k)) (by rfl) (by unfold elt; first | (go_simp; done) | (go_simp; rfl)) ?_
    have hgb : (w2.alloc (elt k)).heap[w2.heap.size]? = some (elt k) := World.alloc_heap_new _ _
    have hv3 : Kd.R k24 24 (w2.alloc (elt k)) wb (fun _ => True) v l0 := Kd.R_below (Kd.R_lower hv (by omega)) ((Below.refl _ _).alloc (Nat.le_refl _) _)
    have hvB : v.ownBlock ≠ some w2.heap.size := fun e => by
      have := own_lt (own24 hv) _ e
      omega
    have hB3 : Below wb w (w2.alloc (elt k)) := (hB2.trans (hb2.mono (by omega))).alloc (by have := hb2.size; omega) _
    refine hK.out _ _ ⟨(Below.heap_alloc _ _ _ (Array.getElem?_eq_some_iff.1 hx2).1).trans hx2, Kd.C_below hC2 ((Below.refl _ _).alloc (Nat.le_refl _) _)⟩ (fun hHeld2 => ?_)
    have hws : wb ≤ (w2.alloc (elt k)).heap.size := by have := hb2.size; rw [World.size_alloc]; omega
    clear hK K hHeld1 hHeld hx2 hC2 hv hb2
    generalize w2.heap.size = gb at *
    generalize w2.alloc (elt k) = w3 at *
  case' two =>
    refine event_step (v := .slice (some ⟨W0.heap.size, 0, none⟩) 1 1) (w1 := W0.alloc (elt k)) (by rfl) (by unfold elt; first | (go_simp; done) | (go_simp; rfl)) ?_
    have hgb0 : (W0.alloc (elt k)).heap[W0.heap.size]? = some (elt k) := World.alloc_heap_new _ _
    have hx1 := (Below.heap_alloc W0 (elt k) _ (Array.getElem?_eq_some_iff.1 hHeld.1).1).trans hHeld.1
    have hC1 := Kd.C_below hHeld.2 ((Below.refl _ _).alloc (Nat.le_refl _) (elt k))
    refine hK.out _ _ ⟨hx1, hC1⟩ (fun hHeld1 => ?_)
    clear hK K
    have hB2' : Below wb w (W0.alloc (elt k)) := hB2.alloc (by omega) _
    refine one_ (i := 1) (N := some 17) #[true, true, true, true, true, false, false] rfl rfl (by kernel_rfl) (by decide) (fun K hK => ?_)
    refine goes_ Tryd.func19 (by kernel_rfl) rfl #[.slice A0 l0.length c0] (by rfl) rfl rfl (by (try simp only [List.map_toArray, List.map_cons, List.map_nil]); first | done | rfl) ?_
    refine (clone_calls A0 c0 l0 _ hC1 (by omega)).mono ?_
    rintro e w3 ⟨v, rfl, hv, hb2⟩
    refine ⟨_, rfl, ?_⟩
    have hgb := (hb2.block W0.heap.size (by rw [World.size_alloc]; omega)).trans hgb0
    have hv3 : Kd.R k24 24 w3 wb (fun _ => True) v l0 := Kd.R_lower hv (by rw [World.size_alloc]; omega)
    have hvB : v.ownBlock ≠ some W0.heap.size := fun e => by
      have := own_base (own24 hv) _ e
      rw [World.size_alloc] at this
      omega
    have hB3 : Below wb w w3 := hB2'.trans (hb2.mono (by rw [World.size_alloc]; omega))
    refine hK.out _ _ ⟨(hb2.block _ (Array.getElem?_eq_some_iff.1 hx1).1).trans hx1, Kd.C_below hC1 hb2⟩ (fun hHeld2 => ?_)
    have hws : wb ≤ w3.heap.size := by have := hb2.size; rw [World.size_alloc] at this; omega
    clear hK K hHeld1 hHeld hx1 hC1 hv hb2 hB2' hgb0
    generalize W0.heap.size = gb at *
  all_goals
    refine last_ (i := 5) (N := some 21) #[true, true, true, true, true, true, false] rfl rfl (by kernel_rfl) (by decide) (fun K hK => ?_)
    refine goes_ Tryd.func18 (by kernel_rfl) rfl #[v, .int .i64 (i : Int), .slice (some ⟨gb, 0, none⟩) 1 1] (by rfl) rfl rfl (by (try simp only [List.map_toArray, List.map_cons, List.map_nil]); first | done | rfl) ?_
    refine (insert_calls v gb i k l0 wb w w3 hv3 hvB hgb hil (by omega) hB3 hws).mono ?_
    rintro e w4 ⟨v4, rfl, hv4, hB4⟩
    refine ⟨_, rfl, ?_⟩
    refine hK.out _ _ ?_
    clear hK K hv3 hvB hgb hHeld2 hB3 hws
    refine pure_ (i := 6) (N := some 8) (v := ?_) (a' := ?_) #[true, true, true, true, true, true, true] rfl rfl (by kernel_rfl) (fun _ _ _ h => h) (Or.inl ⟨by rfl, ?_⟩) ?_ ?_
    rotate_left
    · intro w'
      go_simp
      try (with_reducible rfl)
    rotate_left
    · simp only [Act.put, List.setIfInBounds_toArray, List.set_cons_zero, List.set_cons_succ, List.getElem_toArray, List.getElem_cons_succ, List.getElem_cons_zero, i64_w, i32_w]
      rfl
    refine done_ (by kernel_rfl) ?_
    have hBe : Below w.heap.size w w4 := by rw [Hwb.out]; exact hB4
    have hC4 := Kd.C_below Hr0.out hBe
    obtain ⟨A4, c4, rfl, hl4, hC5⟩ := Kd.R_reads hv4
    have hRl := fun W hW => keys_Right.calls A0 c0 l0 (rightB l0) W (Kd.C_below hC4 hW) hc0 (HR.out l0 (by omega))
    have hRo := fun W hW => keys_Right.calls A4 c4 _ (rightB (l0.take i ++ [k] ++ l0.drop i)) W (Kd.C_below hC5 hW) hl4 (HR.out _ (by rw [Hol.out]; omega))
    have hv5 : Kd.R k24 24 w4 w.heap.size (fun _ => True) (.slice A4 (l0.take i ++ [k] ++ l0.drop i).length c4) (l0.take i ++ [k] ++ l0.drop i) := by rw [Hwb.out]; exact hv4
    have h4s := hBe.size
    obtain ⟨ol, hole⟩ : ∃ ol, l0.take i ++ [k] ++ l0.drop i = ol := ⟨_, rfl⟩
    rw [hole] at hv5 hRo hl4
    have HHo := HH.out
    rw [hole] at HHo
    obtain ⟨b1, hb1⟩ : ∃ b1, rightB l0 = b1 := ⟨_, rfl⟩
    obtain ⟨b2, hb2⟩ : ∃ b2, rightB ol = b2 := ⟨_, rfl⟩
    rw [hb1] at HHo hRl
    rw [hb2] at HHo hRo
    rw [hole]
    have Hv5 := Lib.hid hv5
    have HRl := Lib.hid hRl
    have HRo := Lib.hid hRo
    have HC5 := Lib.hid hC5
    clear hv5 hRl hRo hb1 hb2 hC5 hC4 hv4 HH Hol hole
    cases th with
    | true =>
      rw [if_neg (by simp)] at HHo
      obtain ⟨rfl, rfl⟩ := Prod.mk.inj HHo
      clear HHo
      go_wp2
      go_ret2
      exact ⟨_, rfl, Kd.R_nil _ _ _ _ _, hBe⟩
    | false =>
      cases b1 with
      | false =>
        rw [if_neg (by simp)] at HHo
        obtain ⟨rfl, rfl⟩ := Prod.mk.inj HHo
        clear HHo
        go_wp2_with (go_at_call 10; refine (HRl.out _ (Below.refl _ _)).mono ?_; rintro e w5 ⟨rfl, hb5⟩)
        go_ret2
        exact ⟨_, rfl, Kd.R_nil _ _ _ _ _, hBe.trans (hb5.mono h4s)⟩
      | true =>
        cases b2 with
        | false =>
          rw [if_neg (by simp)] at HHo
          obtain ⟨rfl, rfl⟩ := Prod.mk.inj HHo
          clear HHo
          go_wp2_with fail
          refine (HRl.out _ (Below.refl _ _)).mono ?_
          rintro e w5 ⟨rfl, hb5⟩
          go_wp2_with fail
          refine (HRo.out _ hb5).mono ?_
          rintro e w6 ⟨rfl, hb6⟩
          go_wp2
          go_ret2
          exact ⟨_, rfl, Kd.R_nil _ _ _ _ _, (hBe.trans (hb5.mono h4s)).trans (hb6.mono (by have := hb5.size; omega))⟩
        | true =>
          rw [if_pos ⟨rfl, rfl, rfl⟩] at HHo
          obtain ⟨rfl, rfl⟩ := Prod.mk.inj HHo
          clear HHo
          go_wp2_with fail
          refine (HRl.out _ (Below.refl _ _)).mono ?_
          rintro e w5 ⟨rfl, hb5⟩
          go_wp2_with fail
          refine (HRo.out _ hb5).mono ?_
          rintro e w6 ⟨rfl, hb6⟩
          go_wp2
          go_ret2
          exact ⟨_, rfl, Kd.R_below (Kd.R_below Hv5.out hb5) hb6, (hBe.trans (hb5.mono h4s)).trans (hb6.mono (by have := hb5.size; omega))⟩

end Go.Proofs.YtobjhddiieaafaaDoor.H
