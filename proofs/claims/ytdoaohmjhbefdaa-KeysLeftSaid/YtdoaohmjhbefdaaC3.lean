/- slices.Insert of one key, in the middle, without room: the walk. -/
import Derived.Test.YtdoaohmjhbefdaaC2
namespace Go.Proofs.Ytdoaohmjhbefdaa.H
open Go.RowKit Go.Shelf Go.Proofs.YtdoaohmjhbefdaaW.PrintWords Go.Proofs.YtdoaohmjhbefdaaW.PrintLast Go.Proofs.YtdoaohmjhbefdaaW.PrintMore Go.Proofs.Ytdoaohmjhbefdaa.CopyK
attribute [local go_sem] Oper.semAt_some
set_option linter.unusedVariables false
set_option linter.unusedSimpArgs false

set_option maxRecDepth 100000 in
set_option maxHeartbeats 2000000 in
theorem insert_grow (B g c i : Nat) (cur : Array Value) (k : S25) (l : List S25) (base : Nat) (w0 w : World) (hg : w.heap[g]? = some (.cells cur 25 (0, 0))) (hcz : cur.size = c * 2) (htk : cur.toList.take (l.length * 2) = ens l) (hbs : base ≤ w.heap.size)
    (hk : w.heap[B]? = some (elt k)) (hi : i < l.length) (hlc : l.length ≤ c) (hroom : c < l.length + 1) (hl : l.length ≤ 1000000) (hB : Below base w0 w) :
    Calls Try.prog 24 #[.slice (some ⟨g, 0, none⟩) l.length c, .int .i64 i, .slice (some ⟨B, 0, none⟩) 1 1] w fun e w' => ∃ v', e = .returned v' ∧ Kd.R k25 25 w' base (fun _ => True) v' (l.take i ++ [k] ++ l.drop i) ∧ Below base w0 w' := by
  obtain ⟨i0, hi0', hz0, hzs, hzb⟩ := info_parts info25
  have hgl := (Array.getElem?_eq_some_iff.1 hg).1
  have hkl := (Array.getElem?_eq_some_iff.1 hk).1
  have hcs : cur.toList.length = c * 2 := by rw [Array.length_toList]; exact hcz
  have hsplit : ens l = ens (l.take i) ++ ens (l.drop i) := by rw [← ens_append, List.take_append_drop]
  have hti : (ens (l.take i)).length = i * 2 := by rw [ens_length, List.length_take]; omega
  have hdi : (ens (l.drop i)).length = (l.length - i) * 2 := by rw [ens_length, List.length_drop]
  have hcur : cur.toList = ens (l.take i) ++ ens (l.drop i) ++ cur.toList.drop (l.length * 2) := by rw [← hsplit, ← htk, List.take_append_drop]
  have hold : (Builtin.firstCells i0.size i (.slice (some ⟨g, 0, none⟩) i c)).run Try.prog w.drew = .ok (ens (l.take i)).toArray w.drew := by
    rw [hzs]
    refine run_firstCells_some w.drew 2 i ⟨g, 0, none⟩ i c (ens (l.take i)) hti (fun j v hj => ?_)
    rw [add_at, Nat.zero_add, cell_of_row w.drew g j cur _ _ hg, ← Array.getElem?_toList, hcur, List.append_assoc, List.getElem?_append_left (by have := (List.getElem?_eq_some_iff.1 hj).1; exact this)]
    exact hj
  have hkk : (l.length : Int) + 1 - (i : Int) = ((l.length + 1 - i : Nat) : Int) := by omega
  have hik : i + (l.length + 1 - i) = l.length + 1 := by omega
  obtain ⟨ROW, hROW⟩ : ∃ ROW : Array Value, ROW = (ens (l.take i)).toArray ++ Builtin.zeroCells (Value.agg #[(.int .u32 0), (.string ⟨#[]⟩)]).cells (l.length + 1 - i) ++ Builtin.zeroCells (Value.agg #[(.int .u32 0), (.string ⟨#[]⟩)]).cells (grownCap w (l.length + 1) c 25 - (l.length + 1)) := ⟨_, rfl⟩
  have hrz : ∀ ty, (Builtin.append_ #[22, 3] ty #[.slice (some ⟨g, 0, none⟩) i c, .int .i64 ((l.length : Int) + 1 - (i : Int))]).run Try.prog w =
      .ok (.slice (some ⟨w.heap.size, 0, none⟩) (l.length + 1) (grownCap w (l.length + 1) c 25)) (w.drew.alloc (.cells ROW 25)) := fun ty => by
    have h := Lib.run_append_grow_zeros w 22 3 ty 25 i0 _ .i64 .i64 Try.underlying22 Try.underlying3 hi0' hz0 (some ⟨g, 0, none⟩) i c (ens (l.take i)) hold (l.length + 1 - i) (by omega) (by omega) (by omega) (by omega) (by rw [hzb]; omega) (by rw [hzb, hik]; exact growslice_fits hroom (by omega))
    rw [hik] at h
    rw [hkk, hROW]
    exact h
  have hGn : l.length + 1 ≤ grownCap w (l.length + 1) c 25 := grownCap_ge w _ _ _
  have hGm : grownCap w (l.length + 1) c 25 ≤ maxLen := grownCap_le_maxLen w _ _ _ (by unfold maxLen; omega)
  generalize grownCap w (l.length + 1) c 25 = G at *
  obtain ⟨T, hT, hTl⟩ : ∃ T : List Value, ROW.toList = ens (l.take i) ++ T ∧ T.length = (G - i) * 2 := by
    refine ⟨(Builtin.zeroCells (Value.agg #[(.int .u32 0), (.string ⟨#[]⟩)]).cells (l.length + 1 - i) ++ Builtin.zeroCells (Value.agg #[(.int .u32 0), (.string ⟨#[]⟩)]).cells (G - (l.length + 1))).toList, ?_, ?_⟩
    · rw [hROW]
      simp
    · rw [Array.length_toList, Array.size_append, size_zeroCells, size_zeroCells]
      show (l.length + 1 - i) * 2 + (G - (l.length + 1)) * 2 = _
      omega
  have hRs : ROW.size = G * 2 := by rw [← Array.length_toList, hT, List.length_append, hti, hTl]; omega
  obtain ⟨W1, hW1⟩ : ∃ W1, w.drew.alloc (.cells ROW 25) = W1 := ⟨_, rfl⟩
  rw [hW1] at hrz
  have hN1 : W1.heap[w.heap.size]? = some (.cells ROW 25 (0, 0)) := by rw [← hW1]; exact World.alloc_heap_new w.drew _
  have hg1 : W1.heap[g]? = some (.cells cur 25 (0, 0)) := by rw [← hW1]; exact (Below.heap_alloc _ _ _ hgl).trans hg
  have hk1 : W1.heap[B]? = some (elt k) := by rw [← hW1]; exact (Below.heap_alloc _ _ _ hkl).trans hk
  have hB1 : Below base w0 W1 := by rw [← hW1]; exact hB.drew.alloc hbs _
  have e1 : ((i : Int) == (l.length : Int)) = false := beq_eq_false_iff_ne.2 (by omega)
  have e2 : (c : Int) < (l.length : Int) + 1 := by omega
  have e2'' : decide ((c : Int) < (l.length : Int) + 1) = true := decide_eq_true e2
  have hi00 : (0 : Int) ≤ (i : Int) := by omega
  have hi1 : (i : Int) ≤ (l.length : Int) := by omega
  have hi2 : (0 : Int) ≤ (i : Int) + 1 := by omega
  have hi3 : (i : Int) ≤ (l.length : Int) + 1 := by omega
  have hi4 : ¬ (c = i) := by omega
  have hi5 : ¬ (G = i + 1) := by omega
  have hi8 : ¬ (G = i) := by omega
  have hi9 : (i : Int) ≤ (c : Int) := by omega
  have hi6 : (i : Int) + 1 ≤ (l.length : Int) + 1 := by omega
  have hi7 : ((i : Int) + 1).toNat = i + 1 := by omega
  have hNg : g ≠ w.heap.size := by omega
  have hNB : B ≠ w.heap.size := by omega
  unfold maxLen at hGm
  have Hsplit := Lib.hid hsplit
  have Hti := Lib.hid hti
  have Hdi := Lib.hid hdi
  have Hcur := Lib.hid hcur
  have Hcs := Lib.hid hcs
  have HT := Lib.hid hT
  have HTl := Lib.hid hTl
  have HRs := Lib.hid hRs
  have HN1 := Lib.hid hN1
  have Hg1 := Lib.hid hg1
  have Hk1 := Lib.hid hk1
  have Hrz := Lib.hid hrz
  clear hsplit hti hdi hcur hcs hT hTl hRs hN1 hg1 hk1 hrz hold hkk hik hROW hi0' hz0 hzs hzb hW1 htk hcz hg hk
  go_enter Try.func24, Try.ntmps24
  go_upto_region 10 with (at_builtin; refine Lib.wpList_append_run _ rfl _ _ _ _ rfl _ _ rfl rfl _ _ (Hrz.out _) ?_)
  obtain ⟨NB, hNBe⟩ : ∃ NB, w.heap.size = NB := ⟨_, rfl⟩
  rw [hNBe] at HN1 hNg hNB hbs hgl hkl ⊢
  clear hNBe
  obtain ⟨C1, hC1⟩ : ∃ C1, (ROW.toList.take (i * 2) ++ (en k ++ ROW.toList.drop (i * 2 + (en k).length))).toArray = C1 := ⟨_, rfl⟩
  have hC1l : C1.toList = ens (l.take i) ++ en k ++ T.drop 2 := by
    rw [← hC1, List.toList_toArray, HT.out, ← Hti.out, List.take_left, List.drop_append, List.drop_of_length_le (by omega)]
    rw [List.nil_append, List.append_assoc, show (ens (l.take i)).length + (en k).length - (ens (l.take i)).length = 2 by show _ + 2 - _ = 2; omega]
  have hC1s : C1.size = G * 2 := by
    rw [← Array.length_toList, hC1l, List.length_append, List.length_append, Hti.out, List.length_drop, HTl.out]
    show i * 2 + 2 + _ = _
    omega
  have hsrc1 : ∀ (j : Nat) (v : Value), (en k)[j]? = some v → W1.cell? ((⟨B, 0, none⟩ : Addr).add j) = some v := by
    intro j v hj
    match j, hj with
    | 0, hj => obtain rfl := Option.some.inj hj; rw [add_at, cell_of_row _ B _ _ _ _ Hk1.out]; rfl
    | 1, hj => obtain rfl := Option.some.inj hj; rw [add_at, cell_of_row _ B _ _ _ _ Hk1.out]; rfl
  have Hn1 : Hid ((en k).length = Nat.min 1 (l.length + 1 - i) * 2) := Lib.hid (by simp only [Nat.min_def]; split <;> first | rfl | omega)
  have Hfit1 : Hid (i * 2 + (en k).length ≤ ROW.size) := Lib.hid (by rw [HRs.out]; show i * 2 + 2 ≤ _; omega)
  have Hsrc1 := Lib.hid hsrc1
  have HC1 := Lib.hid hC1
  have HC1l := Lib.hid hC1l
  have HC1s := Lib.hid hC1s
  clear hC1 hC1l hC1s hsrc1
  go_upto_region 11 with (refine wpList_copy_k rfl (.tmp 43) (.tmp 44) 22 22 rfl 25 2 Try.underlying22 (by kernel_rfl) NB (i * 2) (l.length + 1 - i) (G - i) ⟨B, 0, none⟩ 1 1 rfl rfl ROW 25 HN1.out (en k) Hn1.out Hsrc1.out Hfit1.out (en_one k) ?_)
  rw [HC1.out]
  have hN2 : (W1.setRow NB C1).heap[NB]? = some (.cells C1 25 (0, 0)) := setRow_heap W1 NB ROW C1 _ _ HN1.out
  have hg2 : (W1.setRow NB C1).heap[g]? = some (.cells cur 25 (0, 0)) := (setRow_other W1 NB g C1 hNg).trans Hg1.out
  have hB2 : Below base w0 (W1.setRow NB C1) := below_setRow hB1 hbs C1
  have hsrc2 : ∀ (j : Nat) (v : Value), (ens (l.drop i))[j]? = some v → (W1.setRow NB C1).drew.cell? ((⟨g, i * 2, none⟩ : Addr).add j) = some v := by
    intro j v hj
    have hjl : j < (l.length - i) * 2 := by rw [← Hdi.out]; exact (List.getElem?_eq_some_iff.1 hj).1
    have h1 := Hti.out
    have h2 := Hdi.out
    rw [add_at g (i * 2) j, cell_of_row (W1.setRow NB C1).drew g (i * 2 + j) cur _ _ hg2, ← Array.getElem?_toList, Hcur.out, List.append_assoc, List.getElem?_append_right (by omega), h1, show i * 2 + j - i * 2 = j by omega, List.getElem?_append_left (by omega)]
    exact hj
  have Hn2 : Hid ((ens (l.drop i)).length = Nat.min (l.length - i) (l.length + 1 - (i + 1)) * 2) := Lib.hid (by rw [Hdi.out]; simp only [Nat.min_def]; split <;> omega)
  have Hfit2 : Hid ((i + 1) * 2 + (ens (l.drop i)).length ≤ C1.size) := Lib.hid (by rw [Hdi.out, HC1s.out]; omega)
  have HN2 := Lib.hid hN2
  have Hsrc2 := Lib.hid hsrc2
  generalize W1.setRow NB C1 = W2 at hB2 HN2 Hsrc2 ⊢
  clear hN2 hg2 hsrc2 HN1 Hg1 Hk1 Hsrc1 hB1 Hrz
  have hw1 : IntKind.i64.wrap ((i : Int) + 1) = (i : Int) + 1 := by rw [IntKind.wrap_i64]; omega
  go_region_law (refine step_copy_k rfl (.tmp 50) (.tmp 53) 22 22 rfl 25 2 Try.underlying22 (by kernel_rfl) NB ((i + 1) * 2) (l.length + 1 - (i + 1)) (G - (i + 1)) ⟨g, i * 2, none⟩ (l.length - i) (c - i) (by simp [Act.eval, Act.put]) (by simp [Act.eval, Act.put]) C1 25 HN2.out (ens (l.drop i)) Hn2.out Hsrc2.out Hfit2.out (ens_one _) ?_)
  clear hw1
  have hC2 : C1.toList.take ((i + 1) * 2) ++ (ens (l.drop i) ++ C1.toList.drop ((i + 1) * 2 + (ens (l.drop i)).length)) = ens (l.take i ++ [k] ++ l.drop i) ++ C1.toList.drop ((i + 1) * 2 + (ens (l.drop i)).length) := by
    have h1 := Hti.out
    rw [HC1l.out, show (i + 1) * 2 = (ens (l.take i) ++ en k).length by rw [List.length_append, h1]; show _ = _ + 2; omega, List.take_left, ens_append, ens_append, ens_cons, show ens [] = [] from rfl, List.append_nil]
    simp only [List.append_assoc]
  rw [hC2]
  go_wp2
  go_ret
  have hnl : (l.take i ++ [k] ++ l.drop i).length = l.length + 1 := by
    rw [List.length_append, List.length_append, List.length_take, List.length_drop]
    simp only [List.length_cons, List.length_nil]
    omega
  refine ⟨_, rfl, R25 ?_ (fun _ _ => trivial), below_setRow hB2.drew hbs _⟩
  rw [hnl]
  refine ⟨by rw [ens_length, hnl], .inr ⟨NB, G, _, rfl, hbs, setRow_heap W2.drew NB C1 _ _ _ HN2.out, hGn, by unfold maxLen; omega, ?_, ?_⟩⟩
  · have h5 : C1.toList.length = G * 2 := by rw [Array.length_toList]; exact HC1s.out
    rw [List.size_toArray, List.length_append, ens_length, hnl, List.length_drop, h5, Hdi.out]
    omega
  · rw [List.toList_toArray, List.take_left' (by rw [ens_length, hnl])]

/-- One key, anywhere. -/
theorem insert_calls (v : Value) (B i : Nat) (k : S25) (l : List S25) (base : Nat) (w0 w : World) (hv : Kd.R k25 25 w base (fun _ => True) v l) (hvB : v.ownBlock ≠ some B) (hk : w.heap[B]? = some (elt k)) (hi : i ≤ l.length) (hl : l.length ≤ 1000000) (hB : Below base w0 w) (hbs : base ≤ w.heap.size) :
    Calls Try.prog 24 #[v, .int .i64 i, .slice (some ⟨B, 0, none⟩) 1 1] w fun e w' => ∃ v', e = .returned v' ∧ Kd.R k25 25 w' base (fun _ => True) v' (l.take i ++ [k] ++ l.drop i) ∧ Below base w0 w' := by
  by_cases hil : i = l.length
  · subst hil
    rw [List.take_length, List.drop_length, List.append_nil]
    exact insert_end v B k l base w0 w hv hk hl hB hbs
  · rcases (own25 hv).2 with ⟨h1, h2⟩ | ⟨g, c, cur, rfl, hbg, hg, hlc, hcm, hcz, htk⟩
    · omega
    · by_cases hr : l.length + 1 ≤ c
      · exact insert_room B g c i cur k l base w0 w hg hcz htk hcm hbg hk (fun e => hvB (by rw [e]; rfl)) (by omega) hr hl hB
      · exact insert_grow B g c i cur k l base w0 w hg hcz htk hbs hk (by omega) hlc (by omega) hl hB

end Go.Proofs.Ytdoaohmjhbefdaa.H
