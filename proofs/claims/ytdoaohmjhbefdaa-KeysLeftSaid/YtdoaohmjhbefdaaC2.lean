/- slices.Insert of one key: the walk. -/
import Derived.Test.YtdoaohmjhbefdaaC1
namespace Go.Proofs.Ytdoaohmjhbefdaa.H
open Go.RowKit Go.Shelf Go.Proofs.YtdoaohmjhbefdaaW.PrintWords Go.Proofs.YtdoaohmjhbefdaaW.PrintLast Go.Proofs.YtdoaohmjhbefdaaW.PrintMore Go.Proofs.Ytdoaohmjhbefdaa.CopyK
attribute [local go_sem] Oper.semAt_some
set_option linter.unusedVariables false
set_option linter.unusedSimpArgs false

theorem add_at (g o j : Nat) : (⟨g, o, none⟩ : Addr).add j = ⟨g, o + j, none⟩ := by
  unfold Addr.add
  split <;> simp_all
def elt (k : S25) : Obj := .cells #[.int .u32 k.f0, .string k.f1] 25 (0, 0)
theorem elt_reads {w : World} {B : Nat} {k : S25} (h : w.heap[B]? = some (elt k)) : ReadsRow (fun x cs => cs = en x) 2 w (some ⟨B, 0, none⟩) 1 [k] := by
  refine ⟨rfl, by decide, fun _ => ⟨_, rfl, fun j p hj => ?_⟩⟩
  match j, hj with
  | 0, hj =>
    obtain rfl := Option.some.inj hj
    refine ⟨en k, rfl, rfl, fun i u hi => ?_⟩
    match i, hi with
    | 0, hi => obtain rfl := Option.some.inj hi; simp [World.cell?, h, elt, Addr.add]
    | 1, hi => obtain rfl := Option.some.inj hi; simp [World.cell?, h, elt, Addr.add]

set_option maxRecDepth 100000 in
set_option maxHeartbeats 2000000 in
/-- At the end. -/
theorem insert_end (v : Value) (B : Nat) (k : S25) (l : List S25) (base : Nat) (w0 w : World) (hv : Kd.R k25 25 w base (fun _ => True) v l) (hk : w.heap[B]? = some (elt k)) (hl : l.length ≤ 1000000) (hB : Below base w0 w) (hbs : base ≤ w.heap.size) :
    Calls Try.prog 24 #[v, .int .i64 l.length, .slice (some ⟨B, 0, none⟩) 1 1] w fun e w' => ∃ v', e = .returned v' ∧ Kd.R k25 25 w' base (fun _ => True) v' (l ++ [k]) ∧ Below base w0 w' := by
  have hR := elt_reads hk
  have Hv := Lib.hid hv
  have HR := Lib.hid hR
  have hl0 : (0 : Int) ≤ (l.length : Int) := by omega
  obtain ⟨A, c, rfl, hlc, -⟩ := Kd.R_reads hv
  have hc63 : c ≤ 9223372036854775807 := by
    rcases (own25 hv).2 with ⟨h1, h2⟩ | ⟨g, cap, cur, h1, _, _, _, h2, _⟩
    · simp only [Value.slice.injEq] at h1
      omega
    · simp only [Value.slice.injEq] at h1
      unfold maxLen at h2
      omega
  clear hv hR
  by_cases hci : c = l.length
  · subst hci
    go_enter Try.func24, Try.ntmps24
    go_wp2_with ((with_reducible refine gate_builtin (b := .append) (xs := #[.tmp 23, .tmp 24]) rfl ?_); at_builtin; refine Kd.R_append_rows k25 (Rr := fun x cs => cs = en x) (w0 := w0) base rfl (.tmp 23) (.tmp 24) 22 25 (.agg #[(.int .u32 0), (.string ⟨#[]⟩)]) 24 rfl Try.underlying22 info25 rfl (by decide) (by decide) _ l [k] (some ⟨B, 0, none⟩) 1 1 (fun _ => True) (fun _ => False) rfl rfl Hv.out HR.out ?p1 (fun _ h => h.elim) (fun _ _ => trivial) hB hbs ?p5 ?_; (case p1 => exact fun x cs h => by rw [h]; exact k25_mkM _ _ _ x); (case p5 => omega); intro v3 w3 ho3 hb3 hgr3 hat3)
    go_ret
    exact ⟨_, rfl, ho3, hb3⟩
  · go_enter Try.func24, Try.ntmps24
    go_wp2_with ((with_reducible refine gate_builtin (b := .append) (xs := #[.tmp 23, .tmp 24]) rfl ?_); at_builtin; refine Kd.R_append_rows k25 (Rr := fun x cs => cs = en x) (w0 := w0) base rfl (.tmp 23) (.tmp 24) 22 25 (.agg #[(.int .u32 0), (.string ⟨#[]⟩)]) 24 rfl Try.underlying22 info25 rfl (by decide) (by decide) _ l [k] (some ⟨B, 0, none⟩) 1 1 (fun _ => True) (fun _ => False) rfl rfl Hv.out HR.out ?p1 (fun _ h => h.elim) (fun _ _ => trivial) hB hbs ?p5 ?_; (case p1 => exact fun x cs h => by rw [h]; exact k25_mkM _ _ _ x); (case p5 => omega); intro v3 w3 ho3 hb3 hgr3 hat3)
    go_ret
    exact ⟨_, rfl, ho3, hb3⟩

theorem room_list (C X Y T k2 : List Value) (hC : C = X ++ Y ++ T) (hT : 2 ≤ T.length) (hk : k2.length = 2) :
    (C.take (X.length + 2) ++ (Y ++ C.drop (X.length + 2 + Y.length))).take X.length ++ (k2 ++ (C.take (X.length + 2) ++ (Y ++ C.drop (X.length + 2 + Y.length))).drop (X.length + k2.length)) = X ++ k2 ++ Y ++ T.drop 2 := by
  subst hC
  have h1 : (X ++ Y ++ T).drop (X.length + 2 + Y.length) = T.drop 2 := by
    rw [show X.length + 2 + Y.length = (X ++ Y).length + 2 by rw [List.length_append]; omega, List.drop_append]
    simp
  have h3 : ((X ++ Y ++ T).take (X.length + 2)).length = X.length + 2 := by
    rw [List.length_take, List.length_append, List.length_append]
    omega
  have h2 : ((X ++ Y ++ T).take (X.length + 2)).take X.length = X := by
    rw [List.take_take, Nat.min_eq_left (by omega), List.append_assoc, List.take_left]
  rw [h1, List.take_append_of_le_length (by omega), h2, hk, List.drop_append, h3, List.drop_of_length_le (by omega), Nat.sub_self, List.drop_zero, List.nil_append]
  simp only [List.append_assoc]
theorem en_one (k : S25) : ∀ v ∈ en k, v.oneCell' = true := by
  intro v hv
  simp only [en, List.mem_cons, List.not_mem_nil, or_false] at hv
  rcases hv with rfl | rfl <;> rfl
theorem hov (w : World) (B g : Nat) (k : S25) (cur : Array Value) (hk : w.heap[B]? = some (elt k)) (hg : w.heap[g]? = some (.cells cur 25 (0, 0))) (hc : cur.size ≠ 0) (hBg : B ≠ g) (o lb cb : Nat) :
    (callFunc 30 #[.slice (some ⟨B, 0, none⟩) 1 1, .slice (some ⟨g, o, none⟩) lb cb]).run Try.prog w = .ok (.value (.bool false)) w := by
  rw [run_callFunc_extern Try.func30 (by kernel_rfl) (by kernel_rfl) (by kernel_rfl) (e := Extern.SlicesOverlaps.overlaps #[22, 22] #[4]) (by kernel_rfl),
    Lib.run_overlaps_apart w 22 4 25 Try.underlying22 2 Try.sizeOf25 ⟨B, 0, none⟩ ⟨g, o, none⟩ 1 1 lb cb hBg 25 25 2 cur.size (by simp [World.shape?, hk, elt]) (by simp [World.shape?, hg]) hc (by simp [World.frozen?, hk, elt]) (by simp [World.frozen?, hk, elt])]
  rfl

set_option maxRecDepth 100000 in
set_option maxHeartbeats 2000000 in
/-- In the middle, with room. -/
theorem insert_room (B g c i : Nat) (cur : Array Value) (k : S25) (l : List S25) (base : Nat) (w0 w : World) (hg : w.heap[g]? = some (.cells cur 25 (0, 0))) (hcz : cur.size = c * 2) (htk : cur.toList.take (l.length * 2) = ens l) (hcm : c ≤ maxLen) (hbg : base ≤ g)
    (hk : w.heap[B]? = some (elt k)) (hBg : B ≠ g) (hi : i < l.length) (hroom : l.length + 1 ≤ c) (hl : l.length ≤ 1000000) (hB : Below base w0 w) :
    Calls Try.prog 24 #[.slice (some ⟨g, 0, none⟩) l.length c, .int .i64 i, .slice (some ⟨B, 0, none⟩) 1 1] w fun e w' => ∃ v', e = .returned v' ∧ Kd.R k25 25 w' base (fun _ => True) v' (l.take i ++ [k] ++ l.drop i) ∧ Below base w0 w' := by
  unfold maxLen at hcm
  have hov := hov w B g k cur hk hg (by omega) hBg
  have e1 : ((i : Int) == (l.length : Int)) = false := beq_eq_false_iff_ne.2 (by omega)
  have e2 : ¬ (c < l.length + 1) := by omega
  have e2' : ¬ ((c : Int) < (l.length : Int) + 1) := by omega
  have e2'' : decide ((c : Int) < (l.length : Int) + 1) = false := decide_eq_false e2'
  have hi0 : (0 : Int) ≤ (i : Int) := by omega
  have hi1 : (i : Int) ≤ (l.length : Int) := by omega
  have hi2 : (0 : Int) ≤ (i : Int) + 1 := by omega
  have hi3 : (i : Int) ≤ (l.length : Int) + 1 := by omega
  have hi4 : ¬ (c = i) := by omega
  have hi5 : ¬ (c = i + 1) := by omega
  have hi6 : (i : Int) + 1 ≤ (l.length : Int) + 1 := by omega
  have hi7 : ((i : Int) + 1).toNat = i + 1 := by omega
  have Htk := Lib.hid htk
  have Hcz := Lib.hid hcz
  clear htk hcz
  go_enter Try.func24, Try.ntmps24
  go_wp2_with (simp only [hov])
  have hcs : cur.toList.length = c * 2 := by rw [Array.length_toList]; exact Hcz.out
  have hsplit : ens l = ens (l.take i) ++ ens (l.drop i) := by rw [← ens_append, List.take_append_drop]
  have hti : (ens (l.take i)).length = i * 2 := by rw [ens_length, List.length_take]; omega
  have hdi : (ens (l.drop i)).length = (l.length - i) * 2 := by rw [ens_length, List.length_drop]
  have hcur : cur.toList = ens (l.take i) ++ ens (l.drop i) ++ cur.toList.drop (l.length * 2) := by rw [← hsplit, ← Htk.out, List.take_append_drop]
  have hsrc : ∀ (j : Nat) (v : Value), (ens (l.drop i))[j]? = some v → w.drew.cell? ((⟨g, i * 2, none⟩ : Addr).add j) = some v := by
    intro j v hj
    have hjl : j < (l.length - i) * 2 := by rw [← hdi]; exact (List.getElem?_eq_some_iff.1 hj).1
    rw [add_at g (i * 2) j, cell_of_row w.drew g (i * 2 + j) cur _ _ hg, ← Array.getElem?_toList, hcur, List.append_assoc, List.getElem?_append_right (by omega), hti, show i * 2 + j - i * 2 = j by omega, List.getElem?_append_left (by omega)]
    exact hj
  have Hsrc := Lib.hid hsrc
  have Hdi := Lib.hid hdi
  have Hti := Lib.hid hti
  have Hcur := Lib.hid hcur
  have Hcs := Lib.hid hcs
  have Hg := Lib.hid hg
  clear hsrc hdi hti hcur hcs hsplit hg hov
  have Hn : Hid ((ens (l.drop i)).length = Nat.min (l.length + 1 - i) (l.length + 1 - (i + 1)) * 2) := Lib.hid (by rw [Hdi.out]; simp only [Nat.min_def]; split <;> omega)
  have Hfit : Hid ((i + 1) * 2 + (ens (l.drop i)).length ≤ cur.size) := Lib.hid (by rw [Hdi.out, Hcz.out]; omega)
  have hw1 : IntKind.i64.wrap ((i : Int) + 1) = (i : Int) + 1 := by rw [IntKind.wrap_i64]; omega
  go_region_law (refine step_copy_k rfl (.tmp 73) (.tmp 76) 22 22 rfl 25 2 Try.underlying22 (by kernel_rfl) g ((i + 1) * 2) (l.length + 1 - (i + 1)) (c - (i + 1)) ⟨g, i * 2, none⟩ (l.length + 1 - i) (c - i) (by simp [Act.eval, Act.put]) (by simp [Act.eval, Act.put]) cur 25 Hg.out (ens (l.drop i)) Hn.out Hsrc.out Hfit.out (ens_one _) ?_)
  clear hw1
  obtain ⟨C1, hC1⟩ : ∃ C1, (cur.toList.take ((i + 1) * 2) ++ (ens (l.drop i) ++ cur.toList.drop ((i + 1) * 2 + (ens (l.drop i)).length))).toArray = C1 := ⟨_, rfl⟩
  rw [hC1]
  have hg1 : (w.drew.setRow g C1).heap[g]? = some (.cells C1 25 (0, 0)) := setRow_heap w.drew g cur C1 _ _ Hg.out
  have hk1 : (w.drew.setRow g C1).heap[B]? = some (elt k) := (setRow_other w.drew g B C1 hBg).trans hk
  have hB1 : Below base w0 (w.drew.setRow g C1) := below_setRow hB.drew hbg C1
  obtain ⟨T, hT, hTl⟩ : ∃ T, cur.toList = ens (l.take i) ++ ens (l.drop i) ++ T ∧ 2 ≤ T.length := ⟨_, Hcur.out, by rw [List.length_drop, Hcs.out]; omega⟩
  have hC2 : C1.toList.take (i * 2) ++ (en k ++ C1.toList.drop (i * 2 + (en k).length)) = ens (l.take i ++ [k] ++ l.drop i) ++ T.drop 2 := by
    rw [← hC1, List.toList_toArray, hT, show (i + 1) * 2 = (ens (l.take i)).length + 2 by rw [Hti.out]; omega, ← Hti.out, room_list _ _ _ T _ rfl hTl rfl]
    rw [ens_append, ens_append, ens_cons, show ens [] = [] from rfl, List.append_nil]
  have hC1s : C1.size = c * 2 := by
    rw [← hC1, List.size_toArray, List.length_append, List.length_append, List.length_take, List.length_drop, Hcs.out, Hdi.out]
    omega
  have hTs : T.length = c * 2 - l.length * 2 := by
    have := congrArg List.length hT
    rw [List.length_append, List.length_append, Hti.out, Hdi.out, Hcs.out] at this
    omega
  have hsrc1 : ∀ (j : Nat) (v : Value), (en k)[j]? = some v → (w.drew.setRow g C1).cell? ((⟨B, 0, none⟩ : Addr).add j) = some v := by
    intro j v hj
    match j, hj with
    | 0, hj => obtain rfl := Option.some.inj hj; rw [add_at, cell_of_row _ B _ _ _ _ hk1]; rfl
    | 1, hj => obtain rfl := Option.some.inj hj; rw [add_at, cell_of_row _ B _ _ _ _ hk1]; rfl
  have Hn2 : Hid ((en k).length = Nat.min 1 (l.length + 1 - i) * 2) := Lib.hid (by simp only [Nat.min_def]; split <;> first | rfl | omega)
  have Hfit2 : Hid (i * 2 + (en k).length ≤ C1.size) := Lib.hid (by rw [hC1s]; show i * 2 + 2 ≤ _; omega)
  have HC1 := Lib.hid hC1
  have HC2 := Lib.hid hC2
  have HC1s := Lib.hid hC1s
  have Hg1 := Lib.hid hg1
  have Hsrc1 := Lib.hid hsrc1
  have HTs := Lib.hid hTs
  generalize w.drew.setRow g C1 = W1 at hB1 Hg1 Hsrc1 ⊢
  clear hC1 hC2 hC1s hg1 hk1 hsrc1 hT hTs Hcur Hsrc Htk
  go_wp2_with (refine wpList_copy_k rfl (.tmp 80) (.tmp 81) 22 22 rfl 25 2 Try.underlying22 (by kernel_rfl) g (i * 2) (l.length + 1 - i) (c - i) ⟨B, 0, none⟩ 1 1 rfl rfl C1 25 Hg1.out (en k) Hn2.out Hsrc1.out Hfit2.out (en_one k) ?_)
  rw [HC2.out]
  go_ret
  have hnl : (l.take i ++ [k] ++ l.drop i).length = l.length + 1 := by
    rw [List.length_append, List.length_append, List.length_take, List.length_drop]
    simp only [List.length_cons, List.length_nil]
    omega
  refine ⟨_, rfl, R25 ?_ (fun _ _ => trivial), below_setRow hB1 hbg _⟩
  rw [hnl]
  refine ⟨by rw [ens_length, hnl], .inr ⟨g, c, _, rfl, hbg, setRow_heap W1 g C1 _ _ _ Hg1.out, hroom, by unfold maxLen; omega, ?_, ?_⟩⟩
  · rw [List.size_toArray, List.length_append, ens_length, hnl, List.length_drop, HTs.out]
    omega
  · rw [List.toList_toArray, List.take_left' (by rw [ens_length, hnl])]

end Go.Proofs.Ytdoaohmjhbefdaa.H
