/- slices.Clone at keys: the walk. -/
import Derived.Test.YtobjhddiieaafaaDoorK1
import Derived.Test.YtobjhddiieaafaaDoorRange
import Derived.WalkSpells
import Derived.Lib.AppendZerosOnto
import Derived.Lib.AppendZeros
import Derived.Lib.Overlaps
import Derived.Laws.Externs
import Derived.Lib.JoinLaws
namespace Go.Proofs.YtobjhddiieaafaaDoor.H
open Go.RowKit Go.Shelf Go.Proofs.YtobjhddiieaafaaDoorW.PrintWords Go.Proofs.YtobjhddiieaafaaDoorW.PrintLast Go.Proofs.YtobjhddiieaafaaDoorW.PrintMore
attribute [local go_sem] Oper.semAt_some
set_option linter.unusedVariables false
set_option linter.unusedSimpArgs false

/-- A key's two cells. -/
def en (x : S24) : List Value := [.int .u32 x.f0, .string x.f1]
def ens (l : List S24) : List Value := (l.map en).flatten
theorem ens_length (l : List S24) : (ens l).length = l.length * 2 := by
  induction l with
  | nil => rfl
  | cons x l ih => 
    show ([Value.int .u32 x.f0, .string x.f1] ++ ens l).length = _
    rw [List.length_append, ih, List.length_cons]
    show 2 + l.length * 2 = (l.length + 1) * 2
    omega
theorem ens_append (a b : List S24) : ens (a ++ b) = ens a ++ ens b := by simp [ens]
theorem ens_cons (x : S24) (l : List S24) : ens (x :: l) = en x ++ ens l := rfl
theorem ens_one (l : List S24) : ∀ v ∈ ens l, v.oneCell' = true := by
  intro v hv
  simp only [ens, List.mem_flatten, List.mem_map] at hv
  obtain ⟨_, ⟨x, _, rfl⟩, hv⟩ := hv
  simp only [en, List.mem_cons, List.not_mem_nil, or_false] at hv
  rcases hv with rfl | rfl <;> rfl
theorem reps_ens (w : World) (base : Nat) (ok : Nat → Prop) (l : List S24) : Reps (k24.M w base ok) 2 l (ens l) := by
  refine ⟨ens_length l, ?_⟩
  intro j p hj
  have hl : j < l.length := (List.getElem?_eq_some_iff.1 hj).1
  have e : ((ens l).drop (j * 2)).take 2 = en p := by
    have h1 : l = l.take j ++ p :: l.drop (j + 1) := by
      rw [← (List.getElem?_eq_some_iff.1 hj).2, ← List.drop_eq_getElem_cons hl, List.take_append_drop]
    have h2 : (ens (l.take j)).length = j * 2 := by rw [ens_length, List.length_take]; omega
    rw [h1, ens_append, ens_cons, ← h2, List.drop_left]
    rfl
  rw [e]
  exact k24_mkM w base ok p
theorem ens_of_reps {w : World} {base : Nat} {ok : Nat → Prop} : ∀ {l : List S24} {inner : List Value}, Reps (k24.M w base ok) 2 l inner → inner = ens l := by
  intro l inner h
  obtain ⟨h1, h2⟩ := h
  apply List.ext_getElem?
  intro i
  by_cases hi : i < l.length * 2
  · have hj := h2 (i / 2) _ (List.getElem?_eq_getElem (show i / 2 < l.length by omega))
    have e1 := k24_openM hj
    have e2 := k24_openM ((reps_ens w base ok l).2 (i / 2) _ (List.getElem?_eq_getElem (show i / 2 < l.length by omega)))
    have e3 : ((inner.drop (i / 2 * 2)).take 2)[i % 2]? = (((ens l).drop (i / 2 * 2)).take 2)[i % 2]? := by rw [e1, e2]
    rw [List.getElem?_take, List.getElem?_take, if_pos (by omega), if_pos (by omega), List.getElem?_drop, List.getElem?_drop, show i / 2 * 2 + i % 2 = i by omega] at e3
    exact e3
  · rw [List.getElem?_eq_none (by omega), List.getElem?_eq_none (by rw [ens_length]; omega)]
theorem own24 {w : World} {base : Nat} {ok : Nat → Prop} {v : Value} {l : List S24} (h : Kd.R k24 24 w base ok v l) : w.ownsRow base 24 2 v l.length (ens l) := by
  obtain ⟨_, inner, ho, hr⟩ := h
  rw [← ens_of_reps hr]
  exact ho
theorem R24 {w : World} {base : Nat} {ok : Nat → Prop} {v : Value} {l : List S24} (h : w.ownsRow base 24 2 v l.length (ens l)) (hok : ∀ k, v.ownBlock = some k → ok k) : Kd.R k24 24 w base ok v l := ⟨hok, ens l, h, reps_ens _ _ _ _⟩

theorem reads_en {w : World} {A : Option Addr} {n : Nat} {l : List S24} (h : Kd.C k24 w A n l) : ReadsRow (fun x cs => cs = en x) 2 w A n l := by
  obtain ⟨h1, h2, h3⟩ := h
  refine ⟨h1, h2, fun hn => ?_⟩
  obtain ⟨ad, hA, hc⟩ := h3 hn
  refine ⟨ad, hA, fun j p hj => ?_⟩
  obtain ⟨c, hl, hK, hcell⟩ := hc j p hj
  exact ⟨c, hl, k24_open hK, hcell⟩

set_option maxRecDepth 100000 in
set_option maxHeartbeats 1000000 in
theorem clone_calls (A0 : Option Addr) (c0 : Nat) (l : List S24) (w : World) (hr : Kd.C k24 w A0 l.length l) (hl : l.length ≤ 5864062014805) :
    Calls Tryd.prog 19 #[.slice A0 l.length c0] w fun e w' => ∃ v, e = .returned v ∧ Kd.R k24 24 w' w.heap.size (fun _ => True) v l ∧ Below w.heap.size w w' := by
  have hnil : A0 = none → l = [] := fun h => by
    rcases Nat.eq_zero_or_pos l.length with h0 | h0
    · exact List.eq_nil_of_length_eq_zero h0
    · obtain ⟨ad, hA, _⟩ := hr.2.2 h0
      rw [h] at hA
      cases hA
  have Hr := Lib.hid hr
  clear hr
  cases A0 with
  | none =>
    obtain rfl := hnil rfl
    have hq : ∀ W, (binOp .eql 30 (.slice none 0 c0) (.slice none 0 0)).run Tryd.prog W = .ok (.bool true) W := fun W => Lib.run_eql_slice_nil (P := Tryd.prog) W 30 24 none 0 c0 0 0 Tryd.underlying30
    go_enter Tryd.func19, Tryd.ntmps19
    go_wp2
    go_ret
    exact ⟨_, rfl, Kd.R_nil _ _ _ _ _, Below.refl _ _⟩
  | some ad =>
    have hq : ∀ W, (binOp .eql 30 (.slice (some ad) l.length c0) (.slice none 0 0)).run Tryd.prog W = .ok (.bool false) W := fun W => Lib.run_eql_slice_nil (P := Tryd.prog) W 30 24 (some ad) l.length c0 0 0 Tryd.underlying30
    clear hnil
    have hO0 : Kd.R k24 24 (w.alloc (.cells #[] 24)) w.heap.size (fun _ => True) (.slice (some ⟨w.heap.size, 0, none⟩) 0 0) [] := R24 ⟨rfl, .inr ⟨_, 0, _, rfl, Nat.le_refl _, World.alloc_heap_new w _, Nat.le_refl _, by decide, rfl, rfl⟩⟩ (fun _ _ => trivial)
    have hB0 : Below w.heap.size w (w.alloc (.cells #[] 24)) := (Below.refl _ _).alloc (Nat.le_refl _) _
    have hC0 := Kd.C_below Hr.out hB0
    have HO0 := Lib.hid hO0
    have HC0 := Lib.hid hC0
    clear hO0 hC0
    go_enter Tryd.func19, Tryd.ntmps19
    go_wp2_with ((with_reducible refine gate_builtin (b := .append) (xs := #[.tmp 5, .tmp 6]) rfl ?_); at_builtin; refine Kd.R_append_rows k24 (Rr := fun x cs => cs = en x) (w0 := w) w.heap.size rfl (.tmp 5) (.tmp 6) 30 24 (.agg #[(.int .u32 0), (.string ⟨#[]⟩)]) 24 rfl Tryd.underlying30 info24 rfl (by decide) (by decide) _ [] l (some ad) l.length c0 (fun _ => True) (fun _ => False) rfl rfl HO0.out ?p2 ?p1 (fun _ h => h.elim) (fun _ _ => trivial) hB0 ?p4 ?p5 ?_; (case p1 => exact fun x cs h => by rw [h]; exact k24_mkM _ _ _ x); (case p2 => exact reads_en HC0.out); (case p4 => (rw [World.size_alloc]; omega)); (case p5 => (simp only [List.length_nil, Nat.zero_add]; omega)); intro v3 w3 ho3 hb3 hgr3 hat3)
    go_ret
    exact ⟨_, rfl, ho3, hb3⟩

end Go.Proofs.YtobjhddiieaafaaDoor.H

namespace Go.Proofs.YtobjhddiieaafaaDoor.H
open Go.RowKit Go.Shelf Go.Proofs.YtobjhddiieaafaaDoorW.PrintWords Go.Proofs.YtobjhddiieaafaaDoorW.PrintLast Go.Proofs.YtobjhddiieaafaaDoorW.PrintMore Go.Proofs.YtobjhddiieaafaaDoor.CopyK
attribute [local go_sem] Oper.semAt_some
set_option linter.unusedVariables false
set_option linter.unusedSimpArgs false

theorem add_at (g o j : Nat) : (⟨g, o, none⟩ : Addr).add j = ⟨g, o + j, none⟩ := by
  unfold Addr.add
  split <;> simp_all
def elt (k : S24) : Obj := .cells #[.int .u32 k.f0, .string k.f1] 24 (0, 0)
theorem elt_reads {w : World} {B : Nat} {k : S24} (h : w.heap[B]? = some (elt k)) : ReadsRow (fun x cs => cs = en x) 2 w (some ⟨B, 0, none⟩) 1 [k] := by
  refine ⟨rfl, by decide, fun _ => ⟨_, rfl, fun j p hj => ?_⟩⟩
  match j, hj with
  | 0, hj =>
    obtain rfl := Option.some.inj hj
    refine ⟨en k, rfl, rfl, fun i u hi => ?_⟩
    match i, hi with
    | 0, hi => obtain rfl := Option.some.inj hi; simp [World.cell?, h, elt, Addr.add]
    | 1, hi => obtain rfl := Option.some.inj hi; simp [World.cell?, h, elt, Addr.add]

set_option maxRecDepth 100000 in
set_option maxHeartbeats 2000000 in
/-- At the end. -/
theorem insert_end (v : Value) (B : Nat) (k : S24) (l : List S24) (base : Nat) (w0 w : World) (hv : Kd.R k24 24 w base (fun _ => True) v l) (hk : w.heap[B]? = some (elt k)) (hl : l.length ≤ 1000000) (hB : Below base w0 w) (hbs : base ≤ w.heap.size) :
    Calls Tryd.prog 18 #[v, .int .i64 l.length, .slice (some ⟨B, 0, none⟩) 1 1] w fun e w' => ∃ v', e = .returned v' ∧ Kd.R k24 24 w' base (fun _ => True) v' (l ++ [k]) ∧ Below base w0 w' := by
  have hR := elt_reads hk
  have Hv := Lib.hid hv
  have HR := Lib.hid hR
  have hl0 : (0 : Int) ≤ (l.length : Int) := by omega
  obtain ⟨A, c, rfl, hlc, -⟩ := Kd.R_reads hv
  have hc63 : c ≤ 9223372036854775807 := by
    rcases (own24 hv).2 with ⟨h1, h2⟩ | ⟨g, cap, cur, h1, _, _, _, h2, _⟩
    · simp only [Value.slice.injEq] at h1
      omega
    · simp only [Value.slice.injEq] at h1
      unfold maxLen at h2
      omega
  clear hv hR
  by_cases hci : c = l.length
  · subst hci
    go_enter Tryd.func18, Tryd.ntmps18
    go_wp2_with ((with_reducible refine gate_builtin (b := .append) (xs := #[.tmp 23, .tmp 24]) rfl ?_); at_builtin; refine Kd.R_append_rows k24 (Rr := fun x cs => cs = en x) (w0 := w0) base rfl (.tmp 23) (.tmp 24) 30 24 (.agg #[(.int .u32 0), (.string ⟨#[]⟩)]) 24 rfl Tryd.underlying30 info24 rfl (by decide) (by decide) _ l [k] (some ⟨B, 0, none⟩) 1 1 (fun _ => True) (fun _ => False) rfl rfl Hv.out HR.out ?p1 (fun _ h => h.elim) (fun _ _ => trivial) hB hbs ?p5 ?_; (case p1 => exact fun x cs h => by rw [h]; exact k24_mkM _ _ _ x); (case p5 => omega); intro v3 w3 ho3 hb3 hgr3 hat3)
    go_ret
    exact ⟨_, rfl, ho3, hb3⟩
  · go_enter Tryd.func18, Tryd.ntmps18
    go_wp2_with ((with_reducible refine gate_builtin (b := .append) (xs := #[.tmp 23, .tmp 24]) rfl ?_); at_builtin; refine Kd.R_append_rows k24 (Rr := fun x cs => cs = en x) (w0 := w0) base rfl (.tmp 23) (.tmp 24) 30 24 (.agg #[(.int .u32 0), (.string ⟨#[]⟩)]) 24 rfl Tryd.underlying30 info24 rfl (by decide) (by decide) _ l [k] (some ⟨B, 0, none⟩) 1 1 (fun _ => True) (fun _ => False) rfl rfl Hv.out HR.out ?p1 (fun _ h => h.elim) (fun _ _ => trivial) hB hbs ?p5 ?_; (case p1 => exact fun x cs h => by rw [h]; exact k24_mkM _ _ _ x); (case p5 => omega); intro v3 w3 ho3 hb3 hgr3 hat3)
    go_ret
    exact ⟨_, rfl, ho3, hb3⟩

theorem room_list (C X Y T k2 : List Value) (hC : C = X ++ Y ++ T) (hT : 2 ≤ T.length) (hk : k2.length = 2) :
    (C.take (X.length + 2) ++ (Y ++ C.drop (X.length + 2 + Y.length))).take X.length ++ (k2 ++ (C.take (X.length + 2) ++ (Y ++ C.drop (X.length + 2 + Y.length))).drop (X.length + k2.length)) = X ++ k2 ++ Y ++ T.drop 2 := by
  subst hC
  have h1 : (X ++ Y ++ T).drop (X.length + 2 + Y.length) = T.drop 2 := by
    rw [show X.length + 2 + Y.length = (X ++ Y).length + 2 by rw [List.length_append]; omega, List.drop_append]
    simp
  have h3 : ((X ++ Y ++ T).take (X.length + 2)).length = X.length + 2 := by
    rw [List.length_take, List.length_append, List.length_append]
    omega
  have h2 : ((X ++ Y ++ T).take (X.length + 2)).take X.length = X := by
    rw [List.take_take, Nat.min_eq_left (by omega), List.append_assoc, List.take_left]
  rw [h1, List.take_append_of_le_length (by omega), h2, hk, List.drop_append, h3, List.drop_of_length_le (by omega), Nat.sub_self, List.drop_zero, List.nil_append]
  simp only [List.append_assoc]
theorem en_one (k : S24) : ∀ v ∈ en k, v.oneCell' = true := by
  intro v hv
  simp only [en, List.mem_cons, List.not_mem_nil, or_false] at hv
  rcases hv with rfl | rfl <;> rfl
theorem hov (w : World) (B g : Nat) (k : S24) (cur : Array Value) (hk : w.heap[B]? = some (elt k)) (hg : w.heap[g]? = some (.cells cur 24 (0, 0))) (hc : cur.size ≠ 0) (hBg : B ≠ g) (o lb cb : Nat) :
    (callFunc 28 #[.slice (some ⟨B, 0, none⟩) 1 1, .slice (some ⟨g, o, none⟩) lb cb]).run Tryd.prog w = .ok (.value (.bool false)) w := by
  rw [run_callFunc_extern Tryd.func28 (by kernel_rfl) (by kernel_rfl) (by kernel_rfl) (e := Extern.SlicesOverlaps.overlaps #[30, 30] #[4]) (by kernel_rfl),
    Lib.run_overlaps_apart w 30 4 24 Tryd.underlying30 2 Tryd.sizeOf24 ⟨B, 0, none⟩ ⟨g, o, none⟩ 1 1 lb cb hBg 24 24 2 cur.size (by simp [World.shape?, hk, elt]) (by simp [World.shape?, hg]) hc (by simp [World.frozen?, hk, elt]) (by simp [World.frozen?, hk, elt])]
  rfl

set_option maxRecDepth 100000 in
set_option maxHeartbeats 2000000 in
/-- In the middle, with room. -/
theorem insert_room (B g c i : Nat) (cur : Array Value) (k : S24) (l : List S24) (base : Nat) (w0 w : World) (hg : w.heap[g]? = some (.cells cur 24 (0, 0))) (hcz : cur.size = c * 2) (htk : cur.toList.take (l.length * 2) = ens l) (hcm : c ≤ maxLen) (hbg : base ≤ g)
    (hk : w.heap[B]? = some (elt k)) (hBg : B ≠ g) (hi : i < l.length) (hroom : l.length + 1 ≤ c) (hl : l.length ≤ 1000000) (hB : Below base w0 w) :
    Calls Tryd.prog 18 #[.slice (some ⟨g, 0, none⟩) l.length c, .int .i64 i, .slice (some ⟨B, 0, none⟩) 1 1] w fun e w' => ∃ v', e = .returned v' ∧ Kd.R k24 24 w' base (fun _ => True) v' (l.take i ++ [k] ++ l.drop i) ∧ Below base w0 w' := by
  unfold maxLen at hcm
  have hov := hov w B g k cur hk hg (by omega) hBg
  have e1 : ((i : Int) == (l.length : Int)) = false := beq_eq_false_iff_ne.2 (by omega)
  have e2 : ¬ (c < l.length + 1) := by omega
  have e2' : ¬ ((c : Int) < (l.length : Int) + 1) := by omega
  have e2'' : decide ((c : Int) < (l.length : Int) + 1) = false := decide_eq_false e2'
  have hi0 : (0 : Int) ≤ (i : Int) := by omega
  have hi1 : (i : Int) ≤ (l.length : Int) := by omega
  have hi2 : (0 : Int) ≤ (i : Int) + 1 := by omega
  have hi3 : (i : Int) ≤ (l.length : Int) + 1 := by omega
  have hi4 : ¬ (c = i) := by omega
  have hi5 : ¬ (c = i + 1) := by omega
  have hi6 : (i : Int) + 1 ≤ (l.length : Int) + 1 := by omega
  have hi7 : ((i : Int) + 1).toNat = i + 1 := by omega
  have Htk := Lib.hid htk
  have Hcz := Lib.hid hcz
  clear htk hcz
  go_enter Tryd.func18, Tryd.ntmps18
  go_wp2_with (simp only [hov])
  have hcs : cur.toList.length = c * 2 := by rw [Array.length_toList]; exact Hcz.out
  have hsplit : ens l = ens (l.take i) ++ ens (l.drop i) := by rw [← ens_append, List.take_append_drop]
  have hti : (ens (l.take i)).length = i * 2 := by rw [ens_length, List.length_take]; omega
  have hdi : (ens (l.drop i)).length = (l.length - i) * 2 := by rw [ens_length, List.length_drop]
  have hcur : cur.toList = ens (l.take i) ++ ens (l.drop i) ++ cur.toList.drop (l.length * 2) := by rw [← hsplit, ← Htk.out, List.take_append_drop]
  have hsrc : ∀ (j : Nat) (v : Value), (ens (l.drop i))[j]? = some v → w.drew.cell? ((⟨g, i * 2, none⟩ : Addr).add j) = some v := by
    intro j v hj
    have hjl : j < (l.length - i) * 2 := by rw [← hdi]; exact (List.getElem?_eq_some_iff.1 hj).1
    rw [add_at g (i * 2) j, cell_of_row w.drew g (i * 2 + j) cur _ _ hg, ← Array.getElem?_toList, hcur, List.append_assoc, List.getElem?_append_right (by omega), hti, show i * 2 + j - i * 2 = j by omega, List.getElem?_append_left (by omega)]
    exact hj
  have Hsrc := Lib.hid hsrc
  have Hdi := Lib.hid hdi
  have Hti := Lib.hid hti
  have Hcur := Lib.hid hcur
  have Hcs := Lib.hid hcs
  have Hg := Lib.hid hg
  clear hsrc hdi hti hcur hcs hsplit hg hov
  have Hn : Hid ((ens (l.drop i)).length = Nat.min (l.length + 1 - i) (l.length + 1 - (i + 1)) * 2) := Lib.hid (by rw [Hdi.out]; simp only [Nat.min_def]; split <;> omega)
  have Hfit : Hid ((i + 1) * 2 + (ens (l.drop i)).length ≤ cur.size) := Lib.hid (by rw [Hdi.out, Hcz.out]; omega)
  have hw1 : IntKind.i64.wrap ((i : Int) + 1) = (i : Int) + 1 := by rw [IntKind.wrap_i64]; omega
  go_region_law (refine step_copy_k rfl (.tmp 73) (.tmp 76) 30 30 rfl 24 2 Tryd.underlying30 (by kernel_rfl) g ((i + 1) * 2) (l.length + 1 - (i + 1)) (c - (i + 1)) ⟨g, i * 2, none⟩ (l.length + 1 - i) (c - i) (by simp [Act.eval, Act.put]) (by simp [Act.eval, Act.put]) cur 24 Hg.out (ens (l.drop i)) Hn.out Hsrc.out Hfit.out (ens_one _) ?_)
  clear hw1
  obtain ⟨C1, hC1⟩ : ∃ C1, (cur.toList.take ((i + 1) * 2) ++ (ens (l.drop i) ++ cur.toList.drop ((i + 1) * 2 + (ens (l.drop i)).length))).toArray = C1 := ⟨_, rfl⟩
  rw [hC1]
  have hg1 : (w.drew.setRow g C1).heap[g]? = some (.cells C1 24 (0, 0)) := setRow_heap w.drew g cur C1 _ _ Hg.out
  have hk1 : (w.drew.setRow g C1).heap[B]? = some (elt k) := (setRow_other w.drew g B C1 hBg).trans hk
  have hB1 : Below base w0 (w.drew.setRow g C1) := below_setRow hB.drew hbg C1
  obtain ⟨T, hT, hTl⟩ : ∃ T, cur.toList = ens (l.take i) ++ ens (l.drop i) ++ T ∧ 2 ≤ T.length := ⟨_, Hcur.out, by rw [List.length_drop, Hcs.out]; omega⟩
  have hC2 : C1.toList.take (i * 2) ++ (en k ++ C1.toList.drop (i * 2 + (en k).length)) = ens (l.take i ++ [k] ++ l.drop i) ++ T.drop 2 := by
    rw [← hC1, List.toList_toArray, hT, show (i + 1) * 2 = (ens (l.take i)).length + 2 by rw [Hti.out]; omega, ← Hti.out, room_list _ _ _ T _ rfl hTl rfl]
    rw [ens_append, ens_append, ens_cons, show ens [] = [] from rfl, List.append_nil]
  have hC1s : C1.size = c * 2 := by
    rw [← hC1, List.size_toArray, List.length_append, List.length_append, List.length_take, List.length_drop, Hcs.out, Hdi.out]
    omega
  have hTs : T.length = c * 2 - l.length * 2 := by
    have := congrArg List.length hT
    rw [List.length_append, List.length_append, Hti.out, Hdi.out, Hcs.out] at this
    omega
  have hsrc1 : ∀ (j : Nat) (v : Value), (en k)[j]? = some v → (w.drew.setRow g C1).cell? ((⟨B, 0, none⟩ : Addr).add j) = some v := by
    intro j v hj
    match j, hj with
    | 0, hj => obtain rfl := Option.some.inj hj; rw [add_at, cell_of_row _ B _ _ _ _ hk1]; rfl
    | 1, hj => obtain rfl := Option.some.inj hj; rw [add_at, cell_of_row _ B _ _ _ _ hk1]; rfl
  have Hn2 : Hid ((en k).length = Nat.min 1 (l.length + 1 - i) * 2) := Lib.hid (by simp only [Nat.min_def]; split <;> first | rfl | omega)
  have Hfit2 : Hid (i * 2 + (en k).length ≤ C1.size) := Lib.hid (by rw [hC1s]; show i * 2 + 2 ≤ _; omega)
  have HC1 := Lib.hid hC1
  have HC2 := Lib.hid hC2
  have HC1s := Lib.hid hC1s
  have Hg1 := Lib.hid hg1
  have Hsrc1 := Lib.hid hsrc1
  have HTs := Lib.hid hTs
  generalize w.drew.setRow g C1 = W1 at hB1 Hg1 Hsrc1 ⊢
  clear hC1 hC2 hC1s hg1 hk1 hsrc1 hT hTs Hcur Hsrc Htk
  go_wp2_with (refine wpList_copy_k rfl (.tmp 80) (.tmp 81) 30 30 rfl 24 2 Tryd.underlying30 (by kernel_rfl) g (i * 2) (l.length + 1 - i) (c - i) ⟨B, 0, none⟩ 1 1 rfl rfl C1 24 Hg1.out (en k) Hn2.out Hsrc1.out Hfit2.out (en_one k) ?_)
  rw [HC2.out]
  go_ret
  have hnl : (l.take i ++ [k] ++ l.drop i).length = l.length + 1 := by
    rw [List.length_append, List.length_append, List.length_take, List.length_drop]
    simp only [List.length_cons, List.length_nil]
    omega
  refine ⟨_, rfl, R24 ?_ (fun _ _ => trivial), below_setRow hB1 hbg _⟩
  rw [hnl]
  refine ⟨by rw [ens_length, hnl], .inr ⟨g, c, _, rfl, hbg, setRow_heap W1 g C1 _ _ _ Hg1.out, hroom, by unfold maxLen; omega, ?_, ?_⟩⟩
  · rw [List.size_toArray, List.length_append, ens_length, hnl, List.length_drop, HTs.out]
    omega
  · rw [List.toList_toArray, List.take_left' (by rw [ens_length, hnl])]

end Go.Proofs.YtobjhddiieaafaaDoor.H
