/- slices.Clone at keys: the walk. -/
import Derived.Test.YtdoaohmjhbefdaaG2
import Derived.Test.YtdoaohmjhbefdaaCopyK
import Derived.WalkSpells
import Derived.Lib.AppendZerosOnto
import Derived.Lib.AppendZeros
import Derived.Lib.Overlaps
import Derived.Laws.Externs
import Derived.Lib.JoinLaws
namespace Go.Proofs.Ytdoaohmjhbefdaa.H
open Go.RowKit Go.Shelf Go.Proofs.YtdoaohmjhbefdaaW.PrintWords Go.Proofs.YtdoaohmjhbefdaaW.PrintLast Go.Proofs.YtdoaohmjhbefdaaW.PrintMore
attribute [local go_sem] Oper.semAt_some
set_option linter.unusedVariables false
set_option linter.unusedSimpArgs false

/-- A key's two cells. -/
def en (x : S25) : List Value := [.int .u32 x.f0, .string x.f1]
def ens (l : List S25) : List Value := (l.map en).flatten
theorem ens_length (l : List S25) : (ens l).length = l.length * 2 := by
  induction l with
  | nil => rfl
  | cons x l ih => 
    show ([Value.int .u32 x.f0, .string x.f1] ++ ens l).length = _
    rw [List.length_append, ih, List.length_cons]
    show 2 + l.length * 2 = (l.length + 1) * 2
    omega
theorem ens_append (a b : List S25) : ens (a ++ b) = ens a ++ ens b := by simp [ens]
theorem ens_cons (x : S25) (l : List S25) : ens (x :: l) = en x ++ ens l := rfl
theorem ens_one (l : List S25) : ∀ v ∈ ens l, v.oneCell' = true := by
  intro v hv
  simp only [ens, List.mem_flatten, List.mem_map] at hv
  obtain ⟨_, ⟨x, _, rfl⟩, hv⟩ := hv
  simp only [en, List.mem_cons, List.not_mem_nil, or_false] at hv
  rcases hv with rfl | rfl <;> rfl
theorem reps_ens (w : World) (base : Nat) (ok : Nat → Prop) (l : List S25) : Reps (k25.M w base ok) 2 l (ens l) := by
  refine ⟨ens_length l, ?_⟩
  intro j p hj
  have hl : j < l.length := (List.getElem?_eq_some_iff.1 hj).1
  have e : ((ens l).drop (j * 2)).take 2 = en p := by
    have h1 : l = l.take j ++ p :: l.drop (j + 1) := by
      rw [← (List.getElem?_eq_some_iff.1 hj).2, ← List.drop_eq_getElem_cons hl, List.take_append_drop]
    have h2 : (ens (l.take j)).length = j * 2 := by rw [ens_length, List.length_take]; omega
    rw [h1, ens_append, ens_cons, ← h2, List.drop_left]
    rfl
  rw [e]
  exact k25_mkM w base ok p
theorem ens_of_reps {w : World} {base : Nat} {ok : Nat → Prop} : ∀ {l : List S25} {inner : List Value}, Reps (k25.M w base ok) 2 l inner → inner = ens l := by
  intro l inner h
  obtain ⟨h1, h2⟩ := h
  apply List.ext_getElem?
  intro i
  by_cases hi : i < l.length * 2
  · have hj := h2 (i / 2) _ (List.getElem?_eq_getElem (show i / 2 < l.length by omega))
    have e1 := k25_openM hj
    have e2 := k25_openM ((reps_ens w base ok l).2 (i / 2) _ (List.getElem?_eq_getElem (show i / 2 < l.length by omega)))
    have e3 : ((inner.drop (i / 2 * 2)).take 2)[i % 2]? = (((ens l).drop (i / 2 * 2)).take 2)[i % 2]? := by rw [e1, e2]
    rw [List.getElem?_take, List.getElem?_take, if_pos (by omega), if_pos (by omega), List.getElem?_drop, List.getElem?_drop, show i / 2 * 2 + i % 2 = i by omega] at e3
    exact e3
  · rw [List.getElem?_eq_none (by omega), List.getElem?_eq_none (by rw [ens_length]; omega)]
theorem own25 {w : World} {base : Nat} {ok : Nat → Prop} {v : Value} {l : List S25} (h : Kd.R k25 25 w base ok v l) : w.ownsRow base 25 2 v l.length (ens l) := by
  obtain ⟨_, inner, ho, hr⟩ := h
  rw [← ens_of_reps hr]
  exact ho
theorem R25 {w : World} {base : Nat} {ok : Nat → Prop} {v : Value} {l : List S25} (h : w.ownsRow base 25 2 v l.length (ens l)) (hok : ∀ k, v.ownBlock = some k → ok k) : Kd.R k25 25 w base ok v l := ⟨hok, ens l, h, reps_ens _ _ _ _⟩

theorem reads_en {w : World} {A : Option Addr} {n : Nat} {l : List S25} (h : Kd.C k25 w A n l) : ReadsRow (fun x cs => cs = en x) 2 w A n l := by
  obtain ⟨h1, h2, h3⟩ := h
  refine ⟨h1, h2, fun hn => ?_⟩
  obtain ⟨ad, hA, hc⟩ := h3 hn
  refine ⟨ad, hA, fun j p hj => ?_⟩
  obtain ⟨c, hl, hK, hcell⟩ := hc j p hj
  exact ⟨c, hl, k25_open hK, hcell⟩

set_option maxRecDepth 100000 in
set_option maxHeartbeats 1000000 in
theorem clone_calls (A0 : Option Addr) (c0 : Nat) (l : List S25) (w : World) (hr : Kd.C k25 w A0 l.length l) (hl : l.length ≤ 5864062014805) :
    Calls Try.prog 25 #[.slice A0 l.length c0] w fun e w' => ∃ v, e = .returned v ∧ Kd.R k25 25 w' w.heap.size (fun _ => True) v l ∧ Below w.heap.size w w' := by
  have hnil : A0 = none → l = [] := fun h => by
    rcases Nat.eq_zero_or_pos l.length with h0 | h0
    · exact List.eq_nil_of_length_eq_zero h0
    · obtain ⟨ad, hA, _⟩ := hr.2.2 h0
      rw [h] at hA
      cases hA
  have Hr := Lib.hid hr
  clear hr
  cases A0 with
  | none =>
    obtain rfl := hnil rfl
    have hq : ∀ W, (binOp .eql 22 (.slice none 0 c0) (.slice none 0 0)).run Try.prog W = .ok (.bool true) W := fun W => Lib.run_eql_slice_nil (P := Try.prog) W 22 25 none 0 c0 0 0 Try.underlying22
    go_enter Try.func25, Try.ntmps25
    go_wp2
    go_ret
    exact ⟨_, rfl, Kd.R_nil _ _ _ _ _, Below.refl _ _⟩
  | some ad =>
    have hq : ∀ W, (binOp .eql 22 (.slice (some ad) l.length c0) (.slice none 0 0)).run Try.prog W = .ok (.bool false) W := fun W => Lib.run_eql_slice_nil (P := Try.prog) W 22 25 (some ad) l.length c0 0 0 Try.underlying22
    clear hnil
    have hO0 : Kd.R k25 25 (w.alloc (.cells #[] 25)) w.heap.size (fun _ => True) (.slice (some ⟨w.heap.size, 0, none⟩) 0 0) [] := R25 ⟨rfl, .inr ⟨_, 0, _, rfl, Nat.le_refl _, World.alloc_heap_new w _, Nat.le_refl _, by decide, rfl, rfl⟩⟩ (fun _ _ => trivial)
    have hB0 : Below w.heap.size w (w.alloc (.cells #[] 25)) := (Below.refl _ _).alloc (Nat.le_refl _) _
    have hC0 := Kd.C_below Hr.out hB0
    have HO0 := Lib.hid hO0
    have HC0 := Lib.hid hC0
    clear hO0 hC0
    go_enter Try.func25, Try.ntmps25
    go_wp2_with ((with_reducible refine gate_builtin (b := .append) (xs := #[.tmp 5, .tmp 6]) rfl ?_); at_builtin; refine Kd.R_append_rows k25 (Rr := fun x cs => cs = en x) (w0 := w) w.heap.size rfl (.tmp 5) (.tmp 6) 22 25 (.agg #[(.int .u32 0), (.string ⟨#[]⟩)]) 24 rfl Try.underlying22 info25 rfl (by decide) (by decide) _ [] l (some ad) l.length c0 (fun _ => True) (fun _ => False) rfl rfl HO0.out ?p2 ?p1 (fun _ h => h.elim) (fun _ _ => trivial) hB0 ?p4 ?p5 ?_; (case p1 => exact fun x cs h => by rw [h]; exact k25_mkM _ _ _ x); (case p2 => exact reads_en HC0.out); (case p4 => (rw [World.size_alloc]; omega)); (case p5 => (simp only [List.length_nil, Nat.zero_add]; omega)); intro v3 w3 ho3 hb3 hgr3 hat3)
    go_ret
    exact ⟨_, rfl, ho3, hb3⟩

end Go.Proofs.Ytdoaohmjhbefdaa.H
