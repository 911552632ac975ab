/- keys.Drop: the walk. -/
import Derived.Test.YtdoaohmjhbefdaaH2
import Derived.Test.YtdoaohmjhbefdaaH1
import Derived.Test.YtdoaohmjhbefdaaC3
namespace Go.Proofs.Ytdoaohmjhbefdaa.H
open Go.RowKit Go.Shelf Go.Proofs.YtdoaohmjhbefdaaW.PrintWords Go.Proofs.YtdoaohmjhbefdaaW.PrintLast Go.Proofs.YtdoaohmjhbefdaaW.PrintMore
attribute [local go_sem] Oper.semAt_some
set_option linter.unusedVariables false
set_option linter.unusedSimpArgs false

def eqK (k x : S25) : Bool := x.f0 == k.f0 && (x.f1.toList == k.f1.toList)

theorem drop1 (x : S25) (g : Nat) (k : S25) (w : World) (hg : w.heap[g]? = some (elt k)) :
    Calls Try.prog 27 #[.agg #[.int .u32 x.f0, .string x.f1], .pointer (some ⟨g, 0, none⟩)] w fun e w' => e = .returned (.bool (eqK k x)) ∧ Below w.heap.size w w' := by
  obtain ⟨c0, c1, c2⟩ := box2_at hg
  have hlt := (Array.getElem?_eq_some_iff.1 hg).1
  have he : ∀ W, (Op.equalIn 10000 25 (.agg #[.int .u32 x.f0, .string x.f1]) (.agg #[.int .u32 k.f0, .string k.f1])).run Try.prog W = .ok (eqK k x) W := fun W => eqA25 9998 W _ _ _ _
  generalize eqK k x = b at *
  go_enter Try.func27, Try.ntmps27
  go_wp2
  go_ret
  exact ⟨rfl, (Below.refl _ _).alloc (Nat.le_refl _) _⟩

set_option maxRecDepth 100000 in
set_option maxHeartbeats 1000000 in
theorem indexFunc_drop (A0 : Option Addr) (c0 : Nat) (l : List S25) (g : Nat) (kk : S25) (w : World) (hg : w.heap[g]? = some (elt kk)) (hr : Kd.C k25 w A0 l.length l) (hl : l.length ≤ 5864062014805) :
    Calls Try.prog 26 #[.slice A0 l.length c0, .func (.func 27) #[] #[.pointer (some ⟨g, 0, none⟩)]] w fun e w' => e = .returned (.int .i64 (idx (eqK kk) l)) ∧ Below w.heap.size w w' := by
  have Hr := Lib.hid hr
  clear hr
  go_enter Try.func26, Try.ntmps26
  go_wp2
  go_loopw [8] (fun v wr => ∃ i : Nat, v = .int .i64 i ∧ i ≤ l.length ∧ (∀ j, j < i → eqK kk (rd_T25 l j) = false) ∧ Below w.heap.size w wr) (fun v _ => l.length - (intOf v).toNat)
  case atStart => exact ⟨0, rfl, Nat.zero_le _, fun j h => by omega, Below.refl _ _⟩
  case round =>
    obtain ⟨i, rfl, hi, hq, hB⟩ := hrel
    have Hq := Lib.hid hq
    clear hq
    by_cases hie : i = l.length
    · subst hie
      go_wp2
      go_ret
      exact ⟨by rw [idx_none _ _ Hq.out]; rfl, hB⟩
    · have hlt : decide ((i : Int) < (l.length : Int)) = true := decide_eq_true (by omega)
      have hi0 : (0 : Int) ≤ (i : Int) := by omega
      have hi1 : (i : Int) < (l.length : Int) := by omega
      obtain ⟨ad, rfl, hc0, hc1⟩ := at_T25 (Kd.C_below Hr.out hB) (i : Int) hi0 (by simpa using hi1)
      rw [Int.toNat_natCast] at hc0 hc1
      have hgr : wr.heap[g]? = some (elt kk) := (hB.block g (Array.getElem?_eq_some_iff.1 hg).1).trans hg
      have hat := idx_at (eqK kk) l i (by omega)
      have hnx : eqK kk (rd_T25 l i) = false → ∀ j, j < i + 1 → eqK kk (rd_T25 l j) = false := fun h j hj => by
        by_cases e : j = i
        · subst e; exact h
        · exact Hq.out j (by omega)
      have hp1 := drop1 (rd_T25 l i) g kk wr hgr
      obtain ⟨b, hb⟩ : ∃ b, eqK kk (rd_T25 l i) = b := ⟨_, rfl⟩
      rw [hb] at hp1 hnx
      have Hat := Lib.hid hat
      have Hb := Lib.hid hb
      have Hnx := Lib.hid hnx
      have Hp1 := Lib.hid hp1
      clear hat hb hnx hp1
      cases b with
      | true =>
        go_wp2_with (go_at_call 27; refine Hp1.out.mono ?_; rintro e w1 ⟨rfl, hb1⟩)
        go_ret
        exact ⟨by rw [Hat.out Hb.out Hq.out]; rfl, hB.trans (hb1.mono hB.size)⟩
      | false =>
        go_wp2_with (go_at_call 27; refine Hp1.out.mono ?_; rintro e w1 ⟨rfl, hb1⟩)
        exact ⟨⟨i + 1, by go_num, by omega, Hnx.out (by trivial), hB.trans (hb1.mono hB.size)⟩, by simp [intOf]; omega⟩


def keys_Drop.f (l : List S25) (gen : Int) : Option (List S25 × Int) :=
  if l.length ≤ 100000 then (keys_Find.f l gen).bind fun r => if r.2.2 = 0 then (if 0 ≤ idx (eqK ⟨r.1, r.2.1⟩) l then some (l.take (idx (eqK ⟨r.1, r.2.1⟩) l).toNat ++ l.drop ((idx (eqK ⟨r.1, r.2.1⟩) l).toNat + 1), 0) else none) else some ([], r.2.2) else none

set_option maxRecDepth 100000 in
set_option maxHeartbeats 4000000 in
theorem keys_Drop.calls (A0 : Option Addr) (c0 : Nat) (l0 : List (S25)) (a1 : Int) (r1 : List (S25)) (r2 : Int) (w : World) (hr0 : Kd.C k25 w A0 l0.length l0) (hc0 : l0.length ≤ c0) (h : keys_Drop.f l0 a1 = some (r1, r2)) :
    Calls Try.prog 14 #[.slice A0 l0.length c0, .int .u32 a1] w fun e w' => ∃ v0_ : Value, e = .returned (.tuple #[v0_, .int .i64 r2]) ∧ Kd.R k25 25 w' w.heap.size (fun _ => True) v0_ r1 ∧ Below w.heap.size w w' := by
  have hsz : l0.length ≤ 100000 := by
    unfold keys_Drop.f at h
    split at h
    · assumption
    · cases h
  rw [keys_Drop.f, if_pos hsz] at h
  obtain ⟨⟨kg, ks, ke⟩, hf, hT⟩ := Option.bind_eq_some_iff.1 h
  clear h
  simp only at hT
  have hfc := fun W hW => keys_Find.calls A0 c0 l0 a1 kg ks ke W (Kd.C_below hr0 hW) hc0 hf
  have Hfc := Lib.hid hfc
  have Hr0 := Lib.hid hr0
  clear hfc hr0 hf
  by_cases hke : ke = 0
  · rw [if_pos hke] at hT
    by_cases hj : 0 ≤ idx (eqK ⟨kg, ks⟩) l0
    · rw [if_pos hj] at hT
      have hjr := idx_range (eqK ⟨kg, ks⟩) l0
      obtain ⟨j, hje⟩ : ∃ j : Nat, idx (eqK ⟨kg, ks⟩) l0 = (j : Int) := ⟨(idx (eqK ⟨kg, ks⟩) l0).toNat, by omega⟩
      have hif := fun W g hW hg => indexFunc_drop A0 c0 l0 g ⟨kg, ks⟩ W hg (Kd.C_below Hr0.out hW) (by omega)
      rw [hje] at hT hjr hif
      rw [Int.toNat_natCast] at hT
      have hT2 := Option.some.inj hT
      obtain ⟨rfl, rfl⟩ := Prod.mk.inj hT2
      have Hif := Lib.hid hif
      subst hke
      clear hT hT2 hif hje hj
      have hj0 : (0 : Int) ≤ (j : Int) := by omega
      have hj1 : j < l0.length := by omega
      have hj2 : (j : Int) ≤ (l0.length : Int) := by omega
      have hj3 : (j : Int) ≤ (c0 : Int) := by omega
      go_enter Try.func14, Try.ntmps14
      go_upto_region 4 with (go_at_call 16; refine (Hfc.out _ (Below.refl _ _)).mono ?_; rintro e w1 ⟨rfl, hb1⟩)
      have hlen := hj1
      obtain ⟨ad, rfl⟩ : ∃ ad, A0 = some ad := by
        obtain ⟨ad, hA, _⟩ := Hr0.out.2.2 (by omega)
        exact ⟨ad, hA⟩
      have hB1 : Below w.heap.size w (w1.alloc (elt ⟨kg, ks⟩)) := hb1.alloc hb1.size _
      have hIf := Hif.out (w1.alloc (elt ⟨kg, ks⟩)) w1.heap.size hB1 (World.alloc_heap_new _ _)
      have hE : elt ⟨kg, ks⟩ = .cells #[.int .u32 kg, .string ks] 25 (0, 0) := rfl
      rw [hE] at hIf hB1
      have HB1 := Lib.hid hB1
      have HIf := Lib.hid hIf
      have hj4 : (0 : Int) ≤ (j : Int) + 1 := by omega
      have hj7 : (j : Int) ≤ (j : Int) + 1 := by omega
      have hj5 : (j : Int) + 1 ≤ (l0.length : Int) := by omega
      have hj6 : ((j : Int) + 1).toNat = j + 1 := by omega
      have hltj : (l0.take j).length = j := by rw [List.length_take]; omega
      have hcl : ∀ W, Kd.C k25 W (some ad) l0.length l0 → Calls Try.prog 25 #[.slice (some ad) j j] W fun e w' => ∃ v, e = .returned v ∧ Kd.R k25 25 w' W.heap.size (fun _ => True) v (l0.take j) ∧ Below W.heap.size W w' := fun W hW => by
        have h := clone_calls (some ad) j (l0.take j) W (Kd.C_take hW (by omega)) (by omega)
        rw [hltj] at h
        exact h
      have Hcl := Lib.hid hcl
      clear hB1 hIf Hif Hfc hE hlen hcl
      by_cases hcj : c0 = j + 1
      · subst hcj
        have hje : l0.drop (j + 1) = [] := List.drop_eq_nil_of_le (by omega)
        have hdr : ∀ W, Kd.C k25 W (some ad) l0.length l0 → Kd.C k25 W (some ad) 0 (l0.drop (j + 1)) := fun W _ => by
          rw [hje]
          exact ⟨rfl, by decide, fun h => by omega⟩
        have hp5 : ((l0.take j).length + 0) * 24 ≤ 140737488355328 := by omega
        have Hdr := Lib.hid hdr
        have Hp5 := Lib.hid hp5
        clear hje hdr hp5 hltj
        go_upto_region 5 with (go_at_call 26; refine HIf.out.mono ?_; rintro e w2 ⟨rfl, hb2⟩)
        have hB2 : Below w.heap.size w w2 := HB1.out.trans (hb2.mono (by rw [World.size_alloc]; have := hb1.size; omega))
        have hC2 := Kd.C_below Hr0.out hB2
        clear hb2
        have hw1 : IntKind.i64.wrap ((j : Int) + 1) = (j : Int) + 1 := by rw [IntKind.wrap_i64]; omega
        refine start_ (n := 12) (S := fun W => Kd.C k25 W (some ad) l0.length l0) (ds := [9]) #[false, false, false, false, false, false, false, false, false, false, false, false] (by kernel_rfl) rfl rfl (Kd.C_below hC2 (Below.drew (Below.refl _ _))) (fun hHeld => ?_)
        have hB3 := hB2.drew
        generalize w2.drew = W0 at hHeld hB3 ⊢
        clear hB2 hC2
        refine pure_ (i := 0) (N := some 21) (v := ?_) (a' := ?_) #[true, false, false, false, false, false, false, false, false, false, false, false] rfl rfl (by kernel_rfl) (fun _ _ _ h => h) (Or.inl ⟨by rfl, ?_⟩) ?_ ?_
        rotate_left
        · intro w'
          go_simp
          try (with_reducible rfl)
        rotate_left
        · simp only [Act.put, List.setIfInBounds_toArray, List.set_cons_zero, List.set_cons_succ, i64_w, i32_w]
          rfl
        refine pure_ (i := 1) (N := some 22) (v := ?_) (a' := ?_) #[true, true, false, false, false, false, false, false, false, false, false, false] rfl rfl (by kernel_rfl) (fun _ _ _ h => h) (Or.inl ⟨by rfl, ?_⟩) ?_ ?_
        rotate_left
        · intro w'
          go_simp
          try (with_reducible rfl)
        rotate_left
        · simp only [Act.put, List.setIfInBounds_toArray, List.set_cons_zero, List.set_cons_succ, i64_w, i32_w]
          rfl
        refine pure_ (i := 2) (N := some 23) (v := ?_) (a' := ?_) #[true, true, true, false, false, false, false, false, false, false, false, false] rfl rfl (by kernel_rfl) (fun _ _ _ h => h) (Or.inl ⟨by rfl, ?_⟩) ?_ ?_
        rotate_left
        · intro w'
          go_simp
          try (with_reducible rfl)
        rotate_left
        · simp only [Act.put, List.setIfInBounds_toArray, List.set_cons_zero, List.set_cons_succ, i64_w, i32_w]
          rfl
        refine pure_ (i := 3) (N := some 24) (v := ?_) (a' := ?_) #[true, true, true, true, false, false, false, false, false, false, false, false] rfl rfl (by kernel_rfl) (fun _ _ _ h => h) (Or.inl ⟨by rfl, ?_⟩) ?_ ?_
        rotate_left
        · intro w'
          go_simp
          try (with_reducible rfl)
        rotate_left
        · simp only [Act.put, List.setIfInBounds_toArray, List.set_cons_zero, List.set_cons_succ, i64_w, i32_w]
          rfl
        refine pure_ (i := 5) (N := some 26) (v := ?_) (a' := ?_) #[true, true, true, true, false, true, false, false, false, false, false, false] rfl rfl (by kernel_rfl) (fun _ _ _ h => h) (Or.inl ⟨by rfl, ?_⟩) ?_ ?_
        rotate_left
        · intro w'
          go_simp
          try (with_reducible rfl)
        rotate_left
        · simp only [Act.put, List.setIfInBounds_toArray, List.set_cons_zero, List.set_cons_succ, i64_w, i32_w]
          rfl
        refine pure_ (i := 6) (N := some 27) (v := ?_) (a' := ?_) #[true, true, true, true, false, true, true, false, false, false, false, false] rfl rfl (by kernel_rfl) (fun _ _ _ h => h) (Or.inl ⟨by rfl, ?_⟩) ?_ ?_
        rotate_left
        · intro w'
          go_simp
          try (with_reducible rfl)
        rotate_left
        · simp only [Act.put, List.setIfInBounds_toArray, List.set_cons_zero, List.set_cons_succ, i64_w, i32_w]
          rfl
        refine pure_ (i := 7) (N := some 28) (v := ?_) (a' := ?_) #[true, true, true, true, false, true, true, true, false, false, false, false] rfl rfl (by kernel_rfl) (fun _ _ _ h => h) (Or.inl ⟨by rfl, ?_⟩) ?_ ?_
        rotate_left
        · intro w'
          go_simp
          try (with_reducible rfl)
        rotate_left
        · simp only [Act.put, List.setIfInBounds_toArray, List.set_cons_zero, List.set_cons_succ, i64_w, i32_w]
          rfl
        refine pure_ (i := 8) (N := some 29) (v := ?_) (a' := ?_) #[true, true, true, true, false, true, true, true, true, false, false, false] rfl rfl (by kernel_rfl) (fun _ _ _ h => h) (Or.inl ⟨by rfl, ?_⟩) ?_ ?_
        rotate_left
        · intro w'
          go_simp
          try (with_reducible rfl)
        rotate_left
        · simp only [Act.put, List.setIfInBounds_toArray, List.set_cons_zero, List.set_cons_succ, i64_w, i32_w]
          rfl
        refine one_ (i := 4) (N := some 25) #[true, true, true, true, true, true, true, true, true, false, false, false] rfl rfl (by kernel_rfl) (by decide) (fun K hK => ?_)
        refine goes_ Try.func25 (by kernel_rfl) rfl #[.slice (some ad) j j] (by rfl) rfl rfl (by (try simp only [List.map_toArray, List.map_cons, List.map_nil]); first | done | rfl) ?_
        refine (Hcl.out W0 hHeld).mono ?_
        rintro e w3 ⟨v, rfl, hv, hb3⟩
        refine ⟨_, rfl, ?_⟩
        have hC3 := Kd.C_below hHeld hb3
        refine hK.out _ _ hC3 (fun _ => ?_)
        clear hK K
        have hB4 : Below w.heap.size w w3 := hB3.trans (hb3.mono hB3.size)
        have hv3 := Kd.R_lower hv hB3.size
        have hDr := Hdr.out w3 hC3
        refine last_ (i := 9) (N := some 30) #[true, true, true, true, true, true, true, true, true, true, false, false] rfl rfl (by kernel_rfl) (by decide) (fun K hK => ?_)
        refine Kd.R_append_rows_step k25 (Rr := fun x cs => cs = en x) (w0 := w) w.heap.size (by rfl) (.tmp 25) (.tmp 29) 22 25 (.agg #[(.int .u32 0), (.string ⟨#[]⟩)]) 24 rfl Try.underlying22 info25 rfl (by decide) (by decide) v (l0.take j) (l0.drop (j + 1)) (some ad) 0 0 (fun _ => True) (fun _ => False) (by rfl) (by rfl) hv3 (reads_en hDr) (fun x cs h => by rw [h]; exact k25_mkM _ _ _ x) (fun _ h => h.elim) (fun _ _ => trivial) hB4 hB4.size Hp5.out ?_
        intro v4 w4 ho4 hb4 hgr4 hat4
        refine hK.out _ _ ?_
        clear hK K
        refine pure_ (i := 10) (N := some 4) (v := ?_) (a' := ?_) #[true, true, true, true, true, true, true, true, true, true, true, false] rfl rfl (by kernel_rfl) (fun _ _ _ h => h) (Or.inl ⟨by rfl, ?_⟩) ?_ ?_
        rotate_left
        · intro w'
          go_simp
          try (with_reducible rfl)
        rotate_left
        · simp only [Act.put, List.setIfInBounds_toArray, List.set_cons_zero, List.set_cons_succ, List.getElem_toArray, List.getElem_cons_succ, List.getElem_cons_zero, i64_w, i32_w]
          rfl
        refine pure_ (i := 11) (N := some 5) (v := ?_) (a' := ?_) #[true, true, true, true, true, true, true, true, true, true, true, true] rfl rfl (by kernel_rfl) (fun _ _ _ h => h) (Or.inl ⟨by rfl, ?_⟩) ?_ ?_
        rotate_left
        · intro w'
          go_simp
          try (with_reducible rfl)
        rotate_left
        · simp only [Act.put, List.setIfInBounds_toArray, List.set_cons_zero, List.set_cons_succ, List.getElem_toArray, List.getElem_cons_succ, List.getElem_cons_zero, i64_w, i32_w]
          rfl
        refine done_ (by kernel_rfl) ?_
        go_wp2
        go_ret2
        exact ⟨_, rfl, ho4, hb4⟩
      · have hcj2 : ¬ ((c0 : Int) = (j : Int) + 1) := by omega
        have hdr : ∀ W, Kd.C k25 W (some ad) l0.length l0 → Kd.C k25 W (some (ad.add ((j + 1) * 2))) (l0.length - (j + 1)) (l0.drop (j + 1)) := fun W hW => by
          have h := Kd.C_drop (m := j + 1) hW (by omega) hc0
          rw [if_neg hcj, List.length_drop] at h
          exact h
        have hp5 : ((l0.take j).length + (l0.length - (j + 1))) * 24 ≤ 140737488355328 := by omega
        have Hdr := Lib.hid hdr
        have Hp5 := Lib.hid hp5
        clear hdr hp5 hltj
        go_upto_region 5 with (go_at_call 26; refine HIf.out.mono ?_; rintro e w2 ⟨rfl, hb2⟩)
        have hB2 : Below w.heap.size w w2 := HB1.out.trans (hb2.mono (by rw [World.size_alloc]; have := hb1.size; omega))
        have hC2 := Kd.C_below Hr0.out hB2
        clear hb2
        have hw1 : IntKind.i64.wrap ((j : Int) + 1) = (j : Int) + 1 := by rw [IntKind.wrap_i64]; omega
        refine start_ (n := 12) (S := fun W => Kd.C k25 W (some ad) l0.length l0) (ds := [9]) #[false, false, false, false, false, false, false, false, false, false, false, false] (by kernel_rfl) rfl rfl (Kd.C_below hC2 (Below.drew (Below.refl _ _))) (fun hHeld => ?_)
        have hB3 := hB2.drew
        generalize w2.drew = W0 at hHeld hB3 ⊢
        clear hB2 hC2
        refine pure_ (i := 0) (N := some 21) (v := ?_) (a' := ?_) #[true, false, false, false, false, false, false, false, false, false, false, false] rfl rfl (by kernel_rfl) (fun _ _ _ h => h) (Or.inl ⟨by rfl, ?_⟩) ?_ ?_
        rotate_left
        · intro w'
          go_simp
          try (with_reducible rfl)
        rotate_left
        · simp only [Act.put, List.setIfInBounds_toArray, List.set_cons_zero, List.set_cons_succ, i64_w, i32_w]
          rfl
        refine pure_ (i := 1) (N := some 22) (v := ?_) (a' := ?_) #[true, true, false, false, false, false, false, false, false, false, false, false] rfl rfl (by kernel_rfl) (fun _ _ _ h => h) (Or.inl ⟨by rfl, ?_⟩) ?_ ?_
        rotate_left
        · intro w'
          go_simp
          try (with_reducible rfl)
        rotate_left
        · simp only [Act.put, List.setIfInBounds_toArray, List.set_cons_zero, List.set_cons_succ, i64_w, i32_w]
          rfl
        refine pure_ (i := 2) (N := some 23) (v := ?_) (a' := ?_) #[true, true, true, false, false, false, false, false, false, false, false, false] rfl rfl (by kernel_rfl) (fun _ _ _ h => h) (Or.inl ⟨by rfl, ?_⟩) ?_ ?_
        rotate_left
        · intro w'
          go_simp
          try (with_reducible rfl)
        rotate_left
        · simp only [Act.put, List.setIfInBounds_toArray, List.set_cons_zero, List.set_cons_succ, i64_w, i32_w]
          rfl
        refine pure_ (i := 3) (N := some 24) (v := ?_) (a' := ?_) #[true, true, true, true, false, false, false, false, false, false, false, false] rfl rfl (by kernel_rfl) (fun _ _ _ h => h) (Or.inl ⟨by rfl, ?_⟩) ?_ ?_
        rotate_left
        · intro w'
          go_simp
          try (with_reducible rfl)
        rotate_left
        · simp only [Act.put, List.setIfInBounds_toArray, List.set_cons_zero, List.set_cons_succ, i64_w, i32_w]
          rfl
        refine pure_ (i := 5) (N := some 26) (v := ?_) (a' := ?_) #[true, true, true, true, false, true, false, false, false, false, false, false] rfl rfl (by kernel_rfl) (fun _ _ _ h => h) (Or.inl ⟨by rfl, ?_⟩) ?_ ?_
        rotate_left
        · intro w'
          go_simp
          try (with_reducible rfl)
        rotate_left
        · simp only [Act.put, List.setIfInBounds_toArray, List.set_cons_zero, List.set_cons_succ, i64_w, i32_w]
          rfl
        refine pure_ (i := 6) (N := some 27) (v := ?_) (a' := ?_) #[true, true, true, true, false, true, true, false, false, false, false, false] rfl rfl (by kernel_rfl) (fun _ _ _ h => h) (Or.inl ⟨by rfl, ?_⟩) ?_ ?_
        rotate_left
        · intro w'
          go_simp
          try (with_reducible rfl)
        rotate_left
        · simp only [Act.put, List.setIfInBounds_toArray, List.set_cons_zero, List.set_cons_succ, i64_w, i32_w]
          rfl
        refine pure_ (i := 7) (N := some 28) (v := ?_) (a' := ?_) #[true, true, true, true, false, true, true, true, false, false, false, false] rfl rfl (by kernel_rfl) (fun _ _ _ h => h) (Or.inl ⟨by rfl, ?_⟩) ?_ ?_
        rotate_left
        · intro w'
          go_simp
          try (with_reducible rfl)
        rotate_left
        · simp only [Act.put, List.setIfInBounds_toArray, List.set_cons_zero, List.set_cons_succ, i64_w, i32_w]
          rfl
        refine pure_ (i := 8) (N := some 29) (v := ?_) (a' := ?_) #[true, true, true, true, false, true, true, true, true, false, false, false] rfl rfl (by kernel_rfl) (fun _ _ _ h => h) (Or.inl ⟨by rfl, ?_⟩) ?_ ?_
        rotate_left
        · intro w'
          go_simp
          try (with_reducible rfl)
        rotate_left
        · simp only [Act.put, List.setIfInBounds_toArray, List.set_cons_zero, List.set_cons_succ, i64_w, i32_w]
          rfl
        refine one_ (i := 4) (N := some 25) #[true, true, true, true, true, true, true, true, true, false, false, false] rfl rfl (by kernel_rfl) (by decide) (fun K hK => ?_)
        refine goes_ Try.func25 (by kernel_rfl) rfl #[.slice (some ad) j j] (by rfl) rfl rfl (by (try simp only [List.map_toArray, List.map_cons, List.map_nil]); first | done | rfl) ?_
        refine (Hcl.out W0 hHeld).mono ?_
        rintro e w3 ⟨v, rfl, hv, hb3⟩
        refine ⟨_, rfl, ?_⟩
        have hC3 := Kd.C_below hHeld hb3
        refine hK.out _ _ hC3 (fun _ => ?_)
        clear hK K
        have hB4 : Below w.heap.size w w3 := hB3.trans (hb3.mono hB3.size)
        have hv3 := Kd.R_lower hv hB3.size
        have hDr := Hdr.out w3 hC3
        refine last_ (i := 9) (N := some 30) #[true, true, true, true, true, true, true, true, true, true, false, false] rfl rfl (by kernel_rfl) (by decide) (fun K hK => ?_)
        refine Kd.R_append_rows_step k25 (Rr := fun x cs => cs = en x) (w0 := w) w.heap.size (by rfl) (.tmp 25) (.tmp 29) 22 25 (.agg #[(.int .u32 0), (.string ⟨#[]⟩)]) 24 rfl Try.underlying22 info25 rfl (by decide) (by decide) v (l0.take j) (l0.drop (j + 1)) (some (ad.add ((j + 1) * 2))) (l0.length - (j + 1)) (c0 - (j + 1)) (fun _ => True) (fun _ => False) (by rfl) (by rfl) hv3 (reads_en hDr) (fun x cs h => by rw [h]; exact k25_mkM _ _ _ x) (fun _ h => h.elim) (fun _ _ => trivial) hB4 hB4.size Hp5.out ?_
        intro v4 w4 ho4 hb4 hgr4 hat4
        refine hK.out _ _ ?_
        clear hK K
        refine pure_ (i := 10) (N := some 4) (v := ?_) (a' := ?_) #[true, true, true, true, true, true, true, true, true, true, true, false] rfl rfl (by kernel_rfl) (fun _ _ _ h => h) (Or.inl ⟨by rfl, ?_⟩) ?_ ?_
        rotate_left
        · intro w'
          go_simp
          try (with_reducible rfl)
        rotate_left
        · simp only [Act.put, List.setIfInBounds_toArray, List.set_cons_zero, List.set_cons_succ, List.getElem_toArray, List.getElem_cons_succ, List.getElem_cons_zero, i64_w, i32_w]
          rfl
        refine pure_ (i := 11) (N := some 5) (v := ?_) (a' := ?_) #[true, true, true, true, true, true, true, true, true, true, true, true] rfl rfl (by kernel_rfl) (fun _ _ _ h => h) (Or.inl ⟨by rfl, ?_⟩) ?_ ?_
        rotate_left
        · intro w'
          go_simp
          try (with_reducible rfl)
        rotate_left
        · simp only [Act.put, List.setIfInBounds_toArray, List.set_cons_zero, List.set_cons_succ, List.getElem_toArray, List.getElem_cons_succ, List.getElem_cons_zero, i64_w, i32_w]
          rfl
        refine done_ (by kernel_rfl) ?_
        go_wp2
        go_ret2
        exact ⟨_, rfl, ho4, hb4⟩
    · rw [if_neg hj] at hT
      cases hT
  · rw [if_neg hke] at hT
    have hT2 := Option.some.inj hT
    obtain ⟨rfl, rfl⟩ := Prod.mk.inj hT2
    have hn : (ke == 0) = false := beq_eq_false_iff_ne.2 hke
    have hn2 : (ke != 0) = true := bne_iff_ne.2 hke
    clear hT hT2
    go_enter Try.func14, Try.ntmps14
    go_wp2_with (go_at_call 16; refine (Hfc.out _ (Below.refl _ _)).mono ?_; rintro e w1 ⟨rfl, hb1⟩)
    go_ret2
    exact ⟨_, rfl, Kd.R_nil _ _ _ _ _, hb1.alloc hb1.size _⟩

end Go.Proofs.Ytdoaohmjhbefdaa.H
