/- KeysAdds, KeysDrops: the walks. Written by keys_laws.py. -/
import Derived.Test.YtdoaohmjhbefdaaL2
namespace Go.Proofs.Ytdoaohmjhbefdaa.H
open Go.RowKit Go.Shelf Go.Proofs.YtdoaohmjhbefdaaW.PrintWords Go.Proofs.YtdoaohmjhbefdaaW.PrintLast Go.Proofs.YtdoaohmjhbefdaaW.PrintMore Go.Proofs.Ytdoaohmjhbefdaa.CopyK
attribute [local go_sem] Oper.semAt_some
set_option linter.unusedVariables false
set_option linter.unusedSimpArgs false
set_option maxRecDepth 100000

theorem drop_len {l : List S25} {g : Int} {a : List S25} {e : Int} (h : dropOf l g = (a, e)) : a.length ≤ l.length := by
  unfold dropOf at h
  split at h
  · rw [← (Prod.mk.inj h).1, without]
    exact List.length_filter_le _ _
  · rw [← (Prod.mk.inj h).1]
    exact Nat.zero_le _
theorem eq_ok (x : Int) (y : ByteArray) (W : World) : (Op.equalIn 10000 25 (.agg #[.int .u32 x, .string y]) (.agg #[.int .u32 x, .string y])).run Try.prog W = .ok true W := by
  have h := eqA25 9998 W x x y y
  rw [h]
  simp

set_option maxHeartbeats 8000000 in
theorem KeysAdds_walk (A0 : Option Addr) (n c0 : Nat) (L : List S25) (g : Int) (s : ByteArray) (W : World) (hn : n ≤ c0) (hL : L.length = min n 30) (hC : Kd.C k25 W A0 L.length L) :
    Calls Try.prog 3 #[.slice A0 n c0, .agg #[.int .u32 g, .string s]] W fun e W' => e = .returned (.bool true) ∧ Below W.heap.size W W' := by
  obtain ⟨a, e, had⟩ : ∃ a e, addOf L ⟨g, s⟩ = (a, e) := ⟨_, _, rfl⟩
  have hal := add_len had
  have hl2 : a.length ≤ 400 := by omega
  clear hal
  have hl : L.length ≤ 400 := by omega
  have hc : L.length ≤ c0 := by omega
  have HL := Lib.hid hL
  have Had := Lib.hid had
  clear hL had
  have hb1 : Below W.heap.size W (W.alloc (Obj.cells #[.int .u32 g, .string s] 25 (0, 0))) := (Below.refl _ _).alloc (Nat.le_refl _) _
  have hX : (W.alloc (Obj.cells #[.int .u32 g, .string s] 25 (0, 0))).heap[W.heap.size]? = some (Obj.cells #[.int .u32 g, .string s] 25 (0, 0)) := World.alloc_heap_new _ _
  have hC_1 := Kd.C_below hC hb1
  have hB_1 := hb1
  clear hC hb1
  go_enter Try.func3, Try.ntmps3
  go_wp2_with fail
  refine (shown_ok _).mono ?_
  rintro r w2 ⟨rfl, hb2⟩
  have hC_2 := Kd.C_below hC_1 hb2
  have hX_2 := (hb2.block _ (Array.getElem?_eq_some_iff.1 hX).1).trans hX
  have hB_2 := hB_1.trans (hb2.mono hB_1.size)
  clear hC_1 hX hB_1 hb2
  go_upto_region 2 with fail
  have hb3 : Below w2.heap.size w2 w2.drew := Below.drew (Below.refl _ _)
  have hC_3 := Kd.C_below hC_2 hb3
  have hX_3 := (hb3.block _ (Array.getElem?_eq_some_iff.1 hX_2).1).trans hX_2
  have hB_3 := hB_2.trans (hb3.mono hB_2.size)
  clear hC_2 hX_2 hB_2 hb3
  refine start_ (n := 9) (S := fun V_ => V_.heap[W.heap.size]? = some (elt ⟨g, s⟩) ∧ True) (ds := [3]) #[false, false, false, false, false, false, false, false, false] (by kernel_rfl) rfl rfl ⟨hX_3, trivial⟩ (fun hHeld => ?_)
  generalize w2.drew = W3 at hHeld hC_3 hX_3 hB_3 ⊢
  refine pure_ (i := 0) (N := some 12) (v := ?_) (a' := ?_) #[true, false, false, false, false, false, false, false, false] rfl rfl (by kernel_rfl) (fun _ _ _ h => h) (Or.inl ⟨by rfl, ?_⟩) ?_ ?_
  rotate_left
  · intro w'
    go_simp
    try (with_reducible rfl)
  rotate_left
  · simp only [Act.put, List.setIfInBounds_toArray, List.set_cons_zero, List.set_cons_succ, i64_w, i32_w]
    rfl
  refine take_ (i := 2) (N := some 14) (v := ?_) (a' := ?_) #[true, false, true, false, false, false, false, false, false] rfl rfl (by kernel_rfl) (fun _ _ _ h => h) (Or.inl ⟨by rfl, ?_⟩) hHeld ?_ ?_
  rotate_left
  · intro w' hS_
    obtain ⟨d0, d1, d2⟩ := box2_at hS_.1
    go_simp
    try (with_reducible rfl)
  rotate_left
  · simp only [Act.put, List.setIfInBounds_toArray, List.set_cons_zero, List.set_cons_succ, i64_w, i32_w]
    rfl
  refine one_ (i := 1) (N := some 13) #[true, true, true, false, false, false, false, false, false] rfl rfl (by kernel_rfl) (by decide) (fun K hK => ?_)
  refine goes_ Try.func11 (by kernel_rfl) rfl #[.slice A0 n c0] (by rfl) rfl rfl (by (try simp only [List.map_toArray, List.map_cons, List.map_nil]); first | done | rfl) ?_
  refine (cut_calls _ _ _ hn _).mono ?_
  rintro r w4 ⟨rfl, hb4⟩
  refine ⟨_, rfl, ?_⟩
  rw [← HL.out]
  have hC_4 := Kd.C_below hC_3 hb4
  have hX_4 := (hb4.block _ (Array.getElem?_eq_some_iff.1 hX_3).1).trans hX_3
  have hB_4 := hB_3.trans (hb4.mono hB_3.size)
  refine hK.out _ _ ⟨hX_4, trivial⟩ (fun _ => ?_)
  clear hK K
  clear hC_3 hX_3 hB_3 hb4
  refine last_ (i := 3) (N := some 15) #[true, true, true, true, false, false, false, false, false] rfl rfl (by kernel_rfl) (by decide) (fun K hK => ?_)
  refine goes_ Try.func10 (by kernel_rfl) rfl #[.slice A0 L.length c0, .agg #[.int .u32 g, .string s]] (by rfl) rfl rfl (by (try simp only [List.map_toArray, List.map_cons, List.map_nil]); first | done | rfl) ?_
  refine (add_ok A0 c0 L g s a e _ hC_4 hc hl Had.out).mono ?_
  rintro r w5 ⟨v5, rfl, hv5, hb5⟩
  refine ⟨_, rfl, ?_⟩
  have hC_5 := Kd.C_below hC_4 hb5
  have hX_5 := (hb5.block _ (Array.getElem?_eq_some_iff.1 hX_4).1).trans hX_4
  have hB_5 := hB_4.trans (hb5.mono hB_4.size)
  obtain ⟨A3, c3, rfl, hlA3, hCA3⟩ := Kd.R_reads hv5
  refine hK.out _ _ ?_
  clear hK K hHeld
  clear hC_4 hX_4 hB_4 hb5 hv5
  refine pure_ (i := 4) (N := some 11) (v := ?_) (a' := ?_) #[true, true, true, true, true, false, false, false, false] rfl rfl (by kernel_rfl) (fun _ _ _ h => h) (Or.inl ⟨by rfl, ?_⟩) ?_ ?_
  rotate_left
  · intro w'
    go_simp
    try (with_reducible rfl)
  rotate_left
  · simp only [Act.put, List.setIfInBounds_toArray, List.set_cons_zero, List.set_cons_succ, List.getElem_toArray, List.getElem_cons_succ, List.getElem_cons_zero, i64_w, i32_w]
    rfl
  refine pure_ (i := 5) (N := some 16) (v := ?_) (a' := ?_) #[true, true, true, true, true, true, false, false, false] rfl rfl (by kernel_rfl) (fun _ _ _ h => h) (Or.inl ⟨by rfl, ?_⟩) ?_ ?_
  rotate_left
  · intro w'
    go_simp
    try (with_reducible rfl)
  rotate_left
  · simp only [Act.put, List.setIfInBounds_toArray, List.set_cons_zero, List.set_cons_succ, List.getElem_toArray, List.getElem_cons_succ, List.getElem_cons_zero, i64_w, i32_w]
    rfl
  refine pure_ (i := 6) (N := some 17) (v := ?_) (a' := ?_) #[true, true, true, true, true, true, true, false, false] rfl rfl (by kernel_rfl) (fun _ _ _ h => h) (Or.inl ⟨by rfl, ?_⟩) ?_ ?_
  rotate_left
  · intro w'
    go_simp
    try (with_reducible rfl)
  rotate_left
  · simp only [Act.put, List.setIfInBounds_toArray, List.set_cons_zero, List.set_cons_succ, List.getElem_toArray, List.getElem_cons_succ, List.getElem_cons_zero, i64_w, i32_w]
    rfl
  refine pure_ (i := 7) (N := some 6) (v := ?_) (a' := ?_) #[true, true, true, true, true, true, true, true, false] rfl rfl (by kernel_rfl) (fun _ _ _ h => h) (Or.inl ⟨by rfl, ?_⟩) ?_ ?_
  rotate_left
  · intro w'
    go_simp
    try (with_reducible rfl)
  rotate_left
  · simp only [Act.put, List.setIfInBounds_toArray, List.set_cons_zero, List.set_cons_succ, List.getElem_toArray, List.getElem_cons_succ, List.getElem_cons_zero, i64_w, i32_w]
    rfl
  refine pure_ (i := 8) (N := some 7) (v := ?_) (a' := ?_) #[true, true, true, true, true, true, true, true, true] rfl rfl (by kernel_rfl) (fun _ _ _ h => h) (Or.inl ⟨by rfl, ?_⟩) ?_ ?_
  rotate_left
  · intro w'
    go_simp
    try (with_reducible rfl)
  rotate_left
  · simp only [Act.put, List.setIfInBounds_toArray, List.set_cons_zero, List.set_cons_succ, List.getElem_toArray, List.getElem_cons_succ, List.getElem_cons_zero, i64_w, i32_w]
    rfl
  refine done_ (by kernel_rfl) ?_
  go_upto_region 3 with fail
  have hb6 : Below w5.heap.size w5 w5.drew := Below.drew (Below.refl _ _)
  have hC_6 := Kd.C_below hC_5 hb6
  have hCA3_6 := Kd.C_below hCA3 hb6
  have hX_6 := (hb6.block _ (Array.getElem?_eq_some_iff.1 hX_5).1).trans hX_5
  have hB_6 := hB_5.trans (hb6.mono hB_5.size)
  clear hC_5 hCA3 hX_5 hB_5 hb6
  refine start_ (n := 9) (S := fun V_ => V_.heap[W.heap.size]? = some (elt ⟨g, s⟩) ∧ True) (ds := [3]) #[false, false, false, false, false, false, false, false, false] (by kernel_rfl) rfl rfl ⟨hX_6, trivial⟩ (fun hHeld => ?_)
  generalize w5.drew = W6 at hHeld hC_6 hCA3_6 hX_6 hB_6 ⊢
  refine pure_ (i := 0) (N := some 19) (v := ?_) (a' := ?_) #[true, false, false, false, false, false, false, false, false] rfl rfl (by kernel_rfl) (fun _ _ _ h => h) (Or.inl ⟨by rfl, ?_⟩) ?_ ?_
  rotate_left
  · intro w'
    go_simp
    try (with_reducible rfl)
  rotate_left
  · simp only [Act.put, List.setIfInBounds_toArray, List.set_cons_zero, List.set_cons_succ, i64_w, i32_w]
    rfl
  refine take_ (i := 2) (N := some 21) (v := ?_) (a' := ?_) #[true, false, true, false, false, false, false, false, false] rfl rfl (by kernel_rfl) (fun _ _ _ h => h) (Or.inl ⟨by rfl, ?_⟩) hHeld ?_ ?_
  rotate_left
  · intro w' hS_
    obtain ⟨d0, d1, d2⟩ := box2_at hS_.1
    go_simp
    try (with_reducible rfl)
  rotate_left
  · simp only [Act.put, List.setIfInBounds_toArray, List.set_cons_zero, List.set_cons_succ, i64_w, i32_w]
    rfl
  refine one_ (i := 1) (N := some 20) #[true, true, true, false, false, false, false, false, false] rfl rfl (by kernel_rfl) (by decide) (fun K hK => ?_)
  refine goes_ Try.func11 (by kernel_rfl) rfl #[.slice A0 n c0] (by rfl) rfl rfl (by (try simp only [List.map_toArray, List.map_cons, List.map_nil]); first | done | rfl) ?_
  refine (cut_calls _ _ _ hn _).mono ?_
  rintro r w7 ⟨rfl, hb7⟩
  refine ⟨_, rfl, ?_⟩
  rw [← HL.out]
  have hC_7 := Kd.C_below hC_6 hb7
  have hCA3_7 := Kd.C_below hCA3_6 hb7
  have hX_7 := (hb7.block _ (Array.getElem?_eq_some_iff.1 hX_6).1).trans hX_6
  have hB_7 := hB_6.trans (hb7.mono hB_6.size)
  refine hK.out _ _ ⟨hX_7, trivial⟩ (fun _ => ?_)
  clear hK K
  clear hC_6 hCA3_6 hX_6 hB_6 hb7
  refine last_ (i := 3) (N := some 22) #[true, true, true, true, false, false, false, false, false] rfl rfl (by kernel_rfl) (by decide) (fun K hK => ?_)
  refine goes_ Try.func12 (by kernel_rfl) rfl #[.slice A0 L.length c0, .agg #[.int .u32 g, .string s]] (by rfl) rfl rfl (by (try simp only [List.map_toArray, List.map_cons, List.map_nil]); first | done | rfl) ?_
  refine (radd_ok A0 c0 L g s a e _ hC_7 hc hl Had.out).mono ?_
  rintro r w8 ⟨v8, rfl, hv8, hb8⟩
  refine ⟨_, rfl, ?_⟩
  have hC_8 := Kd.C_below hC_7 hb8
  have hCA3_8 := Kd.C_below hCA3_7 hb8
  have hX_8 := (hb8.block _ (Array.getElem?_eq_some_iff.1 hX_7).1).trans hX_7
  have hB_8 := hB_7.trans (hb8.mono hB_7.size)
  obtain ⟨A5, c5, rfl, hlA5, hCA5⟩ := Kd.R_reads hv8
  refine hK.out _ _ ?_
  clear hK K hHeld
  clear hC_7 hCA3_7 hX_7 hB_7 hb8 hv8
  refine pure_ (i := 4) (N := some 18) (v := ?_) (a' := ?_) #[true, true, true, true, true, false, false, false, false] rfl rfl (by kernel_rfl) (fun _ _ _ h => h) (Or.inl ⟨by rfl, ?_⟩) ?_ ?_
  rotate_left
  · intro w'
    go_simp
    try (with_reducible rfl)
  rotate_left
  · simp only [Act.put, List.setIfInBounds_toArray, List.set_cons_zero, List.set_cons_succ, List.getElem_toArray, List.getElem_cons_succ, List.getElem_cons_zero, i64_w, i32_w]
    rfl
  refine pure_ (i := 5) (N := some 23) (v := ?_) (a' := ?_) #[true, true, true, true, true, true, false, false, false] rfl rfl (by kernel_rfl) (fun _ _ _ h => h) (Or.inl ⟨by rfl, ?_⟩) ?_ ?_
  rotate_left
  · intro w'
    go_simp
    try (with_reducible rfl)
  rotate_left
  · simp only [Act.put, List.setIfInBounds_toArray, List.set_cons_zero, List.set_cons_succ, List.getElem_toArray, List.getElem_cons_succ, List.getElem_cons_zero, i64_w, i32_w]
    rfl
  refine pure_ (i := 6) (N := some 24) (v := ?_) (a' := ?_) #[true, true, true, true, true, true, true, false, false] rfl rfl (by kernel_rfl) (fun _ _ _ h => h) (Or.inl ⟨by rfl, ?_⟩) ?_ ?_
  rotate_left
  · intro w'
    go_simp
    try (with_reducible rfl)
  rotate_left
  · simp only [Act.put, List.setIfInBounds_toArray, List.set_cons_zero, List.set_cons_succ, List.getElem_toArray, List.getElem_cons_succ, List.getElem_cons_zero, i64_w, i32_w]
    rfl
  refine pure_ (i := 7) (N := some 8) (v := ?_) (a' := ?_) #[true, true, true, true, true, true, true, true, false] rfl rfl (by kernel_rfl) (fun _ _ _ h => h) (Or.inl ⟨by rfl, ?_⟩) ?_ ?_
  rotate_left
  · intro w'
    go_simp
    try (with_reducible rfl)
  rotate_left
  · simp only [Act.put, List.setIfInBounds_toArray, List.set_cons_zero, List.set_cons_succ, List.getElem_toArray, List.getElem_cons_succ, List.getElem_cons_zero, i64_w, i32_w]
    rfl
  refine pure_ (i := 8) (N := some 9) (v := ?_) (a' := ?_) #[true, true, true, true, true, true, true, true, true] rfl rfl (by kernel_rfl) (fun _ _ _ h => h) (Or.inl ⟨by rfl, ?_⟩) ?_ ?_
  rotate_left
  · intro w'
    go_simp
    try (with_reducible rfl)
  rotate_left
  · simp only [Act.put, List.setIfInBounds_toArray, List.set_cons_zero, List.set_cons_succ, List.getElem_toArray, List.getElem_cons_succ, List.getElem_cons_zero, i64_w, i32_w]
    rfl
  refine done_ (by kernel_rfl) ?_
  go_wp2_with fail
  refine (same_ok A3 A5 c3 c5 a _ hCA3_8 hCA5 hlA3 hlA5 hl2).mono ?_
  rintro r w9 ⟨rfl, hb9⟩
  have hC_9 := Kd.C_below hC_8 hb9
  have hCA3_9 := Kd.C_below hCA3_8 hb9
  have hCA5_9 := Kd.C_below hCA5 hb9
  have hX_9 := (hb9.block _ (Array.getElem?_eq_some_iff.1 hX_8).1).trans hX_8
  have hB_9 := hB_8.trans (hb9.mono hB_8.size)
  clear hC_8 hCA3_8 hCA5 hX_8 hB_8 hb9
  go_wp2
  go_ret
  exact ⟨by simp, hB_9⟩

end Go.Proofs.Ytdoaohmjhbefdaa.H
