/- KeysOrder: the walks. Written by keys_laws.py. -/
import Derived.Test.YtdoaohmjhbefdaaL5
namespace Go.Proofs.Ytdoaohmjhbefdaa.H
open Go.RowKit Go.Shelf Go.Proofs.YtdoaohmjhbefdaaW.PrintWords Go.Proofs.YtdoaohmjhbefdaaW.PrintLast Go.Proofs.YtdoaohmjhbefdaaW.PrintMore Go.Proofs.Ytdoaohmjhbefdaa.CopyK
attribute [local go_sem] Oper.semAt_some
set_option linter.unusedVariables false
set_option linter.unusedSimpArgs false
set_option maxRecDepth 100000

set_option maxHeartbeats 8000000 in
theorem KeysOrder_same (A0 : Option Addr) (n c0 : Nat) (L : List S25) (gj : Int) (sj : ByteArray) (gk : Int) (sk : ByteArray) (W : World) (hn : n ≤ c0) (hL : L.length = min n 30) (hC : Kd.C k25 W A0 L.length L) (hg : (gj == gk) = true) :
    Calls Try.prog 4 #[.slice A0 n c0, .agg #[.int .u32 gj, .string sj], .agg #[.int .u32 gk, .string sk]] W fun e W' => e = .returned (.bool true) ∧ Below W.heap.size W W' := by
  have hl : L.length ≤ 400 := by omega
  have hc : L.length ≤ c0 := by omega
  have HL := Lib.hid hL
  clear hL 
  have hb1 : Below W.heap.size W (W.alloc (Obj.cells #[.int .u32 gj, .string sj] 25 (0, 0))) := (Below.refl _ _).alloc (Nat.le_refl _) _
  have hJ : (W.alloc (Obj.cells #[.int .u32 gj, .string sj] 25 (0, 0))).heap[W.heap.size]? = some (Obj.cells #[.int .u32 gj, .string sj] 25 (0, 0)) := World.alloc_heap_new _ _
  have hC_1 := Kd.C_below hC hb1
  have hB_1 := hb1
  clear hC hb1
  have hb2 : Below (W.alloc (Obj.cells #[.int .u32 gj, .string sj] 25 (0, 0))).heap.size (W.alloc (Obj.cells #[.int .u32 gj, .string sj] 25 (0, 0))) ((W.alloc (Obj.cells #[.int .u32 gj, .string sj] 25 (0, 0))).alloc (Obj.cells #[.int .u32 gk, .string sk] 25 (0, 0))) := (Below.refl _ _).alloc (Nat.le_refl _) _
  have hX : ((W.alloc (Obj.cells #[.int .u32 gj, .string sj] 25 (0, 0))).alloc (Obj.cells #[.int .u32 gk, .string sk] 25 (0, 0))).heap[(W.alloc (Obj.cells #[.int .u32 gj, .string sj] 25 (0, 0))).heap.size]? = some (Obj.cells #[.int .u32 gk, .string sk] 25 (0, 0)) := World.alloc_heap_new _ _
  have hC_2 := Kd.C_below hC_1 hb2
  have hJ_2 := (hb2.block _ (Array.getElem?_eq_some_iff.1 hJ).1).trans hJ
  have hB_2 := hB_1.trans (hb2.mono hB_1.size)
  clear hC_1 hJ hB_1 hb2
  rw [World.size_alloc] at hX
  go_enter Try.func4, Try.ntmps4
  obtain ⟨d0, d1, d2⟩ := box2_at hJ_2
  obtain ⟨e0, e1, e2⟩ := box2_at hX
  go_wp2_with fail
  refine (shown_ok _).mono ?_
  rintro r w3 ⟨rfl, hb3⟩
  have hC_3 := Kd.C_below hC_2 hb3
  have hJ_3 := (hb3.block _ (Array.getElem?_eq_some_iff.1 hJ_2).1).trans hJ_2
  have hX_3 := (hb3.block _ (Array.getElem?_eq_some_iff.1 hX).1).trans hX
  have hB_3 := hB_2.trans (hb3.mono hB_2.size)
  clear hC_2 hJ_2 hX hB_2 hb3
  clear d0 d1 d2 e0 e1 e2
  obtain ⟨d0, d1, d2⟩ := box2_at hJ_3
  obtain ⟨e0, e1, e2⟩ := box2_at hX_3
  go_wp2
  go_ret
  exact ⟨by simp, hB_3⟩

set_option maxHeartbeats 8000000 in
theorem KeysOrder_all (A0 : Option Addr) (n c0 : Nat) (L : List S25) (gj : Int) (sj : ByteArray) (gk : Int) (sk : ByteArray) (W : World) (hn : n ≤ c0) (hL : L.length = min n 30) (hC : Kd.C k25 W A0 L.length L) (a b c : List S25) (ha : addOf L ⟨gj, sj⟩ = (a, 0)) (hb : addOf a ⟨gk, sk⟩ = (b, 0)) (hcc : addOf L ⟨gk, sk⟩ = (c, 0)) (hd : addOf c ⟨gj, sj⟩ = (b, 0)) (hg : (gj == gk) = false) (hl : L.length ≤ 30) :
    Calls Try.prog 4 #[.slice A0 n c0, .agg #[.int .u32 gj, .string sj], .agg #[.int .u32 gk, .string sk]] W fun e W' => e = .returned (.bool true) ∧ Below W.heap.size W W' := by
  have h1 := add_len ha
  have h2 := add_len hb
  have h3 := add_len hcc
  have h4 := add_len hd
  have la : a.length ≤ 400 := by omega
  have lb : b.length ≤ 400 := by omega
  have lc : c.length ≤ 400 := by omega
  clear h1 h2 h3 h4
  have hl : L.length ≤ 400 := by omega
  have hc : L.length ≤ c0 := by omega
  have HL := Lib.hid hL
  have Ha := Lib.hid ha
  have Hb := Lib.hid hb
  have Hcc := Lib.hid hcc
  have Hd := Lib.hid hd
  clear hL ha hb hcc hd
  have hb1 : Below W.heap.size W (W.alloc (Obj.cells #[.int .u32 gj, .string sj] 25 (0, 0))) := (Below.refl _ _).alloc (Nat.le_refl _) _
  have hJ : (W.alloc (Obj.cells #[.int .u32 gj, .string sj] 25 (0, 0))).heap[W.heap.size]? = some (Obj.cells #[.int .u32 gj, .string sj] 25 (0, 0)) := World.alloc_heap_new _ _
  have hC_1 := Kd.C_below hC hb1
  have hB_1 := hb1
  clear hC hb1
  have hb2 : Below (W.alloc (Obj.cells #[.int .u32 gj, .string sj] 25 (0, 0))).heap.size (W.alloc (Obj.cells #[.int .u32 gj, .string sj] 25 (0, 0))) ((W.alloc (Obj.cells #[.int .u32 gj, .string sj] 25 (0, 0))).alloc (Obj.cells #[.int .u32 gk, .string sk] 25 (0, 0))) := (Below.refl _ _).alloc (Nat.le_refl _) _
  have hX : ((W.alloc (Obj.cells #[.int .u32 gj, .string sj] 25 (0, 0))).alloc (Obj.cells #[.int .u32 gk, .string sk] 25 (0, 0))).heap[(W.alloc (Obj.cells #[.int .u32 gj, .string sj] 25 (0, 0))).heap.size]? = some (Obj.cells #[.int .u32 gk, .string sk] 25 (0, 0)) := World.alloc_heap_new _ _
  have hC_2 := Kd.C_below hC_1 hb2
  have hJ_2 := (hb2.block _ (Array.getElem?_eq_some_iff.1 hJ).1).trans hJ
  have hB_2 := hB_1.trans (hb2.mono hB_1.size)
  clear hC_1 hJ hB_1 hb2
  rw [World.size_alloc] at hX
  go_enter Try.func4, Try.ntmps4
  go_wp2_with fail
  refine (shown_ok _).mono ?_
  rintro r w3 ⟨rfl, hb3⟩
  have hC_3 := Kd.C_below hC_2 hb3
  have hJ_3 := (hb3.block _ (Array.getElem?_eq_some_iff.1 hJ_2).1).trans hJ_2
  have hX_3 := (hb3.block _ (Array.getElem?_eq_some_iff.1 hX).1).trans hX
  have hB_3 := hB_2.trans (hb3.mono hB_2.size)
  clear hC_2 hJ_2 hX hB_2 hb3
  obtain ⟨d0, d1, d2⟩ := box2_at hJ_3
  obtain ⟨e0, e1, e2⟩ := box2_at hX_3
  go_upto_region 4 with fail
  clear d0 d1 d2 e0 e1 e2
  have hb4 : Below w3.heap.size w3 w3.drew := Below.drew (Below.refl _ _)
  have hC_4 := Kd.C_below hC_3 hb4
  have hJ_4 := (hb4.block _ (Array.getElem?_eq_some_iff.1 hJ_3).1).trans hJ_3
  have hX_4 := (hb4.block _ (Array.getElem?_eq_some_iff.1 hX_3).1).trans hX_3
  have hB_4 := hB_3.trans (hb4.mono hB_3.size)
  clear hC_3 hJ_3 hX_3 hB_3 hb4
  refine start_ (n := 9) (S := fun V_ => V_.heap[W.heap.size]? = some (elt ⟨gj, sj⟩) ∧ True) (ds := [3]) #[false, false, false, false, false, false, false, false, false] (by kernel_rfl) rfl rfl ⟨hJ_4, trivial⟩ (fun hHeld => ?_)
  generalize w3.drew = W4 at hHeld hC_4 hJ_4 hX_4 hB_4 ⊢
  refine pure_ (i := 0) (N := some 24) (v := ?_) (a' := ?_) #[true, false, false, false, false, false, false, false, false] rfl rfl (by kernel_rfl) (fun _ _ _ h => h) (Or.inl ⟨by rfl, ?_⟩) ?_ ?_
  rotate_left
  · intro w'
    go_simp
    try (with_reducible rfl)
  rotate_left
  · simp only [Act.put, List.setIfInBounds_toArray, List.set_cons_zero, List.set_cons_succ, i64_w, i32_w]
    rfl
  refine take_ (i := 2) (N := some 26) (v := ?_) (a' := ?_) #[true, false, true, false, false, false, false, false, false] rfl rfl (by kernel_rfl) (fun _ _ _ h => h) (Or.inl ⟨by rfl, ?_⟩) hHeld ?_ ?_
  rotate_left
  · intro w' hS_
    obtain ⟨d0, d1, d2⟩ := box2_at hS_.1
    go_simp
    try (with_reducible rfl)
  rotate_left
  · simp only [Act.put, List.setIfInBounds_toArray, List.set_cons_zero, List.set_cons_succ, i64_w, i32_w]
    rfl
  refine one_ (i := 1) (N := some 25) #[true, true, true, false, false, false, false, false, false] rfl rfl (by kernel_rfl) (by decide) (fun K hK => ?_)
  refine goes_ Try.func11 (by kernel_rfl) rfl #[.slice A0 n c0] (by rfl) rfl rfl (by (try simp only [List.map_toArray, List.map_cons, List.map_nil]); first | done | rfl) ?_
  refine (cut_calls _ _ _ hn _).mono ?_
  rintro r w5 ⟨rfl, hb5⟩
  refine ⟨_, rfl, ?_⟩
  rw [← HL.out]
  have hC_5 := Kd.C_below hC_4 hb5
  have hJ_5 := (hb5.block _ (Array.getElem?_eq_some_iff.1 hJ_4).1).trans hJ_4
  have hX_5 := (hb5.block _ (Array.getElem?_eq_some_iff.1 hX_4).1).trans hX_4
  have hB_5 := hB_4.trans (hb5.mono hB_4.size)
  refine hK.out _ _ ⟨hJ_5, trivial⟩ (fun _ => ?_)
  clear hK K
  clear hC_4 hJ_4 hX_4 hB_4 hb5
  refine last_ (i := 3) (N := some 27) #[true, true, true, true, false, false, false, false, false] rfl rfl (by kernel_rfl) (by decide) (fun K hK => ?_)
  refine goes_ Try.func10 (by kernel_rfl) rfl #[.slice A0 L.length c0, .agg #[.int .u32 gj, .string sj]] (by rfl) rfl rfl (by (try simp only [List.map_toArray, List.map_cons, List.map_nil]); first | done | rfl) ?_
  refine (add_ok A0 c0 L gj sj a 0 _ hC_5 hc hl Ha.out).mono ?_
  rintro r w6 ⟨v6, rfl, hv6, hb6⟩
  refine ⟨_, rfl, ?_⟩
  have hC_6 := Kd.C_below hC_5 hb6
  have hJ_6 := (hb6.block _ (Array.getElem?_eq_some_iff.1 hJ_5).1).trans hJ_5
  have hX_6 := (hb6.block _ (Array.getElem?_eq_some_iff.1 hX_5).1).trans hX_5
  have hB_6 := hB_5.trans (hb6.mono hB_5.size)
  obtain ⟨A3, c3, rfl, hlA3, hCA3⟩ := Kd.R_reads hv6
  refine hK.out _ _ ?_
  clear hK K hHeld
  clear hC_5 hJ_5 hX_5 hB_5 hb6 hv6
  refine pure_ (i := 4) (N := some 23) (v := ?_) (a' := ?_) #[true, true, true, true, true, false, false, false, false] rfl rfl (by kernel_rfl) (fun _ _ _ h => h) (Or.inl ⟨by rfl, ?_⟩) ?_ ?_
  rotate_left
  · intro w'
    go_simp
    try (with_reducible rfl)
  rotate_left
  · simp only [Act.put, List.setIfInBounds_toArray, List.set_cons_zero, List.set_cons_succ, List.getElem_toArray, List.getElem_cons_succ, List.getElem_cons_zero, i64_w, i32_w]
    rfl
  refine pure_ (i := 5) (N := some 28) (v := ?_) (a' := ?_) #[true, true, true, true, true, true, false, false, false] rfl rfl (by kernel_rfl) (fun _ _ _ h => h) (Or.inl ⟨by rfl, ?_⟩) ?_ ?_
  rotate_left
  · intro w'
    go_simp
    try (with_reducible rfl)
  rotate_left
  · simp only [Act.put, List.setIfInBounds_toArray, List.set_cons_zero, List.set_cons_succ, List.getElem_toArray, List.getElem_cons_succ, List.getElem_cons_zero, i64_w, i32_w]
    rfl
  refine pure_ (i := 6) (N := some 29) (v := ?_) (a' := ?_) #[true, true, true, true, true, true, true, false, false] rfl rfl (by kernel_rfl) (fun _ _ _ h => h) (Or.inl ⟨by rfl, ?_⟩) ?_ ?_
  rotate_left
  · intro w'
    go_simp
    try (with_reducible rfl)
  rotate_left
  · simp only [Act.put, List.setIfInBounds_toArray, List.set_cons_zero, List.set_cons_succ, List.getElem_toArray, List.getElem_cons_succ, List.getElem_cons_zero, i64_w, i32_w]
    rfl
  refine pure_ (i := 7) (N := some 8) (v := ?_) (a' := ?_) #[true, true, true, true, true, true, true, true, false] rfl rfl (by kernel_rfl) (fun _ _ _ h => h) (Or.inl ⟨by rfl, ?_⟩) ?_ ?_
  rotate_left
  · intro w'
    go_simp
    try (with_reducible rfl)
  rotate_left
  · simp only [Act.put, List.setIfInBounds_toArray, List.set_cons_zero, List.set_cons_succ, List.getElem_toArray, List.getElem_cons_succ, List.getElem_cons_zero, i64_w, i32_w]
    rfl
  refine pure_ (i := 8) (N := some 9) (v := ?_) (a' := ?_) #[true, true, true, true, true, true, true, true, true] rfl rfl (by kernel_rfl) (fun _ _ _ h => h) (Or.inl ⟨by rfl, ?_⟩) ?_ ?_
  rotate_left
  · intro w'
    go_simp
    try (with_reducible rfl)
  rotate_left
  · simp only [Act.put, List.setIfInBounds_toArray, List.set_cons_zero, List.set_cons_succ, List.getElem_toArray, List.getElem_cons_succ, List.getElem_cons_zero, i64_w, i32_w]
    rfl
  refine done_ (by kernel_rfl) ?_
  obtain ⟨d0, d1, d2⟩ := box2_at hJ_6
  obtain ⟨e0, e1, e2⟩ := box2_at hX_6
  go_wp2_with fail
  refine (add_ok A3 c3 a gk sk b 0 _ hCA3 hlA3 la Hb.out).mono ?_
  rintro r w7 ⟨v7, rfl, hv7, hb7⟩
  have hC_7 := Kd.C_below hC_6 hb7
  have hCA3_7 := Kd.C_below hCA3 hb7
  have hJ_7 := (hb7.block _ (Array.getElem?_eq_some_iff.1 hJ_6).1).trans hJ_6
  have hX_7 := (hb7.block _ (Array.getElem?_eq_some_iff.1 hX_6).1).trans hX_6
  have hB_7 := hB_6.trans (hb7.mono hB_6.size)
  obtain ⟨A4, c4, rfl, hlA4, hCA4⟩ := Kd.R_reads hv7
  clear hC_6 hCA3 hJ_6 hX_6 hB_6 hb7 hv7
  clear d0 d1 d2 e0 e1 e2
  obtain ⟨d0, d1, d2⟩ := box2_at hJ_7
  obtain ⟨e0, e1, e2⟩ := box2_at hX_7
  go_upto_region 6 with fail
  clear d0 d1 d2 e0 e1 e2
  have hb8 : Below w7.heap.size w7 w7.drew := Below.drew (Below.refl _ _)
  have hC_8 := Kd.C_below hC_7 hb8
  have hCA3_8 := Kd.C_below hCA3_7 hb8
  have hCA4_8 := Kd.C_below hCA4 hb8
  have hJ_8 := (hb8.block _ (Array.getElem?_eq_some_iff.1 hJ_7).1).trans hJ_7
  have hX_8 := (hb8.block _ (Array.getElem?_eq_some_iff.1 hX_7).1).trans hX_7
  have hB_8 := hB_7.trans (hb8.mono hB_7.size)
  clear hC_7 hCA3_7 hCA4 hJ_7 hX_7 hB_7 hb8
  refine start_ (n := 9) (S := fun V_ => V_.heap[W.heap.size + 1]? = some (elt ⟨gk, sk⟩) ∧ True) (ds := [3]) #[false, false, false, false, false, false, false, false, false] (by kernel_rfl) rfl rfl ⟨hX_8, trivial⟩ (fun hHeld => ?_)
  generalize w7.drew = W8 at hHeld hC_8 hCA3_8 hCA4_8 hJ_8 hX_8 hB_8 ⊢
  refine pure_ (i := 0) (N := some 37) (v := ?_) (a' := ?_) #[true, false, false, false, false, false, false, false, false] rfl rfl (by kernel_rfl) (fun _ _ _ h => h) (Or.inl ⟨by rfl, ?_⟩) ?_ ?_
  rotate_left
  · intro w'
    go_simp
    try (with_reducible rfl)
  rotate_left
  · simp only [Act.put, List.setIfInBounds_toArray, List.set_cons_zero, List.set_cons_succ, i64_w, i32_w]
    rfl
  refine take_ (i := 2) (N := some 39) (v := ?_) (a' := ?_) #[true, false, true, false, false, false, false, false, false] rfl rfl (by kernel_rfl) (fun _ _ _ h => h) (Or.inl ⟨by rfl, ?_⟩) hHeld ?_ ?_
  rotate_left
  · intro w' hS_
    obtain ⟨d0, d1, d2⟩ := box2_at hS_.1
    go_simp
    try (with_reducible rfl)
  rotate_left
  · simp only [Act.put, List.setIfInBounds_toArray, List.set_cons_zero, List.set_cons_succ, i64_w, i32_w]
    rfl
  refine one_ (i := 1) (N := some 38) #[true, true, true, false, false, false, false, false, false] rfl rfl (by kernel_rfl) (by decide) (fun K hK => ?_)
  refine goes_ Try.func11 (by kernel_rfl) rfl #[.slice A0 n c0] (by rfl) rfl rfl (by (try simp only [List.map_toArray, List.map_cons, List.map_nil]); first | done | rfl) ?_
  refine (cut_calls _ _ _ hn _).mono ?_
  rintro r w9 ⟨rfl, hb9⟩
  refine ⟨_, rfl, ?_⟩
  rw [← HL.out]
  have hC_9 := Kd.C_below hC_8 hb9
  have hCA3_9 := Kd.C_below hCA3_8 hb9
  have hCA4_9 := Kd.C_below hCA4_8 hb9
  have hJ_9 := (hb9.block _ (Array.getElem?_eq_some_iff.1 hJ_8).1).trans hJ_8
  have hX_9 := (hb9.block _ (Array.getElem?_eq_some_iff.1 hX_8).1).trans hX_8
  have hB_9 := hB_8.trans (hb9.mono hB_8.size)
  refine hK.out _ _ ⟨hX_9, trivial⟩ (fun _ => ?_)
  clear hK K
  clear hC_8 hCA3_8 hCA4_8 hJ_8 hX_8 hB_8 hb9
  refine last_ (i := 3) (N := some 40) #[true, true, true, true, false, false, false, false, false] rfl rfl (by kernel_rfl) (by decide) (fun K hK => ?_)
  refine goes_ Try.func10 (by kernel_rfl) rfl #[.slice A0 L.length c0, .agg #[.int .u32 gk, .string sk]] (by rfl) rfl rfl (by (try simp only [List.map_toArray, List.map_cons, List.map_nil]); first | done | rfl) ?_
  refine (add_ok A0 c0 L gk sk c 0 _ hC_9 hc hl Hcc.out).mono ?_
  rintro r w10 ⟨v10, rfl, hv10, hb10⟩
  refine ⟨_, rfl, ?_⟩
  have hC_10 := Kd.C_below hC_9 hb10
  have hCA3_10 := Kd.C_below hCA3_9 hb10
  have hCA4_10 := Kd.C_below hCA4_9 hb10
  have hJ_10 := (hb10.block _ (Array.getElem?_eq_some_iff.1 hJ_9).1).trans hJ_9
  have hX_10 := (hb10.block _ (Array.getElem?_eq_some_iff.1 hX_9).1).trans hX_9
  have hB_10 := hB_9.trans (hb10.mono hB_9.size)
  obtain ⟨A5, c5, rfl, hlA5, hCA5⟩ := Kd.R_reads hv10
  refine hK.out _ _ ?_
  clear hK K hHeld
  clear hC_9 hCA3_9 hCA4_9 hJ_9 hX_9 hB_9 hb10 hv10
  refine pure_ (i := 4) (N := some 36) (v := ?_) (a' := ?_) #[true, true, true, true, true, false, false, false, false] rfl rfl (by kernel_rfl) (fun _ _ _ h => h) (Or.inl ⟨by rfl, ?_⟩) ?_ ?_
  rotate_left
  · intro w'
    go_simp
    try (with_reducible rfl)
  rotate_left
  · simp only [Act.put, List.setIfInBounds_toArray, List.set_cons_zero, List.set_cons_succ, List.getElem_toArray, List.getElem_cons_succ, List.getElem_cons_zero, i64_w, i32_w]
    rfl
  refine pure_ (i := 5) (N := some 41) (v := ?_) (a' := ?_) #[true, true, true, true, true, true, false, false, false] rfl rfl (by kernel_rfl) (fun _ _ _ h => h) (Or.inl ⟨by rfl, ?_⟩) ?_ ?_
  rotate_left
  · intro w'
    go_simp
    try (with_reducible rfl)
  rotate_left
  · simp only [Act.put, List.setIfInBounds_toArray, List.set_cons_zero, List.set_cons_succ, List.getElem_toArray, List.getElem_cons_succ, List.getElem_cons_zero, i64_w, i32_w]
    rfl
  refine pure_ (i := 6) (N := some 42) (v := ?_) (a' := ?_) #[true, true, true, true, true, true, true, false, false] rfl rfl (by kernel_rfl) (fun _ _ _ h => h) (Or.inl ⟨by rfl, ?_⟩) ?_ ?_
  rotate_left
  · intro w'
    go_simp
    try (with_reducible rfl)
  rotate_left
  · simp only [Act.put, List.setIfInBounds_toArray, List.set_cons_zero, List.set_cons_succ, List.getElem_toArray, List.getElem_cons_succ, List.getElem_cons_zero, i64_w, i32_w]
    rfl
  refine pure_ (i := 7) (N := some 12) (v := ?_) (a' := ?_) #[true, true, true, true, true, true, true, true, false] rfl rfl (by kernel_rfl) (fun _ _ _ h => h) (Or.inl ⟨by rfl, ?_⟩) ?_ ?_
  rotate_left
  · intro w'
    go_simp
    try (with_reducible rfl)
  rotate_left
  · simp only [Act.put, List.setIfInBounds_toArray, List.set_cons_zero, List.set_cons_succ, List.getElem_toArray, List.getElem_cons_succ, List.getElem_cons_zero, i64_w, i32_w]
    rfl
  refine pure_ (i := 8) (N := some 13) (v := ?_) (a' := ?_) #[true, true, true, true, true, true, true, true, true] rfl rfl (by kernel_rfl) (fun _ _ _ h => h) (Or.inl ⟨by rfl, ?_⟩) ?_ ?_
  rotate_left
  · intro w'
    go_simp
    try (with_reducible rfl)
  rotate_left
  · simp only [Act.put, List.setIfInBounds_toArray, List.set_cons_zero, List.set_cons_succ, List.getElem_toArray, List.getElem_cons_succ, List.getElem_cons_zero, i64_w, i32_w]
    rfl
  refine done_ (by kernel_rfl) ?_
  obtain ⟨d0, d1, d2⟩ := box2_at hJ_10
  obtain ⟨e0, e1, e2⟩ := box2_at hX_10
  go_wp2_with fail
  refine (add_ok A5 c5 c gj sj b 0 _ hCA5 hlA5 lc Hd.out).mono ?_
  rintro r w11 ⟨v11, rfl, hv11, hb11⟩
  have hC_11 := Kd.C_below hC_10 hb11
  have hCA3_11 := Kd.C_below hCA3_10 hb11
  have hCA4_11 := Kd.C_below hCA4_10 hb11
  have hCA5_11 := Kd.C_below hCA5 hb11
  have hJ_11 := (hb11.block _ (Array.getElem?_eq_some_iff.1 hJ_10).1).trans hJ_10
  have hX_11 := (hb11.block _ (Array.getElem?_eq_some_iff.1 hX_10).1).trans hX_10
  have hB_11 := hB_10.trans (hb11.mono hB_10.size)
  obtain ⟨A6, c6, rfl, hlA6, hCA6⟩ := Kd.R_reads hv11
  clear hC_10 hCA3_10 hCA4_10 hCA5 hJ_10 hX_10 hB_10 hb11 hv11
  clear d0 d1 d2 e0 e1 e2
  obtain ⟨d0, d1, d2⟩ := box2_at hJ_11
  obtain ⟨e0, e1, e2⟩ := box2_at hX_11
  go_wp2_with fail
  refine (same_ok A4 A6 c4 c6 b _ hCA4_11 hCA6 hlA4 hlA6 lb).mono ?_
  rintro r w12 ⟨rfl, hb12⟩
  have hC_12 := Kd.C_below hC_11 hb12
  have hCA3_12 := Kd.C_below hCA3_11 hb12
  have hCA4_12 := Kd.C_below hCA4_11 hb12
  have hCA5_12 := Kd.C_below hCA5_11 hb12
  have hCA6_12 := Kd.C_below hCA6 hb12
  have hJ_12 := (hb12.block _ (Array.getElem?_eq_some_iff.1 hJ_11).1).trans hJ_11
  have hX_12 := (hb12.block _ (Array.getElem?_eq_some_iff.1 hX_11).1).trans hX_11
  have hB_12 := hB_11.trans (hb12.mono hB_11.size)
  clear hC_11 hCA3_11 hCA4_11 hCA5_11 hCA6 hJ_11 hX_11 hB_11 hb12
  clear d0 d1 d2 e0 e1 e2
  obtain ⟨d0, d1, d2⟩ := box2_at hJ_12
  obtain ⟨e0, e1, e2⟩ := box2_at hX_12
  go_wp2
  go_ret
  exact ⟨by simp, hB_12⟩

set_option maxHeartbeats 8000000 in
theorem KeysOrder_B (A0 : Option Addr) (n c0 : Nat) (L : List S25) (gj : Int) (sj : ByteArray) (gk : Int) (sk : ByteArray) (W : World) (hn : n ≤ c0) (hL : L.length = min n 30) (hC : Kd.C k25 W A0 L.length L) (a b c d : List S25) (e f g h : Int) (ha : addOf L ⟨gj, sj⟩ = (a, e)) (hb : addOf a ⟨gk, sk⟩ = (b, f)) (hcc : addOf L ⟨gk, sk⟩ = (c, g)) (hd : addOf c ⟨gj, sj⟩ = (d, h)) (hg : (gj == gk) = false) (hl : L.length ≤ 30) (xe : (e != 0) = true) (xg : (g != 0) = true) :
    Calls Try.prog 4 #[.slice A0 n c0, .agg #[.int .u32 gj, .string sj], .agg #[.int .u32 gk, .string sk]] W fun e W' => e = .returned (.bool true) ∧ Below W.heap.size W W' := by
  have h1 := add_len ha
  have h2 := add_len hb
  have h3 := add_len hcc
  have h4 := add_len hd
  have la : a.length ≤ 400 := by omega
  have lb : b.length ≤ 400 := by omega
  have lc : c.length ≤ 400 := by omega
  clear h1 h2 h3 h4
  have hl : L.length ≤ 400 := by omega
  have hc : L.length ≤ c0 := by omega
  have HL := Lib.hid hL
  have Ha := Lib.hid ha
  have Hb := Lib.hid hb
  have Hcc := Lib.hid hcc
  have Hd := Lib.hid hd
  clear hL ha hb hcc hd
  have hb1 : Below W.heap.size W (W.alloc (Obj.cells #[.int .u32 gj, .string sj] 25 (0, 0))) := (Below.refl _ _).alloc (Nat.le_refl _) _
  have hJ : (W.alloc (Obj.cells #[.int .u32 gj, .string sj] 25 (0, 0))).heap[W.heap.size]? = some (Obj.cells #[.int .u32 gj, .string sj] 25 (0, 0)) := World.alloc_heap_new _ _
  have hC_1 := Kd.C_below hC hb1
  have hB_1 := hb1
  clear hC hb1
  have hb2 : Below (W.alloc (Obj.cells #[.int .u32 gj, .string sj] 25 (0, 0))).heap.size (W.alloc (Obj.cells #[.int .u32 gj, .string sj] 25 (0, 0))) ((W.alloc (Obj.cells #[.int .u32 gj, .string sj] 25 (0, 0))).alloc (Obj.cells #[.int .u32 gk, .string sk] 25 (0, 0))) := (Below.refl _ _).alloc (Nat.le_refl _) _
  have hX : ((W.alloc (Obj.cells #[.int .u32 gj, .string sj] 25 (0, 0))).alloc (Obj.cells #[.int .u32 gk, .string sk] 25 (0, 0))).heap[(W.alloc (Obj.cells #[.int .u32 gj, .string sj] 25 (0, 0))).heap.size]? = some (Obj.cells #[.int .u32 gk, .string sk] 25 (0, 0)) := World.alloc_heap_new _ _
  have hC_2 := Kd.C_below hC_1 hb2
  have hJ_2 := (hb2.block _ (Array.getElem?_eq_some_iff.1 hJ).1).trans hJ
  have hB_2 := hB_1.trans (hb2.mono hB_1.size)
  clear hC_1 hJ hB_1 hb2
  rw [World.size_alloc] at hX
  go_enter Try.func4, Try.ntmps4
  go_wp2_with fail
  refine (shown_ok _).mono ?_
  rintro r w3 ⟨rfl, hb3⟩
  have hC_3 := Kd.C_below hC_2 hb3
  have hJ_3 := (hb3.block _ (Array.getElem?_eq_some_iff.1 hJ_2).1).trans hJ_2
  have hX_3 := (hb3.block _ (Array.getElem?_eq_some_iff.1 hX).1).trans hX
  have hB_3 := hB_2.trans (hb3.mono hB_2.size)
  clear hC_2 hJ_2 hX hB_2 hb3
  obtain ⟨d0, d1, d2⟩ := box2_at hJ_3
  obtain ⟨e0, e1, e2⟩ := box2_at hX_3
  go_upto_region 4 with fail
  clear d0 d1 d2 e0 e1 e2
  have hb4 : Below w3.heap.size w3 w3.drew := Below.drew (Below.refl _ _)
  have hC_4 := Kd.C_below hC_3 hb4
  have hJ_4 := (hb4.block _ (Array.getElem?_eq_some_iff.1 hJ_3).1).trans hJ_3
  have hX_4 := (hb4.block _ (Array.getElem?_eq_some_iff.1 hX_3).1).trans hX_3
  have hB_4 := hB_3.trans (hb4.mono hB_3.size)
  clear hC_3 hJ_3 hX_3 hB_3 hb4
  refine start_ (n := 9) (S := fun V_ => V_.heap[W.heap.size]? = some (elt ⟨gj, sj⟩) ∧ True) (ds := [3]) #[false, false, false, false, false, false, false, false, false] (by kernel_rfl) rfl rfl ⟨hJ_4, trivial⟩ (fun hHeld => ?_)
  generalize w3.drew = W4 at hHeld hC_4 hJ_4 hX_4 hB_4 ⊢
  refine pure_ (i := 0) (N := some 24) (v := ?_) (a' := ?_) #[true, false, false, false, false, false, false, false, false] rfl rfl (by kernel_rfl) (fun _ _ _ h => h) (Or.inl ⟨by rfl, ?_⟩) ?_ ?_
  rotate_left
  · intro w'
    go_simp
    try (with_reducible rfl)
  rotate_left
  · simp only [Act.put, List.setIfInBounds_toArray, List.set_cons_zero, List.set_cons_succ, i64_w, i32_w]
    rfl
  refine take_ (i := 2) (N := some 26) (v := ?_) (a' := ?_) #[true, false, true, false, false, false, false, false, false] rfl rfl (by kernel_rfl) (fun _ _ _ h => h) (Or.inl ⟨by rfl, ?_⟩) hHeld ?_ ?_
  rotate_left
  · intro w' hS_
    obtain ⟨d0, d1, d2⟩ := box2_at hS_.1
    go_simp
    try (with_reducible rfl)
  rotate_left
  · simp only [Act.put, List.setIfInBounds_toArray, List.set_cons_zero, List.set_cons_succ, i64_w, i32_w]
    rfl
  refine one_ (i := 1) (N := some 25) #[true, true, true, false, false, false, false, false, false] rfl rfl (by kernel_rfl) (by decide) (fun K hK => ?_)
  refine goes_ Try.func11 (by kernel_rfl) rfl #[.slice A0 n c0] (by rfl) rfl rfl (by (try simp only [List.map_toArray, List.map_cons, List.map_nil]); first | done | rfl) ?_
  refine (cut_calls _ _ _ hn _).mono ?_
  rintro r w5 ⟨rfl, hb5⟩
  refine ⟨_, rfl, ?_⟩
  rw [← HL.out]
  have hC_5 := Kd.C_below hC_4 hb5
  have hJ_5 := (hb5.block _ (Array.getElem?_eq_some_iff.1 hJ_4).1).trans hJ_4
  have hX_5 := (hb5.block _ (Array.getElem?_eq_some_iff.1 hX_4).1).trans hX_4
  have hB_5 := hB_4.trans (hb5.mono hB_4.size)
  refine hK.out _ _ ⟨hJ_5, trivial⟩ (fun _ => ?_)
  clear hK K
  clear hC_4 hJ_4 hX_4 hB_4 hb5
  refine last_ (i := 3) (N := some 27) #[true, true, true, true, false, false, false, false, false] rfl rfl (by kernel_rfl) (by decide) (fun K hK => ?_)
  refine goes_ Try.func10 (by kernel_rfl) rfl #[.slice A0 L.length c0, .agg #[.int .u32 gj, .string sj]] (by rfl) rfl rfl (by (try simp only [List.map_toArray, List.map_cons, List.map_nil]); first | done | rfl) ?_
  refine (add_ok A0 c0 L gj sj a e _ hC_5 hc hl Ha.out).mono ?_
  rintro r w6 ⟨v6, rfl, hv6, hb6⟩
  refine ⟨_, rfl, ?_⟩
  have hC_6 := Kd.C_below hC_5 hb6
  have hJ_6 := (hb6.block _ (Array.getElem?_eq_some_iff.1 hJ_5).1).trans hJ_5
  have hX_6 := (hb6.block _ (Array.getElem?_eq_some_iff.1 hX_5).1).trans hX_5
  have hB_6 := hB_5.trans (hb6.mono hB_5.size)
  obtain ⟨A3, c3, rfl, hlA3, hCA3⟩ := Kd.R_reads hv6
  refine hK.out _ _ ?_
  clear hK K hHeld
  clear hC_5 hJ_5 hX_5 hB_5 hb6 hv6
  refine pure_ (i := 4) (N := some 23) (v := ?_) (a' := ?_) #[true, true, true, true, true, false, false, false, false] rfl rfl (by kernel_rfl) (fun _ _ _ h => h) (Or.inl ⟨by rfl, ?_⟩) ?_ ?_
  rotate_left
  · intro w'
    go_simp
    try (with_reducible rfl)
  rotate_left
  · simp only [Act.put, List.setIfInBounds_toArray, List.set_cons_zero, List.set_cons_succ, List.getElem_toArray, List.getElem_cons_succ, List.getElem_cons_zero, i64_w, i32_w]
    rfl
  refine pure_ (i := 5) (N := some 28) (v := ?_) (a' := ?_) #[true, true, true, true, true, true, false, false, false] rfl rfl (by kernel_rfl) (fun _ _ _ h => h) (Or.inl ⟨by rfl, ?_⟩) ?_ ?_
  rotate_left
  · intro w'
    go_simp
    try (with_reducible rfl)
  rotate_left
  · simp only [Act.put, List.setIfInBounds_toArray, List.set_cons_zero, List.set_cons_succ, List.getElem_toArray, List.getElem_cons_succ, List.getElem_cons_zero, i64_w, i32_w]
    rfl
  refine pure_ (i := 6) (N := some 29) (v := ?_) (a' := ?_) #[true, true, true, true, true, true, true, false, false] rfl rfl (by kernel_rfl) (fun _ _ _ h => h) (Or.inl ⟨by rfl, ?_⟩) ?_ ?_
  rotate_left
  · intro w'
    go_simp
    try (with_reducible rfl)
  rotate_left
  · simp only [Act.put, List.setIfInBounds_toArray, List.set_cons_zero, List.set_cons_succ, List.getElem_toArray, List.getElem_cons_succ, List.getElem_cons_zero, i64_w, i32_w]
    rfl
  refine pure_ (i := 7) (N := some 8) (v := ?_) (a' := ?_) #[true, true, true, true, true, true, true, true, false] rfl rfl (by kernel_rfl) (fun _ _ _ h => h) (Or.inl ⟨by rfl, ?_⟩) ?_ ?_
  rotate_left
  · intro w'
    go_simp
    try (with_reducible rfl)
  rotate_left
  · simp only [Act.put, List.setIfInBounds_toArray, List.set_cons_zero, List.set_cons_succ, List.getElem_toArray, List.getElem_cons_succ, List.getElem_cons_zero, i64_w, i32_w]
    rfl
  refine pure_ (i := 8) (N := some 9) (v := ?_) (a' := ?_) #[true, true, true, true, true, true, true, true, true] rfl rfl (by kernel_rfl) (fun _ _ _ h => h) (Or.inl ⟨by rfl, ?_⟩) ?_ ?_
  rotate_left
  · intro w'
    go_simp
    try (with_reducible rfl)
  rotate_left
  · simp only [Act.put, List.setIfInBounds_toArray, List.set_cons_zero, List.set_cons_succ, List.getElem_toArray, List.getElem_cons_succ, List.getElem_cons_zero, i64_w, i32_w]
    rfl
  refine done_ (by kernel_rfl) ?_
  obtain ⟨d0, d1, d2⟩ := box2_at hJ_6
  obtain ⟨e0, e1, e2⟩ := box2_at hX_6
  go_wp2_with fail
  refine (add_ok A3 c3 a gk sk b f _ hCA3 hlA3 la Hb.out).mono ?_
  rintro r w7 ⟨v7, rfl, hv7, hb7⟩
  have hC_7 := Kd.C_below hC_6 hb7
  have hCA3_7 := Kd.C_below hCA3 hb7
  have hJ_7 := (hb7.block _ (Array.getElem?_eq_some_iff.1 hJ_6).1).trans hJ_6
  have hX_7 := (hb7.block _ (Array.getElem?_eq_some_iff.1 hX_6).1).trans hX_6
  have hB_7 := hB_6.trans (hb7.mono hB_6.size)
  obtain ⟨A4, c4, rfl, hlA4, hCA4⟩ := Kd.R_reads hv7
  clear hC_6 hCA3 hJ_6 hX_6 hB_6 hb7 hv7
  clear d0 d1 d2 e0 e1 e2
  obtain ⟨d0, d1, d2⟩ := box2_at hJ_7
  obtain ⟨e0, e1, e2⟩ := box2_at hX_7
  go_upto_region 6 with fail
  clear d0 d1 d2 e0 e1 e2
  have hb8 : Below w7.heap.size w7 w7.drew := Below.drew (Below.refl _ _)
  have hC_8 := Kd.C_below hC_7 hb8
  have hCA3_8 := Kd.C_below hCA3_7 hb8
  have hCA4_8 := Kd.C_below hCA4 hb8
  have hJ_8 := (hb8.block _ (Array.getElem?_eq_some_iff.1 hJ_7).1).trans hJ_7
  have hX_8 := (hb8.block _ (Array.getElem?_eq_some_iff.1 hX_7).1).trans hX_7
  have hB_8 := hB_7.trans (hb8.mono hB_7.size)
  clear hC_7 hCA3_7 hCA4 hJ_7 hX_7 hB_7 hb8
  refine start_ (n := 9) (S := fun V_ => V_.heap[W.heap.size + 1]? = some (elt ⟨gk, sk⟩) ∧ True) (ds := [3]) #[false, false, false, false, false, false, false, false, false] (by kernel_rfl) rfl rfl ⟨hX_8, trivial⟩ (fun hHeld => ?_)
  generalize w7.drew = W8 at hHeld hC_8 hCA3_8 hCA4_8 hJ_8 hX_8 hB_8 ⊢
  refine pure_ (i := 0) (N := some 37) (v := ?_) (a' := ?_) #[true, false, false, false, false, false, false, false, false] rfl rfl (by kernel_rfl) (fun _ _ _ h => h) (Or.inl ⟨by rfl, ?_⟩) ?_ ?_
  rotate_left
  · intro w'
    go_simp
    try (with_reducible rfl)
  rotate_left
  · simp only [Act.put, List.setIfInBounds_toArray, List.set_cons_zero, List.set_cons_succ, i64_w, i32_w]
    rfl
  refine take_ (i := 2) (N := some 39) (v := ?_) (a' := ?_) #[true, false, true, false, false, false, false, false, false] rfl rfl (by kernel_rfl) (fun _ _ _ h => h) (Or.inl ⟨by rfl, ?_⟩) hHeld ?_ ?_
  rotate_left
  · intro w' hS_
    obtain ⟨d0, d1, d2⟩ := box2_at hS_.1
    go_simp
    try (with_reducible rfl)
  rotate_left
  · simp only [Act.put, List.setIfInBounds_toArray, List.set_cons_zero, List.set_cons_succ, i64_w, i32_w]
    rfl
  refine one_ (i := 1) (N := some 38) #[true, true, true, false, false, false, false, false, false] rfl rfl (by kernel_rfl) (by decide) (fun K hK => ?_)
  refine goes_ Try.func11 (by kernel_rfl) rfl #[.slice A0 n c0] (by rfl) rfl rfl (by (try simp only [List.map_toArray, List.map_cons, List.map_nil]); first | done | rfl) ?_
  refine (cut_calls _ _ _ hn _).mono ?_
  rintro r w9 ⟨rfl, hb9⟩
  refine ⟨_, rfl, ?_⟩
  rw [← HL.out]
  have hC_9 := Kd.C_below hC_8 hb9
  have hCA3_9 := Kd.C_below hCA3_8 hb9
  have hCA4_9 := Kd.C_below hCA4_8 hb9
  have hJ_9 := (hb9.block _ (Array.getElem?_eq_some_iff.1 hJ_8).1).trans hJ_8
  have hX_9 := (hb9.block _ (Array.getElem?_eq_some_iff.1 hX_8).1).trans hX_8
  have hB_9 := hB_8.trans (hb9.mono hB_8.size)
  refine hK.out _ _ ⟨hX_9, trivial⟩ (fun _ => ?_)
  clear hK K
  clear hC_8 hCA3_8 hCA4_8 hJ_8 hX_8 hB_8 hb9
  refine last_ (i := 3) (N := some 40) #[true, true, true, true, false, false, false, false, false] rfl rfl (by kernel_rfl) (by decide) (fun K hK => ?_)
  refine goes_ Try.func10 (by kernel_rfl) rfl #[.slice A0 L.length c0, .agg #[.int .u32 gk, .string sk]] (by rfl) rfl rfl (by (try simp only [List.map_toArray, List.map_cons, List.map_nil]); first | done | rfl) ?_
  refine (add_ok A0 c0 L gk sk c g _ hC_9 hc hl Hcc.out).mono ?_
  rintro r w10 ⟨v10, rfl, hv10, hb10⟩
  refine ⟨_, rfl, ?_⟩
  have hC_10 := Kd.C_below hC_9 hb10
  have hCA3_10 := Kd.C_below hCA3_9 hb10
  have hCA4_10 := Kd.C_below hCA4_9 hb10
  have hJ_10 := (hb10.block _ (Array.getElem?_eq_some_iff.1 hJ_9).1).trans hJ_9
  have hX_10 := (hb10.block _ (Array.getElem?_eq_some_iff.1 hX_9).1).trans hX_9
  have hB_10 := hB_9.trans (hb10.mono hB_9.size)
  obtain ⟨A5, c5, rfl, hlA5, hCA5⟩ := Kd.R_reads hv10
  refine hK.out _ _ ?_
  clear hK K hHeld
  clear hC_9 hCA3_9 hCA4_9 hJ_9 hX_9 hB_9 hb10 hv10
  refine pure_ (i := 4) (N := some 36) (v := ?_) (a' := ?_) #[true, true, true, true, true, false, false, false, false] rfl rfl (by kernel_rfl) (fun _ _ _ h => h) (Or.inl ⟨by rfl, ?_⟩) ?_ ?_
  rotate_left
  · intro w'
    go_simp
    try (with_reducible rfl)
  rotate_left
  · simp only [Act.put, List.setIfInBounds_toArray, List.set_cons_zero, List.set_cons_succ, List.getElem_toArray, List.getElem_cons_succ, List.getElem_cons_zero, i64_w, i32_w]
    rfl
  refine pure_ (i := 5) (N := some 41) (v := ?_) (a' := ?_) #[true, true, true, true, true, true, false, false, false] rfl rfl (by kernel_rfl) (fun _ _ _ h => h) (Or.inl ⟨by rfl, ?_⟩) ?_ ?_
  rotate_left
  · intro w'
    go_simp
    try (with_reducible rfl)
  rotate_left
  · simp only [Act.put, List.setIfInBounds_toArray, List.set_cons_zero, List.set_cons_succ, List.getElem_toArray, List.getElem_cons_succ, List.getElem_cons_zero, i64_w, i32_w]
    rfl
  refine pure_ (i := 6) (N := some 42) (v := ?_) (a' := ?_) #[true, true, true, true, true, true, true, false, false] rfl rfl (by kernel_rfl) (fun _ _ _ h => h) (Or.inl ⟨by rfl, ?_⟩) ?_ ?_
  rotate_left
  · intro w'
    go_simp
    try (with_reducible rfl)
  rotate_left
  · simp only [Act.put, List.setIfInBounds_toArray, List.set_cons_zero, List.set_cons_succ, List.getElem_toArray, List.getElem_cons_succ, List.getElem_cons_zero, i64_w, i32_w]
    rfl
  refine pure_ (i := 7) (N := some 12) (v := ?_) (a' := ?_) #[true, true, true, true, true, true, true, true, false] rfl rfl (by kernel_rfl) (fun _ _ _ h => h) (Or.inl ⟨by rfl, ?_⟩) ?_ ?_
  rotate_left
  · intro w'
    go_simp
    try (with_reducible rfl)
  rotate_left
  · simp only [Act.put, List.setIfInBounds_toArray, List.set_cons_zero, List.set_cons_succ, List.getElem_toArray, List.getElem_cons_succ, List.getElem_cons_zero, i64_w, i32_w]
    rfl
  refine pure_ (i := 8) (N := some 13) (v := ?_) (a' := ?_) #[true, true, true, true, true, true, true, true, true] rfl rfl (by kernel_rfl) (fun _ _ _ h => h) (Or.inl ⟨by rfl, ?_⟩) ?_ ?_
  rotate_left
  · intro w'
    go_simp
    try (with_reducible rfl)
  rotate_left
  · simp only [Act.put, List.setIfInBounds_toArray, List.set_cons_zero, List.set_cons_succ, List.getElem_toArray, List.getElem_cons_succ, List.getElem_cons_zero, i64_w, i32_w]
    rfl
  refine done_ (by kernel_rfl) ?_
  obtain ⟨d0, d1, d2⟩ := box2_at hJ_10
  obtain ⟨e0, e1, e2⟩ := box2_at hX_10
  go_wp2_with fail
  refine (add_ok A5 c5 c gj sj d h _ hCA5 hlA5 lc Hd.out).mono ?_
  rintro r w11 ⟨v11, rfl, hv11, hb11⟩
  have hC_11 := Kd.C_below hC_10 hb11
  have hCA3_11 := Kd.C_below hCA3_10 hb11
  have hCA4_11 := Kd.C_below hCA4_10 hb11
  have hCA5_11 := Kd.C_below hCA5 hb11
  have hJ_11 := (hb11.block _ (Array.getElem?_eq_some_iff.1 hJ_10).1).trans hJ_10
  have hX_11 := (hb11.block _ (Array.getElem?_eq_some_iff.1 hX_10).1).trans hX_10
  have hB_11 := hB_10.trans (hb11.mono hB_10.size)
  obtain ⟨A6, c6, rfl, hlA6, hCA6⟩ := Kd.R_reads hv11
  clear hC_10 hCA3_10 hCA4_10 hCA5 hJ_10 hX_10 hB_10 hb11 hv11
  clear d0 d1 d2 e0 e1 e2
  obtain ⟨d0, d1, d2⟩ := box2_at hJ_11
  obtain ⟨e0, e1, e2⟩ := box2_at hX_11
  go_wp2
  go_ret
  exact ⟨by simp, hB_11⟩

set_option maxHeartbeats 8000000 in
theorem KeysOrder_C (A0 : Option Addr) (n c0 : Nat) (L : List S25) (gj : Int) (sj : ByteArray) (gk : Int) (sk : ByteArray) (W : World) (hn : n ≤ c0) (hL : L.length = min n 30) (hC : Kd.C k25 W A0 L.length L) (a b c d : List S25) (e f g h : Int) (ha : addOf L ⟨gj, sj⟩ = (a, e)) (hb : addOf a ⟨gk, sk⟩ = (b, f)) (hcc : addOf L ⟨gk, sk⟩ = (c, g)) (hd : addOf c ⟨gj, sj⟩ = (d, h)) (hg : (gj == gk) = false) (hl : L.length ≤ 30) (xe : (e != 0) = true) (xg : (g != 0) = false) (xh : (h != 0) = true) :
    Calls Try.prog 4 #[.slice A0 n c0, .agg #[.int .u32 gj, .string sj], .agg #[.int .u32 gk, .string sk]] W fun e W' => e = .returned (.bool true) ∧ Below W.heap.size W W' := by
  have h1 := add_len ha
  have h2 := add_len hb
  have h3 := add_len hcc
  have h4 := add_len hd
  have la : a.length ≤ 400 := by omega
  have lb : b.length ≤ 400 := by omega
  have lc : c.length ≤ 400 := by omega
  clear h1 h2 h3 h4
  have hl : L.length ≤ 400 := by omega
  have hc : L.length ≤ c0 := by omega
  have HL := Lib.hid hL
  have Ha := Lib.hid ha
  have Hb := Lib.hid hb
  have Hcc := Lib.hid hcc
  have Hd := Lib.hid hd
  clear hL ha hb hcc hd
  have hb1 : Below W.heap.size W (W.alloc (Obj.cells #[.int .u32 gj, .string sj] 25 (0, 0))) := (Below.refl _ _).alloc (Nat.le_refl _) _
  have hJ : (W.alloc (Obj.cells #[.int .u32 gj, .string sj] 25 (0, 0))).heap[W.heap.size]? = some (Obj.cells #[.int .u32 gj, .string sj] 25 (0, 0)) := World.alloc_heap_new _ _
  have hC_1 := Kd.C_below hC hb1
  have hB_1 := hb1
  clear hC hb1
  have hb2 : Below (W.alloc (Obj.cells #[.int .u32 gj, .string sj] 25 (0, 0))).heap.size (W.alloc (Obj.cells #[.int .u32 gj, .string sj] 25 (0, 0))) ((W.alloc (Obj.cells #[.int .u32 gj, .string sj] 25 (0, 0))).alloc (Obj.cells #[.int .u32 gk, .string sk] 25 (0, 0))) := (Below.refl _ _).alloc (Nat.le_refl _) _
  have hX : ((W.alloc (Obj.cells #[.int .u32 gj, .string sj] 25 (0, 0))).alloc (Obj.cells #[.int .u32 gk, .string sk] 25 (0, 0))).heap[(W.alloc (Obj.cells #[.int .u32 gj, .string sj] 25 (0, 0))).heap.size]? = some (Obj.cells #[.int .u32 gk, .string sk] 25 (0, 0)) := World.alloc_heap_new _ _
  have hC_2 := Kd.C_below hC_1 hb2
  have hJ_2 := (hb2.block _ (Array.getElem?_eq_some_iff.1 hJ).1).trans hJ
  have hB_2 := hB_1.trans (hb2.mono hB_1.size)
  clear hC_1 hJ hB_1 hb2
  rw [World.size_alloc] at hX
  go_enter Try.func4, Try.ntmps4
  go_wp2_with fail
  refine (shown_ok _).mono ?_
  rintro r w3 ⟨rfl, hb3⟩
  have hC_3 := Kd.C_below hC_2 hb3
  have hJ_3 := (hb3.block _ (Array.getElem?_eq_some_iff.1 hJ_2).1).trans hJ_2
  have hX_3 := (hb3.block _ (Array.getElem?_eq_some_iff.1 hX).1).trans hX
  have hB_3 := hB_2.trans (hb3.mono hB_2.size)
  clear hC_2 hJ_2 hX hB_2 hb3
  obtain ⟨d0, d1, d2⟩ := box2_at hJ_3
  obtain ⟨e0, e1, e2⟩ := box2_at hX_3
  go_upto_region 4 with fail
  clear d0 d1 d2 e0 e1 e2
  have hb4 : Below w3.heap.size w3 w3.drew := Below.drew (Below.refl _ _)
  have hC_4 := Kd.C_below hC_3 hb4
  have hJ_4 := (hb4.block _ (Array.getElem?_eq_some_iff.1 hJ_3).1).trans hJ_3
  have hX_4 := (hb4.block _ (Array.getElem?_eq_some_iff.1 hX_3).1).trans hX_3
  have hB_4 := hB_3.trans (hb4.mono hB_3.size)
  clear hC_3 hJ_3 hX_3 hB_3 hb4
  refine start_ (n := 9) (S := fun V_ => V_.heap[W.heap.size]? = some (elt ⟨gj, sj⟩) ∧ True) (ds := [3]) #[false, false, false, false, false, false, false, false, false] (by kernel_rfl) rfl rfl ⟨hJ_4, trivial⟩ (fun hHeld => ?_)
  generalize w3.drew = W4 at hHeld hC_4 hJ_4 hX_4 hB_4 ⊢
  refine pure_ (i := 0) (N := some 24) (v := ?_) (a' := ?_) #[true, false, false, false, false, false, false, false, false] rfl rfl (by kernel_rfl) (fun _ _ _ h => h) (Or.inl ⟨by rfl, ?_⟩) ?_ ?_
  rotate_left
  · intro w'
    go_simp
    try (with_reducible rfl)
  rotate_left
  · simp only [Act.put, List.setIfInBounds_toArray, List.set_cons_zero, List.set_cons_succ, i64_w, i32_w]
    rfl
  refine take_ (i := 2) (N := some 26) (v := ?_) (a' := ?_) #[true, false, true, false, false, false, false, false, false] rfl rfl (by kernel_rfl) (fun _ _ _ h => h) (Or.inl ⟨by rfl, ?_⟩) hHeld ?_ ?_
  rotate_left
  · intro w' hS_
    obtain ⟨d0, d1, d2⟩ := box2_at hS_.1
    go_simp
    try (with_reducible rfl)
  rotate_left
  · simp only [Act.put, List.setIfInBounds_toArray, List.set_cons_zero, List.set_cons_succ, i64_w, i32_w]
    rfl
  refine one_ (i := 1) (N := some 25) #[true, true, true, false, false, false, false, false, false] rfl rfl (by kernel_rfl) (by decide) (fun K hK => ?_)
  refine goes_ Try.func11 (by kernel_rfl) rfl #[.slice A0 n c0] (by rfl) rfl rfl (by (try simp only [List.map_toArray, List.map_cons, List.map_nil]); first | done | rfl) ?_
  refine (cut_calls _ _ _ hn _).mono ?_
  rintro r w5 ⟨rfl, hb5⟩
  refine ⟨_, rfl, ?_⟩
  rw [← HL.out]
  have hC_5 := Kd.C_below hC_4 hb5
  have hJ_5 := (hb5.block _ (Array.getElem?_eq_some_iff.1 hJ_4).1).trans hJ_4
  have hX_5 := (hb5.block _ (Array.getElem?_eq_some_iff.1 hX_4).1).trans hX_4
  have hB_5 := hB_4.trans (hb5.mono hB_4.size)
  refine hK.out _ _ ⟨hJ_5, trivial⟩ (fun _ => ?_)
  clear hK K
  clear hC_4 hJ_4 hX_4 hB_4 hb5
  refine last_ (i := 3) (N := some 27) #[true, true, true, true, false, false, false, false, false] rfl rfl (by kernel_rfl) (by decide) (fun K hK => ?_)
  refine goes_ Try.func10 (by kernel_rfl) rfl #[.slice A0 L.length c0, .agg #[.int .u32 gj, .string sj]] (by rfl) rfl rfl (by (try simp only [List.map_toArray, List.map_cons, List.map_nil]); first | done | rfl) ?_
  refine (add_ok A0 c0 L gj sj a e _ hC_5 hc hl Ha.out).mono ?_
  rintro r w6 ⟨v6, rfl, hv6, hb6⟩
  refine ⟨_, rfl, ?_⟩
  have hC_6 := Kd.C_below hC_5 hb6
  have hJ_6 := (hb6.block _ (Array.getElem?_eq_some_iff.1 hJ_5).1).trans hJ_5
  have hX_6 := (hb6.block _ (Array.getElem?_eq_some_iff.1 hX_5).1).trans hX_5
  have hB_6 := hB_5.trans (hb6.mono hB_5.size)
  obtain ⟨A3, c3, rfl, hlA3, hCA3⟩ := Kd.R_reads hv6
  refine hK.out _ _ ?_
  clear hK K hHeld
  clear hC_5 hJ_5 hX_5 hB_5 hb6 hv6
  refine pure_ (i := 4) (N := some 23) (v := ?_) (a' := ?_) #[true, true, true, true, true, false, false, false, false] rfl rfl (by kernel_rfl) (fun _ _ _ h => h) (Or.inl ⟨by rfl, ?_⟩) ?_ ?_
  rotate_left
  · intro w'
    go_simp
    try (with_reducible rfl)
  rotate_left
  · simp only [Act.put, List.setIfInBounds_toArray, List.set_cons_zero, List.set_cons_succ, List.getElem_toArray, List.getElem_cons_succ, List.getElem_cons_zero, i64_w, i32_w]
    rfl
  refine pure_ (i := 5) (N := some 28) (v := ?_) (a' := ?_) #[true, true, true, true, true, true, false, false, false] rfl rfl (by kernel_rfl) (fun _ _ _ h => h) (Or.inl ⟨by rfl, ?_⟩) ?_ ?_
  rotate_left
  · intro w'
    go_simp
    try (with_reducible rfl)
  rotate_left
  · simp only [Act.put, List.setIfInBounds_toArray, List.set_cons_zero, List.set_cons_succ, List.getElem_toArray, List.getElem_cons_succ, List.getElem_cons_zero, i64_w, i32_w]
    rfl
  refine pure_ (i := 6) (N := some 29) (v := ?_) (a' := ?_) #[true, true, true, true, true, true, true, false, false] rfl rfl (by kernel_rfl) (fun _ _ _ h => h) (Or.inl ⟨by rfl, ?_⟩) ?_ ?_
  rotate_left
  · intro w'
    go_simp
    try (with_reducible rfl)
  rotate_left
  · simp only [Act.put, List.setIfInBounds_toArray, List.set_cons_zero, List.set_cons_succ, List.getElem_toArray, List.getElem_cons_succ, List.getElem_cons_zero, i64_w, i32_w]
    rfl
  refine pure_ (i := 7) (N := some 8) (v := ?_) (a' := ?_) #[true, true, true, true, true, true, true, true, false] rfl rfl (by kernel_rfl) (fun _ _ _ h => h) (Or.inl ⟨by rfl, ?_⟩) ?_ ?_
  rotate_left
  · intro w'
    go_simp
    try (with_reducible rfl)
  rotate_left
  · simp only [Act.put, List.setIfInBounds_toArray, List.set_cons_zero, List.set_cons_succ, List.getElem_toArray, List.getElem_cons_succ, List.getElem_cons_zero, i64_w, i32_w]
    rfl
  refine pure_ (i := 8) (N := some 9) (v := ?_) (a' := ?_) #[true, true, true, true, true, true, true, true, true] rfl rfl (by kernel_rfl) (fun _ _ _ h => h) (Or.inl ⟨by rfl, ?_⟩) ?_ ?_
  rotate_left
  · intro w'
    go_simp
    try (with_reducible rfl)
  rotate_left
  · simp only [Act.put, List.setIfInBounds_toArray, List.set_cons_zero, List.set_cons_succ, List.getElem_toArray, List.getElem_cons_succ, List.getElem_cons_zero, i64_w, i32_w]
    rfl
  refine done_ (by kernel_rfl) ?_
  obtain ⟨d0, d1, d2⟩ := box2_at hJ_6
  obtain ⟨e0, e1, e2⟩ := box2_at hX_6
  go_wp2_with fail
  refine (add_ok A3 c3 a gk sk b f _ hCA3 hlA3 la Hb.out).mono ?_
  rintro r w7 ⟨v7, rfl, hv7, hb7⟩
  have hC_7 := Kd.C_below hC_6 hb7
  have hCA3_7 := Kd.C_below hCA3 hb7
  have hJ_7 := (hb7.block _ (Array.getElem?_eq_some_iff.1 hJ_6).1).trans hJ_6
  have hX_7 := (hb7.block _ (Array.getElem?_eq_some_iff.1 hX_6).1).trans hX_6
  have hB_7 := hB_6.trans (hb7.mono hB_6.size)
  obtain ⟨A4, c4, rfl, hlA4, hCA4⟩ := Kd.R_reads hv7
  clear hC_6 hCA3 hJ_6 hX_6 hB_6 hb7 hv7
  clear d0 d1 d2 e0 e1 e2
  obtain ⟨d0, d1, d2⟩ := box2_at hJ_7
  obtain ⟨e0, e1, e2⟩ := box2_at hX_7
  go_upto_region 6 with fail
  clear d0 d1 d2 e0 e1 e2
  have hb8 : Below w7.heap.size w7 w7.drew := Below.drew (Below.refl _ _)
  have hC_8 := Kd.C_below hC_7 hb8
  have hCA3_8 := Kd.C_below hCA3_7 hb8
  have hCA4_8 := Kd.C_below hCA4 hb8
  have hJ_8 := (hb8.block _ (Array.getElem?_eq_some_iff.1 hJ_7).1).trans hJ_7
  have hX_8 := (hb8.block _ (Array.getElem?_eq_some_iff.1 hX_7).1).trans hX_7
  have hB_8 := hB_7.trans (hb8.mono hB_7.size)
  clear hC_7 hCA3_7 hCA4 hJ_7 hX_7 hB_7 hb8
  refine start_ (n := 9) (S := fun V_ => V_.heap[W.heap.size + 1]? = some (elt ⟨gk, sk⟩) ∧ True) (ds := [3]) #[false, false, false, false, false, false, false, false, false] (by kernel_rfl) rfl rfl ⟨hX_8, trivial⟩ (fun hHeld => ?_)
  generalize w7.drew = W8 at hHeld hC_8 hCA3_8 hCA4_8 hJ_8 hX_8 hB_8 ⊢
  refine pure_ (i := 0) (N := some 37) (v := ?_) (a' := ?_) #[true, false, false, false, false, false, false, false, false] rfl rfl (by kernel_rfl) (fun _ _ _ h => h) (Or.inl ⟨by rfl, ?_⟩) ?_ ?_
  rotate_left
  · intro w'
    go_simp
    try (with_reducible rfl)
  rotate_left
  · simp only [Act.put, List.setIfInBounds_toArray, List.set_cons_zero, List.set_cons_succ, i64_w, i32_w]
    rfl
  refine take_ (i := 2) (N := some 39) (v := ?_) (a' := ?_) #[true, false, true, false, false, false, false, false, false] rfl rfl (by kernel_rfl) (fun _ _ _ h => h) (Or.inl ⟨by rfl, ?_⟩) hHeld ?_ ?_
  rotate_left
  · intro w' hS_
    obtain ⟨d0, d1, d2⟩ := box2_at hS_.1
    go_simp
    try (with_reducible rfl)
  rotate_left
  · simp only [Act.put, List.setIfInBounds_toArray, List.set_cons_zero, List.set_cons_succ, i64_w, i32_w]
    rfl
  refine one_ (i := 1) (N := some 38) #[true, true, true, false, false, false, false, false, false] rfl rfl (by kernel_rfl) (by decide) (fun K hK => ?_)
  refine goes_ Try.func11 (by kernel_rfl) rfl #[.slice A0 n c0] (by rfl) rfl rfl (by (try simp only [List.map_toArray, List.map_cons, List.map_nil]); first | done | rfl) ?_
  refine (cut_calls _ _ _ hn _).mono ?_
  rintro r w9 ⟨rfl, hb9⟩
  refine ⟨_, rfl, ?_⟩
  rw [← HL.out]
  have hC_9 := Kd.C_below hC_8 hb9
  have hCA3_9 := Kd.C_below hCA3_8 hb9
  have hCA4_9 := Kd.C_below hCA4_8 hb9
  have hJ_9 := (hb9.block _ (Array.getElem?_eq_some_iff.1 hJ_8).1).trans hJ_8
  have hX_9 := (hb9.block _ (Array.getElem?_eq_some_iff.1 hX_8).1).trans hX_8
  have hB_9 := hB_8.trans (hb9.mono hB_8.size)
  refine hK.out _ _ ⟨hX_9, trivial⟩ (fun _ => ?_)
  clear hK K
  clear hC_8 hCA3_8 hCA4_8 hJ_8 hX_8 hB_8 hb9
  refine last_ (i := 3) (N := some 40) #[true, true, true, true, false, false, false, false, false] rfl rfl (by kernel_rfl) (by decide) (fun K hK => ?_)
  refine goes_ Try.func10 (by kernel_rfl) rfl #[.slice A0 L.length c0, .agg #[.int .u32 gk, .string sk]] (by rfl) rfl rfl (by (try simp only [List.map_toArray, List.map_cons, List.map_nil]); first | done | rfl) ?_
  refine (add_ok A0 c0 L gk sk c g _ hC_9 hc hl Hcc.out).mono ?_
  rintro r w10 ⟨v10, rfl, hv10, hb10⟩
  refine ⟨_, rfl, ?_⟩
  have hC_10 := Kd.C_below hC_9 hb10
  have hCA3_10 := Kd.C_below hCA3_9 hb10
  have hCA4_10 := Kd.C_below hCA4_9 hb10
  have hJ_10 := (hb10.block _ (Array.getElem?_eq_some_iff.1 hJ_9).1).trans hJ_9
  have hX_10 := (hb10.block _ (Array.getElem?_eq_some_iff.1 hX_9).1).trans hX_9
  have hB_10 := hB_9.trans (hb10.mono hB_9.size)
  obtain ⟨A5, c5, rfl, hlA5, hCA5⟩ := Kd.R_reads hv10
  refine hK.out _ _ ?_
  clear hK K hHeld
  clear hC_9 hCA3_9 hCA4_9 hJ_9 hX_9 hB_9 hb10 hv10
  refine pure_ (i := 4) (N := some 36) (v := ?_) (a' := ?_) #[true, true, true, true, true, false, false, false, false] rfl rfl (by kernel_rfl) (fun _ _ _ h => h) (Or.inl ⟨by rfl, ?_⟩) ?_ ?_
  rotate_left
  · intro w'
    go_simp
    try (with_reducible rfl)
  rotate_left
  · simp only [Act.put, List.setIfInBounds_toArray, List.set_cons_zero, List.set_cons_succ, List.getElem_toArray, List.getElem_cons_succ, List.getElem_cons_zero, i64_w, i32_w]
    rfl
  refine pure_ (i := 5) (N := some 41) (v := ?_) (a' := ?_) #[true, true, true, true, true, true, false, false, false] rfl rfl (by kernel_rfl) (fun _ _ _ h => h) (Or.inl ⟨by rfl, ?_⟩) ?_ ?_
  rotate_left
  · intro w'
    go_simp
    try (with_reducible rfl)
  rotate_left
  · simp only [Act.put, List.setIfInBounds_toArray, List.set_cons_zero, List.set_cons_succ, List.getElem_toArray, List.getElem_cons_succ, List.getElem_cons_zero, i64_w, i32_w]
    rfl
  refine pure_ (i := 6) (N := some 42) (v := ?_) (a' := ?_) #[true, true, true, true, true, true, true, false, false] rfl rfl (by kernel_rfl) (fun _ _ _ h => h) (Or.inl ⟨by rfl, ?_⟩) ?_ ?_
  rotate_left
  · intro w'
    go_simp
    try (with_reducible rfl)
  rotate_left
  · simp only [Act.put, List.setIfInBounds_toArray, List.set_cons_zero, List.set_cons_succ, List.getElem_toArray, List.getElem_cons_succ, List.getElem_cons_zero, i64_w, i32_w]
    rfl
  refine pure_ (i := 7) (N := some 12) (v := ?_) (a' := ?_) #[true, true, true, true, true, true, true, true, false] rfl rfl (by kernel_rfl) (fun _ _ _ h => h) (Or.inl ⟨by rfl, ?_⟩) ?_ ?_
  rotate_left
  · intro w'
    go_simp
    try (with_reducible rfl)
  rotate_left
  · simp only [Act.put, List.setIfInBounds_toArray, List.set_cons_zero, List.set_cons_succ, List.getElem_toArray, List.getElem_cons_succ, List.getElem_cons_zero, i64_w, i32_w]
    rfl
  refine pure_ (i := 8) (N := some 13) (v := ?_) (a' := ?_) #[true, true, true, true, true, true, true, true, true] rfl rfl (by kernel_rfl) (fun _ _ _ h => h) (Or.inl ⟨by rfl, ?_⟩) ?_ ?_
  rotate_left
  · intro w'
    go_simp
    try (with_reducible rfl)
  rotate_left
  · simp only [Act.put, List.setIfInBounds_toArray, List.set_cons_zero, List.set_cons_succ, List.getElem_toArray, List.getElem_cons_succ, List.getElem_cons_zero, i64_w, i32_w]
    rfl
  refine done_ (by kernel_rfl) ?_
  obtain ⟨d0, d1, d2⟩ := box2_at hJ_10
  obtain ⟨e0, e1, e2⟩ := box2_at hX_10
  go_wp2_with fail
  refine (add_ok A5 c5 c gj sj d h _ hCA5 hlA5 lc Hd.out).mono ?_
  rintro r w11 ⟨v11, rfl, hv11, hb11⟩
  have hC_11 := Kd.C_below hC_10 hb11
  have hCA3_11 := Kd.C_below hCA3_10 hb11
  have hCA4_11 := Kd.C_below hCA4_10 hb11
  have hCA5_11 := Kd.C_below hCA5 hb11
  have hJ_11 := (hb11.block _ (Array.getElem?_eq_some_iff.1 hJ_10).1).trans hJ_10
  have hX_11 := (hb11.block _ (Array.getElem?_eq_some_iff.1 hX_10).1).trans hX_10
  have hB_11 := hB_10.trans (hb11.mono hB_10.size)
  obtain ⟨A6, c6, rfl, hlA6, hCA6⟩ := Kd.R_reads hv11
  clear hC_10 hCA3_10 hCA4_10 hCA5 hJ_10 hX_10 hB_10 hb11 hv11
  clear d0 d1 d2 e0 e1 e2
  obtain ⟨d0, d1, d2⟩ := box2_at hJ_11
  obtain ⟨e0, e1, e2⟩ := box2_at hX_11
  go_wp2
  go_ret
  exact ⟨by simp, hB_11⟩

set_option maxHeartbeats 8000000 in
theorem KeysOrder_D (A0 : Option Addr) (n c0 : Nat) (L : List S25) (gj : Int) (sj : ByteArray) (gk : Int) (sk : ByteArray) (W : World) (hn : n ≤ c0) (hL : L.length = min n 30) (hC : Kd.C k25 W A0 L.length L) (a b c d : List S25) (e f g h : Int) (ha : addOf L ⟨gj, sj⟩ = (a, e)) (hb : addOf a ⟨gk, sk⟩ = (b, f)) (hcc : addOf L ⟨gk, sk⟩ = (c, g)) (hd : addOf c ⟨gj, sj⟩ = (d, h)) (hg : (gj == gk) = false) (hl : L.length ≤ 30) (xe : (e != 0) = false) (xf : (f != 0) = true) (xg : (g != 0) = true) :
    Calls Try.prog 4 #[.slice A0 n c0, .agg #[.int .u32 gj, .string sj], .agg #[.int .u32 gk, .string sk]] W fun e W' => e = .returned (.bool true) ∧ Below W.heap.size W W' := by
  have h1 := add_len ha
  have h2 := add_len hb
  have h3 := add_len hcc
  have h4 := add_len hd
  have la : a.length ≤ 400 := by omega
  have lb : b.length ≤ 400 := by omega
  have lc : c.length ≤ 400 := by omega
  clear h1 h2 h3 h4
  have hl : L.length ≤ 400 := by omega
  have hc : L.length ≤ c0 := by omega
  have HL := Lib.hid hL
  have Ha := Lib.hid ha
  have Hb := Lib.hid hb
  have Hcc := Lib.hid hcc
  have Hd := Lib.hid hd
  clear hL ha hb hcc hd
  have hb1 : Below W.heap.size W (W.alloc (Obj.cells #[.int .u32 gj, .string sj] 25 (0, 0))) := (Below.refl _ _).alloc (Nat.le_refl _) _
  have hJ : (W.alloc (Obj.cells #[.int .u32 gj, .string sj] 25 (0, 0))).heap[W.heap.size]? = some (Obj.cells #[.int .u32 gj, .string sj] 25 (0, 0)) := World.alloc_heap_new _ _
  have hC_1 := Kd.C_below hC hb1
  have hB_1 := hb1
  clear hC hb1
  have hb2 : Below (W.alloc (Obj.cells #[.int .u32 gj, .string sj] 25 (0, 0))).heap.size (W.alloc (Obj.cells #[.int .u32 gj, .string sj] 25 (0, 0))) ((W.alloc (Obj.cells #[.int .u32 gj, .string sj] 25 (0, 0))).alloc (Obj.cells #[.int .u32 gk, .string sk] 25 (0, 0))) := (Below.refl _ _).alloc (Nat.le_refl _) _
  have hX : ((W.alloc (Obj.cells #[.int .u32 gj, .string sj] 25 (0, 0))).alloc (Obj.cells #[.int .u32 gk, .string sk] 25 (0, 0))).heap[(W.alloc (Obj.cells #[.int .u32 gj, .string sj] 25 (0, 0))).heap.size]? = some (Obj.cells #[.int .u32 gk, .string sk] 25 (0, 0)) := World.alloc_heap_new _ _
  have hC_2 := Kd.C_below hC_1 hb2
  have hJ_2 := (hb2.block _ (Array.getElem?_eq_some_iff.1 hJ).1).trans hJ
  have hB_2 := hB_1.trans (hb2.mono hB_1.size)
  clear hC_1 hJ hB_1 hb2
  rw [World.size_alloc] at hX
  go_enter Try.func4, Try.ntmps4
  go_wp2_with fail
  refine (shown_ok _).mono ?_
  rintro r w3 ⟨rfl, hb3⟩
  have hC_3 := Kd.C_below hC_2 hb3
  have hJ_3 := (hb3.block _ (Array.getElem?_eq_some_iff.1 hJ_2).1).trans hJ_2
  have hX_3 := (hb3.block _ (Array.getElem?_eq_some_iff.1 hX).1).trans hX
  have hB_3 := hB_2.trans (hb3.mono hB_2.size)
  clear hC_2 hJ_2 hX hB_2 hb3
  obtain ⟨d0, d1, d2⟩ := box2_at hJ_3
  obtain ⟨e0, e1, e2⟩ := box2_at hX_3
  go_upto_region 4 with fail
  clear d0 d1 d2 e0 e1 e2
  have hb4 : Below w3.heap.size w3 w3.drew := Below.drew (Below.refl _ _)
  have hC_4 := Kd.C_below hC_3 hb4
  have hJ_4 := (hb4.block _ (Array.getElem?_eq_some_iff.1 hJ_3).1).trans hJ_3
  have hX_4 := (hb4.block _ (Array.getElem?_eq_some_iff.1 hX_3).1).trans hX_3
  have hB_4 := hB_3.trans (hb4.mono hB_3.size)
  clear hC_3 hJ_3 hX_3 hB_3 hb4
  refine start_ (n := 9) (S := fun V_ => V_.heap[W.heap.size]? = some (elt ⟨gj, sj⟩) ∧ True) (ds := [3]) #[false, false, false, false, false, false, false, false, false] (by kernel_rfl) rfl rfl ⟨hJ_4, trivial⟩ (fun hHeld => ?_)
  generalize w3.drew = W4 at hHeld hC_4 hJ_4 hX_4 hB_4 ⊢
  refine pure_ (i := 0) (N := some 24) (v := ?_) (a' := ?_) #[true, false, false, false, false, false, false, false, false] rfl rfl (by kernel_rfl) (fun _ _ _ h => h) (Or.inl ⟨by rfl, ?_⟩) ?_ ?_
  rotate_left
  · intro w'
    go_simp
    try (with_reducible rfl)
  rotate_left
  · simp only [Act.put, List.setIfInBounds_toArray, List.set_cons_zero, List.set_cons_succ, i64_w, i32_w]
    rfl
  refine take_ (i := 2) (N := some 26) (v := ?_) (a' := ?_) #[true, false, true, false, false, false, false, false, false] rfl rfl (by kernel_rfl) (fun _ _ _ h => h) (Or.inl ⟨by rfl, ?_⟩) hHeld ?_ ?_
  rotate_left
  · intro w' hS_
    obtain ⟨d0, d1, d2⟩ := box2_at hS_.1
    go_simp
    try (with_reducible rfl)
  rotate_left
  · simp only [Act.put, List.setIfInBounds_toArray, List.set_cons_zero, List.set_cons_succ, i64_w, i32_w]
    rfl
  refine one_ (i := 1) (N := some 25) #[true, true, true, false, false, false, false, false, false] rfl rfl (by kernel_rfl) (by decide) (fun K hK => ?_)
  refine goes_ Try.func11 (by kernel_rfl) rfl #[.slice A0 n c0] (by rfl) rfl rfl (by (try simp only [List.map_toArray, List.map_cons, List.map_nil]); first | done | rfl) ?_
  refine (cut_calls _ _ _ hn _).mono ?_
  rintro r w5 ⟨rfl, hb5⟩
  refine ⟨_, rfl, ?_⟩
  rw [← HL.out]
  have hC_5 := Kd.C_below hC_4 hb5
  have hJ_5 := (hb5.block _ (Array.getElem?_eq_some_iff.1 hJ_4).1).trans hJ_4
  have hX_5 := (hb5.block _ (Array.getElem?_eq_some_iff.1 hX_4).1).trans hX_4
  have hB_5 := hB_4.trans (hb5.mono hB_4.size)
  refine hK.out _ _ ⟨hJ_5, trivial⟩ (fun _ => ?_)
  clear hK K
  clear hC_4 hJ_4 hX_4 hB_4 hb5
  refine last_ (i := 3) (N := some 27) #[true, true, true, true, false, false, false, false, false] rfl rfl (by kernel_rfl) (by decide) (fun K hK => ?_)
  refine goes_ Try.func10 (by kernel_rfl) rfl #[.slice A0 L.length c0, .agg #[.int .u32 gj, .string sj]] (by rfl) rfl rfl (by (try simp only [List.map_toArray, List.map_cons, List.map_nil]); first | done | rfl) ?_
  refine (add_ok A0 c0 L gj sj a e _ hC_5 hc hl Ha.out).mono ?_
  rintro r w6 ⟨v6, rfl, hv6, hb6⟩
  refine ⟨_, rfl, ?_⟩
  have hC_6 := Kd.C_below hC_5 hb6
  have hJ_6 := (hb6.block _ (Array.getElem?_eq_some_iff.1 hJ_5).1).trans hJ_5
  have hX_6 := (hb6.block _ (Array.getElem?_eq_some_iff.1 hX_5).1).trans hX_5
  have hB_6 := hB_5.trans (hb6.mono hB_5.size)
  obtain ⟨A3, c3, rfl, hlA3, hCA3⟩ := Kd.R_reads hv6
  refine hK.out _ _ ?_
  clear hK K hHeld
  clear hC_5 hJ_5 hX_5 hB_5 hb6 hv6
  refine pure_ (i := 4) (N := some 23) (v := ?_) (a' := ?_) #[true, true, true, true, true, false, false, false, false] rfl rfl (by kernel_rfl) (fun _ _ _ h => h) (Or.inl ⟨by rfl, ?_⟩) ?_ ?_
  rotate_left
  · intro w'
    go_simp
    try (with_reducible rfl)
  rotate_left
  · simp only [Act.put, List.setIfInBounds_toArray, List.set_cons_zero, List.set_cons_succ, List.getElem_toArray, List.getElem_cons_succ, List.getElem_cons_zero, i64_w, i32_w]
    rfl
  refine pure_ (i := 5) (N := some 28) (v := ?_) (a' := ?_) #[true, true, true, true, true, true, false, false, false] rfl rfl (by kernel_rfl) (fun _ _ _ h => h) (Or.inl ⟨by rfl, ?_⟩) ?_ ?_
  rotate_left
  · intro w'
    go_simp
    try (with_reducible rfl)
  rotate_left
  · simp only [Act.put, List.setIfInBounds_toArray, List.set_cons_zero, List.set_cons_succ, List.getElem_toArray, List.getElem_cons_succ, List.getElem_cons_zero, i64_w, i32_w]
    rfl
  refine pure_ (i := 6) (N := some 29) (v := ?_) (a' := ?_) #[true, true, true, true, true, true, true, false, false] rfl rfl (by kernel_rfl) (fun _ _ _ h => h) (Or.inl ⟨by rfl, ?_⟩) ?_ ?_
  rotate_left
  · intro w'
    go_simp
    try (with_reducible rfl)
  rotate_left
  · simp only [Act.put, List.setIfInBounds_toArray, List.set_cons_zero, List.set_cons_succ, List.getElem_toArray, List.getElem_cons_succ, List.getElem_cons_zero, i64_w, i32_w]
    rfl
  refine pure_ (i := 7) (N := some 8) (v := ?_) (a' := ?_) #[true, true, true, true, true, true, true, true, false] rfl rfl (by kernel_rfl) (fun _ _ _ h => h) (Or.inl ⟨by rfl, ?_⟩) ?_ ?_
  rotate_left
  · intro w'
    go_simp
    try (with_reducible rfl)
  rotate_left
  · simp only [Act.put, List.setIfInBounds_toArray, List.set_cons_zero, List.set_cons_succ, List.getElem_toArray, List.getElem_cons_succ, List.getElem_cons_zero, i64_w, i32_w]
    rfl
  refine pure_ (i := 8) (N := some 9) (v := ?_) (a' := ?_) #[true, true, true, true, true, true, true, true, true] rfl rfl (by kernel_rfl) (fun _ _ _ h => h) (Or.inl ⟨by rfl, ?_⟩) ?_ ?_
  rotate_left
  · intro w'
    go_simp
    try (with_reducible rfl)
  rotate_left
  · simp only [Act.put, List.setIfInBounds_toArray, List.set_cons_zero, List.set_cons_succ, List.getElem_toArray, List.getElem_cons_succ, List.getElem_cons_zero, i64_w, i32_w]
    rfl
  refine done_ (by kernel_rfl) ?_
  obtain ⟨d0, d1, d2⟩ := box2_at hJ_6
  obtain ⟨e0, e1, e2⟩ := box2_at hX_6
  go_wp2_with fail
  refine (add_ok A3 c3 a gk sk b f _ hCA3 hlA3 la Hb.out).mono ?_
  rintro r w7 ⟨v7, rfl, hv7, hb7⟩
  have hC_7 := Kd.C_below hC_6 hb7
  have hCA3_7 := Kd.C_below hCA3 hb7
  have hJ_7 := (hb7.block _ (Array.getElem?_eq_some_iff.1 hJ_6).1).trans hJ_6
  have hX_7 := (hb7.block _ (Array.getElem?_eq_some_iff.1 hX_6).1).trans hX_6
  have hB_7 := hB_6.trans (hb7.mono hB_6.size)
  obtain ⟨A4, c4, rfl, hlA4, hCA4⟩ := Kd.R_reads hv7
  clear hC_6 hCA3 hJ_6 hX_6 hB_6 hb7 hv7
  clear d0 d1 d2 e0 e1 e2
  obtain ⟨d0, d1, d2⟩ := box2_at hJ_7
  obtain ⟨e0, e1, e2⟩ := box2_at hX_7
  go_upto_region 6 with fail
  clear d0 d1 d2 e0 e1 e2
  have hb8 : Below w7.heap.size w7 w7.drew := Below.drew (Below.refl _ _)
  have hC_8 := Kd.C_below hC_7 hb8
  have hCA3_8 := Kd.C_below hCA3_7 hb8
  have hCA4_8 := Kd.C_below hCA4 hb8
  have hJ_8 := (hb8.block _ (Array.getElem?_eq_some_iff.1 hJ_7).1).trans hJ_7
  have hX_8 := (hb8.block _ (Array.getElem?_eq_some_iff.1 hX_7).1).trans hX_7
  have hB_8 := hB_7.trans (hb8.mono hB_7.size)
  clear hC_7 hCA3_7 hCA4 hJ_7 hX_7 hB_7 hb8
  refine start_ (n := 9) (S := fun V_ => V_.heap[W.heap.size + 1]? = some (elt ⟨gk, sk⟩) ∧ True) (ds := [3]) #[false, false, false, false, false, false, false, false, false] (by kernel_rfl) rfl rfl ⟨hX_8, trivial⟩ (fun hHeld => ?_)
  generalize w7.drew = W8 at hHeld hC_8 hCA3_8 hCA4_8 hJ_8 hX_8 hB_8 ⊢
  refine pure_ (i := 0) (N := some 37) (v := ?_) (a' := ?_) #[true, false, false, false, false, false, false, false, false] rfl rfl (by kernel_rfl) (fun _ _ _ h => h) (Or.inl ⟨by rfl, ?_⟩) ?_ ?_
  rotate_left
  · intro w'
    go_simp
    try (with_reducible rfl)
  rotate_left
  · simp only [Act.put, List.setIfInBounds_toArray, List.set_cons_zero, List.set_cons_succ, i64_w, i32_w]
    rfl
  refine take_ (i := 2) (N := some 39) (v := ?_) (a' := ?_) #[true, false, true, false, false, false, false, false, false] rfl rfl (by kernel_rfl) (fun _ _ _ h => h) (Or.inl ⟨by rfl, ?_⟩) hHeld ?_ ?_
  rotate_left
  · intro w' hS_
    obtain ⟨d0, d1, d2⟩ := box2_at hS_.1
    go_simp
    try (with_reducible rfl)
  rotate_left
  · simp only [Act.put, List.setIfInBounds_toArray, List.set_cons_zero, List.set_cons_succ, i64_w, i32_w]
    rfl
  refine one_ (i := 1) (N := some 38) #[true, true, true, false, false, false, false, false, false] rfl rfl (by kernel_rfl) (by decide) (fun K hK => ?_)
  refine goes_ Try.func11 (by kernel_rfl) rfl #[.slice A0 n c0] (by rfl) rfl rfl (by (try simp only [List.map_toArray, List.map_cons, List.map_nil]); first | done | rfl) ?_
  refine (cut_calls _ _ _ hn _).mono ?_
  rintro r w9 ⟨rfl, hb9⟩
  refine ⟨_, rfl, ?_⟩
  rw [← HL.out]
  have hC_9 := Kd.C_below hC_8 hb9
  have hCA3_9 := Kd.C_below hCA3_8 hb9
  have hCA4_9 := Kd.C_below hCA4_8 hb9
  have hJ_9 := (hb9.block _ (Array.getElem?_eq_some_iff.1 hJ_8).1).trans hJ_8
  have hX_9 := (hb9.block _ (Array.getElem?_eq_some_iff.1 hX_8).1).trans hX_8
  have hB_9 := hB_8.trans (hb9.mono hB_8.size)
  refine hK.out _ _ ⟨hX_9, trivial⟩ (fun _ => ?_)
  clear hK K
  clear hC_8 hCA3_8 hCA4_8 hJ_8 hX_8 hB_8 hb9
  refine last_ (i := 3) (N := some 40) #[true, true, true, true, false, false, false, false, false] rfl rfl (by kernel_rfl) (by decide) (fun K hK => ?_)
  refine goes_ Try.func10 (by kernel_rfl) rfl #[.slice A0 L.length c0, .agg #[.int .u32 gk, .string sk]] (by rfl) rfl rfl (by (try simp only [List.map_toArray, List.map_cons, List.map_nil]); first | done | rfl) ?_
  refine (add_ok A0 c0 L gk sk c g _ hC_9 hc hl Hcc.out).mono ?_
  rintro r w10 ⟨v10, rfl, hv10, hb10⟩
  refine ⟨_, rfl, ?_⟩
  have hC_10 := Kd.C_below hC_9 hb10
  have hCA3_10 := Kd.C_below hCA3_9 hb10
  have hCA4_10 := Kd.C_below hCA4_9 hb10
  have hJ_10 := (hb10.block _ (Array.getElem?_eq_some_iff.1 hJ_9).1).trans hJ_9
  have hX_10 := (hb10.block _ (Array.getElem?_eq_some_iff.1 hX_9).1).trans hX_9
  have hB_10 := hB_9.trans (hb10.mono hB_9.size)
  obtain ⟨A5, c5, rfl, hlA5, hCA5⟩ := Kd.R_reads hv10
  refine hK.out _ _ ?_
  clear hK K hHeld
  clear hC_9 hCA3_9 hCA4_9 hJ_9 hX_9 hB_9 hb10 hv10
  refine pure_ (i := 4) (N := some 36) (v := ?_) (a' := ?_) #[true, true, true, true, true, false, false, false, false] rfl rfl (by kernel_rfl) (fun _ _ _ h => h) (Or.inl ⟨by rfl, ?_⟩) ?_ ?_
  rotate_left
  · intro w'
    go_simp
    try (with_reducible rfl)
  rotate_left
  · simp only [Act.put, List.setIfInBounds_toArray, List.set_cons_zero, List.set_cons_succ, List.getElem_toArray, List.getElem_cons_succ, List.getElem_cons_zero, i64_w, i32_w]
    rfl
  refine pure_ (i := 5) (N := some 41) (v := ?_) (a' := ?_) #[true, true, true, true, true, true, false, false, false] rfl rfl (by kernel_rfl) (fun _ _ _ h => h) (Or.inl ⟨by rfl, ?_⟩) ?_ ?_
  rotate_left
  · intro w'
    go_simp
    try (with_reducible rfl)
  rotate_left
  · simp only [Act.put, List.setIfInBounds_toArray, List.set_cons_zero, List.set_cons_succ, List.getElem_toArray, List.getElem_cons_succ, List.getElem_cons_zero, i64_w, i32_w]
    rfl
  refine pure_ (i := 6) (N := some 42) (v := ?_) (a' := ?_) #[true, true, true, true, true, true, true, false, false] rfl rfl (by kernel_rfl) (fun _ _ _ h => h) (Or.inl ⟨by rfl, ?_⟩) ?_ ?_
  rotate_left
  · intro w'
    go_simp
    try (with_reducible rfl)
  rotate_left
  · simp only [Act.put, List.setIfInBounds_toArray, List.set_cons_zero, List.set_cons_succ, List.getElem_toArray, List.getElem_cons_succ, List.getElem_cons_zero, i64_w, i32_w]
    rfl
  refine pure_ (i := 7) (N := some 12) (v := ?_) (a' := ?_) #[true, true, true, true, true, true, true, true, false] rfl rfl (by kernel_rfl) (fun _ _ _ h => h) (Or.inl ⟨by rfl, ?_⟩) ?_ ?_
  rotate_left
  · intro w'
    go_simp
    try (with_reducible rfl)
  rotate_left
  · simp only [Act.put, List.setIfInBounds_toArray, List.set_cons_zero, List.set_cons_succ, List.getElem_toArray, List.getElem_cons_succ, List.getElem_cons_zero, i64_w, i32_w]
    rfl
  refine pure_ (i := 8) (N := some 13) (v := ?_) (a' := ?_) #[true, true, true, true, true, true, true, true, true] rfl rfl (by kernel_rfl) (fun _ _ _ h => h) (Or.inl ⟨by rfl, ?_⟩) ?_ ?_
  rotate_left
  · intro w'
    go_simp
    try (with_reducible rfl)
  rotate_left
  · simp only [Act.put, List.setIfInBounds_toArray, List.set_cons_zero, List.set_cons_succ, List.getElem_toArray, List.getElem_cons_succ, List.getElem_cons_zero, i64_w, i32_w]
    rfl
  refine done_ (by kernel_rfl) ?_
  obtain ⟨d0, d1, d2⟩ := box2_at hJ_10
  obtain ⟨e0, e1, e2⟩ := box2_at hX_10
  go_wp2_with fail
  refine (add_ok A5 c5 c gj sj d h _ hCA5 hlA5 lc Hd.out).mono ?_
  rintro r w11 ⟨v11, rfl, hv11, hb11⟩
  have hC_11 := Kd.C_below hC_10 hb11
  have hCA3_11 := Kd.C_below hCA3_10 hb11
  have hCA4_11 := Kd.C_below hCA4_10 hb11
  have hCA5_11 := Kd.C_below hCA5 hb11
  have hJ_11 := (hb11.block _ (Array.getElem?_eq_some_iff.1 hJ_10).1).trans hJ_10
  have hX_11 := (hb11.block _ (Array.getElem?_eq_some_iff.1 hX_10).1).trans hX_10
  have hB_11 := hB_10.trans (hb11.mono hB_10.size)
  obtain ⟨A6, c6, rfl, hlA6, hCA6⟩ := Kd.R_reads hv11
  clear hC_10 hCA3_10 hCA4_10 hCA5 hJ_10 hX_10 hB_10 hb11 hv11
  clear d0 d1 d2 e0 e1 e2
  obtain ⟨d0, d1, d2⟩ := box2_at hJ_11
  obtain ⟨e0, e1, e2⟩ := box2_at hX_11
  go_wp2
  go_ret
  exact ⟨by simp, hB_11⟩

set_option maxHeartbeats 8000000 in
theorem KeysOrder_E (A0 : Option Addr) (n c0 : Nat) (L : List S25) (gj : Int) (sj : ByteArray) (gk : Int) (sk : ByteArray) (W : World) (hn : n ≤ c0) (hL : L.length = min n 30) (hC : Kd.C k25 W A0 L.length L) (a b c d : List S25) (e f g h : Int) (ha : addOf L ⟨gj, sj⟩ = (a, e)) (hb : addOf a ⟨gk, sk⟩ = (b, f)) (hcc : addOf L ⟨gk, sk⟩ = (c, g)) (hd : addOf c ⟨gj, sj⟩ = (d, h)) (hg : (gj == gk) = false) (hl : L.length ≤ 30) (xe : (e != 0) = false) (xf : (f != 0) = true) (xg : (g != 0) = false) (xh : (h != 0) = true) :
    Calls Try.prog 4 #[.slice A0 n c0, .agg #[.int .u32 gj, .string sj], .agg #[.int .u32 gk, .string sk]] W fun e W' => e = .returned (.bool true) ∧ Below W.heap.size W W' := by
  have h1 := add_len ha
  have h2 := add_len hb
  have h3 := add_len hcc
  have h4 := add_len hd
  have la : a.length ≤ 400 := by omega
  have lb : b.length ≤ 400 := by omega
  have lc : c.length ≤ 400 := by omega
  clear h1 h2 h3 h4
  have hl : L.length ≤ 400 := by omega
  have hc : L.length ≤ c0 := by omega
  have HL := Lib.hid hL
  have Ha := Lib.hid ha
  have Hb := Lib.hid hb
  have Hcc := Lib.hid hcc
  have Hd := Lib.hid hd
  clear hL ha hb hcc hd
  have hb1 : Below W.heap.size W (W.alloc (Obj.cells #[.int .u32 gj, .string sj] 25 (0, 0))) := (Below.refl _ _).alloc (Nat.le_refl _) _
  have hJ : (W.alloc (Obj.cells #[.int .u32 gj, .string sj] 25 (0, 0))).heap[W.heap.size]? = some (Obj.cells #[.int .u32 gj, .string sj] 25 (0, 0)) := World.alloc_heap_new _ _
  have hC_1 := Kd.C_below hC hb1
  have hB_1 := hb1
  clear hC hb1
  have hb2 : Below (W.alloc (Obj.cells #[.int .u32 gj, .string sj] 25 (0, 0))).heap.size (W.alloc (Obj.cells #[.int .u32 gj, .string sj] 25 (0, 0))) ((W.alloc (Obj.cells #[.int .u32 gj, .string sj] 25 (0, 0))).alloc (Obj.cells #[.int .u32 gk, .string sk] 25 (0, 0))) := (Below.refl _ _).alloc (Nat.le_refl _) _
  have hX : ((W.alloc (Obj.cells #[.int .u32 gj, .string sj] 25 (0, 0))).alloc (Obj.cells #[.int .u32 gk, .string sk] 25 (0, 0))).heap[(W.alloc (Obj.cells #[.int .u32 gj, .string sj] 25 (0, 0))).heap.size]? = some (Obj.cells #[.int .u32 gk, .string sk] 25 (0, 0)) := World.alloc_heap_new _ _
  have hC_2 := Kd.C_below hC_1 hb2
  have hJ_2 := (hb2.block _ (Array.getElem?_eq_some_iff.1 hJ).1).trans hJ
  have hB_2 := hB_1.trans (hb2.mono hB_1.size)
  clear hC_1 hJ hB_1 hb2
  rw [World.size_alloc] at hX
  go_enter Try.func4, Try.ntmps4
  go_wp2_with fail
  refine (shown_ok _).mono ?_
  rintro r w3 ⟨rfl, hb3⟩
  have hC_3 := Kd.C_below hC_2 hb3
  have hJ_3 := (hb3.block _ (Array.getElem?_eq_some_iff.1 hJ_2).1).trans hJ_2
  have hX_3 := (hb3.block _ (Array.getElem?_eq_some_iff.1 hX).1).trans hX
  have hB_3 := hB_2.trans (hb3.mono hB_2.size)
  clear hC_2 hJ_2 hX hB_2 hb3
  obtain ⟨d0, d1, d2⟩ := box2_at hJ_3
  obtain ⟨e0, e1, e2⟩ := box2_at hX_3
  go_upto_region 4 with fail
  clear d0 d1 d2 e0 e1 e2
  have hb4 : Below w3.heap.size w3 w3.drew := Below.drew (Below.refl _ _)
  have hC_4 := Kd.C_below hC_3 hb4
  have hJ_4 := (hb4.block _ (Array.getElem?_eq_some_iff.1 hJ_3).1).trans hJ_3
  have hX_4 := (hb4.block _ (Array.getElem?_eq_some_iff.1 hX_3).1).trans hX_3
  have hB_4 := hB_3.trans (hb4.mono hB_3.size)
  clear hC_3 hJ_3 hX_3 hB_3 hb4
  refine start_ (n := 9) (S := fun V_ => V_.heap[W.heap.size]? = some (elt ⟨gj, sj⟩) ∧ True) (ds := [3]) #[false, false, false, false, false, false, false, false, false] (by kernel_rfl) rfl rfl ⟨hJ_4, trivial⟩ (fun hHeld => ?_)
  generalize w3.drew = W4 at hHeld hC_4 hJ_4 hX_4 hB_4 ⊢
  refine pure_ (i := 0) (N := some 24) (v := ?_) (a' := ?_) #[true, false, false, false, false, false, false, false, false] rfl rfl (by kernel_rfl) (fun _ _ _ h => h) (Or.inl ⟨by rfl, ?_⟩) ?_ ?_
  rotate_left
  · intro w'
    go_simp
    try (with_reducible rfl)
  rotate_left
  · simp only [Act.put, List.setIfInBounds_toArray, List.set_cons_zero, List.set_cons_succ, i64_w, i32_w]
    rfl
  refine take_ (i := 2) (N := some 26) (v := ?_) (a' := ?_) #[true, false, true, false, false, false, false, false, false] rfl rfl (by kernel_rfl) (fun _ _ _ h => h) (Or.inl ⟨by rfl, ?_⟩) hHeld ?_ ?_
  rotate_left
  · intro w' hS_
    obtain ⟨d0, d1, d2⟩ := box2_at hS_.1
    go_simp
    try (with_reducible rfl)
  rotate_left
  · simp only [Act.put, List.setIfInBounds_toArray, List.set_cons_zero, List.set_cons_succ, i64_w, i32_w]
    rfl
  refine one_ (i := 1) (N := some 25) #[true, true, true, false, false, false, false, false, false] rfl rfl (by kernel_rfl) (by decide) (fun K hK => ?_)
  refine goes_ Try.func11 (by kernel_rfl) rfl #[.slice A0 n c0] (by rfl) rfl rfl (by (try simp only [List.map_toArray, List.map_cons, List.map_nil]); first | done | rfl) ?_
  refine (cut_calls _ _ _ hn _).mono ?_
  rintro r w5 ⟨rfl, hb5⟩
  refine ⟨_, rfl, ?_⟩
  rw [← HL.out]
  have hC_5 := Kd.C_below hC_4 hb5
  have hJ_5 := (hb5.block _ (Array.getElem?_eq_some_iff.1 hJ_4).1).trans hJ_4
  have hX_5 := (hb5.block _ (Array.getElem?_eq_some_iff.1 hX_4).1).trans hX_4
  have hB_5 := hB_4.trans (hb5.mono hB_4.size)
  refine hK.out _ _ ⟨hJ_5, trivial⟩ (fun _ => ?_)
  clear hK K
  clear hC_4 hJ_4 hX_4 hB_4 hb5
  refine last_ (i := 3) (N := some 27) #[true, true, true, true, false, false, false, false, false] rfl rfl (by kernel_rfl) (by decide) (fun K hK => ?_)
  refine goes_ Try.func10 (by kernel_rfl) rfl #[.slice A0 L.length c0, .agg #[.int .u32 gj, .string sj]] (by rfl) rfl rfl (by (try simp only [List.map_toArray, List.map_cons, List.map_nil]); first | done | rfl) ?_
  refine (add_ok A0 c0 L gj sj a e _ hC_5 hc hl Ha.out).mono ?_
  rintro r w6 ⟨v6, rfl, hv6, hb6⟩
  refine ⟨_, rfl, ?_⟩
  have hC_6 := Kd.C_below hC_5 hb6
  have hJ_6 := (hb6.block _ (Array.getElem?_eq_some_iff.1 hJ_5).1).trans hJ_5
  have hX_6 := (hb6.block _ (Array.getElem?_eq_some_iff.1 hX_5).1).trans hX_5
  have hB_6 := hB_5.trans (hb6.mono hB_5.size)
  obtain ⟨A3, c3, rfl, hlA3, hCA3⟩ := Kd.R_reads hv6
  refine hK.out _ _ ?_
  clear hK K hHeld
  clear hC_5 hJ_5 hX_5 hB_5 hb6 hv6
  refine pure_ (i := 4) (N := some 23) (v := ?_) (a' := ?_) #[true, true, true, true, true, false, false, false, false] rfl rfl (by kernel_rfl) (fun _ _ _ h => h) (Or.inl ⟨by rfl, ?_⟩) ?_ ?_
  rotate_left
  · intro w'
    go_simp
    try (with_reducible rfl)
  rotate_left
  · simp only [Act.put, List.setIfInBounds_toArray, List.set_cons_zero, List.set_cons_succ, List.getElem_toArray, List.getElem_cons_succ, List.getElem_cons_zero, i64_w, i32_w]
    rfl
  refine pure_ (i := 5) (N := some 28) (v := ?_) (a' := ?_) #[true, true, true, true, true, true, false, false, false] rfl rfl (by kernel_rfl) (fun _ _ _ h => h) (Or.inl ⟨by rfl, ?_⟩) ?_ ?_
  rotate_left
  · intro w'
    go_simp
    try (with_reducible rfl)
  rotate_left
  · simp only [Act.put, List.setIfInBounds_toArray, List.set_cons_zero, List.set_cons_succ, List.getElem_toArray, List.getElem_cons_succ, List.getElem_cons_zero, i64_w, i32_w]
    rfl
  refine pure_ (i := 6) (N := some 29) (v := ?_) (a' := ?_) #[true, true, true, true, true, true, true, false, false] rfl rfl (by kernel_rfl) (fun _ _ _ h => h) (Or.inl ⟨by rfl, ?_⟩) ?_ ?_
  rotate_left
  · intro w'
    go_simp
    try (with_reducible rfl)
  rotate_left
  · simp only [Act.put, List.setIfInBounds_toArray, List.set_cons_zero, List.set_cons_succ, List.getElem_toArray, List.getElem_cons_succ, List.getElem_cons_zero, i64_w, i32_w]
    rfl
  refine pure_ (i := 7) (N := some 8) (v := ?_) (a' := ?_) #[true, true, true, true, true, true, true, true, false] rfl rfl (by kernel_rfl) (fun _ _ _ h => h) (Or.inl ⟨by rfl, ?_⟩) ?_ ?_
  rotate_left
  · intro w'
    go_simp
    try (with_reducible rfl)
  rotate_left
  · simp only [Act.put, List.setIfInBounds_toArray, List.set_cons_zero, List.set_cons_succ, List.getElem_toArray, List.getElem_cons_succ, List.getElem_cons_zero, i64_w, i32_w]
    rfl
  refine pure_ (i := 8) (N := some 9) (v := ?_) (a' := ?_) #[true, true, true, true, true, true, true, true, true] rfl rfl (by kernel_rfl) (fun _ _ _ h => h) (Or.inl ⟨by rfl, ?_⟩) ?_ ?_
  rotate_left
  · intro w'
    go_simp
    try (with_reducible rfl)
  rotate_left
  · simp only [Act.put, List.setIfInBounds_toArray, List.set_cons_zero, List.set_cons_succ, List.getElem_toArray, List.getElem_cons_succ, List.getElem_cons_zero, i64_w, i32_w]
    rfl
  refine done_ (by kernel_rfl) ?_
  obtain ⟨d0, d1, d2⟩ := box2_at hJ_6
  obtain ⟨e0, e1, e2⟩ := box2_at hX_6
  go_wp2_with fail
  refine (add_ok A3 c3 a gk sk b f _ hCA3 hlA3 la Hb.out).mono ?_
  rintro r w7 ⟨v7, rfl, hv7, hb7⟩
  have hC_7 := Kd.C_below hC_6 hb7
  have hCA3_7 := Kd.C_below hCA3 hb7
  have hJ_7 := (hb7.block _ (Array.getElem?_eq_some_iff.1 hJ_6).1).trans hJ_6
  have hX_7 := (hb7.block _ (Array.getElem?_eq_some_iff.1 hX_6).1).trans hX_6
  have hB_7 := hB_6.trans (hb7.mono hB_6.size)
  obtain ⟨A4, c4, rfl, hlA4, hCA4⟩ := Kd.R_reads hv7
  clear hC_6 hCA3 hJ_6 hX_6 hB_6 hb7 hv7
  clear d0 d1 d2 e0 e1 e2
  obtain ⟨d0, d1, d2⟩ := box2_at hJ_7
  obtain ⟨e0, e1, e2⟩ := box2_at hX_7
  go_upto_region 6 with fail
  clear d0 d1 d2 e0 e1 e2
  have hb8 : Below w7.heap.size w7 w7.drew := Below.drew (Below.refl _ _)
  have hC_8 := Kd.C_below hC_7 hb8
  have hCA3_8 := Kd.C_below hCA3_7 hb8
  have hCA4_8 := Kd.C_below hCA4 hb8
  have hJ_8 := (hb8.block _ (Array.getElem?_eq_some_iff.1 hJ_7).1).trans hJ_7
  have hX_8 := (hb8.block _ (Array.getElem?_eq_some_iff.1 hX_7).1).trans hX_7
  have hB_8 := hB_7.trans (hb8.mono hB_7.size)
  clear hC_7 hCA3_7 hCA4 hJ_7 hX_7 hB_7 hb8
  refine start_ (n := 9) (S := fun V_ => V_.heap[W.heap.size + 1]? = some (elt ⟨gk, sk⟩) ∧ True) (ds := [3]) #[false, false, false, false, false, false, false, false, false] (by kernel_rfl) rfl rfl ⟨hX_8, trivial⟩ (fun hHeld => ?_)
  generalize w7.drew = W8 at hHeld hC_8 hCA3_8 hCA4_8 hJ_8 hX_8 hB_8 ⊢
  refine pure_ (i := 0) (N := some 37) (v := ?_) (a' := ?_) #[true, false, false, false, false, false, false, false, false] rfl rfl (by kernel_rfl) (fun _ _ _ h => h) (Or.inl ⟨by rfl, ?_⟩) ?_ ?_
  rotate_left
  · intro w'
    go_simp
    try (with_reducible rfl)
  rotate_left
  · simp only [Act.put, List.setIfInBounds_toArray, List.set_cons_zero, List.set_cons_succ, i64_w, i32_w]
    rfl
  refine take_ (i := 2) (N := some 39) (v := ?_) (a' := ?_) #[true, false, true, false, false, false, false, false, false] rfl rfl (by kernel_rfl) (fun _ _ _ h => h) (Or.inl ⟨by rfl, ?_⟩) hHeld ?_ ?_
  rotate_left
  · intro w' hS_
    obtain ⟨d0, d1, d2⟩ := box2_at hS_.1
    go_simp
    try (with_reducible rfl)
  rotate_left
  · simp only [Act.put, List.setIfInBounds_toArray, List.set_cons_zero, List.set_cons_succ, i64_w, i32_w]
    rfl
  refine one_ (i := 1) (N := some 38) #[true, true, true, false, false, false, false, false, false] rfl rfl (by kernel_rfl) (by decide) (fun K hK => ?_)
  refine goes_ Try.func11 (by kernel_rfl) rfl #[.slice A0 n c0] (by rfl) rfl rfl (by (try simp only [List.map_toArray, List.map_cons, List.map_nil]); first | done | rfl) ?_
  refine (cut_calls _ _ _ hn _).mono ?_
  rintro r w9 ⟨rfl, hb9⟩
  refine ⟨_, rfl, ?_⟩
  rw [← HL.out]
  have hC_9 := Kd.C_below hC_8 hb9
  have hCA3_9 := Kd.C_below hCA3_8 hb9
  have hCA4_9 := Kd.C_below hCA4_8 hb9
  have hJ_9 := (hb9.block _ (Array.getElem?_eq_some_iff.1 hJ_8).1).trans hJ_8
  have hX_9 := (hb9.block _ (Array.getElem?_eq_some_iff.1 hX_8).1).trans hX_8
  have hB_9 := hB_8.trans (hb9.mono hB_8.size)
  refine hK.out _ _ ⟨hX_9, trivial⟩ (fun _ => ?_)
  clear hK K
  clear hC_8 hCA3_8 hCA4_8 hJ_8 hX_8 hB_8 hb9
  refine last_ (i := 3) (N := some 40) #[true, true, true, true, false, false, false, false, false] rfl rfl (by kernel_rfl) (by decide) (fun K hK => ?_)
  refine goes_ Try.func10 (by kernel_rfl) rfl #[.slice A0 L.length c0, .agg #[.int .u32 gk, .string sk]] (by rfl) rfl rfl (by (try simp only [List.map_toArray, List.map_cons, List.map_nil]); first | done | rfl) ?_
  refine (add_ok A0 c0 L gk sk c g _ hC_9 hc hl Hcc.out).mono ?_
  rintro r w10 ⟨v10, rfl, hv10, hb10⟩
  refine ⟨_, rfl, ?_⟩
  have hC_10 := Kd.C_below hC_9 hb10
  have hCA3_10 := Kd.C_below hCA3_9 hb10
  have hCA4_10 := Kd.C_below hCA4_9 hb10
  have hJ_10 := (hb10.block _ (Array.getElem?_eq_some_iff.1 hJ_9).1).trans hJ_9
  have hX_10 := (hb10.block _ (Array.getElem?_eq_some_iff.1 hX_9).1).trans hX_9
  have hB_10 := hB_9.trans (hb10.mono hB_9.size)
  obtain ⟨A5, c5, rfl, hlA5, hCA5⟩ := Kd.R_reads hv10
  refine hK.out _ _ ?_
  clear hK K hHeld
  clear hC_9 hCA3_9 hCA4_9 hJ_9 hX_9 hB_9 hb10 hv10
  refine pure_ (i := 4) (N := some 36) (v := ?_) (a' := ?_) #[true, true, true, true, true, false, false, false, false] rfl rfl (by kernel_rfl) (fun _ _ _ h => h) (Or.inl ⟨by rfl, ?_⟩) ?_ ?_
  rotate_left
  · intro w'
    go_simp
    try (with_reducible rfl)
  rotate_left
  · simp only [Act.put, List.setIfInBounds_toArray, List.set_cons_zero, List.set_cons_succ, List.getElem_toArray, List.getElem_cons_succ, List.getElem_cons_zero, i64_w, i32_w]
    rfl
  refine pure_ (i := 5) (N := some 41) (v := ?_) (a' := ?_) #[true, true, true, true, true, true, false, false, false] rfl rfl (by kernel_rfl) (fun _ _ _ h => h) (Or.inl ⟨by rfl, ?_⟩) ?_ ?_
  rotate_left
  · intro w'
    go_simp
    try (with_reducible rfl)
  rotate_left
  · simp only [Act.put, List.setIfInBounds_toArray, List.set_cons_zero, List.set_cons_succ, List.getElem_toArray, List.getElem_cons_succ, List.getElem_cons_zero, i64_w, i32_w]
    rfl
  refine pure_ (i := 6) (N := some 42) (v := ?_) (a' := ?_) #[true, true, true, true, true, true, true, false, false] rfl rfl (by kernel_rfl) (fun _ _ _ h => h) (Or.inl ⟨by rfl, ?_⟩) ?_ ?_
  rotate_left
  · intro w'
    go_simp
    try (with_reducible rfl)
  rotate_left
  · simp only [Act.put, List.setIfInBounds_toArray, List.set_cons_zero, List.set_cons_succ, List.getElem_toArray, List.getElem_cons_succ, List.getElem_cons_zero, i64_w, i32_w]
    rfl
  refine pure_ (i := 7) (N := some 12) (v := ?_) (a' := ?_) #[true, true, true, true, true, true, true, true, false] rfl rfl (by kernel_rfl) (fun _ _ _ h => h) (Or.inl ⟨by rfl, ?_⟩) ?_ ?_
  rotate_left
  · intro w'
    go_simp
    try (with_reducible rfl)
  rotate_left
  · simp only [Act.put, List.setIfInBounds_toArray, List.set_cons_zero, List.set_cons_succ, List.getElem_toArray, List.getElem_cons_succ, List.getElem_cons_zero, i64_w, i32_w]
    rfl
  refine pure_ (i := 8) (N := some 13) (v := ?_) (a' := ?_) #[true, true, true, true, true, true, true, true, true] rfl rfl (by kernel_rfl) (fun _ _ _ h => h) (Or.inl ⟨by rfl, ?_⟩) ?_ ?_
  rotate_left
  · intro w'
    go_simp
    try (with_reducible rfl)
  rotate_left
  · simp only [Act.put, List.setIfInBounds_toArray, List.set_cons_zero, List.set_cons_succ, List.getElem_toArray, List.getElem_cons_succ, List.getElem_cons_zero, i64_w, i32_w]
    rfl
  refine done_ (by kernel_rfl) ?_
  obtain ⟨d0, d1, d2⟩ := box2_at hJ_10
  obtain ⟨e0, e1, e2⟩ := box2_at hX_10
  go_wp2_with fail
  refine (add_ok A5 c5 c gj sj d h _ hCA5 hlA5 lc Hd.out).mono ?_
  rintro r w11 ⟨v11, rfl, hv11, hb11⟩
  have hC_11 := Kd.C_below hC_10 hb11
  have hCA3_11 := Kd.C_below hCA3_10 hb11
  have hCA4_11 := Kd.C_below hCA4_10 hb11
  have hCA5_11 := Kd.C_below hCA5 hb11
  have hJ_11 := (hb11.block _ (Array.getElem?_eq_some_iff.1 hJ_10).1).trans hJ_10
  have hX_11 := (hb11.block _ (Array.getElem?_eq_some_iff.1 hX_10).1).trans hX_10
  have hB_11 := hB_10.trans (hb11.mono hB_10.size)
  obtain ⟨A6, c6, rfl, hlA6, hCA6⟩ := Kd.R_reads hv11
  clear hC_10 hCA3_10 hCA4_10 hCA5 hJ_10 hX_10 hB_10 hb11 hv11
  clear d0 d1 d2 e0 e1 e2
  obtain ⟨d0, d1, d2⟩ := box2_at hJ_11
  obtain ⟨e0, e1, e2⟩ := box2_at hX_11
  go_wp2
  go_ret
  exact ⟨by simp, hB_11⟩


theorem KeysOrder_walk (A0 : Option Addr) (n c0 : Nat) (L : List S25) (gj : Int) (sj : ByteArray) (gk : Int) (sk : ByteArray) (W : World) (hn : n ≤ c0) (hL : L.length = min n 30) (hC : Kd.C k25 W A0 L.length L) :
    Calls Try.prog 4 #[.slice A0 n c0, .agg #[.int .u32 gj, .string sj], .agg #[.int .u32 gk, .string sk]] W fun e W' => e = .returned (.bool true) ∧ Below W.heap.size W W' := by
  by_cases hg : gj = gk
  · exact KeysOrder_same A0 n c0 L gj sj gk sk W hn hL hC (beq_iff_eq.2 hg)
  have hg1 : (gj == gk) = false := beq_eq_false_iff_ne.2 hg
  have hl : L.length ≤ 30 := by omega
  obtain ⟨a, e, ha⟩ : ∃ m e, addOf L ⟨gj, sj⟩ = (m, e) := ⟨_, _, rfl⟩
  obtain ⟨b, f, hb⟩ : ∃ m e, addOf a ⟨gk, sk⟩ = (m, e) := ⟨_, _, rfl⟩
  obtain ⟨c, g, hcc⟩ : ∃ m e, addOf L ⟨gk, sk⟩ = (m, e) := ⟨_, _, rfl⟩
  obtain ⟨d, h, hd⟩ : ∃ m e, addOf c ⟨gj, sj⟩ = (m, e) := ⟨_, _, rfl⟩
  have T : ∀ x : Int, x = 0 → (x != 0) = false := fun x hx => bne_eq_false_iff_eq.2 hx
  have F : ∀ x : Int, x ≠ 0 → (x != 0) = true := fun x hx => bne_iff_ne.2 hx
  have back : g = 0 → h = 0 → e = 0 ∧ f = 0 := fun h1 h2 => by
    subst h1
    subst h2
    have := order_ok (j := ⟨gk, sk⟩) (k := ⟨gj, sj⟩) (fun x => hg x.symm) hcc hd ha hb
    exact ⟨this.1, this.2.1⟩
  by_cases he : e = 0
  · by_cases hf : f = 0
    · subst he
      subst hf
      obtain ⟨rfl, rfl, rfl⟩ := order_ok (j := ⟨gj, sj⟩) (k := ⟨gk, sk⟩) hg ha hb hcc hd
      exact KeysOrder_all A0 n c0 L gj sj gk sk W hn hL hC a b c ha hb hcc hd hg1 hl
    · by_cases h1 : g = 0
      · have h2 : h ≠ 0 := fun h2 => hf (back h1 h2).2
        exact KeysOrder_E A0 n c0 L gj sj gk sk W hn hL hC a b c d e f g h ha hb hcc hd hg1 hl (T e he) (F f hf) (T g h1) (F h h2)
      · exact KeysOrder_D A0 n c0 L gj sj gk sk W hn hL hC a b c d e f g h ha hb hcc hd hg1 hl (T e he) (F f hf) (F g h1)
  · by_cases h1 : g = 0
    · have h2 : h ≠ 0 := fun h2 => he (back h1 h2).1
      exact KeysOrder_C A0 n c0 L gj sj gk sk W hn hL hC a b c d e f g h ha hb hcc hd hg1 hl (F e he) (T g h1) (F h h2)
    · exact KeysOrder_B A0 n c0 L gj sj gk sk W hn hL hC a b c d e f g h ha hb hcc hd hg1 hl (F e he) (F g h1)

end Go.Proofs.Ytdoaohmjhbefdaa.H
