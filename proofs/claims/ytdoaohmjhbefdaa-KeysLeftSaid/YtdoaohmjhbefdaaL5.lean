/- KeysBack: the walks. Written by keys_laws.py. -/
import Derived.Test.YtdoaohmjhbefdaaL4
namespace Go.Proofs.Ytdoaohmjhbefdaa.H
open Go.RowKit Go.Shelf Go.Proofs.YtdoaohmjhbefdaaW.PrintWords Go.Proofs.YtdoaohmjhbefdaaW.PrintLast Go.Proofs.YtdoaohmjhbefdaaW.PrintMore Go.Proofs.Ytdoaohmjhbefdaa.CopyK
attribute [local go_sem] Oper.semAt_some
set_option linter.unusedVariables false
set_option linter.unusedSimpArgs false
set_option maxRecDepth 100000

set_option maxHeartbeats 8000000 in
theorem KeysBack_not (A0 : Option Addr) (n c0 : Nat) (L : List S25) (gk : Int) (sk : ByteArray) (gen : Int) (W : World) (hn : n ≤ c0) (hL : L.length = min n 30) (hC : Kd.C k25 W A0 L.length L) (e : Int) (had : addOf L ⟨gk, sk⟩ = ([], e)) (he : (e != 0) = true) (he2 : (e == 0) = false) :
    Calls Try.prog 6 #[.slice A0 n c0, .agg #[.int .u32 gk, .string sk], .int .u32 gen] W fun e W' => e = .returned (.bool true) ∧ Below W.heap.size W W' := by
  have hl : L.length ≤ 400 := by omega
  have hc : L.length ≤ c0 := by omega
  have HL := Lib.hid hL
  have Had := Lib.hid had
  clear hL had
  have hb1 : Below W.heap.size W (W.alloc (Obj.cells #[.int .u32 gk, .string sk] 25 (0, 0))) := (Below.refl _ _).alloc (Nat.le_refl _) _
  have hX : (W.alloc (Obj.cells #[.int .u32 gk, .string sk] 25 (0, 0))).heap[W.heap.size]? = some (Obj.cells #[.int .u32 gk, .string sk] 25 (0, 0)) := World.alloc_heap_new _ _
  have hC_1 := Kd.C_below hC hb1
  have hB_1 := hb1
  clear hC hb1
  go_enter Try.func6, Try.ntmps6
  go_wp2_with fail
  refine (shown_ok _).mono ?_
  rintro r w2 ⟨rfl, hb2⟩
  have hC_2 := Kd.C_below hC_1 hb2
  have hX_2 := (hb2.block _ (Array.getElem?_eq_some_iff.1 hX).1).trans hX
  have hB_2 := hB_1.trans (hb2.mono hB_1.size)
  clear hC_1 hX hB_1 hb2
  go_wp2_with fail
  refine (cut_calls _ _ _ hn _).mono ?_
  rintro r w3 ⟨rfl, hb3⟩
  have hC_3 := Kd.C_below hC_2 hb3
  have hX_3 := (hb3.block _ (Array.getElem?_eq_some_iff.1 hX_2).1).trans hX_2
  have hB_3 := hB_2.trans (hb3.mono hB_2.size)
  rw [← HL.out]
  clear hC_2 hX_2 hB_2 hb3
  obtain ⟨d0, d1, d2⟩ := box2_at hX_3
  go_wp2_with fail
  refine (add_ok A0 c0 L gk sk [] e _ hC_3 hc hl Had.out).mono ?_
  rintro r w4 ⟨v4, rfl, hv4, hb4⟩
  have hC_4 := Kd.C_below hC_3 hb4
  have hX_4 := (hb4.block _ (Array.getElem?_eq_some_iff.1 hX_3).1).trans hX_3
  have hB_4 := hB_3.trans (hb4.mono hB_3.size)
  obtain ⟨A3, c3, rfl, hlA3, hCA3⟩ := Kd.R_reads hv4
  clear hC_3 hX_3 hB_3 hb4 hv4
  go_wp2
  go_ret
  exact ⟨by simp, hB_4⟩

set_option maxHeartbeats 8000000 in
theorem KeysBack_same (A0 : Option Addr) (n c0 : Nat) (L : List S25) (gk : Int) (sk : ByteArray) (gen : Int) (W : World) (hn : n ≤ c0) (hL : L.length = min n 30) (hC : Kd.C k25 W A0 L.length L) (m : List S25) (y0 : Int) (y1 : ByteArray) (h : Int) (z0 : Int) (z1 : ByteArray) (i : Int) (had : addOf L ⟨gk, sk⟩ = (m, 0)) (hf1 : findOf m gk = (gk, sk, 0)) (hd1 : dropOf m gk = (L, 0)) (hf2 : findOf L gen = (y0, y1, h)) (hf3 : findOf m gen = (z0, z1, i)) (hm2 : rightB m = true) (hm3 : m.length = L.length + 1) (hg : (gen == gk) = true) (hl : L.length ≤ 30) :
    Calls Try.prog 6 #[.slice A0 n c0, .agg #[.int .u32 gk, .string sk], .int .u32 gen] W fun e W' => e = .returned (.bool true) ∧ Below W.heap.size W W' := by
  have hml : m.length ≤ 400 := by rw [hm3]; omega
  have hw : wrap64 ((L.length : Int) + 1) = ((L.length + 1 : Nat) : Int) := by unfold wrap64; omega
  have he1 := eq_ok gk sk
  have he2 := eq_ok y0 y1
  have hl : L.length ≤ 400 := by omega
  have hc : L.length ≤ c0 := by omega
  have HL := Lib.hid hL
  have Had := Lib.hid had
  have Hf1 := Lib.hid hf1
  have Hd1 := Lib.hid hd1
  have Hf2 := Lib.hid hf2
  have Hf3 := Lib.hid hf3
  have Hm2 := Lib.hid hm2
  have Hm3 := Lib.hid hm3
  clear hL had hf1 hd1 hf2 hf3 hm2 hm3
  have hb1 : Below W.heap.size W (W.alloc (Obj.cells #[.int .u32 gk, .string sk] 25 (0, 0))) := (Below.refl _ _).alloc (Nat.le_refl _) _
  have hX : (W.alloc (Obj.cells #[.int .u32 gk, .string sk] 25 (0, 0))).heap[W.heap.size]? = some (Obj.cells #[.int .u32 gk, .string sk] 25 (0, 0)) := World.alloc_heap_new _ _
  have hC_1 := Kd.C_below hC hb1
  have hB_1 := hb1
  clear hC hb1
  go_enter Try.func6, Try.ntmps6
  go_wp2_with fail
  refine (shown_ok _).mono ?_
  rintro r w2 ⟨rfl, hb2⟩
  have hC_2 := Kd.C_below hC_1 hb2
  have hX_2 := (hb2.block _ (Array.getElem?_eq_some_iff.1 hX).1).trans hX
  have hB_2 := hB_1.trans (hb2.mono hB_1.size)
  clear hC_1 hX hB_1 hb2
  go_wp2_with fail
  refine (cut_calls _ _ _ hn _).mono ?_
  rintro r w3 ⟨rfl, hb3⟩
  have hC_3 := Kd.C_below hC_2 hb3
  have hX_3 := (hb3.block _ (Array.getElem?_eq_some_iff.1 hX_2).1).trans hX_2
  have hB_3 := hB_2.trans (hb3.mono hB_2.size)
  rw [← HL.out]
  clear hC_2 hX_2 hB_2 hb3
  obtain ⟨d0, d1, d2⟩ := box2_at hX_3
  go_wp2_with fail
  refine (add_ok A0 c0 L gk sk m 0 _ hC_3 hc hl Had.out).mono ?_
  rintro r w4 ⟨v4, rfl, hv4, hb4⟩
  have hC_4 := Kd.C_below hC_3 hb4
  have hX_4 := (hb4.block _ (Array.getElem?_eq_some_iff.1 hX_3).1).trans hX_3
  have hB_4 := hB_3.trans (hb4.mono hB_3.size)
  obtain ⟨A3, c3, rfl, hlA3, hCA3⟩ := Kd.R_reads hv4
  clear hC_3 hX_3 hB_3 hb4 hv4
  clear d0 d1 d2
  obtain ⟨d0, d1, d2⟩ := box2_at hX_4
  go_wp2_with fail
  refine (find_ok A3 c3 m gk gk sk 0 _ hCA3 hlA3 hml Hf1.out).mono ?_
  rintro r w5 ⟨rfl, hb5⟩
  have hC_5 := Kd.C_below hC_4 hb5
  have hCA3_5 := Kd.C_below hCA3 hb5
  have hX_5 := (hb5.block _ (Array.getElem?_eq_some_iff.1 hX_4).1).trans hX_4
  have hB_5 := hB_4.trans (hb5.mono hB_4.size)
  clear hC_4 hCA3 hX_4 hB_4 hb5
  clear d0 d1 d2
  obtain ⟨d0, d1, d2⟩ := box2_at hX_5
  skip
  have hb6 : Below w5.heap.size w5 (w5.alloc (Obj.cells #[.int .u32 gk, .string sk] 25 (0, 0))) := (Below.refl _ _).alloc (Nat.le_refl _) _
  have hY : (w5.alloc (Obj.cells #[.int .u32 gk, .string sk] 25 (0, 0))).heap[w5.heap.size]? = some (Obj.cells #[.int .u32 gk, .string sk] 25 (0, 0)) := World.alloc_heap_new _ _
  have hC_6 := Kd.C_below hC_5 hb6
  have hCA3_6 := Kd.C_below hCA3_5 hb6
  have hX_6 := (hb6.block _ (Array.getElem?_eq_some_iff.1 hX_5).1).trans hX_5
  have hB_6 := hB_5.trans (hb6.mono hB_5.size)
  clear hC_5 hCA3_5 hX_5 hB_5 hb6
  clear d0 d1 d2
  obtain ⟨d0, d1, d2⟩ := box2_at hX_6
  go_wp2_with fail
  refine (drop_ok A3 c3 m gk L 0 _ hCA3_6 hlA3 hml Hd1.out).mono ?_
  rintro r w7 ⟨v7, rfl, hv7, hb7⟩
  have hC_7 := Kd.C_below hC_6 hb7
  have hCA3_7 := Kd.C_below hCA3_6 hb7
  have hX_7 := (hb7.block _ (Array.getElem?_eq_some_iff.1 hX_6).1).trans hX_6
  have hY_7 := (hb7.block _ (Array.getElem?_eq_some_iff.1 hY).1).trans hY
  have hB_7 := hB_6.trans (hb7.mono hB_6.size)
  obtain ⟨A5, c5, rfl, hlA5, hCA5⟩ := Kd.R_reads hv7
  clear hC_6 hCA3_6 hX_6 hY hB_6 hb7 hv7
  clear d0 d1 d2
  go_wp2_with fail
  refine (find_ok A0 c0 L gen y0 y1 h _ hC_7 hc hl Hf2.out).mono ?_
  rintro r w8 ⟨rfl, hb8⟩
  have hC_8 := Kd.C_below hC_7 hb8
  have hCA3_8 := Kd.C_below hCA3_7 hb8
  have hCA5_8 := Kd.C_below hCA5 hb8
  have hX_8 := (hb8.block _ (Array.getElem?_eq_some_iff.1 hX_7).1).trans hX_7
  have hY_8 := (hb8.block _ (Array.getElem?_eq_some_iff.1 hY_7).1).trans hY_7
  have hB_8 := hB_7.trans (hb8.mono hB_7.size)
  clear hC_7 hCA3_7 hCA5 hX_7 hY_7 hB_7 hb8
  skip
  have hb9 : Below w8.heap.size w8 (w8.alloc (Obj.cells #[.int .u32 y0, .string y1] 25 (0, 0))) := (Below.refl _ _).alloc (Nat.le_refl _) _
  have hZ : (w8.alloc (Obj.cells #[.int .u32 y0, .string y1] 25 (0, 0))).heap[w8.heap.size]? = some (Obj.cells #[.int .u32 y0, .string y1] 25 (0, 0)) := World.alloc_heap_new _ _
  have hC_9 := Kd.C_below hC_8 hb9
  have hCA3_9 := Kd.C_below hCA3_8 hb9
  have hCA5_9 := Kd.C_below hCA5_8 hb9
  have hX_9 := (hb9.block _ (Array.getElem?_eq_some_iff.1 hX_8).1).trans hX_8
  have hY_9 := (hb9.block _ (Array.getElem?_eq_some_iff.1 hY_8).1).trans hY_8
  have hB_9 := hB_8.trans (hb9.mono hB_8.size)
  clear hC_8 hCA3_8 hCA5_8 hX_8 hY_8 hB_8 hb9
  go_wp2_with fail
  refine (find_ok A3 c3 m gen z0 z1 i _ hCA3_9 hlA3 hml Hf3.out).mono ?_
  rintro r w10 ⟨rfl, hb10⟩
  have hC_10 := Kd.C_below hC_9 hb10
  have hCA3_10 := Kd.C_below hCA3_9 hb10
  have hCA5_10 := Kd.C_below hCA5_9 hb10
  have hX_10 := (hb10.block _ (Array.getElem?_eq_some_iff.1 hX_9).1).trans hX_9
  have hY_10 := (hb10.block _ (Array.getElem?_eq_some_iff.1 hY_9).1).trans hY_9
  have hZ_10 := (hb10.block _ (Array.getElem?_eq_some_iff.1 hZ).1).trans hZ
  have hB_10 := hB_9.trans (hb10.mono hB_9.size)
  clear hC_9 hCA3_9 hCA5_9 hX_9 hY_9 hZ hB_9 hb10
  skip
  have hb11 : Below w10.heap.size w10 (w10.alloc (Obj.cells #[.int .u32 z0, .string z1] 25 (0, 0))) := (Below.refl _ _).alloc (Nat.le_refl _) _
  have hV : (w10.alloc (Obj.cells #[.int .u32 z0, .string z1] 25 (0, 0))).heap[w10.heap.size]? = some (Obj.cells #[.int .u32 z0, .string z1] 25 (0, 0)) := World.alloc_heap_new _ _
  have hC_11 := Kd.C_below hC_10 hb11
  have hCA3_11 := Kd.C_below hCA3_10 hb11
  have hCA5_11 := Kd.C_below hCA5_10 hb11
  have hX_11 := (hb11.block _ (Array.getElem?_eq_some_iff.1 hX_10).1).trans hX_10
  have hY_11 := (hb11.block _ (Array.getElem?_eq_some_iff.1 hY_10).1).trans hY_10
  have hZ_11 := (hb11.block _ (Array.getElem?_eq_some_iff.1 hZ_10).1).trans hZ_10
  have hB_11 := hB_10.trans (hb11.mono hB_10.size)
  clear hC_10 hCA3_10 hCA5_10 hX_10 hY_10 hZ_10 hB_10 hb11
  obtain ⟨d0, d1, d2⟩ := box2_at hX_11
  obtain ⟨f0, f1, f2⟩ := box2_at hY_11
  obtain ⟨g0, g1, g2⟩ := box2_at hZ_11
  obtain ⟨i0, i1, i2⟩ := box2_at hV
  go_wp2_with fail
  refine (same_ok A5 A0 c5 c0 L _ hCA5_11 hC_11 hlA5 hc hl).mono ?_
  rintro r w12 ⟨rfl, hb12⟩
  have hC_12 := Kd.C_below hC_11 hb12
  have hCA3_12 := Kd.C_below hCA3_11 hb12
  have hCA5_12 := Kd.C_below hCA5_11 hb12
  have hX_12 := (hb12.block _ (Array.getElem?_eq_some_iff.1 hX_11).1).trans hX_11
  have hY_12 := (hb12.block _ (Array.getElem?_eq_some_iff.1 hY_11).1).trans hY_11
  have hZ_12 := (hb12.block _ (Array.getElem?_eq_some_iff.1 hZ_11).1).trans hZ_11
  have hV_12 := (hb12.block _ (Array.getElem?_eq_some_iff.1 hV).1).trans hV
  have hB_12 := hB_11.trans (hb12.mono hB_11.size)
  clear hC_11 hCA3_11 hCA5_11 hX_11 hY_11 hZ_11 hV hB_11 hb12
  clear d0 d1 d2 f0 f1 f2 g0 g1 g2 i0 i1 i2
  obtain ⟨d0, d1, d2⟩ := box2_at hX_12
  obtain ⟨f0, f1, f2⟩ := box2_at hY_12
  obtain ⟨g0, g1, g2⟩ := box2_at hZ_12
  obtain ⟨i0, i1, i2⟩ := box2_at hV_12
  go_wp2_with fail
  refine (right_ok A3 c3 m true _ hCA3_12 hlA3 hml Hm2.out).mono ?_
  rintro r w13 ⟨rfl, hb13⟩
  have hC_13 := Kd.C_below hC_12 hb13
  have hCA3_13 := Kd.C_below hCA3_12 hb13
  have hCA5_13 := Kd.C_below hCA5_12 hb13
  have hX_13 := (hb13.block _ (Array.getElem?_eq_some_iff.1 hX_12).1).trans hX_12
  have hY_13 := (hb13.block _ (Array.getElem?_eq_some_iff.1 hY_12).1).trans hY_12
  have hZ_13 := (hb13.block _ (Array.getElem?_eq_some_iff.1 hZ_12).1).trans hZ_12
  have hV_13 := (hb13.block _ (Array.getElem?_eq_some_iff.1 hV_12).1).trans hV_12
  have hB_13 := hB_12.trans (hb13.mono hB_12.size)
  clear hC_12 hCA3_12 hCA5_12 hX_12 hY_12 hZ_12 hV_12 hB_12 hb13
  rw [Hm3.out]
  go_wp2
  go_ret
  exact ⟨by simp, hB_13⟩

set_option maxHeartbeats 8000000 in
theorem KeysBack_else (A0 : Option Addr) (n c0 : Nat) (L : List S25) (gk : Int) (sk : ByteArray) (gen : Int) (W : World) (hn : n ≤ c0) (hL : L.length = min n 30) (hC : Kd.C k25 W A0 L.length L) (m : List S25) (y0 : Int) (y1 : ByteArray) (h : Int) (had : addOf L ⟨gk, sk⟩ = (m, 0)) (hf1 : findOf m gk = (gk, sk, 0)) (hd1 : dropOf m gk = (L, 0)) (hf2 : findOf L gen = (y0, y1, h)) (hf3 : findOf m gen = (y0, y1, h)) (hm2 : rightB m = true) (hm3 : m.length = L.length + 1) (hg : (gen == gk) = false) (hl : L.length ≤ 30) :
    Calls Try.prog 6 #[.slice A0 n c0, .agg #[.int .u32 gk, .string sk], .int .u32 gen] W fun e W' => e = .returned (.bool true) ∧ Below W.heap.size W W' := by
  have hml : m.length ≤ 400 := by rw [hm3]; omega
  have hw : wrap64 ((L.length : Int) + 1) = ((L.length + 1 : Nat) : Int) := by unfold wrap64; omega
  have he1 := eq_ok gk sk
  have he2 := eq_ok y0 y1
  have hl : L.length ≤ 400 := by omega
  have hc : L.length ≤ c0 := by omega
  have HL := Lib.hid hL
  have Had := Lib.hid had
  have Hf1 := Lib.hid hf1
  have Hd1 := Lib.hid hd1
  have Hf2 := Lib.hid hf2
  have Hf3 := Lib.hid hf3
  have Hm2 := Lib.hid hm2
  have Hm3 := Lib.hid hm3
  clear hL had hf1 hd1 hf2 hf3 hm2 hm3
  have hb1 : Below W.heap.size W (W.alloc (Obj.cells #[.int .u32 gk, .string sk] 25 (0, 0))) := (Below.refl _ _).alloc (Nat.le_refl _) _
  have hX : (W.alloc (Obj.cells #[.int .u32 gk, .string sk] 25 (0, 0))).heap[W.heap.size]? = some (Obj.cells #[.int .u32 gk, .string sk] 25 (0, 0)) := World.alloc_heap_new _ _
  have hC_1 := Kd.C_below hC hb1
  have hB_1 := hb1
  clear hC hb1
  go_enter Try.func6, Try.ntmps6
  go_wp2_with fail
  refine (shown_ok _).mono ?_
  rintro r w2 ⟨rfl, hb2⟩
  have hC_2 := Kd.C_below hC_1 hb2
  have hX_2 := (hb2.block _ (Array.getElem?_eq_some_iff.1 hX).1).trans hX
  have hB_2 := hB_1.trans (hb2.mono hB_1.size)
  clear hC_1 hX hB_1 hb2
  go_wp2_with fail
  refine (cut_calls _ _ _ hn _).mono ?_
  rintro r w3 ⟨rfl, hb3⟩
  have hC_3 := Kd.C_below hC_2 hb3
  have hX_3 := (hb3.block _ (Array.getElem?_eq_some_iff.1 hX_2).1).trans hX_2
  have hB_3 := hB_2.trans (hb3.mono hB_2.size)
  rw [← HL.out]
  clear hC_2 hX_2 hB_2 hb3
  obtain ⟨d0, d1, d2⟩ := box2_at hX_3
  go_wp2_with fail
  refine (add_ok A0 c0 L gk sk m 0 _ hC_3 hc hl Had.out).mono ?_
  rintro r w4 ⟨v4, rfl, hv4, hb4⟩
  have hC_4 := Kd.C_below hC_3 hb4
  have hX_4 := (hb4.block _ (Array.getElem?_eq_some_iff.1 hX_3).1).trans hX_3
  have hB_4 := hB_3.trans (hb4.mono hB_3.size)
  obtain ⟨A3, c3, rfl, hlA3, hCA3⟩ := Kd.R_reads hv4
  clear hC_3 hX_3 hB_3 hb4 hv4
  clear d0 d1 d2
  obtain ⟨d0, d1, d2⟩ := box2_at hX_4
  go_wp2_with fail
  refine (find_ok A3 c3 m gk gk sk 0 _ hCA3 hlA3 hml Hf1.out).mono ?_
  rintro r w5 ⟨rfl, hb5⟩
  have hC_5 := Kd.C_below hC_4 hb5
  have hCA3_5 := Kd.C_below hCA3 hb5
  have hX_5 := (hb5.block _ (Array.getElem?_eq_some_iff.1 hX_4).1).trans hX_4
  have hB_5 := hB_4.trans (hb5.mono hB_4.size)
  clear hC_4 hCA3 hX_4 hB_4 hb5
  clear d0 d1 d2
  obtain ⟨d0, d1, d2⟩ := box2_at hX_5
  skip
  have hb6 : Below w5.heap.size w5 (w5.alloc (Obj.cells #[.int .u32 gk, .string sk] 25 (0, 0))) := (Below.refl _ _).alloc (Nat.le_refl _) _
  have hY : (w5.alloc (Obj.cells #[.int .u32 gk, .string sk] 25 (0, 0))).heap[w5.heap.size]? = some (Obj.cells #[.int .u32 gk, .string sk] 25 (0, 0)) := World.alloc_heap_new _ _
  have hC_6 := Kd.C_below hC_5 hb6
  have hCA3_6 := Kd.C_below hCA3_5 hb6
  have hX_6 := (hb6.block _ (Array.getElem?_eq_some_iff.1 hX_5).1).trans hX_5
  have hB_6 := hB_5.trans (hb6.mono hB_5.size)
  clear hC_5 hCA3_5 hX_5 hB_5 hb6
  clear d0 d1 d2
  obtain ⟨d0, d1, d2⟩ := box2_at hX_6
  go_wp2_with fail
  refine (drop_ok A3 c3 m gk L 0 _ hCA3_6 hlA3 hml Hd1.out).mono ?_
  rintro r w7 ⟨v7, rfl, hv7, hb7⟩
  have hC_7 := Kd.C_below hC_6 hb7
  have hCA3_7 := Kd.C_below hCA3_6 hb7
  have hX_7 := (hb7.block _ (Array.getElem?_eq_some_iff.1 hX_6).1).trans hX_6
  have hY_7 := (hb7.block _ (Array.getElem?_eq_some_iff.1 hY).1).trans hY
  have hB_7 := hB_6.trans (hb7.mono hB_6.size)
  obtain ⟨A5, c5, rfl, hlA5, hCA5⟩ := Kd.R_reads hv7
  clear hC_6 hCA3_6 hX_6 hY hB_6 hb7 hv7
  clear d0 d1 d2
  go_wp2_with fail
  refine (find_ok A0 c0 L gen y0 y1 h _ hC_7 hc hl Hf2.out).mono ?_
  rintro r w8 ⟨rfl, hb8⟩
  have hC_8 := Kd.C_below hC_7 hb8
  have hCA3_8 := Kd.C_below hCA3_7 hb8
  have hCA5_8 := Kd.C_below hCA5 hb8
  have hX_8 := (hb8.block _ (Array.getElem?_eq_some_iff.1 hX_7).1).trans hX_7
  have hY_8 := (hb8.block _ (Array.getElem?_eq_some_iff.1 hY_7).1).trans hY_7
  have hB_8 := hB_7.trans (hb8.mono hB_7.size)
  clear hC_7 hCA3_7 hCA5 hX_7 hY_7 hB_7 hb8
  skip
  have hb9 : Below w8.heap.size w8 (w8.alloc (Obj.cells #[.int .u32 y0, .string y1] 25 (0, 0))) := (Below.refl _ _).alloc (Nat.le_refl _) _
  have hZ : (w8.alloc (Obj.cells #[.int .u32 y0, .string y1] 25 (0, 0))).heap[w8.heap.size]? = some (Obj.cells #[.int .u32 y0, .string y1] 25 (0, 0)) := World.alloc_heap_new _ _
  have hC_9 := Kd.C_below hC_8 hb9
  have hCA3_9 := Kd.C_below hCA3_8 hb9
  have hCA5_9 := Kd.C_below hCA5_8 hb9
  have hX_9 := (hb9.block _ (Array.getElem?_eq_some_iff.1 hX_8).1).trans hX_8
  have hY_9 := (hb9.block _ (Array.getElem?_eq_some_iff.1 hY_8).1).trans hY_8
  have hB_9 := hB_8.trans (hb9.mono hB_8.size)
  clear hC_8 hCA3_8 hCA5_8 hX_8 hY_8 hB_8 hb9
  go_wp2_with fail
  refine (find_ok A3 c3 m gen y0 y1 h _ hCA3_9 hlA3 hml Hf3.out).mono ?_
  rintro r w10 ⟨rfl, hb10⟩
  have hC_10 := Kd.C_below hC_9 hb10
  have hCA3_10 := Kd.C_below hCA3_9 hb10
  have hCA5_10 := Kd.C_below hCA5_9 hb10
  have hX_10 := (hb10.block _ (Array.getElem?_eq_some_iff.1 hX_9).1).trans hX_9
  have hY_10 := (hb10.block _ (Array.getElem?_eq_some_iff.1 hY_9).1).trans hY_9
  have hZ_10 := (hb10.block _ (Array.getElem?_eq_some_iff.1 hZ).1).trans hZ
  have hB_10 := hB_9.trans (hb10.mono hB_9.size)
  clear hC_9 hCA3_9 hCA5_9 hX_9 hY_9 hZ hB_9 hb10
  skip
  have hb11 : Below w10.heap.size w10 (w10.alloc (Obj.cells #[.int .u32 y0, .string y1] 25 (0, 0))) := (Below.refl _ _).alloc (Nat.le_refl _) _
  have hV : (w10.alloc (Obj.cells #[.int .u32 y0, .string y1] 25 (0, 0))).heap[w10.heap.size]? = some (Obj.cells #[.int .u32 y0, .string y1] 25 (0, 0)) := World.alloc_heap_new _ _
  have hC_11 := Kd.C_below hC_10 hb11
  have hCA3_11 := Kd.C_below hCA3_10 hb11
  have hCA5_11 := Kd.C_below hCA5_10 hb11
  have hX_11 := (hb11.block _ (Array.getElem?_eq_some_iff.1 hX_10).1).trans hX_10
  have hY_11 := (hb11.block _ (Array.getElem?_eq_some_iff.1 hY_10).1).trans hY_10
  have hZ_11 := (hb11.block _ (Array.getElem?_eq_some_iff.1 hZ_10).1).trans hZ_10
  have hB_11 := hB_10.trans (hb11.mono hB_10.size)
  clear hC_10 hCA3_10 hCA5_10 hX_10 hY_10 hZ_10 hB_10 hb11
  obtain ⟨d0, d1, d2⟩ := box2_at hX_11
  obtain ⟨f0, f1, f2⟩ := box2_at hY_11
  obtain ⟨g0, g1, g2⟩ := box2_at hZ_11
  obtain ⟨i0, i1, i2⟩ := box2_at hV
  go_wp2_with fail
  refine (same_ok A5 A0 c5 c0 L _ hCA5_11 hC_11 hlA5 hc hl).mono ?_
  rintro r w12 ⟨rfl, hb12⟩
  have hC_12 := Kd.C_below hC_11 hb12
  have hCA3_12 := Kd.C_below hCA3_11 hb12
  have hCA5_12 := Kd.C_below hCA5_11 hb12
  have hX_12 := (hb12.block _ (Array.getElem?_eq_some_iff.1 hX_11).1).trans hX_11
  have hY_12 := (hb12.block _ (Array.getElem?_eq_some_iff.1 hY_11).1).trans hY_11
  have hZ_12 := (hb12.block _ (Array.getElem?_eq_some_iff.1 hZ_11).1).trans hZ_11
  have hV_12 := (hb12.block _ (Array.getElem?_eq_some_iff.1 hV).1).trans hV
  have hB_12 := hB_11.trans (hb12.mono hB_11.size)
  clear hC_11 hCA3_11 hCA5_11 hX_11 hY_11 hZ_11 hV hB_11 hb12
  clear d0 d1 d2 f0 f1 f2 g0 g1 g2 i0 i1 i2
  obtain ⟨d0, d1, d2⟩ := box2_at hX_12
  obtain ⟨f0, f1, f2⟩ := box2_at hY_12
  obtain ⟨g0, g1, g2⟩ := box2_at hZ_12
  obtain ⟨i0, i1, i2⟩ := box2_at hV_12
  go_wp2_with fail
  refine (right_ok A3 c3 m true _ hCA3_12 hlA3 hml Hm2.out).mono ?_
  rintro r w13 ⟨rfl, hb13⟩
  have hC_13 := Kd.C_below hC_12 hb13
  have hCA3_13 := Kd.C_below hCA3_12 hb13
  have hCA5_13 := Kd.C_below hCA5_12 hb13
  have hX_13 := (hb13.block _ (Array.getElem?_eq_some_iff.1 hX_12).1).trans hX_12
  have hY_13 := (hb13.block _ (Array.getElem?_eq_some_iff.1 hY_12).1).trans hY_12
  have hZ_13 := (hb13.block _ (Array.getElem?_eq_some_iff.1 hZ_12).1).trans hZ_12
  have hV_13 := (hb13.block _ (Array.getElem?_eq_some_iff.1 hV_12).1).trans hV_12
  have hB_13 := hB_12.trans (hb13.mono hB_12.size)
  clear hC_12 hCA3_12 hCA5_12 hX_12 hY_12 hZ_12 hV_12 hB_12 hb13
  rw [Hm3.out]
  go_wp2
  go_ret
  exact ⟨by simp, hB_13⟩


theorem findOf_ins {L : List S25} {k : S25} (h1 : rightB L = true) (h2 : rightB (ins k L) = true) : findOf (ins k L) k.f0 = (k.f0, k.f1, 0) := by
  rw [findOf_right h2, find_mem k _ 0 (rightB_all h2) (ins_mem k L)]
  rfl
theorem dropOf_ins {L : List S25} {k : S25} (h1 : rightB L = true) (h2 : rightB (ins k L) = true) : dropOf (ins k L) k.f0 = (L, 0) := by
  rw [dropOf, findOf_ins h1 h2, without_ins k L 0 (rightB_all h2)]
  rfl
theorem KeysBack_walk (A0 : Option Addr) (n c0 : Nat) (L : List S25) (gk : Int) (sk : ByteArray) (gen : Int) (W : World) (hn : n ≤ c0) (hL : L.length = min n 30) (hC : Kd.C k25 W A0 L.length L) :
    Calls Try.prog 6 #[.slice A0 n c0, .agg #[.int .u32 gk, .string sk], .int .u32 gen] W fun e W' => e = .returned (.bool true) ∧ Below W.heap.size W W' := by
  obtain ⟨m, e, had⟩ : ∃ m e, addOf L ⟨gk, sk⟩ = (m, e) := ⟨_, _, rfl⟩
  by_cases he : e = 0
  · subst he
    obtain ⟨r1, r2, rfl⟩ := add_zero had
    have hml := ins_length ⟨gk, sk⟩ L
    have hl : L.length ≤ 30 := by omega
    obtain ⟨y0, y1, h, hf2⟩ : ∃ x y z, findOf L gen = (x, y, z) := ⟨_, _, _, rfl⟩
    by_cases hg : gen = gk
    · obtain ⟨z0, z1, i, hf3⟩ : ∃ x y z, findOf (ins ⟨gk, sk⟩ L) gen = (x, y, z) := ⟨_, _, _, rfl⟩
      exact KeysBack_same A0 n c0 L gk sk gen W hn hL hC _ y0 y1 h z0 z1 i had (findOf_ins r1 r2) (dropOf_ins r1 r2) hf2 hf3 r2 hml (beq_iff_eq.2 hg) hl
    · refine KeysBack_else A0 n c0 L gk sk gen W hn hL hC _ y0 y1 h had (findOf_ins r1 r2) (dropOf_ins r1 r2) hf2 ?_ r2 hml (beq_eq_false_iff_ne.2 hg) hl
      rw [← hf2, findOf_right r2, findOf_right r1, find_ins _ _ (by exact hg)]
  · have hm := add_not had he
    subst hm
    exact KeysBack_not A0 n c0 L gk sk gen W hn hL hC e had (bne_iff_ne.2 he) (beq_eq_false_iff_ne.2 he)

end Go.Proofs.Ytdoaohmjhbefdaa.H
