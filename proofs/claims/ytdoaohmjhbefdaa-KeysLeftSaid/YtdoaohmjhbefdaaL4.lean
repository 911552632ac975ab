/- KeysDrops: the walks. Written by keys_laws.py. -/
import Derived.Test.YtdoaohmjhbefdaaL3
namespace Go.Proofs.Ytdoaohmjhbefdaa.H
open Go.RowKit Go.Shelf Go.Proofs.YtdoaohmjhbefdaaW.PrintWords Go.Proofs.YtdoaohmjhbefdaaW.PrintLast Go.Proofs.YtdoaohmjhbefdaaW.PrintMore Go.Proofs.Ytdoaohmjhbefdaa.CopyK
attribute [local go_sem] Oper.semAt_some
set_option linter.unusedVariables false
set_option linter.unusedSimpArgs false
set_option maxRecDepth 100000

set_option maxHeartbeats 8000000 in
theorem KeysDrops_walk (A0 : Option Addr) (n c0 : Nat) (L : List S25) (g : Int) (W : World) (hn : n ≤ c0) (hL : L.length = min n 30) (hC : Kd.C k25 W A0 L.length L) :
    Calls Try.prog 5 #[.slice A0 n c0, .int .u32 g] W fun e W' => e = .returned (.bool true) ∧ Below W.heap.size W W' := by
  obtain ⟨a, e, had⟩ : ∃ a e, dropOf L g = (a, e) := ⟨_, _, rfl⟩
  obtain ⟨x, y, z, hfd⟩ : ∃ x y z, findOf L g = (x, y, z) := ⟨_, _, _, rfl⟩
  have hal := drop_len had
  have hl2 : a.length ≤ 400 := by omega
  clear hal
  have he := eq_ok x y
  have hl : L.length ≤ 400 := by omega
  have hc : L.length ≤ c0 := by omega
  have HL := Lib.hid hL
  have Had := Lib.hid had
  have Hfd := Lib.hid hfd
  clear hL had hfd
  go_enter Try.func5, Try.ntmps5
  go_wp2_with fail
  refine (shown_ok _).mono ?_
  rintro r w1 ⟨rfl, hb1⟩
  have hC_1 := Kd.C_below hC hb1
  have hB_1 := hb1
  clear hC hb1
  go_wp2_with fail
  refine (cut_calls _ _ _ hn _).mono ?_
  rintro r w2 ⟨rfl, hb2⟩
  have hC_2 := Kd.C_below hC_1 hb2
  have hB_2 := hB_1.trans (hb2.mono hB_1.size)
  rw [← HL.out]
  clear hC_1 hB_1 hb2
  go_wp2_with fail
  refine (drop_ok A0 c0 L g a e _ hC_2 hc hl Had.out).mono ?_
  rintro r w3 ⟨v3, rfl, hv3, hb3⟩
  have hC_3 := Kd.C_below hC_2 hb3
  have hB_3 := hB_2.trans (hb3.mono hB_2.size)
  obtain ⟨A3, c3, rfl, hlA3, hCA3⟩ := Kd.R_reads hv3
  clear hC_2 hB_2 hb3 hv3
  go_wp2_with fail
  refine (cut_calls _ _ _ hn _).mono ?_
  rintro r w4 ⟨rfl, hb4⟩
  have hC_4 := Kd.C_below hC_3 hb4
  have hCA3_4 := Kd.C_below hCA3 hb4
  have hB_4 := hB_3.trans (hb4.mono hB_3.size)
  rw [← HL.out]
  clear hC_3 hCA3 hB_3 hb4
  go_wp2_with fail
  refine (rdrop_ok A0 c0 L g a e _ hC_4 hc hl Had.out).mono ?_
  rintro r w5 ⟨v5, rfl, hv5, hb5⟩
  have hC_5 := Kd.C_below hC_4 hb5
  have hCA3_5 := Kd.C_below hCA3_4 hb5
  have hB_5 := hB_4.trans (hb5.mono hB_4.size)
  obtain ⟨A5, c5, rfl, hlA5, hCA5⟩ := Kd.R_reads hv5
  clear hC_4 hCA3_4 hB_4 hb5 hv5
  go_wp2_with fail
  refine (cut_calls _ _ _ hn _).mono ?_
  rintro r w6 ⟨rfl, hb6⟩
  have hC_6 := Kd.C_below hC_5 hb6
  have hCA3_6 := Kd.C_below hCA3_5 hb6
  have hCA5_6 := Kd.C_below hCA5 hb6
  have hB_6 := hB_5.trans (hb6.mono hB_5.size)
  rw [← HL.out]
  clear hC_5 hCA3_5 hCA5 hB_5 hb6
  go_wp2_with fail
  refine (find_ok A0 c0 L g x y z _ hC_6 hc hl Hfd.out).mono ?_
  rintro r w7 ⟨rfl, hb7⟩
  have hC_7 := Kd.C_below hC_6 hb7
  have hCA3_7 := Kd.C_below hCA3_6 hb7
  have hCA5_7 := Kd.C_below hCA5_6 hb7
  have hB_7 := hB_6.trans (hb7.mono hB_6.size)
  clear hC_6 hCA3_6 hCA5_6 hB_6 hb7
  go_wp2_with fail
  have hb8 : Below w7.heap.size w7 (w7.alloc (Obj.cells #[.int .u32 x, .string y] 25 (0, 0))) := (Below.refl _ _).alloc (Nat.le_refl _) _
  have hX : (w7.alloc (Obj.cells #[.int .u32 x, .string y] 25 (0, 0))).heap[w7.heap.size]? = some (Obj.cells #[.int .u32 x, .string y] 25 (0, 0)) := World.alloc_heap_new _ _
  have hC_8 := Kd.C_below hC_7 hb8
  have hCA3_8 := Kd.C_below hCA3_7 hb8
  have hCA5_8 := Kd.C_below hCA5_7 hb8
  have hB_8 := hB_7.trans (hb8.mono hB_7.size)
  clear hC_7 hCA3_7 hCA5_7 hB_7 hb8
  refine (cut_calls _ _ _ hn _).mono ?_
  rintro r w9 ⟨rfl, hb9⟩
  have hC_9 := Kd.C_below hC_8 hb9
  have hCA3_9 := Kd.C_below hCA3_8 hb9
  have hCA5_9 := Kd.C_below hCA5_8 hb9
  have hX_9 := (hb9.block _ (Array.getElem?_eq_some_iff.1 hX).1).trans hX
  have hB_9 := hB_8.trans (hb9.mono hB_8.size)
  rw [← HL.out]
  clear hC_8 hCA3_8 hCA5_8 hX hB_8 hb9
  go_wp2_with fail
  refine (rfind_ok A0 c0 L g x y z _ hC_9 hc hl Hfd.out).mono ?_
  rintro r w10 ⟨rfl, hb10⟩
  have hC_10 := Kd.C_below hC_9 hb10
  have hCA3_10 := Kd.C_below hCA3_9 hb10
  have hCA5_10 := Kd.C_below hCA5_9 hb10
  have hX_10 := (hb10.block _ (Array.getElem?_eq_some_iff.1 hX_9).1).trans hX_9
  have hB_10 := hB_9.trans (hb10.mono hB_9.size)
  clear hC_9 hCA3_9 hCA5_9 hX_9 hB_9 hb10
  go_wp2_with fail
  have hb11 : Below w10.heap.size w10 (w10.alloc (Obj.cells #[.int .u32 x, .string y] 25 (0, 0))) := (Below.refl _ _).alloc (Nat.le_refl _) _
  have hY : (w10.alloc (Obj.cells #[.int .u32 x, .string y] 25 (0, 0))).heap[w10.heap.size]? = some (Obj.cells #[.int .u32 x, .string y] 25 (0, 0)) := World.alloc_heap_new _ _
  have hC_11 := Kd.C_below hC_10 hb11
  have hCA3_11 := Kd.C_below hCA3_10 hb11
  have hCA5_11 := Kd.C_below hCA5_10 hb11
  have hX_11 := (hb11.block _ (Array.getElem?_eq_some_iff.1 hX_10).1).trans hX_10
  have hB_11 := hB_10.trans (hb11.mono hB_10.size)
  clear hC_10 hCA3_10 hCA5_10 hX_10 hB_10 hb11
  refine (same_ok A3 A5 c3 c5 a _ hCA3_11 hCA5_11 hlA3 hlA5 hl2).mono ?_
  rintro r w12 ⟨rfl, hb12⟩
  have hC_12 := Kd.C_below hC_11 hb12
  have hCA3_12 := Kd.C_below hCA3_11 hb12
  have hCA5_12 := Kd.C_below hCA5_11 hb12
  have hX_12 := (hb12.block _ (Array.getElem?_eq_some_iff.1 hX_11).1).trans hX_11
  have hY_12 := (hb12.block _ (Array.getElem?_eq_some_iff.1 hY).1).trans hY
  have hB_12 := hB_11.trans (hb12.mono hB_11.size)
  clear hC_11 hCA3_11 hCA5_11 hX_11 hY hB_11 hb12
  obtain ⟨d0, d1, d2⟩ := box2_at hX_12
  obtain ⟨f0, f1, f2⟩ := box2_at hY_12
  go_wp2
  go_ret
  exact ⟨by simp, hB_12⟩

end Go.Proofs.Ytdoaohmjhbefdaa.H
