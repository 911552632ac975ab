/- What the law's own test finds: known values. -/
import Derived.Test.YtgckdmilgonnlaaG4
import Derived.Test.YtgckdmilgonnlaaH1
namespace Go.Proofs.Ytgckdmilgonnlaa.H
open Go.RowKit Go.Shelf Go.Proofs.YtgckdmilgonnlaaW.PrintWords Go.Proofs.YtgckdmilgonnlaaW.PrintLast Go.Proofs.YtgckdmilgonnlaaW.PrintMore Go.Proofs.Ytgckdmilgonnlaa.Le Go.Proofs.Ytgckdmilgonnlaa.RowOf
attribute [local go_sem] Oper.semAt_some
set_option linter.unusedVariables false
set_option linter.unusedSimpArgs false

def r32 : ByteArray := ⟨#[0, 1, 2, 3, 4, 5, 6, 7, 8, 9, 10, 11, 12, 13, 14, 15, 16, 17, 18, 19, 20, 21, 22, 23, 24, 25, 26, 27, 28, 29, 30, 31]⟩
def n12 : ByteArray := ⟨#[0, 0, 0, 9, 0, 0, 0, 74, 0, 0, 0, 0]⟩
theorem rising32 : sphragislaw01_rising.f 40 32 = some r32 := by decide +kernel
theorem known_quarter : quarter (286331153, 16909060, 2609737539, 19088743) = (3928658676, 3407673550, 1166100270, 1484899515) := by decide +kernel
theorem known_block : ((kb r32 1 n12).extract 0 8).toList = [16, 241, 231, 228, 209, 59, 89, 21] := by decide +kernel

def sphragislaw01_shown.f : Option Bool := some true

theorem eqw_run (d : Nat) (a b : Int) (W : World) : (Op.equalIn (d + 1) 22 (.int .u32 a) (.int .u32 b)).run Try.prog W = .ok (a == b) W := by
  simp [Op.equalIn, run_underlying Try.underlying22]
theorem part4 (x : Array Value) (i : Nat) (v : Value) (h : x[i]? = some v) (W : World) : (part 22 x i).run Try.prog W = .ok v W := by
  simp [part, Try.isAgg22, h]
theorem eq4_run (d : Nat) (a b c e : Int) (W : World) : (Op.equalIn (d + 2) 24 (.agg #[.int .u32 a, .int .u32 b, .int .u32 c, .int .u32 e]) (.agg #[.int .u32 a, .int .u32 b, .int .u32 c, .int .u32 e])).run Try.prog W = .ok true W := by
  rw [Op.equalIn]
  have h0 := fun i v h => part4 #[.int .u32 a, .int .u32 b, .int .u32 c, .int .u32 e] i v h W
  simp [Sem.run_bind, run_underlying Try.underlying24, Result.andThen_ok, Try.sizeOf22, show List.range' 0 4 = [0, 1, 2, 3] from rfl, eqw_run, h0 0 _ rfl, h0 1 _ rfl, h0 2 _ rfl, h0 3 _ rfl]
theorem w3_block {w1 w2 w3 : World} {o : Obj} (hb2 : Below (w1.alloc o).heap.size (w1.alloc o) w2) (hb3 : Below w2.heap.size w2 w3) : w3.heap[w1.heap.size]? = some o := by
  have h1 : (w1.alloc o).heap.size = w1.heap.size + 1 := World.size_alloc _ _
  have h2 := hb2.size
  exact (hb3.block _ (by omega)).trans ((hb2.block _ (by omega)).trans (World.alloc_heap_new w1 o))
set_option maxRecDepth 100000 in
set_option maxHeartbeats 2000000 in
theorem sphragislaw01_shown.calls (r : Bool) (w : World) (h : sphragislaw01_shown.f = some r) :
    Calls Try.prog 10 #[] w fun e w' => e = .returned (.bool r) ∧ Below w.heap.size w w' := by
  obtain rfl : true = r := Option.some.inj h
  clear h
  have HR := Lib.hid rising32
  have HKB := Lib.hid (kb_block r32 1 n12 rfl rfl)
  obtain ⟨K, hK⟩ : ∃ K, kb r32 1 n12 = K := ⟨_, rfl⟩
  have hKs : K.size = 64 := by rw [← hK]; exact kb_size _ _ _
  have hx := known_block
  rw [hK] at HKB hx
  have h64 : ((K.size : Int) == 64) = true := by rw [hKs]; rfl
  have hxe : ((K.extract 0 8).toList == [16, 241, 231, 228, 209, 59, 89, 21]) = true := by rw [hx]; rfl
  have h8 : (8 : Int) ≤ (K.size : Int) := by omega
  have hq := Quarter_calls 286331153 16909060 2609737539 19088743 w
  rw [known_quarter] at hq
  have Hq := Lib.hid hq
  have he : ∀ W, (Op.equalIn 10000 24 (.agg #[.int .u32 3928658676, .int .u32 3407673550, .int .u32 1166100270, .int .u32 1484899515]) (.agg #[.int .u32 3928658676, .int .u32 3407673550, .int .u32 1166100270, .int .u32 1484899515])).run Try.prog W = .ok true W := fun W => eq4_run 9998 _ _ _ _ W
  clear hK hx hKs hq
  go_enter Try.func10, Try.ntmps10
  go_wp2_with (first | (go_at_call 11; refine Hq.out.mono ?_; rintro e w1 ⟨rfl, hb1⟩; unfold agg4) | (go_at_call 18; refine (sphragislaw01_rising.calls 40 32 r32 _ HR.out).mono ?_; rintro e w2 ⟨rfl, hb2⟩) | (go_at_call 13; refine (arx_Block.calls r32 1 n12 _ _ _ HKB.out).mono ?_; rintro e w3 ⟨rfl, hb3⟩; have hW := w3_block hb2 hb3) | (with_reducible refine wpList_load_row rfl 24 (.tmp 1) rfl w1.heap.size rfl 24 _ (0, 0) _ hW Try.underlying24 rfl (by kernel_rfl) ?_))
  go_ret
  exact ⟨rfl, ((hb1.alloc hb1.size _).trans (hb2.mono (by have := hb1.size; rw [World.size_alloc]; omega))).trans (hb3.mono (by have := hb1.size; have := hb2.size; rw [World.size_alloc] at this; omega))⟩

end Go.Proofs.Ytgckdmilgonnlaa.H
