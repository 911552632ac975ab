/- The words' bytes, and what a sum begins with: the walks. -/
import Derived.Test.YtmkeiaomclpdfaaDoorG3
import Derived.OwnWalkIn
import Derived.Maps.AppendAt
import Derived.Shelf.RegionOpen
namespace Go.Proofs.YtmkeiaomclpdfaaDoor.H
open Go.RowKit Go.Shelf Go.Proofs.YtmkeiaomclpdfaaDoorW.PrintWords Go.Proofs.YtmkeiaomclpdfaaDoorW.PrintLast Go.Proofs.YtmkeiaomclpdfaaDoorW.PrintMore Go.Proofs.YtmkeiaomclpdfaaDoor.Plain Go.Proofs.YtmkeiaomclpdfaaDoor.RowOf
attribute [local go_sem] Oper.semAt_some
set_option linter.unusedVariables false
set_option linter.unusedSimpArgs false

theorem reads4 (W : World) (a b c d : Int) : ReadsRow (fun (x : Int) cs => cs = [.int .u8 x]) 1 (W.alloc (.cells #[.int .u8 a, .int .u8 b, .int .u8 c, .int .u8 d] 5 (0, 0))) (some ⟨W.heap.size, 0, none⟩) 4 [a, b, c, d] := by
  refine ⟨rfl, by decide, fun _ => ⟨_, rfl, fun j p hj => ⟨[.int .u8 p], rfl, rfl, fun i u hi => ?_⟩⟩⟩
  have h := World.alloc_heap_new W (.cells #[.int .u8 a, .int .u8 b, .int .u8 c, .int .u8 d] 5 (0, 0))
  obtain ⟨rfl, rfl⟩ : i = 0 ∧ u = .int .u8 p := by
    cases i with
    | zero => exact ⟨rfl, (Option.some.inj hi).symm⟩
    | succ i => cases hi
  have hc : ∀ i, (W.alloc (.cells #[.int .u8 a, .int .u8 b, .int .u8 c, .int .u8 d] 5 (0, 0))).cell? ⟨W.heap.size, i, none⟩ = (#[Value.int .u8 a, .int .u8 b, .int .u8 c, .int .u8 d] : Array Value)[i]? := fun i => by
    unfold World.cell?
    rw [h]
    rfl
  match j, hj with
  | 0, hj => obtain rfl := Option.some.inj hj; exact hc 0
  | 1, hj => obtain rfl := Option.some.inj hj; exact hc 1
  | 2, hj => obtain rfl := Option.some.inj hj; exact hc 2
  | 3, hj => obtain rfl := Option.some.inj hj; exact hc 3

theorem row_ne {W : World} {base n g : Nat} {v : Value} {xs : List Value} {ys : List Int} {t : TypeId} {rest : List Value} (ho : W.ownsRow base 5 1 v n xs) (hR : RowX W g t ys rest) (ht : t ≠ 5) : some g ≠ v.ownBlock := fun e => by
  obtain ⟨cells, hc⟩ := own_typed ho g e.symm
  have h1 : W.heap[g]? = _ := hR
  rw [hc] at h1
  exact ht (by injection h1 with h1; injection h1 with _ h1; exact h1.symm)
/-- A word's bytes, the greatest first. -/
def be4i (x : Int) : List Int := [x / 16777216 % 256, x / 65536 % 256, x / 256 % 256, x % 256]
/-- The bytes of the first words. -/
def outP (h : List Int) : Nat → List Int
  | 0 => []
  | n + 1 => outP h n ++ be4i (wrd h n)
theorem outP_length (h : List Int) (n : Nat) : (outP h n).length = 4 * n := by
  induction n with
  | zero => rfl
  | succ n ih => rw [outP, List.length_append, ih]; simp [be4i]; omega

set_option maxRecDepth 100000 in
set_option maxHeartbeats 2000000 in
theorem bytes_calls (g T : Nat) (rest : List Value) (h : List Int) (hh : h.length = 8) (hT : T ≠ 5) (w : World) (hR : RowX w g T h rest) :
    Calls Tryd.prog 40 #[.pointer (some ⟨g, 0, none⟩)] w fun e w' => e = .returned (.string (strOfNums (outP h 8))) ∧ Below w.heap.size w w' := by
  go_enter Tryd.func40, Tryd.ntmps40
  go_wp2
  go_loopw [3, 7] (fun vo vi wr => ∃ m : Nat, vi = .int .i64 m ∧ m ≤ 8 ∧ Kd.R (Kd.int .u8) 5 wr w.heap.size (fun _ => True) vo (outP h m) ∧ RowX wr g T h rest ∧ Below w.heap.size w wr) (fun _ vi _ => 8 - (intOf vi).toNat)
  case atStart => exact ⟨0, rfl, by omega, Kd.R_nil _ _ _ _ _, hR, Below.refl _ _⟩
  case round =>
    clear hR
    obtain ⟨m, rfl, hm, hO, hR1, hB⟩ := hrel
    by_cases hm1 : m = 8
    · subst hm1
      have hcv := own_string (P := Tryd.prog) Tryd.underlying27 Tryd.underlying5 Tryd.underlying9 (Kd.own_of_R hO)
      go_wp2
      go_ret
      exact ⟨rfl, hB⟩
    · have hlt : decide ((m : Int) < 8) = true := decide_eq_true (by omega)
      have hm0 : (0 : Int) ≤ (m : Int) := by omega
      have hm16 : (m : Int) < 8 := by omega
      have hc := hR1.cell m (by omega)
      have hlen := outP_length h m
      go_upto_region 5 with (fail)
      generalize hx : wrd h m = x
      have hout : outP h (m + 1) = outP h m ++ be4i x := by rw [outP, hx]
      generalize outP h m = L at hO hlen hout
      have hbase := hB.size
      have Hout := Lib.hid hout
      clear hout hx hc
      go_wp2_with ((with_reducible refine gate_builtin (b := .append) (xs := #[.tmp 12, .tmp 24]) rfl ?_); at_builtin; refine Kd.R_append_rows (Kd.int .u8) (Rr := fun x cs => cs = [.int .u8 x]) (w0 := w) w.heap.size rfl (.tmp 12) (.tmp 24) 27 5 (.int .u8 0) 1 rfl Tryd.underlying27 info5 rfl (by decide) (by decide) u3 L (be4i x) (some ⟨wr.heap.size, 0, none⟩) 4 4 (fun _ => True) (fun _ => False) rfl rfl ?p1 ?p2 (fun _ _ h => h) (fun _ h => h.elim) (fun _ _ => trivial) ?p3 ?p4 ?p5 ?_; (case p1 => exact Kd.R_alloc hO _); (case p2 => exact reads4 _ _ _ _ _); (case p3 => exact hB.alloc hB.size _); (case p4 => (rw [World.size_alloc]; omega)); (case p5 => (rw [hlen]; omega)); intro v3 w3 ho3 hb3 hgr3 hat3)
      have n1 := row_ne (Kd.own_of_R hO) hR1 hT
      have hR1' := (hR1.alloc (.cells #[.int .u8 (x / 16777216 % 256), .int .u8 (x / 65536 % 256), .int .u8 (x / 256 % 256), .int .u8 (x % 256)] 5)).kept (hgr3.block g (hR1.alloc _).lt n1)
      go_round
      case rel =>
        exact ⟨m + 1, by go_num, by omega, by rw [Hout.out]; exact ho3, hR1', hb3⟩
      case measure => simp [intOf]; omega

/-- A Summer's cells. -/
def sumR (r : ByteArray) (n : Int) : List Value := [.string r, .int .i64 n]
set_option maxRecDepth 100000 in
set_option maxHeartbeats 2000000 in
theorem New_calls (F : List Int) (hF : F.length = 8) (w : World) (hG : Glob w 0 F) :
    Calls Tryd.prog 26 #[] w fun e w' => e = .returned (.pointer (some ⟨w.heap.size, 0, none⟩)) ∧ w' = w.alloc (.cells (F.map (Value.int .u32) ++ sumR ⟨#[]⟩ 0).toArray 59) := by
  obtain ⟨t, fz, hE⟩ := hG
  match F, hF with
  | [f0, f1, f2, f3, f4, f5, f6, f7], _ =>
    obtain ⟨cs, hcs⟩ : ∃ cs, (([f0, f1, f2, f3, f4, f5, f6, f7] : List Int).map (Value.int .u32)).toArray = cs := ⟨_, rfl⟩
    rw [hcs] at hE
    have hsz : cs.size = 8 := by rw [← hcs]; rfl
    go_enter Tryd.func26, Tryd.ntmps26
    go_wp2_with (refine wpList_load_row rfl 57 (.global 0) rfl 0 rfl t _ fz _ hE Tryd.underlying57 rfl (by rw [hsz]; kernel_rfl) ?_)
    go_ret
    refine ⟨rfl, ?_⟩
    refine congrArg (fun c => w.alloc (.cells c 59 (0, 0))) ?_
    rw [← hcs]
    simp [List.zipIdx, sumR]

end Go.Proofs.YtmkeiaomclpdfaaDoor.H
