/- root.Decode: the root of bytes: the walk. -/
import Derived.Test.YtfbfpjgnplhodaaRange
import Derived.Test.YtfbfpjgnplhodaaLe
import Derived.Test.YtfbfpjgnplhodaaShelf
import Derived.Test.YtfbfpjgnplhodaaH4
import Derived.Test.YtfbfpjgnplhodaaH3
import Derived.Test.YtfbfpjgnplhodaaH2
import Derived.WalkKit
import Derived.OwnWalkIn
import Derived.TacticsInMore
import Derived.LoopNIn
import Derived.LoopIn
import Derived.Maps.AppendAt
import Derived.Shelf.RegionOpen
import Derived.Outline
import Derived.Lib.Hide
namespace Go.Proofs.Ytfbfpjgnplhodaa.H
open Go.RowKit Go.Shelf Go.Proofs.YtfbfpjgnplhodaaW.PrintWords Go.Proofs.YtfbfpjgnplhodaaW.PrintLast Go.Proofs.YtfbfpjgnplhodaaW.PrintMore Go.Proofs.Ytfbfpjgnplhodaa.Le
attribute [local go_sem] Oper.semAt_some

/-- What is read out of w bytes, the least first. -/
def rdN (L : List UInt8) : Nat → Int
  | 0 => 0
  | j + 1 => Go.bits .or .u64 (rdN L j) (IntKind.u64.wrap (IntKind.u64.wrap ((L.getD j 0).toNat : Int) * 2 ^ (8 * j)))

theorem rdN_at (t : ByteArray) (q : Nat) (h : q < t.size) :
    rdN t.data.toList (q + 1) = Go.bits .or .u64 (rdN t.data.toList q) (IntKind.u64.wrap (IntKind.u64.wrap ((t[q]).toNat : Int) * 2 ^ (8 * q))) := by
  have e : t.data.toList.getD q 0 = t[q] := by
    rw [List.getD_eq_getElem?_getD, List.getElem?_eq_getElem (by simpa using h)]
    rfl
  rw [rdN, e]

/-- The numbers of a text, and what stands behind each. -/
def flds : List Nat → List UInt8 → List (Int × ByteArray)
  | [], _ => []
  | k :: ks, L => if L.length < k then [] else (rdN L k, ⟨(L.drop k).toArray⟩) :: flds ks (L.drop k)

def wd (k : Nat) : Nat := if k = 0 then 8 else 4

set_option maxRecDepth 100000 in
set_option maxHeartbeats 1000000 in
theorem fields1 (g : Nat) (s : ByteArray) (w : World) (hg : Boxed w g 9 (.string s)) (hs : s.size ≤ 140737488355000) :
    SeqB Fence.wide 8 Try.prog 32 #[.pointer (some ⟨g, 0, none⟩)] (fun x : Int × ByteArray => #[.int .u64 x.1, .string x.2])
      (fun A B => ∃ t : ByteArray, B = A.setCell ⟨g, 0, none⟩ (.string t)) (fun A B => B.heap[g]? = A.heap[g]?)
      (fun xs => xs = flds [8, 4, 4, 4] s.data.toList) (fun pre => pre <+: flds [8, 4, 4, 4] s.data.toList) 4 w := by
  intro l J Jx W hW hJ hJx hY h0
  have hgW : Boxed W g 9 (.string s) := (hW.block g hg.lt).trans hg
  refine callsIn_of_wp Try.func32 rfl trivial ?_ rfl
  simp only [Try.ntmps32, List.size_toArray, List.length_cons, List.length_nil, Nat.reduceAdd, Nat.reduceSub, Array.replicate_succ, Array.replicate_zero, List.push_toArray, List.append_toArray, List.nil_append, List.cons_append]
  gi_wp2
  gi_loopw [5, 6, 8, 16] (fun _ _ i _ wr => ∃ (k : Nat) (pre : List (Int × ByteArray)) (t : ByteArray), k ≤ 4 ∧ i = .int .i64 k ∧ pre.length = k ∧ t.size ≤ s.size ∧ Boxed wr g 9 (.string t) ∧ J pre wr ∧
      flds [8, 4, 4, 4] s.data.toList = pre ++ flds ([8, 4, 4, 4].drop k) t.data.toList)
    (fun _ _ i _ _ => 4 - (intOf i).toNat)
  case atStart => exact ⟨0, [], s, by omega, rfl, rfl, Nat.le_refl _, hgW, h0, rfl⟩
  case round =>
    obtain ⟨k, pre, t, hk, rfl, hpre, hts, hb, hJs, hfl⟩ := hrel
    have hbc := hb.cell
    have hbf := hb.frozen
    by_cases hk4 : k = 4
    · subst hk4
      gi_wp2
      go_end0
      exact ⟨⟨_, rfl⟩, .inl ⟨pre, by rw [hfl]; simp [flds], hJs⟩⟩
    · have hklt : k < 4 := by omega
      have hidx : ∀ W : World, (Instr.index 58 (.agg #[.int .i64 8, .int .i64 4, .int .i64 4, .int .i64 4]) (.int .i64 (k : Int))).run Try.prog W = .ok (.int .i64 (wd k)) W := by
        intro W
        obtain rfl | rfl | rfl | rfl : k = 0 ∨ k = 1 ∨ k = 2 ∨ k = 3 := by omega
        all_goals kernel_rfl
      have hw1 : wd k ≤ 8 := by unfold wd; split <;> omega
      have hw0 : 1 ≤ wd k := by unfold wd; split <;> omega
      have hdr : [8, 4, 4, 4].drop k = wd k :: [8, 4, 4, 4].drop (k + 1) := by
        obtain rfl | rfl | rfl | rfl : k = 0 ∨ k = 1 ∨ k = 2 ∨ k = 3 := by omega
        all_goals rfl
      have hkd : decide ((k : Int) < 4) = true := decide_eq_true (by omega)
      have Hdr := Lib.hid hdr
      have Hfl := Lib.hid hfl
      clear hdr hfl
      by_cases hlen : t.size < wd k
      · gi_wp2
        refine bodyPost_ret (results_none rfl _ _ _) rfl ?_
        refine ⟨⟨_, rfl⟩, .inl ⟨pre, ?_, hJs⟩⟩
        rw [Hfl.out, Hdr.out, flds, if_pos (by rw [← ba_size]; exact hlen), List.append_nil]
      · gi_wp2
        gi_loop [5, 6, 16] (fun v _ j => ∃ q : Nat, q ≤ wd k ∧ j = .int .i64 q ∧ v = .int .u64 (rdN t.data.toList q)) (fun _ _ j => 8 - (intOf j).toNat)
        case atStart => exact ⟨0, by omega, rfl, rfl⟩
        case round =>
          obtain ⟨q, hq, rfl, rfl⟩ := hrel
          by_cases hqw : q < wd k
          · have hn := rdN_at t q (by omega)
            have Hn := Lib.hid hn
            clear hn
            gi_wp2
            go_round
            case rel => exact ⟨q + 1, by omega, by go_num, by rw [Hn.out]⟩
            case measure => simp [intOf]; omega
          · obtain rfl : q = wd k := by omega
            obtain ⟨fn, tmps, assign, body, hy, hR⟩ := hY pre (rdN t.data.toList (wd k), t.extract (wd k) t.size) (wr.setCell ⟨g, 0, none⟩ (.string (t.extract (wd k) t.size))) (hJ _ _ _ hJs ⟨_, rfl⟩) (by omega)
            dsimp only at hy
            have hex : (⟨(t.data.toList.drop (wd k)).toArray⟩ : ByteArray) = t.extract (wd k) t.size := by
              apply ba_ext
              rw [ba_ex, ba_mk, List.take_of_length_le (by rw [← ba_size]; omega)]
            have hex2 : (t.extract (wd k) t.size).data.toList = t.data.toList.drop (wd k) := by rw [← hex, ba_mk]
            have hfin : flds [8, 4, 4, 4] s.data.toList = pre ++ [(rdN t.data.toList (wd k), t.extract (wd k) t.size)] ++ flds ([8, 4, 4, 4].drop (k + 1)) (t.extract (wd k) t.size).data.toList := by
              rw [Hfl.out, Hdr.out, flds, if_neg (by rw [← ba_size]; exact hlen), hex2, hex, List.append_assoc]
              rfl
            have Hfin := Lib.hid hfin
            clear hex hex2 hfin
            gi_wp2
            refine hR.mono ?_
            rintro e W3 (⟨rfl, hJ3, hk3⟩ | ⟨rfl, hJx3⟩)
            · gi_wp2
              refine ⟨⟨k + 1, _, t.extract (wd k) t.size, by omega, by go_num, by simp [hpre], by rw [ByteArray.size_extract]; omega, hk3.trans (hb.set _), hJ3, Hfin.out⟩, by simp [intOf]; omega⟩
            · gi_wp2
              refine bodyPost_ret (results_none rfl _ _ _) rfl ?_
              exact ⟨⟨_, rfl⟩, .inr ⟨_, by rw [Hfin.out]; exact List.prefix_append _ _, hJx3⟩⟩

theorem calls_of_wp_marks {P : Program} {f : FuncId} {fn : Func} {c : Code} {args : Array Value} {w : World} {R : Ending → World → Prop}
    (hf : P.funcs[f]? = some fn) (hb : fn.body = some c)
    (h : c.wp P (bodyPostM Fence.wide 9 P fn R) { tmps := args ++ Array.replicate (fn.ntmps - args.size) undef, defers := [] } w) : Calls P f args w R :=
  (callsIn_wide (n := 9)).1 (callsIn_of_wp_marks hf hb trivial (wpIn_wide.2 h))

def mark : ByteArray := ⟨#[115, 112, 104, 114]⟩
def cutP (s : ByteArray) : ByteArray := ⟨(Lib.trimPrefix s.data.toList mark.data.toList).toArray⟩

/-- What is behind the loop: the root of the four numbers, if these are there. -/
def got (l : List (Int × ByteArray)) : Int × Int × Int × Int × ByteArray :=
  match l with
  | [a, b, c, d] => (a.1, b.1 % 4294967296, c.1 % 4294967296, d.1 % 4294967296, d.2)
  | _ => (0, 0, 0, 0, ⟨#[]⟩)

theorem got_short {l : List (Int × ByteArray)} (h : l.length < 4) : got l = (0, 0, 0, 0, ⟨#[]⟩) := by
  match l, h with
  | [], _ => rfl
  | [_], _ => rfl
  | [_, _], _ => rfl
  | [_, _, _], _ => rfl
theorem flds_le {L : List UInt8} : (flds [8, 4, 4, 4] L).length ≤ 4 := by
  have h : ∀ (ks : List Nat) (L : List UInt8), (flds ks L).length ≤ ks.length := by
    intro ks
    induction ks with
    | nil => intro L; simp [flds]
    | cons k ks ih =>
      intro L
      rw [flds]
      split
      · simp
      · simpa using ih _
  exact h _ _
attribute [local go_sem high] eqA25 eqA27
theorem zero_no {c g n p : Int} {tg : ByteArray} (h : ¬ (c = 0 ∧ g = 0 ∧ n = 0 ∧ p = 0 ∧ tg = ⟨#[]⟩)) (W : World) :
    (binOp .eql 27 (.agg #[.int .u64 c, .int .u32 g, .int .u32 n, .int .u32 p, .string tg]) (.agg #[.int .u64 0, .int .u32 0, .int .u32 0, .int .u32 0, .string ⟨#[]⟩])).run Try.prog W = .ok (.bool false) W := by
  go_simp
  intro h1 h2 h3 h4 h5
  exact h ⟨h1, h2, h3, h4, ba_ext (by rw [← Lib.toList_data, h5])⟩
theorem zero_yes {c g n p : Int} {tg : ByteArray} (h : c = 0 ∧ g = 0 ∧ n = 0 ∧ p = 0 ∧ tg = ⟨#[]⟩) (W : World) :
    (binOp .eql 27 (.agg #[.int .u64 c, .int .u32 g, .int .u32 n, .int .u32 p, .string tg]) (.agg #[.int .u64 0, .int .u32 0, .int .u32 0, .int .u32 0, .string ⟨#[]⟩])).run Try.prog W = .ok (.bool true) W := by
  obtain ⟨rfl, rfl, rfl, rfl, rfl⟩ := h
  go_simp
theorem info22 : (Try.prog.info? 22).map (fun i => (i.zero, i.size, i.bytes)) = some (some (.int .u64 0), 1, 8) := by kernel_rfl

def encN (x : Int × ByteArray) : Value := .int .u64 x.1
def cells5 (r : Int × Int × Int × Int × ByteArray) : Obj := .cells #[.int .u64 r.1, .int .u32 r.2.1, .int .u32 r.2.2.1, .int .u32 r.2.2.2.1, .string r.2.2.2.2] 27 (0, 0)

/-- Between two rounds: the list, the text that is left, and nothing else has turned. -/
def DInv (N : Nat) (W0 : World) (pre : List (Int × ByteArray)) (W : World) : Prop :=
  (∃ v, Boxed W (N + 2) 48 v ∧ W.ownsRow (N + 2) 22 1 v pre.length (pre.map encN) ∧ pre.length < 4) ∧ (∃ t : ByteArray, Boxed W (N + 3) 9 (.string t)) ∧ Below (N + 2) W0 W
/-- Behind the fourth. -/
def DOut (N : Nat) (W0 : World) (c : Code) (pre : List (Int × ByteArray)) (W : World) : Prop :=
  c = .exit 0 ∧ pre.length = 4 ∧ W.heap[N + 1]? = some (cells5 (got pre)) ∧ Below (N + 1) W0 W

theorem below_boxset {B n₀ : Nat} {W0 W : World} (h : Below n₀ W0 W) (hB : n₀ ≤ B) (v : Value) : Below n₀ W0 (W.setCell ⟨B, 0, none⟩ v) := h.setCell (p := ⟨B, 0, none⟩) hB v

theorem DInv_own {N : Nat} {W0 : World} (hN : W0.heap.size = N + 4) : OwnFrom W0.heap.size (DInv N W0) := by
  refine OwnFrom.and (Own.from (holdsRow_own (N + 2) (N + 2) _ _ 1 (fun pre : List (Int × ByteArray) => pre.length) (fun pre => pre.map encN) (fun pre _ => pre.length < 4)) _) (OwnFrom.and ?_ (ownFrom_below (by omega) (by omega)))
  rintro s A B row ⟨t, ht⟩ hg hr
  exact ⟨t, ht.kept hg (fun e => by
    obtain ⟨_, o, ho, hc⟩ := hr _ e.symm
    unfold Boxed at ht
    rw [ht] at ho
    cases ho
    cases hc)⟩
theorem DOut_own {N : Nat} {W0 : World} (hN : W0.heap.size = N + 4) (c : Code) : OwnFrom W0.heap.size (DOut N W0 c) := by
  rintro s A B row ⟨h1, h2, h3, h4⟩ hg hr
  refine ⟨h1, h2, (hg.block _ (Array.getElem?_eq_some_iff.1 h3).1 (fun e => ?_)).trans h3, h4.grown hg (by have := h4.size; omega) (fun k e => by have := (hr k e).1; omega)⟩
  have := (hr _ e.symm).1
  omega
theorem DInv_st {N : Nat} {W0 : World} (s : List (Int × ByteArray)) (A B : World) (h : DInv N W0 s A) (hs : ∃ t : ByteArray, B = A.setCell ⟨N + 3, 0, none⟩ (.string t)) : DInv N W0 s B := by
  obtain ⟨t, rfl⟩ := hs
  obtain ⟨⟨v, hv, hrow, hl⟩, ⟨t0, ht⟩, hb⟩ := h
  exact ⟨⟨v, hv.kept (grownBy_setCell' A (N + 3) _) (by simp), hrow.kept (grownBy_setCell' A (N + 3) _) (.inr (ht.not_row (by decide) hrow).symm), hl⟩, ⟨t, ht.set _⟩, below_boxset hb (by omega) _⟩
theorem DOut_st {N : Nat} {W0 : World} (c : Code) (s : List (Int × ByteArray)) (A B : World) (h : DOut N W0 c s A) (hs : ∃ t : ByteArray, B = A.setCell ⟨N + 3, 0, none⟩ (.string t)) : DOut N W0 c s B := by
  obtain ⟨t, rfl⟩ := hs
  obtain ⟨h1, h2, h3, h4⟩ := h
  exact ⟨h1, h2, ((grownBy_setCell' A (N + 3) _).block _ (Array.getElem?_eq_some_iff.1 h3).1 (by simp)).trans h3, below_boxset h4 (by omega) _⟩

theorem cells5_at {W : World} {B : Nat} {r : Int × Int × Int × Int × ByteArray} (h : W.heap[B]? = some (cells5 r)) :
    W.cell? ⟨B, 0, none⟩ = some (.int .u64 r.1) ∧ W.cell? ⟨B, 1, none⟩ = some (.int .u32 r.2.1) ∧ W.cell? ⟨B, 2, none⟩ = some (.int .u32 r.2.2.1) ∧ W.cell? ⟨B, 3, none⟩ = some (.int .u32 r.2.2.2.1) ∧ W.cell? ⟨B, 4, none⟩ = some (.string r.2.2.2.2) ∧ ∀ i, W.frozen? ⟨B, i, none⟩ = false := by
  refine ⟨?_, ?_, ?_, ?_, ?_, fun i => ?_⟩ <;> simp [World.cell?, World.frozen?, h, cells5]
theorem cells5_set {W : World} {B : Nat} {r : Int × Int × Int × Int × ByteArray} (h : W.heap[B]? = some (cells5 r)) (a b c d : Int) (t : ByteArray) :
    ((((((W.setCell ⟨B, 0, none⟩ (.int .u64 a)).setCell ⟨B, 1, none⟩ (.int .u32 b)).setCell ⟨B, 2, none⟩ (.int .u32 c)).setCell ⟨B, 3, none⟩ (.int .u32 d)).setCell ⟨B, 4, none⟩ (.string t)).drew).heap[B]? = some (cells5 (a, b, c, d, t)) := by
  simp [World.drew, World.setCell, Array.getElem?_modify, h, cells5]
theorem cells5_set0 {W : World} {B : Nat} {r : Int × Int × Int × Int × ByteArray} (h : W.heap[B]? = some (cells5 r)) (a b c d : Int) (t : ByteArray) :
    (((((W.setCell ⟨B, 0, none⟩ (.int .u64 a)).setCell ⟨B, 1, none⟩ (.int .u32 b)).setCell ⟨B, 2, none⟩ (.int .u32 c)).setCell ⟨B, 3, none⟩ (.int .u32 d)).setCell ⟨B, 4, none⟩ (.string t)).heap[B]? = some (cells5 (a, b, c, d, t)) := by
  simp [World.setCell, Array.getElem?_modify, h, cells5]
theorem set5_keep {W : World} {B D : Nat} {o : Obj} (hne : D ≠ B) (h : W.heap[D]? = some o) (v0 v1 v2 v3 v4 : Value) :
    (((((W.setCell ⟨B, 0, none⟩ v0).setCell ⟨B, 1, none⟩ v1).setCell ⟨B, 2, none⟩ v2).setCell ⟨B, 3, none⟩ v3).setCell ⟨B, 4, none⟩ v4).heap[D]? = some o := by
  rw [Below.heap_setCell _ _ _ _ hne, Below.heap_setCell _ _ _ _ hne, Below.heap_setCell _ _ _ _ hne, Below.heap_setCell _ _ _ _ hne, Below.heap_setCell _ _ _ _ hne, h]
theorem dec_below {w W : World} {N D : Nat} (hN : w.heap.size = N) (h : Below N w W) (hD : N ≤ D) (v0 v1 v2 v3 v4 : Value) :
    Below w.heap.size w ((((((W.setCell ⟨N, 0, none⟩ v0).setCell ⟨N, 1, none⟩ v1).setCell ⟨N, 2, none⟩ v2).setCell ⟨N, 3, none⟩ v3).setCell ⟨N, 4, none⟩ v4).putObj D (.deferred none)) := by
  rw [hN]
  have h5 := ((((h.setCell (p := ⟨N, 0, none⟩) (Nat.le_refl _) v0).setCell (p := ⟨N, 1, none⟩) (Nat.le_refl _) v1).setCell (p := ⟨N, 2, none⟩) (Nat.le_refl _) v2).setCell (p := ⟨N, 3, none⟩) (Nat.le_refl _) v3).setCell (p := ⟨N, 4, none⟩) (Nat.le_refl _) v4
  exact h5.grown (grownBy_putObj' _ D _) (by have := h5.size; omega) (fun k e => by cases e; exact hD)
theorem dec_end {W : World} {D N : Nat} {tmps : Array Value} {R : Ending → World → Prop} {c g n p e : Int} {t : ByteArray} (hres : W.heap[N]? = some (cells5 (c, g, n, p, t))) (hD : W.heap[D]? = some (.deferred (some []))) (hne : D ≠ N)
    (h2 : tmps[2]?.getD undef = .pointer (some ⟨N, 0, none⟩)) (h3 : tmps[3]?.getD undef = .int .i64 e) (hR : R (.returned (.tuple #[.agg #[.int .u64 c, .int .u32 g, .int .u32 n, .int .u32 p, .string t], .int .i64 e])) (W.putObj D (.deferred none))) :
    bodyPostM Fence.wide 9 Try.prog Try.f18 R .ret { tmps := tmps, defers := [{ target := .collected D, args := #[] }] } W := by
  refine ⟨by simp, .inl ⟨D, _, rfl, run_takeDeferred hD, ?_⟩⟩
  have hr : (W.putObj D (.deferred none)).heap[N]? = some (cells5 (c, g, n, p, t)) := (World.putObj_heap_other hne.symm).trans hres
  obtain ⟨q0, q1, q2, q3, q4, q5⟩ := cells5_at hr
  have hu := Try.underlying27
  refine ⟨_, ?_, hR⟩
  simp [results, Try.results18, h2, h3, q0, q1, q2, q3, q4, go_sem]
theorem blk1 {N : Nat} {W0 W w1 : World} {tmp : Obj} {v : Value} {k : Nat} {xs : List Value} {o : Obj} (hB : Below (N + 2) W0 W) (hr1 : W0.heap[N + 1]? = some o) (hrow : W.ownsRow (N + 2) 22 1 v k xs) (hgrow : (W.alloc tmp).grownBy w1 v.ownBlock) :
    w1.heap[N + 1]? = some o := by
  have h1 : W.heap[N + 1]? = some o := (hB.block (N + 1) (by omega)).trans hr1
  have hlt := (Array.getElem?_eq_some_iff.1 h1).1
  rw [hgrow.block (N + 1) (by simp; omega) (fun e => by have := own_base hrow _ e.symm; omega), Below.heap_alloc _ _ _ hlt]
  exact h1

theorem fields_any (s : ByteArray) (w : World) : Calls Try.prog 26 #[.string s] w fun e w' =>
    e = .returned (.func (.func 32) #[] #[.pointer (some ⟨w.heap.size, 0, none⟩)]) ∧ w.alloc (.cells #[.string s] 9) = w' := by
  go_enter Try.func26, Try.ntmps26
  go_wp2
  go_ret
  exact ⟨rfl, rfl⟩

def root_Decode.g (s : ByteArray) : Option (Int × Int × Int × Int × ByteArray × Int) :=
  let r := got (flds [8, 4, 4, 4] (cutP s).data.toList)
  if r.1 = 0 ∧ r.2.1 = 0 ∧ r.2.2.1 = 0 ∧ r.2.2.2.1 = 0 ∧ r.2.2.2.2 = ⟨#[]⟩ then some (0, 0, 0, 0, ⟨#[]⟩, 120)
  else (root_Right.f r.1 r.2.1 r.2.2.1 r.2.2.2.1 r.2.2.2.2).bind fun ok => if ok = true then (root_text.f 20 r.1 r.2.1 r.2.2.1 r.2.2.2.1 r.2.2.2.2).bind fun t => if t.toList = s.toList then some (r.1, r.2.1, r.2.2.1, r.2.2.2.1, r.2.2.2.2, 0) else some (0, 0, 0, 0, ⟨#[]⟩, 120)
    else some (0, 0, 0, 0, ⟨#[]⟩, 120)

def root_Decode.f (s : ByteArray) : Option (Int × Int × Int × Int × ByteArray × Int) := if s.size ≤ 140737488355000 then root_Decode.g s else none
theorem cut_le (s : ByteArray) (h : s.size ≤ 140737488355000) : (cutP s).size ≤ 140737488355000 := by
  have h1 : s.data.toList.length ≤ 140737488355000 := by rw [← ba_size]; exact h
  have h2 := Lib.trimPrefix_le s.data.toList mark.data.toList
  rw [ba_size, cutP, ba_mk]
  omega

set_option maxRecDepth 100000 in
set_option maxHeartbeats 2000000 in
theorem root_Decode.calls (a0 : ByteArray) (r1 r2 r3 r4 : Int) (r5 : ByteArray) (r6 : Int) (w : World) (h : root_Decode.f a0 = some (r1, r2, r3, r4, r5, r6)) :
    Calls Try.prog 18 #[.string a0] w fun e w' => e = .returned (.tuple #[.agg #[.int .u64 r1, .int .u32 r2, .int .u32 r3, .int .u32 r4, .string r5], .int .i64 r6]) ∧ Below w.heap.size w w' := by
  have hsz : a0.size ≤ 140737488355000 := by
    unfold root_Decode.f at h
    split at h
    · assumption
    · cases h
  rw [root_Decode.f, if_pos hsz] at h
  have hcut := cut_le a0 hsz
  have Hh := Lib.hid h
  clear h hsz
  refine calls_of_wp_marks Try.func18 rfl ?_
  simp only [Try.ntmps18, List.size_toArray, List.length_cons, List.length_nil, Nat.reduceAdd, Nat.reduceSub, Array.replicate_succ, Array.replicate_zero, List.push_toArray, List.append_toArray, List.nil_append, List.cons_append]
  go_wp2
  refine wp_scope_straight ?_
  go_wp2_with (go_at_call 25; refine (Try.strings_CutPrefix _ _ _).mono ?_; rintro e w' ⟨rfl, rfl⟩)
  refine wp_label ?_
  go_wp2_with (go_at_call 26; refine (fields_any _ _).mono ?_; rintro e w' ⟨rfl, rfl⟩)
  refine (wpIn_wide (n := 9)).1 ?_
  obtain ⟨i0, hi, hz0, hz1, hz2⟩ := info_parts info22
  obtain ⟨N, hN⟩ : ∃ N, w.heap.size = N := ⟨_, rfl⟩
  obtain ⟨hp, hhp⟩ : ∃ hp, Lib.hasPrefix a0.data.toList [115, 112, 104, 114] = hp := ⟨_, rfl⟩
  have hcs : ({ data := (Lib.trimPrefix a0.data.toList [115, 112, 104, 114]).toArray } : ByteArray) = cutP a0 := rfl
  rw [hcs, hhp]
  clear hcs hhp
  generalize hcs : cutP a0 = cs at *
  have Hcs := Lib.hid hcs
  clear hcs
  have hnew := Boxed.new (((w.alloc (cells5 (0, 0, 0, 0, ⟨#[]⟩))).alloc (cells5 (0, 0, 0, 0, ⟨#[]⟩))).alloc (.cells #[.slice none 0 0] 48)) 9 (.string cs)
  have hl := (Boxed.new ((w.alloc (cells5 (0, 0, 0, 0, ⟨#[]⟩))).alloc (cells5 (0, 0, 0, 0, ⟨#[]⟩))) 48 (.slice none 0 0)).alloc (.cells #[.string cs] 9)
  have hr1 : ((((w.alloc (cells5 (0, 0, 0, 0, ⟨#[]⟩))).alloc (cells5 (0, 0, 0, 0, ⟨#[]⟩))).alloc (.cells #[.slice none 0 0] 48)).alloc (.cells #[.string cs] 9)).heap[N + 1]? = some (cells5 (0, 0, 0, 0, ⟨#[]⟩)) := by
    have := World.alloc_heap_new (w.alloc (cells5 (0, 0, 0, 0, ⟨#[]⟩))) (cells5 (0, 0, 0, 0, ⟨#[]⟩))
    rw [World.size_alloc, hN] at this
    rw [Below.heap_alloc _ _ _ (by simp; omega), Below.heap_alloc _ _ _ (by simp; omega)]
    exact this
  have hr0 : ((((w.alloc (cells5 (0, 0, 0, 0, ⟨#[]⟩))).alloc (cells5 (0, 0, 0, 0, ⟨#[]⟩))).alloc (.cells #[.slice none 0 0] 48)).alloc (.cells #[.string cs] 9)).heap[N]? = some (cells5 (0, 0, 0, 0, ⟨#[]⟩)) := by
    have := World.alloc_heap_new w (cells5 (0, 0, 0, 0, ⟨#[]⟩))
    rw [hN] at this
    rw [Below.heap_alloc _ _ _ (by simp; omega), Below.heap_alloc _ _ _ (by simp; omega), Below.heap_alloc _ _ _ (by simp; omega)]
    exact this
  have hbw : Below N w ((((w.alloc (cells5 (0, 0, 0, 0, ⟨#[]⟩))).alloc (cells5 (0, 0, 0, 0, ⟨#[]⟩))).alloc (.cells #[.slice none 0 0] 48)).alloc (.cells #[.string cs] 9)) := by
    rw [← hN]
    exact ((((Below.refl _ w).alloc (Nat.le_refl _) _).alloc (by simp) _).alloc (by simp; omega) _).alloc (by simp; omega) _
  change Code.wpIn _ _ _ _ _ _ ((((w.alloc (cells5 (0, 0, 0, 0, ⟨#[]⟩))).alloc (cells5 (0, 0, 0, 0, ⟨#[]⟩))).alloc (.cells #[.slice none 0 0] 48)).alloc (.cells #[.string cs] 9))
  have hsz : ((((w.alloc (cells5 (0, 0, 0, 0, ⟨#[]⟩))).alloc (cells5 (0, 0, 0, 0, ⟨#[]⟩))).alloc (.cells #[.slice none 0 0] 48)).alloc (.cells #[.string cs] 9)).heap.size = N + 4 := by simp; omega
  generalize ((((w.alloc (cells5 (0, 0, 0, 0, ⟨#[]⟩))).alloc (cells5 (0, 0, 0, 0, ⟨#[]⟩))).alloc (.cells #[.slice none 0 0] 48)).alloc (.cells #[.string cs] 9)) = W0 at *
  simp only [World.size_alloc, hN] at hnew hl
  rw [hN]
  refine wpIn_rangeFunc_st (F := Fence.wide) (n := 9) rfl (by omega) (gf := 32) (lb := #[.pointer (some ⟨N + 3, 0, none⟩)]) rfl trivial (enters_of Try.func32 (by kernel_rfl) rfl)
    (fields1 (N + 3) cs W0 hnew hcut) (fun A B h => by obtain ⟨t, rfl⟩ := h; exact spares_of_grownBy (grownBy_setCell' A (N + 3) _) (fun j e => by cases e; omega))
    (fun h k => k.trans h) (fun W l o o' hl hk ho _ => World.putObj_heap_other (by omega)) (Below.refl _ _) (fun _ => rfl)
    (DInv N W0) (DOut N W0) (DInv_own hsz) (DOut_own hsz) DInv_st DOut_st
    ⟨⟨_, hl, World.ownsRow_nil _ _ _ _, by decide⟩, ⟨_, hnew⟩, Below.refl _ _⟩
    (fun x => { tmps := #[.string a0, undef, .pointer (some ⟨N, 0, none⟩), .int .i64 0, .pointer (some ⟨N + 1, 0, none⟩), .pointer (some ⟨N + 1 + 1, 0, none⟩), .string (cs), .bool (hp), .int .u64 x.1, .string x.2,
        .tuple #[.string (cs), .bool (hp)], .string a0, .tuple #[.string (cs), .bool (hp)], .string (cs), .bool (hp), .string (cs),
        .func (.func 32) #[] #[.pointer (some ⟨N + 3, 0, none⟩)], .int .u64 x.1, .string x.2, undef, undef, undef, undef, undef, undef, undef, undef, undef, undef, undef, undef, undef, undef, undef, undef, undef, undef, undef, undef, undef, undef, undef, undef, undef, undef, undef, undef, undef, undef, undef, undef, undef, undef, undef, undef, undef, undef, undef, undef, undef], defers := [] }) ?assign ?body ?done ?stop
  case assign =>
    intro l x W K hK
    gi_wp2
    exact hK
  case body =>
    rintro l pre x W ⟨⟨v, hv, hrow, hlt4⟩, ⟨t, ht⟩, hB⟩ hlt
    have hc := hv.cell
    have hBs := hB.size
    by_cases h4 : pre.length = 3
    · obtain ⟨a, b, c, rfl⟩ : ∃ a b c, pre = [a, b, c] := by
        match pre, h4 with
        | [a, b, c], _ => exact ⟨a, b, c, rfl⟩
      have hne : ((3 : Int) + 1 == 4) = true := rfl
      gi_wp2_with (gi_at_builtin; refine wpListIn_append_own _ rfl _ _ 48 rfl (N + 2) 22 i0 (.int .u64 0) 1 8 Try.underlying48 hi hz0 hz1 hz2 rfl (by decide) _ _ _ rfl (hrow.alloc _) ⟨W.heap.size, 0, none⟩ 1 1 [.int .u64 x.1] rfl rfl (cell_one_new _ _ _) (by simp [Value.oneCell']) (by simp only [maxLen]; omega) (by omega) (by simp; omega) ?_; intro v' w1 hown' hgrow _; obtain ⟨g', cap', rfl⟩ := ownsRow_succ hown'; obtain ⟨hv1, hv2, hr2, hk2, hb2⟩ := hv.appended (by decide) hrow (by omega) (Nat.le_refl _) hown' hgrow; have hc1 := hv1.cell; have hf1 := hv1.frozen; have ht1 := (ht.alloc _).kept hgrow (ht.not_row (by decide) hrow); have hb1 := blk1 hB hr1 hrow hgrow)
      have hb1' : (w1.setCell ⟨N + 2, 0, none⟩ (.slice (some ⟨g', 0, none⟩) 4 cap')).heap[N + 1]? = some (cells5 (0, 0, 0, 0, ⟨#[]⟩)) := ((grownBy_setCell' w1 (N + 2) _).block _ (Array.getElem?_eq_some_iff.1 hb1).1 (by simp)).trans hb1
      have ht2 := ht1.kept (grownBy_setCell' w1 (N + 2) (.slice (some ⟨g', 0, none⟩) 4 cap')) (by simp)
      change Code.wpIn _ _ _ _ _ _ (w1.setCell ⟨N + 2, 0, none⟩ (.slice (some ⟨g', 0, none⟩) 4 cap'))
      change Boxed (w1.setCell ⟨N + 2, 0, none⟩ (.slice (some ⟨g', 0, none⟩) 4 cap')) (N + 2) _ (.slice (some ⟨g', 0, none⟩) 4 cap') at hv2
      change (w1.setCell ⟨N + 2, 0, none⟩ (.slice (some ⟨g', 0, none⟩) 4 cap')).ownsRow (N + 2) _ 1 (.slice (some ⟨g', 0, none⟩) 4 cap') 4 _ at hr2
      change KeepsOthers W (w1.setCell ⟨N + 2, 0, none⟩ (.slice (some ⟨g', 0, none⟩) 4 cap')) at hk2
      change Below (N + 2) W (w1.setCell ⟨N + 2, 0, none⟩ (.slice (some ⟨g', 0, none⟩) 4 cap')) at hb2
      generalize w1.setCell ⟨N + 2, 0, none⟩ (.slice (some ⟨g', 0, none⟩) 4 cap') = w2 at *
      have e0 : w2.cell? ⟨g', 0, none⟩ = some (.int .u64 a.1) := hr2.cells (g := g') rfl 0 _ rfl
      have e1 : w2.cell? ⟨g', 1, none⟩ = some (.int .u64 b.1) := hr2.cells (g := g') rfl 1 _ rfl
      have e2 : w2.cell? ⟨g', 2, none⟩ = some (.int .u64 c.1) := hr2.cells (g := g') rfl 2 _ rfl
      have e3 : w2.cell? ⟨g', 3, none⟩ = some (.int .u64 x.1) := hr2.cells (g := g') rfl 3 _ rfl
      have hl2 := hv2.cell
      obtain ⟨q0, q1, q2, q3, q4, q5⟩ := cells5_at hb1'
      refine wpIn_round_still_tail 18 (by kernel_rfl) (by kernel_rfl) rfl (fun ⟨_, _, h⟩ => h) ?_
      simp only [List.take_succ_cons, List.take_zero, List.drop_succ_cons, List.drop_zero]
      repeat still_step
      refine wpStill_nil ?_
      go_wp2
      refine wpIn_exit ?_
      refine ⟨((((((hk2.trans (KeepsOthers.setCell _ _ _)).trans (KeepsOthers.setCell _ _ _)).trans (KeepsOthers.setCell _ _ _)).trans (KeepsOthers.setCell _ _ _)).trans (KeepsOthers.setCell _ _ _)).trans (KeepsOthers.drew _)).from _, rfl, rfl, cells5_set hb1' _ _ _ _ _, ?_⟩
      have hB1 : Below (N + 1) W0 w2 := (hB.trans hb2).mono (by omega)
      exact Below.drew (((((hB1.setCell (p := ⟨N + 1, 0, none⟩) (Nat.le_refl _) _).setCell (p := ⟨N + 1, 1, none⟩) (Nat.le_refl _) _).setCell (p := ⟨N + 1, 2, none⟩) (Nat.le_refl _) _).setCell (p := ⟨N + 1, 3, none⟩) (Nat.le_refl _) _).setCell (p := ⟨N + 1, 4, none⟩) (Nat.le_refl _) _)
    · have hne : ((pre.length : Int) + 1 == 4) = false := beq_eq_false_iff_ne.2 (by omega)
      gi_wp2_with (gi_at_builtin; refine wpListIn_append_own _ rfl _ _ 48 rfl (N + 2) 22 i0 (.int .u64 0) 1 8 Try.underlying48 hi hz0 hz1 hz2 rfl (by decide) _ _ _ rfl (hrow.alloc _) ⟨W.heap.size, 0, none⟩ 1 1 [.int .u64 x.1] rfl rfl (cell_one_new _ _ _) (by simp [Value.oneCell']) (by simp only [maxLen]; omega) (by omega) (by simp; omega) ?_; intro v' w1 hown' hgrow _; obtain ⟨g', cap', rfl⟩ := ownsRow_succ hown'; obtain ⟨hv1, hv2, hr2, hk2, hb2⟩ := hv.appended (by decide) hrow (by omega) (Nat.le_refl _) hown' hgrow; have hc1 := hv1.cell; have hf1 := hv1.frozen; have ht1 := (ht.alloc _).kept hgrow (ht.not_row (by decide) hrow))
      have ht2 := ht1.kept (grownBy_setCell' w1 (N + 2) (.slice (some ⟨g', 0, none⟩) (pre.length + 1) cap')) (by simp)
      exact ⟨hk2.from _, (show _ = _ from ht2).trans (show _ = _ from ht).symm, ⟨⟨_, hv2, by simpa [encN] using hr2, by simp; omega⟩, ⟨t, ht2⟩, hB.trans hb2⟩⟩
  case' done =>
    rintro D xs W hD rfl ⟨⟨v, hv, hrow, hlt4⟩, ⟨t, ht⟩, hB⟩ hK
    have hrr : W.heap[N + 1]? = some (cells5 (got (flds [8, 4, 4, 4] cs.data.toList))) := by
      rw [got_short hlt4]
      exact (hB.block (N + 1) (by omega)).trans hr1
    replace hB : Below (N + 1) W0 W := hB.mono (by omega)
    clear hv hrow hlt4 ht
  case' stop =>
    rintro D c pre W hD hSp ⟨rfl, h4, hrr, hB⟩ hK
    rw [show pre = flds [8, 4, 4, 4] cs.data.toList from hSp.eq_of_length_le (by rw [h4]; exact flds_le)] at hrr
    clear hSp h4
    refine wpIn_exit ?_
  all_goals
    have hq : W.heap[N]? = some (cells5 (0, 0, 0, 0, ⟨#[]⟩)) := (hB.block N (by omega)).trans hr0
    have hB2 : Below N w W := hbw.trans (hB.mono (by omega))
    unfold root_Decode.g at Hh
    rw [Hcs.out] at Hh
    generalize got (flds [8, 4, 4, 4] cs.data.toList) = r at *
    obtain ⟨c, g, n, p, tg⟩ := r
    obtain ⟨q0, q1, q2, q3, q4, q5⟩ := cells5_at hrr
    obtain ⟨z0, z1, z2, z3, z4, z5⟩ := cells5_at hq
    have hlr := (Array.getElem?_eq_some_iff.1 hrr).1
    have hlq := (Array.getElem?_eq_some_iff.1 hq).1
    have hlD := (Array.getElem?_eq_some_iff.1 hK).1
    have hDN : D ≠ N := by omega
    have HH := Hh.out
    clear Hh
    by_cases hz : c = 0 ∧ g = 0 ∧ n = 0 ∧ p = 0 ∧ tg = ⟨#[]⟩
    · have hE := zero_yes hz
      rw [if_pos hz] at HH
      simp only [Option.some.injEq, Prod.mk.injEq] at HH
      obtain ⟨rfl, rfl, rfl, rfl, rfl, rfl⟩ := HH
      clear hz
      go_wp2
      exact dec_end (cells5_set0 hq _ _ _ _ _) (set5_keep hDN hK _ _ _ _ _) hDN rfl rfl ⟨rfl, dec_below hN hB2 (by omega) _ _ _ _ _⟩
    · have hE := zero_no hz
      rw [if_neg hz] at HH
      clear hz
      obtain ⟨ok, hR, hT⟩ := Option.bind_eq_some_iff.mp HH
      have HR := Lib.hid hR
      clear hR HH
      cases ok with
      | false =>
        simp only [Bool.false_eq_true, if_false, Option.some.injEq, Prod.mk.injEq] at hT
        obtain ⟨rfl, rfl, rfl, rfl, rfl, rfl⟩ := hT
        go_wp2_with (go_at_call 13; refine (root_Right.calls c g n p tg false _ HR.out).mono ?_; rintro e w1 ⟨rfl, hb1⟩; have hq1 := (hb1.block _ hlq).trans hq; have hK1 := (hb1.block _ hlD).trans hK; obtain ⟨y0, y1, y2, y3, y4, y5⟩ := cells5_at hq1)
        exact dec_end (cells5_set0 hq1 _ _ _ _ _) (set5_keep hDN hK1 _ _ _ _ _) hDN rfl rfl ⟨rfl, dec_below hN (hB2.trans (hb1.mono (by omega))) (by omega) _ _ _ _ _⟩
      | true =>
        simp only [if_true] at hT
        obtain ⟨tx, ht, hF⟩ := Option.bind_eq_some_iff.mp hT
        have HT := Lib.hid ht
        clear ht hT
        by_cases he : tx.toList = a0.toList
        · rw [if_pos he] at hF
          simp only [Option.some.injEq, Prod.mk.injEq] at hF
          obtain ⟨rfl, rfl, rfl, rfl, rfl, rfl⟩ := hF
          have heb : (tx.toList == a0.toList) = true := by simpa using he
          clear he
          go_wp2_with (first | (go_at_call 13; refine (root_Right.calls c g n p tg true _ HR.out).mono ?_; rintro e w1 ⟨rfl, hb1⟩; have hq1 := (hb1.block _ hlq).trans hq; have hr1' := (hb1.block _ hlr).trans hrr; have hK1 := (hb1.block _ hlD).trans hK; obtain ⟨y0, y1, y2, y3, y4, y5⟩ := cells5_at hr1') | (go_at_call 21; refine (root_text.calls 20 c g n p tg tx _ HT.out).mono ?_; rintro e w2 ⟨rfl, hb2⟩; have hs1 := hb1.size; have hq2 := (hb2.block _ (by omega)).trans hq1; have hr2' := (hb2.block _ (by omega)).trans hr1'; have hK2 := (hb2.block _ (by omega)).trans hK1; obtain ⟨x0, x1, x2, x3, x4, x5⟩ := cells5_at hr2'; obtain ⟨v0, v1, v2, v3, v4, v5⟩ := cells5_at hq2))
          have hB3 := (hB2.trans (hb1.mono (by omega))).trans (hb2.mono (by omega))
          exact dec_end (cells5_set0 hq2 _ _ _ _ _) (set5_keep hDN hK2 _ _ _ _ _) hDN rfl rfl ⟨rfl, dec_below hN hB3 (by omega) _ _ _ _ _⟩
        · rw [if_neg he] at hF
          simp only [Option.some.injEq, Prod.mk.injEq] at hF
          obtain ⟨rfl, rfl, rfl, rfl, rfl, rfl⟩ := hF
          have heb : (tx.toList == a0.toList) = false := by simpa using he
          clear he
          go_wp2_with (first | (go_at_call 13; refine (root_Right.calls c g n p tg true _ HR.out).mono ?_; rintro e w1 ⟨rfl, hb1⟩; have hq1 := (hb1.block _ hlq).trans hq; have hr1' := (hb1.block _ hlr).trans hrr; have hK1 := (hb1.block _ hlD).trans hK; obtain ⟨y0, y1, y2, y3, y4, y5⟩ := cells5_at hr1') | (go_at_call 21; refine (root_text.calls 20 c g n p tg tx _ HT.out).mono ?_; rintro e w2 ⟨rfl, hb2⟩; have hs1 := hb1.size; have hq2 := (hb2.block _ (by omega)).trans hq1; have hr2' := (hb2.block _ (by omega)).trans hr1'; have hK2 := (hb2.block _ (by omega)).trans hK1; obtain ⟨x0, x1, x2, x3, x4, x5⟩ := cells5_at hr2'; obtain ⟨v0, v1, v2, v3, v4, v5⟩ := cells5_at hq2))
          have hB3 := (hB2.trans (hb1.mono (by omega))).trans (hb2.mono (by omega))
          exact dec_end (cells5_set0 hq2 _ _ _ _ _) (set5_keep hDN hK2 _ _ _ _ _) hDN rfl rfl ⟨rfl, dec_below hN hB3 (by omega) _ _ _ _ _⟩

end Go.Proofs.Ytfbfpjgnplhodaa.H
