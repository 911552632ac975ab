/- The reference's Expand: the walk. -/
import Derived.Test.YtobjhddiieaafaaDoorM12
import Derived.Test.YtobjhddiieaafaaDoorRangeV
import Derived.TacticsInMore
import Derived.LoopNIn
import Derived.LoopIn
import Derived.Deep.DeepCutAuto
import Derived.Outline
import Derived.Test.YtobjhddiieaafaaDoorMB
namespace Go.Proofs.YtobjhddiieaafaaDoor.M
open Go.Proofs.YtobjhddiieaafaaDoor.H
open Go.RowKit Go.Shelf Go.Proofs.YtobjhddiieaafaaDoorW.PrintWords Go.Proofs.YtobjhddiieaafaaDoorW.PrintLast Go.Proofs.YtobjhddiieaafaaDoorW.PrintMore Go.Proofs.YtobjhddiieaafaaDoor.Plain Go.Proofs.YtobjhddiieaafaaDoor.RowOf Go.Proofs.YtobjhddiieaafaaDoor.Le
attribute [local go_sem] Oper.semAt_some
set_option linter.unusedVariables false
set_option linter.unusedSimpArgs false

/-- A text of one byte, out of a slice that was just laid. -/
theorem convert1 (W : World) (a : Nat) : (convert 41 9 (.slice (some ⟨W.heap.size, 0, none⟩) 1 1)).run Tryd.prog (W.alloc (.cells #[.int .u8 (a : Int)] 5 (0, 0))) = .ok (.string ⟨#[UInt8.ofNat a]⟩) (W.alloc (.cells #[.int .u8 (a : Int)] 5 (0, 0))) :=
  own_string (base := 0) (e' := 5) (n := 1) (xs := [(a : Int)]) Tryd.underlying41 Tryd.underlying5 Tryd.underlying9 ⟨rfl, .inr ⟨_, 1, _, rfl, Nat.zero_le _, World.alloc_heap_new W _, by decide, by decide, rfl, rfl⟩⟩

theorem refExpand_bad (key label : ByteArray) (n : Int) (hn : n < 0 ∨ 8160 < n) (w : World) :
    Calls Tryd.prog 16 #[.string key, .string label, .int .i64 n] w fun e w' => e = .returned (.tuple #[.string ⟨#[]⟩, .int .i64 2]) ∧ Below w.heap.size w w' := by
  go_enter Tryd.func16, Tryd.ntmps16
  by_cases h1 : n < 0
  all_goals
    first
      | (have d1 : decide (n < 0) = true := decide_eq_true h1
         go_wp2_with fail)
      | (have d1 : decide (n < 0) = false := decide_eq_false h1
         have d2 : decide (8160 < n) = true := decide_eq_true (by omega)
         have d3 : 8160 < n := by omega
         go_wp2_with fail)
    go_ret2
    exact ⟨rfl, Below.refl _ _⟩

set_option maxRecDepth 100000 in
set_option maxHeartbeats 1000000 in
theorem refExpand_calls (key label : ByteArray) (n : Nat) (hk : key.size ≤ 1099511627776) (hl : label.size ≤ 1000000) (hn : n ≤ 8160) (w : World) (hG : Glob w 0 Kc) :
    Calls Tryd.prog 16 #[.string key, .string label, .int .i64 (n : Int)] w fun e w' => e = .returned (.tuple #[.string ⟨(expd key.data.toList label.data.toList n).toArray⟩, .int .i64 0]) ∧ Below w.heap.size w w' := by
  obtain ⟨N, hN⟩ : ∃ N, w.heap.size = N := ⟨_, rfl⟩
  have hgK : 0 < N := by rw [← hN]; exact hG.lt
  rw [hN]
  obtain ⟨E, hE⟩ : ∃ E : ByteArray, (⟨(expd key.data.toList label.data.toList n).toArray⟩ : ByteArray) = E := ⟨_, rfl⟩
  rw [hE]
  have HE := Lib.hid hE
  clear hE
  have d1 : decide ((n : Int) < 0) = false := decide_eq_false (by omega)
  have d2 : decide ((8160 : Int) < (n : Int)) = false := decide_eq_false (by omega)
  have d3 : ¬ (n : Int) < 0 := by omega
  have d4 : ¬ (8160 : Int) < (n : Int) := by omega
  go_enter Tryd.func16, Tryd.ntmps16
  go_wp2
  go_loopw [8, 9, 10] (fun vo vl vi wr => ∃ (k i : Nat) (O La : ByteArray), vo = .string O ∧ vl = .string La ∧ vi = .int .i64 i ∧ i = k + 1 ∧ k ≤ 255 ∧ O.data.toList = outL key.data.toList label.data.toList k ∧ La.data.toList = lastL key.data.toList label.data.toList k ∧ Below N w wr) (fun _ _ vi _ => 256 - (intOf vi).toNat)
  case atStart => exact ⟨0, 1, ⟨#[]⟩, ⟨#[]⟩, rfl, rfl, rfl, rfl, by omega, rfl, rfl, Below.refl _ _⟩
  case round =>
    obtain ⟨k, i, O, La, rfl, rfl, rfl, hik, hk255, hO, hLa, hB⟩ := hrel
    have hib : (i : Int) ≤ 256 := by omega
    have hOs : O.size = 32 * k := by rw [ba_size, hO, outL_len]
    by_cases hlt : O.size < n
    · have e1 : decide ((O.size : Int) < (n : Int)) = true := decide_eq_true (by omega)
      have e2 : (O.size : Int) < (n : Int) := by omega
      have hLs : La.size ≤ 32 := by rw [ba_size, hLa]; exact lastL_le _ _ _
      have h63a := eq_false (show ¬ (9223372036854775807 < La.size + label.size) by omega)
      obtain ⟨U, hU⟩ : ∃ U, La ++ label = U := ⟨_, rfl⟩
      have hUs : U.size ≤ 1000032 := by rw [← hU, ByteArray.size_append]; omega
      have hUl : U.data.toList = lastL key.data.toList label.data.toList k ++ label.data.toList := by rw [← hU, ba_app, hLa]
      have hw : IntKind.u8.wrap (i : Int) = (i : Int) := by rw [IntKind.wrap_u8']; omega
      have hwi : IntKind.i64.wrap ((i : Int) + 1) = (i : Int) + 1 := by rw [i64_w]; unfold wrap64; omega
      have hcv := convert1 wr i
      obtain ⟨o, ho⟩ : ∃ o : ByteArray, (⟨#[UInt8.ofNat i]⟩ : ByteArray) = o := ⟨_, rfl⟩
      rw [ho] at hcv
      have hos : o.size = 1 := by rw [← ho]; rfl
      have h63b := eq_false (show ¬ (9223372036854775807 < U.size + o.size) by omega)
      obtain ⟨V, hV⟩ : ∃ V, U ++ o = V := ⟨_, rfl⟩
      have hVs : V.size ≤ 1000033 := by rw [← hV, ByteArray.size_append]; omega
      have hVl : V.data.toList = lastL key.data.toList label.data.toList k ++ label.data.toList ++ [UInt8.ofNat (k + 1)] := by rw [← hV, ba_app, hUl, ← ho, hik]
      have HVl := Lib.hid hVl
      have HLa := Lib.hid hLa
      have HO := Lib.hid hO
      have Hik := Lib.hid hik
      have hBs := hB.size
      have hB2 : Below N w (wr.alloc (.cells #[.int .u8 (i : Int)] 5)) := hB.alloc (by omega) _
      clear hVl hLa hO hik hUl hos ho hOs
      go_wp2_with fail
      refine (refMac_calls key V hk (by omega) _ (hG.below hB2 hgK)).mono ?_
      rintro e w2 ⟨rfl, hb2⟩
      replace hb2 := bst hN hB2 hb2
      obtain ⟨M, hM⟩ : ∃ M : ByteArray, (⟨(macL key.data.toList V.data.toList).toArray⟩ : ByteArray) = M := ⟨_, rfl⟩
      rw [hM]
      have hMl : M.data.toList = lastL key.data.toList label.data.toList (k + 1) := by rw [← hM, ba_mk, HVl.out, lastL]
      have hMs : M.size = 32 := by rw [ba_size, hMl, lastL_len]
      have h63c := eq_false (show ¬ (9223372036854775807 < O.size + M.size) by omega)
      obtain ⟨O2, hO2⟩ : ∃ O2, O ++ M = O2 := ⟨_, rfl⟩
      have hO2l : O2.data.toList = outL key.data.toList label.data.toList (k + 1) := by rw [← hO2, ba_app, HO.out, hMl, outL]
      have HO2 := Lib.hid hO2l
      have HMl := Lib.hid hMl
      clear hM hMl hO2l hMs hcv h63a h63b hU hV hw
      go_wp2
      have hik := Hik.out
      have hO32 : O.size = 32 * k := by rw [ba_size, HO.out, outL_len]
      exact ⟨⟨k + 1, i + 1, O2, M, rfl, rfl, by go_num, by omega, by omega, HO2.out, HMl.out, hb2⟩, by simp [intOf]; omega⟩
    · have e1 : decide ((O.size : Int) < (n : Int)) = false := decide_eq_false (by omega)
      have e2 : ¬ (O.size : Int) < (n : Int) := by omega
      have e3 : (n : Int) ≤ (O.size : Int) := by omega
      have e4 : (0 : Int) ≤ (n : Int) := by omega
      have hfin : O.extract 0 n = E := by
        rw [← HE.out]
        refine ba_ext ?_
        rw [ba_ex, hO, ba_mk, List.drop_zero, outL_take _ _ _ _ hk255 (by omega)]
      clear hO hLa hik
      go_wp2
      go_ret2
      exact ⟨rfl, hB⟩


/-- A part, as a text. -/
def lastB (key label : ByteArray) (k : Nat) : ByteArray := ⟨(lastL key.data.toList label.data.toList k).toArray⟩
/-- Four blocks are kept. -/
def Keep4 (a b c d : Nat) (A B : World) : Prop := B.heap[a]? = A.heap[a]? ∧ B.heap[b]? = A.heap[b]? ∧ B.heap[c]? = A.heap[c]? ∧ B.heap[d]? = A.heap[d]?
theorem Tabs.kept {A B : World} {K F : List Int} (h : Tabs A K F) (h1 : B.heap[2]? = A.heap[2]?) (h2 : B.heap[1]? = A.heap[1]?) : Tabs B K F := ⟨h.hK, h.hF, h.cst.kept h1, h.fst.kept h2⟩

set_option maxRecDepth 100000 in
set_option maxHeartbeats 1000000 in
theorem expanded1 (gk gl : Nat) (key label : ByteArray) (w : World) (hgk : Boxed w gk 9 (.string key)) (hgl : Boxed w gl 9 (.string label)) (hk : key.size ≤ 1099511627776) (hl : label.size ≤ 1000000) (hT : Tabs w Kc Fc) :
    SeqV Fence.wide 8 Tryd.prog 31 #[.pointer (some ⟨gk, 0, none⟩), .pointer (some ⟨gl, 0, none⟩)] (fun x : ByteArray => #[.string x])
      (fun A B => Below A.heap.size A B) (Keep4 gk gl 2 1)
      (fun xs => xs.length = 255) (fun pre => 1 ≤ pre.length ∧ pre.length ≤ 255) (fun pre x => pre.length < 255 ∧ x = lastB key label (pre.length + 1)) w := by
  intro l J Jx W hW hJ hJx hY h0
  have hkW : Boxed W gk 9 (.string key) := (hW.block gk hgk.lt).trans hgk
  have hlW : Boxed W gl 9 (.string label) := (hW.block gl hgl.lt).trans hgl
  have hTW : Tabs W Kc Fc := hT.grown hW
  refine callsIn_of_wp Tryd.func31 rfl trivial ?_ rfl
  simp only [Tryd.ntmps31, List.size_toArray, List.length_cons, List.length_nil, Nat.reduceAdd, Nat.reduceSub, Array.replicate_succ, Array.replicate_zero, List.push_toArray, List.append_toArray, List.nil_append, List.cons_append]
  gi_wp2
  gi_loopw [4, 5] (fun vl vi wr => ∃ (i : Nat) (La : ByteArray) (pre : List ByteArray), vl = .string La ∧ vi = .int .i64 i ∧ i = pre.length + 1 ∧ pre.length ≤ 255 ∧ La.data.toList = lastL key.data.toList label.data.toList pre.length ∧ Boxed wr gk 9 (.string key) ∧ Boxed wr gl 9 (.string label) ∧ Tabs wr Kc Fc ∧ J pre wr) (fun vl vi wr => 256 - (intOf vi).toNat)
  case atStart => exact ⟨1, ⟨#[]⟩, [], rfl, rfl, rfl, by show 0 ≤ 255; omega, rfl, hkW, hlW, hTW, h0⟩
  case round =>
    clear hkW hlW hTW h0
    obtain ⟨i, La, pre, rfl, rfl, hi, hp, hLa, hbk, hbl, hTr, hJs⟩ := hrel
    by_cases hle : i ≤ 255
    · have e1 : decide ((i : Int) ≤ 255) = true := decide_eq_true (by omega)
      have e2 : (i : Int) ≤ 255 := by omega
      have hck := hbk.cell
      have hcl := hbl.cell
      have hw : IntKind.u8.wrap (i : Int) = (i : Int) := by rw [IntKind.wrap_u8']; omega
      have hwi : IntKind.i64.wrap ((i : Int) + 1) = (i : Int) + 1 := by rw [i64_w]; unfold wrap64; omega
      have hcv := convert1 wr i
      obtain ⟨o, ho⟩ : ∃ o : ByteArray, (⟨#[UInt8.ofNat i]⟩ : ByteArray) = o := ⟨_, rfl⟩
      rw [ho] at hcv
      have hos : o.size = 1 := by rw [← ho]; rfl
      have hLs : La.size ≤ 32 := by rw [ba_size, hLa]; exact lastL_le _ _ _
      have hT2 : Tabs (wr.alloc (.cells #[.int .u8 (i : Int)] 5)) Kc Fc := hTr.grown ((Below.refl _ wr).alloc (Nat.le_refl _) _)
      have hmac := Mac3 key La label o hk (by omega) (wr.alloc (.cells #[.int .u8 (i : Int)] 5)) hT2
      have hM : (⟨(macL key.data.toList (La.data.toList ++ label.data.toList ++ o.data.toList)).toArray⟩ : ByteArray) = lastB key label (pre.length + 1) := by
        rw [lastB, lastL, hLa, ← ho, hi]
      rw [hM, World.size_alloc] at hmac
      obtain ⟨M, hMe⟩ : ∃ M, lastB key label (pre.length + 1) = M := ⟨_, rfl⟩
      rw [hMe] at hmac
      have HMe := Lib.hid hMe
      have Hi := Lib.hid hi
      have hltp : pre.length < 255 := by omega
      clear hM ho hos hLa hLs hi hMe hT2
      gi_wp2_with fail
      refine ⟨trivial, (callsIn_wide.2 hmac).mono ?_⟩
      rintro e w2 ⟨rfl, hb2⟩
      have hbel : Below wr.heap.size wr w2 := by
        have h1 : Below wr.heap.size wr (wr.alloc (.cells #[.int .u8 (i : Int)] 5)) := (Below.refl _ wr).alloc (Nat.le_refl _) _
        exact h1.trans (hb2.mono (by omega))
      have hJ2 := hJ pre wr w2 hJs hbel
      have hbk2 : Boxed w2 gk 9 (.string key) := (hbel.block gk hbk.lt).trans hbk
      have hbl2 : Boxed w2 gl 9 (.string label) := (hbel.block gl hbl.lt).trans hbl
      have hT2 := hTr.grown hbel
      obtain ⟨fn, tmps, assign, body, hy, hR⟩ := hY pre M w2 hJ2 ⟨hltp, HMe.out.symm⟩
      clear hmac hcv hck hcl hw hbk hbl hTr hJs hJ2 hb2 hbel
      gi_wp2
      refine hR.mono ?_
      rintro e W3 (⟨rfl, hJ3, hk1, hk2, hk3, hk4⟩ | ⟨rfl, hJx3⟩)
      · have hbk3 : Boxed W3 gk 9 (.string key) := hk1.trans hbk2
        have hbl3 : Boxed W3 gl 9 (.string label) := hk2.trans hbl2
        have hT3 := Tabs.kept hT2 hk3 hk4
        gi_wp2
        have := Hi.out
        exact ⟨⟨i + 1, M, pre ++ [M], rfl, by go_num, by simp; omega, by simp; omega, by rw [← HMe.out, List.length_append]; rfl, hbk3, hbl3, hT3, hJ3⟩, by simp [intOf]; omega⟩
      · gi_wp2
        refine bodyPost_ret (results_none rfl _ _ _) rfl ?_
        exact ⟨⟨_, rfl⟩, .inr ⟨pre ++ [M], ⟨by simp, by simp; omega⟩, hJx3⟩⟩
    · have e1 : decide ((i : Int) ≤ 255) = false := decide_eq_false (by omega)
      gi_wp2
      go_end0
      exact ⟨⟨_, rfl⟩, .inl ⟨pre, by omega, hJs⟩⟩

theorem expanded_any (key label : ByteArray) (w : World) : Calls Tryd.prog 21 #[.string key, .string label] w fun e w' =>
    e = .returned (.func (.func 31) #[] #[.pointer (some ⟨w.heap.size, 0, none⟩), .pointer (some ⟨w.heap.size + 1, 0, none⟩)]) ∧ (w.alloc (.cells #[.string key] 9)).alloc (.cells #[.string label] 9) = w' := by
  go_enter Tryd.func21, Tryd.ntmps21
  go_wp2
  go_ret
  exact ⟨rfl, rfl⟩

theorem Expand_bad (key label : ByteArray) (n : Int) (hn : n < 0 ∨ 8160 < n) (w : World) :
    Calls Tryd.prog 14 #[.string key, .string label, .int .i64 n] w fun e w' => e = .returned (.tuple #[.string ⟨#[]⟩, .int .i64 2]) ∧ Below w.heap.size w w' := by
  have hB0 : Below w.heap.size w (w.alloc (.cells #[.int .i64 n] 3)) := (Below.refl _ w).alloc (Nat.le_refl _) _
  have hb0 := Boxed.new w 3 (.int .i64 n)
  refine calls_of_wp_marks Tryd.func14 rfl ?_
  simp only [Tryd.ntmps14, List.size_toArray, List.length_cons, List.length_nil, Nat.reduceAdd, Nat.reduceSub, Array.replicate_succ, Array.replicate_zero, List.push_toArray, List.append_toArray, List.nil_append, List.cons_append]
  go_wp2
  refine wp_scope_straight ?_
  go_upto_region 1 with (fail)
  change Code.wp _ _ _ _ (w.alloc (.cells #[.int .i64 n] 3))
  generalize w.alloc (.cells #[.int .i64 n] 3) = W0 at *
  have c0 := hb0.cell
  by_cases h1 : n < 0
  all_goals
    first
      | (have d1 : decide (n < 0) = true := decide_eq_true h1
         go_wp2_with fail)
      | (have d1 : decide (n < 0) = false := decide_eq_false h1
         have d2 : decide (8160 < n) = true := decide_eq_true (by omega)
         have d3 : 8160 < n := by omega
         go_wp2_with fail)
    exact ⟨_, results_tmp2 rfl _ _ _, rfl, hB0⟩


/-- A region that draws its order, in a round: the start. -/
theorem startIn_ {P : Program} {ops : Array Oper} {Q : Exit → Act → World → Prop} {S : World → Prop} {ds : List Nat} {r m id n : Nat} {a : Act} {w : World} (l : Array Bool) (hm : P.follows .mixedOrders = true) (hn : ops.size = n) (hl : Array.replicate n false = l) (hd : noDefer ops.toList = true) (hno : ¬ LetsOut Q) (hS : S w.drew)
    (h : S w.drew → wpAnyLast P .any ops Q S ds n l a w.drew) : (Code.region id ops true).wpIn (Fence.wide.inRound r) m P Q a w := by
  subst hn
  subst hl
  refine wpIn_region_any hm (wpAnyIn_of_wpAny (fun i o ho c => ?_) hno _ _ _ _ (wpAny_of_last _ _ _ _ (h hS)))
  exact noDefer_spec hd i o (by simpa using ho) c

theorem builder_own {T e Bb b : Nat} {bs : List Value} {A A' : World} {row : Option Nat} (h : Lib.IsBuilder T e Bb b bs A) (hg : A.grownBy A' row) (hr2 : ∀ r, row = some r → ∃ o : Obj, A.heap[r]? = some o ∧ o.isCells = false) : Lib.IsBuilder T e Bb b bs A' := by
  have key : ∀ p, Lib.BuilderAt T e Bb b p bs A → Lib.BuilderAt T e Bb b p bs A' := by
    rintro p ⟨hB, v, hbk, hown, hne⟩
    refine ⟨hB, v, heap_own hbk hg hr2, ?_, hne⟩
    have hk := own_typed hown
    exact hown.kept (row := row) hg (by
      cases hv : v.ownBlock with
      | none => exact .inl rfl
      | some k =>
        refine .inr (fun hh => ?_)
        have hh2 : row = some k := by first | exact hh | exact hh.symm
        obtain ⟨cells, hc⟩ := hk k hv
        obtain ⟨o, ho, hn⟩ := hr2 k hh2
        rw [hc] at ho
        cases ho
        cases hn)
  exact h.imp (key _) (key _)

/-- What the loop keeps, k parts written. -/
structure EK (w : World) (N : Nat) (key label : ByteArray) (n : Nat) (k : Nat) (W : World) : Prop where
  b : Lib.IsBuilder 52 5 (N + 1) (N + 1) (Lib.byteCells (outL key.data.toList label.data.toList k)) W
  n : Boxed W N 3 (.int .i64 (n : Int))
  k : Boxed W (N + 2) 9 (.string key)
  l : Boxed W (N + 3) 9 (.string label)
  t : Tabs W Kc Fc
  o : Below N w W
theorem EK.below {w : World} {N : Nat} {key label : ByteArray} {n k : Nat} {A B : World} (hN : w.heap.size = N) (h : EK w N key label n k A) (hb : Below A.heap.size A B) : EK w N key label n k B :=
  ⟨builder_below h.b hb, (hb.block _ h.n.lt).trans h.n, (hb.block _ h.k.lt).trans h.k, (hb.block _ h.l.lt).trans h.l, h.t.grown hb, bst hN h.o hb⟩
theorem EK.own {w : World} {N : Nat} {key label : ByteArray} {n k D : Nat} {A A' : World} {row : Option Nat} (hN : w.heap.size = N) (h : EK w N key label n k A) (hD : N ≤ D) (hg : A.grownBy A' row) (hr : ∀ r, row = some r → D ≤ r ∧ ∃ o : Obj, A.heap[r]? = some o ∧ o.isCells = false) : EK w N key label n k A' := by
  have hr2 : ∀ r, row = some r → ∃ o : Obj, A.heap[r]? = some o ∧ o.isCells = false := fun r e => (hr r e).2
  obtain ⟨t1, f1, e1⟩ := h.t.cst
  obtain ⟨t2, f2, e2⟩ := h.t.fst
  exact ⟨builder_own h.b hg hr2, heap_own h.n hg hr2, heap_own h.k hg hr2, heap_own h.l hg hr2, ⟨h.t.hK, h.t.hF, ⟨t1, f1, heap_own e1 hg hr2⟩, ⟨t2, f2, heap_own e2 hg hr2⟩⟩, h.o.grown hg (by have := h.o.size; omega) (fun r e => by have := (hr r e).1; omega)⟩
def EInv (w : World) (N : Nat) (key label : ByteArray) (n : Nat) (pre : List ByteArray) (W : World) : Prop := EK w N key label n pre.length W
def EOut (w : World) (N : Nat) (key label : ByteArray) (n : Nat) (c : Code) (pre : List ByteArray) (W : World) : Prop := ∃ k, k ≤ 255 ∧ n ≤ 32 * k ∧ c = .exit 0 ∧ EK w N key label n k W

theorem Expand_end {W : World} {D : Nat} {tmps : Array Value} {R : Ending → World → Prop} {v : Value} (hD : W.heap[D]? = some (.deferred (some []))) (h6 : tmps.getD 6 undef = v) (h7 : tmps.getD 7 undef = .int .i64 0) (hR : R (.returned (.tuple #[v, .int .i64 0])) (W.putObj D (.deferred none))) :
    bodyPostM Fence.wide 9 Tryd.prog Tryd.f14 R .ret { tmps := tmps, defers := [{ target := .collected D, args := #[] }] } W := by
  refine ⟨by simp, .inl ⟨D, _, rfl, run_takeDeferred hD, ?_⟩⟩
  refine ⟨_, results_tmp2 rfl _ _ _, ?_⟩
  rw [h6, h7]
  exact hR

set_option maxRecDepth 100000 in
set_option maxHeartbeats 2000000 in
theorem Expand_calls (key label : ByteArray) (n : Nat) (hk : key.size ≤ 1099511627776) (hl : label.size ≤ 1000000) (hn : n ≤ 8160) (w : World) (hT : Tabs w Kc Fc) :
    Calls Tryd.prog 14 #[.string key, .string label, .int .i64 (n : Int)] w fun e w' => e = .returned (.tuple #[.string ⟨(expd key.data.toList label.data.toList n).toArray⟩, .int .i64 0]) ∧ Below w.heap.size w w' := by
  refine calls_of_wp_marks Tryd.func14 rfl ?_
  simp only [Tryd.ntmps14, List.size_toArray, List.length_cons, List.length_nil, Nat.reduceAdd, Nat.reduceSub, Array.replicate_succ, Array.replicate_zero, List.push_toArray, List.append_toArray, List.nil_append, List.cons_append]
  obtain ⟨N, hN⟩ : ∃ N, w.heap.size = N := ⟨_, rfl⟩
  have hk1 : 2 < N := by rw [← hN]; exact hT.cst.lt
  have hk2 : 1 < N := by rw [← hN]; exact hT.fst.lt
  rw [hN]
  obtain ⟨E, hE⟩ : ∃ E : ByteArray, (⟨(expd key.data.toList label.data.toList n).toArray⟩ : ByteArray) = E := ⟨_, rfl⟩
  rw [hE]
  have HE := Lib.hid hE
  clear hE
  have d1 : decide ((n : Int) < 0) = false := decide_eq_false (by omega)
  have d2 : decide ((8160 : Int) < (n : Int)) = false := decide_eq_false (by omega)
  have d3 : ¬ (n : Int) < 0 := by omega
  have d4 : ¬ (8160 : Int) < (n : Int) := by omega
  go_wp2
  refine wp_scope_straight ?_
  go_upto_region 1 with (fail)
  have h0 := Boxed.new w 3 (.int .i64 (n : Int))
  have hb0 : Below N w (w.alloc (.cells #[.int .i64 (n : Int)] 3)) := (Below.refl N w).alloc (by omega) _
  have hs0 : (w.alloc (.cells #[.int .i64 (n : Int)] 3)).heap.size = N + 1 := by rw [World.size_alloc, hN]
  rw [hN] at h0
  change Code.wp _ _ _ _ (w.alloc (.cells #[.int .i64 (n : Int)] 3))
  generalize w.alloc (.cells #[.int .i64 (n : Int)] 3) = W0 at *
  have c0 := h0.cell
  have hB1 := Lib.fresh_isBuilder 52 5 W0
  rw [hs0] at hB1
  go_wp2
  refine wp_label ?_
  have h1 := h0.alloc (.cells #[.pointer none, .slice none 0 0] 52)
  have hb1 : Below N w (W0.alloc (.cells #[.pointer none, .slice none 0 0] 52)) := hb0.alloc (by omega) _
  have hs1 : (W0.alloc (.cells #[.pointer none, .slice none 0 0] 52)).heap.size = N + 2 := by rw [World.size_alloc, hs0]
  change Lib.IsBuilder _ _ _ _ _ (W0.alloc (.cells #[.pointer none, .slice none 0 0] 52)) at hB1
  clear c0 h0 hb0
  generalize W0.alloc (.cells #[.pointer none, .slice none 0 0] 52) = W1 at *
  clear hs0
  go_wp2_with (go_at_call 21; refine (expanded_any _ _ _).mono ?_; rintro e w' ⟨rfl, rfl⟩)
  refine (wpIn_wide (n := 9)).1 ?_
  have hbel : Below W1.heap.size W1 ((W1.alloc (.cells #[.string key] 9)).alloc (.cells #[.string label] 9)) := ((Below.refl _ W1).alloc (Nat.le_refl _) _).alloc (by simp) _
  have eK := (Boxed.new W1 9 (.string key)).alloc (.cells #[.string label] 9)
  have eL := Boxed.new (W1.alloc (.cells #[.string key] 9)) 9 (.string label)
  rw [World.size_alloc] at eL
  have hs2 : ((W1.alloc (.cells #[.string key] 9)).alloc (.cells #[.string label] 9)).heap.size = N + 4 := by rw [World.size_alloc, World.size_alloc, hs1]
  have e0 := (hbel.block _ h1.lt).trans h1
  have eB := builder_below hB1 hbel
  have eO := bst hN hb1 hbel
  rw [hs1] at eK eL
  clear h1 hb1 hB1 hbel
  generalize (W1.alloc (.cells #[.string key] 9)).alloc (.cells #[.string label] 9) = V2 at *
  have eT : Tabs V2 Kc Fc := hT.below eO hk1 hk2
  refine wpIn_rangeFunc_v (F := Fence.wide) (n := 9) rfl (by omega) (gf := 31) (lb := #[.pointer (some ⟨N + 2, 0, none⟩), .pointer (some ⟨N + 3, 0, none⟩)]) rfl trivial (enters_of Tryd.func31 (by kernel_rfl) rfl)
    (expanded1 (N + 2) (N + 3) key label V2 eK eL hk hl eT) (fun A B h k o _ ho _ => (h.block k (Array.getElem?_eq_some_iff.1 ho).1).trans ho) (fun h k => ⟨k.1.trans h.1, k.2.1.trans h.2.1, k.2.2.1.trans h.2.2.1, k.2.2.2.trans h.2.2.2⟩)
    (fun W l o o' hl hk ho _ => ⟨World.putObj_heap_other (by omega), World.putObj_heap_other (by omega), World.putObj_heap_other (by omega), World.putObj_heap_other (by omega)⟩) (Below.refl _ _) (fun _ => rfl)
    (EInv w N key label n) (EOut w N key label n) (fun s A A' row h hg hr => EK.own hN h (by omega) hg hr) (fun c s A A' row h hg hr => by obtain ⟨k, h1, h2, h3, h4⟩ := h; exact ⟨k, h1, h2, h3, h4.own hN (by omega) hg hr⟩)
    (fun s A B h hst => EK.below hN h hst) (fun c s A B h hst => by obtain ⟨k, h1, h2, h3, h4⟩ := h; exact ⟨k, h1, h2, h3, h4.below hN hst⟩)
    ⟨eB, e0, eK, eL, eT, eO⟩ ?a1 ?assign ?body ?done ?stop
  case assign =>
    intro l x W K hK
    gi_wp2
    exact hK
  case body =>
    rintro l pre x W hI ⟨hlt, hx⟩
    have hEb : EK w N key label n pre.length W.drew := EK.below hN hI ((Below.refl _ W).drew)
    have hxs : x.data.toList = lastL key.data.toList label.data.toList (pre.length + 1) := by rw [hx, lastB, ba_mk]
    have Hxs := Lib.hid hxs
    have hlen : ∀ W', Lib.IsBuilder 52 5 (N + 1) (N + 1) (Lib.byteCells (outL key.data.toList label.data.toList pre.length)) W' → Calls Tryd.prog 22 #[.pointer (some ⟨N + 1, 0, none⟩)] W' fun e w' => e = .returned (.int .i64 ((32 * pre.length : Nat) : Int)) ∧ w' = W' := by
      intro W' h
      have := Tryd.Builder_Len (N + 1) (N + 1) _ W' h
      rwa [Lib.byteCells_length, outL_len] at this
    have HLen := Lib.hid hlen
    obtain ⟨z, hz⟩ : ∃ z : Nat, 32 * pre.length = z := ⟨_, rfl⟩
    rw [hz] at HLen
    have Hz := Lib.hid hz
    clear hx hxs hlen hz eK eL eB eO e0 eT
    gi_wp2
    refine startIn_ (n := 3) (S := fun w' => Lib.IsBuilder 52 5 (N + 1) (N + 1) (Lib.byteCells (outL key.data.toList label.data.toList pre.length)) w' ∧ Boxed w' N 3 (.int .i64 (n : Int))) (ds := []) #[false, false, false] (by kernel_rfl) rfl rfl rfl (fun ⟨_, _, h⟩ => h) ⟨hEb.b, hEb.n⟩ (fun hHeld => ?_)
    have hKd : KeepsFrom (N + 4) W W.drew := ⟨Nat.le_refl _, fun k o _ h _ => h⟩
    have hKp : Keep4 (N + 2) (N + 3) 2 1 W W.drew := ⟨rfl, rfl, rfl, rfl⟩
    clear hI
    generalize W.drew = W3 at *
    by_cases hge : n ≤ z
    case' pos =>
      have e1 : decide ((n : Int) ≤ (z : Int)) = true := decide_eq_true (by omega)
      have e2 : (n : Int) ≤ (z : Int) := by omega
    case' neg =>
      have e1 : decide ((n : Int) ≤ (z : Int)) = false := decide_eq_false (by omega)
      have e2 : ¬ (n : Int) ≤ (z : Int) := by omega
    all_goals
      refine take_ (i := 1) (N := some 21) (v := ?_) (a' := ?_) #[false, true, false] rfl rfl (by kernel_rfl) (fun _ _ _ h => h) (Or.inl ⟨by rfl, ?_⟩) hHeld ?_ ?_
      rotate_left
      · intro w' hS_
        have r0 := hS_.2.cell
        go_simp
        try (with_reducible rfl)
      rotate_left
      · simp only [Act.put, List.setIfInBounds_toArray, List.set_cons_zero, List.set_cons_succ, i64_w, i32_w]
        rfl
      refine one_ (i := 0) (N := some 20) #[true, true, false] rfl rfl (by kernel_rfl) (by decide) (fun K hK => ?_)
      refine goes_ Tryd.func22 (by kernel_rfl) rfl #[.pointer (some ⟨N + 1, 0, none⟩)] (by rfl) rfl rfl (by (try simp only [List.map_toArray, List.map_cons, List.map_nil]); first | done | rfl) ?_
      refine (HLen.out _ hHeld.1).mono ?_
      rintro e w5 ⟨rfl, hw5⟩
      refine ⟨_, rfl, ?_⟩
      obtain rfl := hw5.symm
      refine hK.out _ _ hHeld (fun hHeld => ?_)
      clear hK K
      refine pure_ (i := 2) (N := some 22) (v := ?_) (a' := ?_) #[true, true, true] rfl rfl (by kernel_rfl) (fun _ _ _ h => h) (Or.inl ⟨by rfl, ?_⟩) ?_ ?_
      rotate_left
      · intro w'
        go_simp
        try (with_reducible rfl)
      rotate_left
      · simp only [Act.put, List.setIfInBounds_toArray, List.set_cons_zero, List.set_cons_succ, List.getElem_toArray, List.getElem_cons_succ, List.getElem_cons_zero, i64_w, i32_w]
        rfl
      refine done_ (by kernel_rfl) ?_
    case pos =>
      gi_wp2
      exact ⟨hKd, pre.length, by omega, by have := Hz.out; omega, rfl, hEb⟩
    case neg =>
      have hx32 : x.size = 32 := by rw [ba_size, Hxs.out, lastL_len]
      have hkl := hEb.k.lt
      gi_wp2_with fail
      refine ⟨trivial, (CallsIn.inRound l (callsIn_wide.2 (Bld.WriteStringK (N + 1) (N + 1) _ x _ hEb.b (by rw [Lib.byteCells_length, outL_len]; omega) (by omega)))).mono ?_⟩
      rintro e W4 ⟨rfl, hb4, hbl4, hok4⟩
      have kn : Boxed W4 N 3 (.int .i64 (n : Int)) := hok4 N _ hEb.n (by simp) (fun c fz h => by injection h with _ h2 _; exact absurd h2 (by decide))
      have kk : Boxed W4 (N + 2) 9 (.string key) := hok4 (N + 2) _ hEb.k (by simp) (fun c fz h => by injection h with _ h2 _; exact absurd h2 (by decide))
      have kl : Boxed W4 (N + 3) 9 (.string label) := hok4 (N + 3) _ hEb.l (by simp) (fun c fz h => by injection h with _ h2 _; exact absurd h2 (by decide))
      have kc := hbl4.block 2 (by omega)
      have kf := hbl4.block 1 (by omega)
      have hKd4 : KeepsFrom (N + 4) W3 W4 := ⟨hbl4.size, fun k o hk ho hc => hok4 k o ho (fun h => by have := Option.some.inj h; omega) (fun c fz h => by rw [h] at hc; cases hc)⟩
      have hst : Lib.byteCells (outL key.data.toList label.data.toList pre.length) ++ Lib.strCells x = Lib.byteCells (outL key.data.toList label.data.toList (pre ++ [x]).length) := by
        have h1 : Lib.strCells x = Lib.byteCells x.data.toList := by first | rfl | simp [Lib.strCells, Lib.byteCells]
        rw [List.length_append, h1, Hxs.out, ← Lib.byteCells_append]
        rfl
      rw [hst] at hb4
      have hE4 : EInv w N key label n (pre ++ [x]) W4 := ⟨.inr hb4, kn, kk, kl, Tabs.kept hEb.t kc kf, hEb.o.trans (hbl4.mono (by omega))⟩
      have hKp4 : Keep4 (N + 2) (N + 3) 2 1 W W4 := ⟨(kk.trans hEb.k.symm).trans hKp.1, (kl.trans hEb.l.symm).trans hKp.2.1, kc.trans hKp.2.2.1, kf.trans hKp.2.2.2⟩
      have hKf := hKd.trans hKd4
      clear hKd hKp hEb hHeld hok4 kc kf hKd4
      gi_wp2
      exact ⟨by first | exact hKf | (rw [hs2]; exact hKf), hKp4, hE4⟩
  case' done =>
    rintro D xs W hD hxl hI hK2
    obtain ⟨q, hq⟩ : ∃ q, xs.length = q := ⟨_, rfl⟩
    have hEq : EK w N key label n q W := by rw [← hq]; exact hI
    have hq1 : q ≤ 255 := by omega
    have hq2 : n ≤ 32 * q := by omega
    clear hI hq hxl
  case' stop =>
    rintro D c pre W hD hpre ⟨q, hq1, hq2, rfl, hEq⟩ hK2
    clear hpre
    refine wpIn_exit ?_
  all_goals
    obtain ⟨X, hX⟩ : ∃ X : ByteArray, (⟨(outL key.data.toList label.data.toList q).toArray⟩ : ByteArray) = X := ⟨_, rfl⟩
    have hXl : X.data.toList = outL key.data.toList label.data.toList q := by rw [← hX, ba_mk]
    have hXs : X.size = 32 * q := by rw [ba_size, hXl, outL_len]
    have hfin : X.extract 0 n = E := by
      rw [← HE.out]
      refine ba_ext ?_
      rw [ba_ex, hXl, ba_mk, List.drop_zero, outL_take _ _ _ _ hq1 hq2]
    have e3 : (n : Int) ≤ (X.size : Int) := by omega
    have e4 : (0 : Int) ≤ (n : Int) := by omega
    have hstr : ∀ W', Lib.IsBuilder 52 5 (N + 1) (N + 1) (Lib.byteCells (outL key.data.toList label.data.toList q)) W' → N + 1 ≤ W'.heap.size → Calls Tryd.prog 24 #[.pointer (some ⟨N + 1, 0, none⟩)] W' fun e w' => e = .returned (.string X) ∧ Below (N + 1) W' w' ∧ Lib.OthersKept 5 (some (N + 1)) W' w' := by
      intro W' h hs
      refine (Bld.StringK (N + 1) (N + 1) _ W' h hs).mono ?_
      rintro e w' ⟨he, _, h1, h2⟩
      exact ⟨by rw [he, hX], h1, h2⟩
    have HStr := Lib.hid hstr
    have hsz := hEq.k.lt
    have hE8 : EK w N key label n q W.drew := EK.below hN hEq ((Below.refl _ W).drew)
    have hK8 : W.drew.heap[D]? = some (.deferred (some [])) := hK2
    have hsz8 : N + 2 < W.drew.heap.size := hsz
    clear hX hXl hXs hstr hEq hK2 hsz eK eL eB eO e0 eT
    go_upto_region 8 with (fail)
    refine wp_calm ?_
    refine start_ (n := 5) (S := fun w' => Boxed w' N 3 (.int .i64 (n : Int)) ∧ True) (ds := []) #[false, false, false, false, false] (by kernel_rfl) rfl rfl ⟨hE8.n, trivial⟩ (fun hHeld => ?_)
    generalize W.drew = W3 at *
    refine take_ (i := 1) (N := some 26) (v := ?_) (a' := ?_) #[false, true, false, false, false] rfl rfl (by kernel_rfl) (fun _ _ _ h => h) (Or.inl ⟨by rfl, ?_⟩) hHeld ?_ ?_
    rotate_left
    · intro w' hS_
      have r0 := hS_.1.cell
      go_simp
      try (with_reducible rfl)
    rotate_left
    · simp only [Act.put, List.setIfInBounds_toArray, List.set_cons_zero, List.set_cons_succ, i64_w, i32_w]
      rfl
    refine one_ (i := 0) (N := some 25) #[true, true, false, false, false] rfl rfl (by kernel_rfl) (by decide) (fun K hK => ?_)
    refine goes_ Tryd.func24 (by kernel_rfl) rfl #[.pointer (some ⟨N + 1, 0, none⟩)] (by rfl) rfl rfl (by (try simp only [List.map_toArray, List.map_cons, List.map_nil]); first | done | rfl) ?_
    refine (HStr.out _ hE8.b (by omega)).mono ?_
    rintro e W5 ⟨rfl, hb5, hok5⟩
    refine ⟨_, rfl, ?_⟩
    have kn : Boxed W5 N 3 (.int .i64 (n : Int)) := hok5 N _ hHeld.1 (by simp) (fun c fz h => by injection h with _ h2 _; exact absurd h2 (by decide))
    refine hK.out _ _ ⟨kn, trivial⟩ (fun hHeld => ?_)
    clear hK K
    refine pure_ (i := 2) (N := some 27) (v := ?_) (a' := ?_) #[true, true, true, false, false] rfl rfl (by kernel_rfl) (fun _ _ _ h => h) (Or.inl ⟨by rfl, ?_⟩) ?_ ?_
    rotate_left
    · intro w'
      go_simp
      try (with_reducible rfl)
    rotate_left
    · simp only [Act.put, List.setIfInBounds_toArray, List.set_cons_zero, List.set_cons_succ, List.getElem_toArray, List.getElem_cons_succ, List.getElem_cons_zero, i64_w, i32_w]
      rfl
    refine pure_ (i := 3) (N := some 6) (v := ?_) (a' := ?_) #[true, true, true, true, false] rfl rfl (by kernel_rfl) (fun _ _ _ h => h) (Or.inl ⟨by rfl, ?_⟩) ?_ ?_
    rotate_left
    · intro w'
      go_simp
      try (with_reducible rfl)
    rotate_left
    · simp only [Act.put, List.setIfInBounds_toArray, List.set_cons_zero, List.set_cons_succ, List.getElem_toArray, List.getElem_cons_succ, List.getElem_cons_zero, i64_w, i32_w]
      rfl
    refine pure_ (i := 4) (N := some 7) (v := ?_) (a' := ?_) #[true, true, true, true, true] rfl rfl (by kernel_rfl) (fun _ _ _ h => h) (Or.inl ⟨by rfl, ?_⟩) ?_ ?_
    rotate_left
    · intro w'
      go_simp
      try (with_reducible rfl)
    rotate_left
    · simp only [Act.put, List.setIfInBounds_toArray, List.set_cons_zero, List.set_cons_succ, List.getElem_toArray, List.getElem_cons_succ, List.getElem_cons_zero, i64_w, i32_w]
      rfl
    refine done_ (by kernel_rfl) ?_
    have hD5 := hok5 D _ hK8 (fun h => by have := Option.some.inj h; omega) (fun c fz h => by cases h)
    have hB5 : Below N w W5 := hE8.o.trans (hb5.mono (by omega))
    have hB6 : Below N w (W5.putObj D (.deferred none)) := hB5.grown (grownBy_putObj' _ D _) (by have := hB5.size; omega) (fun k e => by cases e; omega)
    go_wp2
    exact Expand_end hD5 rfl rfl ⟨rfl, hB6⟩

end Go.Proofs.YtobjhddiieaafaaDoor.M
