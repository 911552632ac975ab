/- mac.part: the walk. -/
import Derived.Test.YtobjhddiieaafaaDoorM11
import Derived.Test.YtobjhddiieaafaaDoorA2
import Derived.Test.YtobjhddiieaafaaDoorMB
import Derived.Laws.AppendOwnNone
namespace Go.Proofs.YtobjhddiieaafaaDoor.M
open Go.Proofs.YtobjhddiieaafaaDoor.H
open Go.RowKit Go.Shelf Go.Proofs.YtobjhddiieaafaaDoorW.PrintWords Go.Proofs.YtobjhddiieaafaaDoorW.PrintLast Go.Proofs.YtobjhddiieaafaaDoorW.PrintMore Go.Proofs.YtobjhddiieaafaaDoor.Plain Go.Proofs.YtobjhddiieaafaaDoor.RowOf Go.Proofs.YtobjhddiieaafaaDoor.Le
attribute [local go_sem] Oper.semAt_some
set_option linter.unusedVariables false
set_option linter.unusedSimpArgs false

theorem builder_below {T e B b : Nat} {bs : List Value} {w w' : World} (h : Lib.IsBuilder T e B b bs w) (hb : Below w.heap.size w w') : Lib.IsBuilder T e B b bs w' := by
  have key : ∀ p, Lib.BuilderAt T e B b p bs w → Lib.BuilderAt T e B b p bs w' := by
    rintro p ⟨hB, v, hbk, hown, hne⟩
    refine ⟨hB, v, (hb.block b (Array.getElem?_eq_some_iff.1 hbk).1).trans hbk, ?_, hne⟩
    exact hown.kept (row := none) ⟨hb.os, hb.tape, hb.output, hb.size, fun k hk _ => hb.block k hk⟩ (by
      cases v.ownBlock with
      | none => exact .inl rfl
      | some k => exact .inr (by simp))
  exact h.imp (key _) (key _)

set_option maxRecDepth 100000 in
set_option maxHeartbeats 1000000 in
theorem part_calls (key : ByteArray) (c : Int) (k : UInt8) (hc : c = (k.toNat : Int)) (hs : key.size ≤ 1099511627776) (w : World) (hT : Tabs w Kc Fc) :
    Calls Tryd.prog 38 #[.string key, .int .u8 c] w fun e w' => e = .returned (.string ⟨(kxor k key.data.toList).toArray⟩) ∧ Below w.heap.size w w' := by
  obtain ⟨N, hN⟩ : ∃ N, w.heap.size = N := ⟨_, rfl⟩
  have hL := Low.mk' hN hT
  obtain ⟨L, hLe⟩ : ∃ L, kxor k key.data.toList = L := ⟨_, rfl⟩
  rw [hLe, hN]
  have hLl : L.length = 64 := by rw [← hLe, kxor_len]
  have Hc := Lib.hid hc
  clear hc
  go_enter Tryd.func38, Tryd.ntmps38
  by_cases h64 : 64 < key.size
  case' pos =>
    have d1 : decide ((64 : Int) < (key.size : Int)) = true := decide_eq_true (by omega)
    have d2 : (64 : Int) < (key.size : Int) := by omega
    have hk : kpad key.data.toList = sum Kc Fc key.data.toList ++ List.replicate 32 0 := by rw [kpad, if_pos (by rw [← ba_size]; exact h64)]
    go_wp2_with fail
    refine (Sum1_calls key Kc Fc hs _ hT).mono ?_
    rintro e w1 ⟨rfl, hb1⟩
    rw [hN] at hb1
    obtain ⟨X, hX⟩ : ∃ X : ByteArray, (⟨(sum Kc Fc key.data.toList).toArray⟩ : ByteArray) = X := ⟨_, rfl⟩
    rw [hX]
    have hXs : X.size = 32 := by rw [← hX, ba_size, ba_mk, sum_len]
    have hXk : L = (X.data.toList ++ List.replicate 32 0).map (· ^^^ k) := by rw [← hLe, kxor, hk, ← hX]
    obtain ⟨z, hz⟩ : ∃ z : Nat, z = 32 := ⟨_, rfl⟩
    rw [← hz] at hXk
    have hXz : X.size + z = 64 := by omega
    have hw1 : IntKind.i64.wrap (64 - (X.size : Int)) = (z : Int) := by rw [i64_w]; unfold wrap64; omega
    clear hX hk hz hXs d1 d2 h64
    go_wp2_with fail
  case' neg =>
    have d1 : decide ((64 : Int) < (key.size : Int)) = false := decide_eq_false (by omega)
    have d2 : ¬ (64 : Int) < (key.size : Int) := by omega
    have hk : kpad key.data.toList = key.data.toList ++ List.replicate (64 - key.size) 0 := by rw [kpad, if_neg (by rw [← ba_size]; exact h64), ← ba_size]
    obtain ⟨X, hX⟩ : ∃ X, key = X := ⟨_, rfl⟩
    subst hX
    have hXk : L = (key.data.toList ++ List.replicate (64 - key.size) 0).map (· ^^^ k) := by rw [← hLe, kxor, hk]
    obtain ⟨z, hz⟩ : ∃ z : Nat, z = 64 - key.size := ⟨_, rfl⟩
    rw [← hz] at hXk
    have hXz : key.size + z = 64 := by omega
    have hw1 : IntKind.i64.wrap (64 - (key.size : Int)) = (z : Int) := by rw [i64_w]; unfold wrap64; omega
    have hb1 : Below N w w := Below.refl _ _
    clear hk hz
    go_wp2_with fail
  · clear hLe
    refine (Tryd.strings_Repeat ⟨#[0]⟩ z _ (by omega) (by show 1 * z ≤ _; omega)).mono ?_
    rintro e w2 ⟨rfl, hb2⟩
    replace hb2 := bst hN hb1 hb2
    obtain ⟨Z, hZ⟩ : ∃ Z : ByteArray, (⟨(Lib.repeatL (⟨#[0]⟩ : ByteArray).data.toList z).toArray⟩ : ByteArray) = Z := ⟨_, rfl⟩
    rw [hZ]
    have hZl : Z.data.toList = List.replicate z 0 := by rw [← hZ, ba_mk]; exact repeat_one z
    have hZs : Z.size = z := by rw [ba_size, hZl, List.length_replicate]
    have h63 := eq_false (show ¬ (9223372036854775807 < key.size + Z.size) by omega)
    obtain ⟨P, hP⟩ : ∃ P, key ++ Z = P := ⟨_, rfl⟩
    have hPs : P.size = 64 := by rw [← hP, ByteArray.size_append]; omega
    have hPL : L = P.data.toList.map (· ^^^ k) := by rw [← hP, ba_app, hZl]; exact hXk
    have HPL := Lib.hid hPL
    have HPs := Lib.hid hPs
    obtain ⟨b, hb⟩ : ∃ b, w2.heap.size = b := ⟨_, rfl⟩
    have hbN : N ≤ b := by have := hb2.size; omega
    have hB0 := Lib.fresh_isBuilder 52 5 w2
    rw [hb] at hB0
    have hbs : ∀ o, b ≤ (w2.alloc o).heap.size := fun o => by rw [World.size_alloc]; omega
    clear hXk hPL hPs hZl hZ
    go_wp2
    go_loopw [18] (fun vi wr => ∃ j : Nat, vi = .int .i64 j ∧ j ≤ 64 ∧ Lib.IsBuilder 52 5 b b (Lib.byteCells (L.take j)) wr ∧ Below N w wr ∧ b ≤ wr.heap.size) (fun vi _ => 64 - (intOf vi).toNat)
    case atStart => exact ⟨0, rfl, by omega, hB0, hb2.alloc (by omega) _, hbs _⟩
    case round =>
      clear hB0 hb2 hbs
      obtain ⟨j, rfl, hj, hbd, hB, hbw⟩ := hrel
      have hps := HPs.out
      by_cases hj64 : j = 64
      · subst hj64
        have e1 : decide ((64 : Int) < 64) = false := rfl
        rw [List.take_of_length_le (by omega)] at hbd
        clear hps
        go_wp2_with fail
        refine (Tryd.Builder_String_any b b _ _ hbd hbw).mono ?_
        rintro e w3 ⟨rfl, hb3⟩
        go_wp2
        go_ret
        exact ⟨rfl, hB.trans (hb3.mono hbN)⟩
      · have e1 : decide ((j : Int) < 64) = true := decide_eq_true (by omega)
        have hj0 : (0 : Int) ≤ (j : Int) := by omega
        have hjP : j < P.size := by omega
        have hj1 : (j : Int) < (P.size : Int) := by omega
        have hlen : (Lib.byteCells (L.take j)).length + 1 ≤ 140737488355328 := by
          rw [Lib.byteCells_length, List.length_take]
          omega
        have hst : Lib.byteCells (L.take j) ++ [.int .u8 (bits .xor .u8 (P[j].toNat : Int) c)] = Lib.byteCells (L.take (j + 1)) := by
          rw [xor_step P k L HPL.out j hjP, Lib.byteCells_append, Hc.out, xor_bits]
          rfl
        have Hst := Lib.hid hst
        clear hps hst
        go_wp2_with fail
        refine (Bld.WriteByte b b _ _ _ hbd hlen hbw).mono ?_
        rintro e w3 ⟨rfl, hb3, hbl3⟩
        rw [Hst.out] at hb3
        have hs3 := hbl3.size
        go_wp2
        exact ⟨⟨j + 1, by go_num, by omega, .inr hb3, hB.trans (hbl3.mono hbN), by omega⟩, by simp [intOf]; omega⟩
  · clear hLe
    refine (Tryd.strings_Repeat ⟨#[0]⟩ z _ (by omega) (by show 1 * z ≤ _; omega)).mono ?_
    rintro e w2 ⟨rfl, hb2⟩
    replace hb2 := bst hN hb1 hb2
    obtain ⟨Z, hZ⟩ : ∃ Z : ByteArray, (⟨(Lib.repeatL (⟨#[0]⟩ : ByteArray).data.toList z).toArray⟩ : ByteArray) = Z := ⟨_, rfl⟩
    rw [hZ]
    have hZl : Z.data.toList = List.replicate z 0 := by rw [← hZ, ba_mk]; exact repeat_one z
    have hZs : Z.size = z := by rw [ba_size, hZl, List.length_replicate]
    have h63 := eq_false (show ¬ (9223372036854775807 < X.size + Z.size) by omega)
    obtain ⟨P, hP⟩ : ∃ P, X ++ Z = P := ⟨_, rfl⟩
    have hPs : P.size = 64 := by rw [← hP, ByteArray.size_append]; omega
    have hPL : L = P.data.toList.map (· ^^^ k) := by rw [← hP, ba_app, hZl]; exact hXk
    have HPL := Lib.hid hPL
    have HPs := Lib.hid hPs
    obtain ⟨b, hb⟩ : ∃ b, w2.heap.size = b := ⟨_, rfl⟩
    have hbN : N ≤ b := by have := hb2.size; omega
    have hB0 := Lib.fresh_isBuilder 52 5 w2
    rw [hb] at hB0
    have hbs : ∀ o, b ≤ (w2.alloc o).heap.size := fun o => by rw [World.size_alloc]; omega
    clear hXk hPL hPs hZl hZ
    go_wp2
    go_loopw [18] (fun vi wr => ∃ j : Nat, vi = .int .i64 j ∧ j ≤ 64 ∧ Lib.IsBuilder 52 5 b b (Lib.byteCells (L.take j)) wr ∧ Below N w wr ∧ b ≤ wr.heap.size) (fun vi _ => 64 - (intOf vi).toNat)
    case atStart => exact ⟨0, rfl, by omega, hB0, hb2.alloc (by omega) _, hbs _⟩
    case round =>
      clear hB0 hb2 hbs
      obtain ⟨j, rfl, hj, hbd, hB, hbw⟩ := hrel
      have hps := HPs.out
      by_cases hj64 : j = 64
      · subst hj64
        have e1 : decide ((64 : Int) < 64) = false := rfl
        rw [List.take_of_length_le (by omega)] at hbd
        clear hps
        go_wp2_with fail
        refine (Tryd.Builder_String_any b b _ _ hbd hbw).mono ?_
        rintro e w3 ⟨rfl, hb3⟩
        go_wp2
        go_ret
        exact ⟨rfl, hB.trans (hb3.mono hbN)⟩
      · have e1 : decide ((j : Int) < 64) = true := decide_eq_true (by omega)
        have hj0 : (0 : Int) ≤ (j : Int) := by omega
        have hjP : j < P.size := by omega
        have hj1 : (j : Int) < (P.size : Int) := by omega
        have hlen : (Lib.byteCells (L.take j)).length + 1 ≤ 140737488355328 := by
          rw [Lib.byteCells_length, List.length_take]
          omega
        have hst : Lib.byteCells (L.take j) ++ [.int .u8 (bits .xor .u8 (P[j].toNat : Int) c)] = Lib.byteCells (L.take (j + 1)) := by
          rw [xor_step P k L HPL.out j hjP, Lib.byteCells_append, Hc.out, xor_bits]
          rfl
        have Hst := Lib.hid hst
        clear hps hst
        go_wp2_with fail
        refine (Bld.WriteByte b b _ _ _ hbd hlen hbw).mono ?_
        rintro e w3 ⟨rfl, hb3, hbl3⟩
        rw [Hst.out] at hb3
        have hs3 := hbl3.size
        go_wp2
        exact ⟨⟨j + 1, by go_num, by omega, .inr hb3, hB.trans (hbl3.mono hbN), by omega⟩, by simp [intOf]; omega⟩

end Go.Proofs.YtobjhddiieaafaaDoor.M

namespace Go.Proofs.YtobjhddiieaafaaDoor.M
open Go.Proofs.YtobjhddiieaafaaDoor.H
open Go.RowKit Go.Shelf Go.Proofs.YtobjhddiieaafaaDoorW.PrintWords Go.Proofs.YtobjhddiieaafaaDoorW.PrintLast Go.Proofs.YtobjhddiieaafaaDoorW.PrintMore Go.Proofs.YtobjhddiieaafaaDoor.Plain Go.Proofs.YtobjhddiieaafaaDoor.RowOf Go.Proofs.YtobjhddiieaafaaDoor.Le
attribute [local go_sem] Oper.semAt_some
set_option linter.unusedVariables false
set_option linter.unusedSimpArgs false

theorem info9 : (Tryd.prog.info? 9).map (fun i => (i.zero, i.size, i.bytes)) = some (some (.string ⟨#[]⟩), 1, 16) := by kernel_rfl
theorem strs_cells {W : World} {g T : Nat} {cs : Array Value} {fz : Nat × Nat} (l : List ByteArray) (h : W.heap[g]? = some (.cells cs T fz)) (hc : ∀ (j : Nat) (x : ByteArray), l[j]? = some x → cs[j]? = some (.string x)) : Strs W (some ⟨g, 0, none⟩) l := by
  refine .inr ⟨g, 0, rfl, (Array.getElem?_eq_some_iff.1 h).1, fun j x hj => ?_⟩
  rw [Nat.zero_add, Lib.cell_of_heap h]
  exact hc j x hj
theorem strs_own {W : World} {B T : Nat} {v : Value} (l : List ByteArray) (hl : l ≠ []) (h : W.ownsRow B T 1 v l.length (l.map Value.string)) : ∃ g c, v = .slice (some ⟨g, 0, none⟩) l.length c ∧ Strs W (some ⟨g, 0, none⟩) l := by
  obtain ⟨h1, h2 | ⟨g, cap, cur, hv, hg, hh, hc, hm, hs, ht⟩⟩ := h
  · exact absurd (List.length_eq_zero_iff.1 h2.2) hl
  · refine ⟨g, cap, hv, strs_cells l hh (fun j x hj => ?_)⟩
    have hlt : j < l.length := (List.getElem?_eq_some_iff.1 hj).1
    have e : (cur.toList.take (l.length * 1))[j]? = some (.string x) := by rw [ht, List.getElem?_map, hj]; rfl
    rw [List.getElem?_take, if_pos (by omega), Array.getElem?_toList] at e
    exact e
theorem flat_cons (x : ByteArray) (l : List ByteArray) : flat (x :: l) = x.data.toList ++ flat l := by simp [flat]
theorem flat_two (x y : ByteArray) : flat [x, y] = x.data.toList ++ y.data.toList := by simp [flat]

set_option maxRecDepth 100000 in
set_option maxHeartbeats 1000000 in
theorem Mac_calls (key : ByteArray) (A : Option Addr) (cp : Nat) (l : List ByteArray) (hk : key.size ≤ 1099511627776) (hfl : (flat l).length ≤ 1099511620000) (hll : l.length ≤ 1099511620000) (w : World) (hA : Strs w A l) (hn : A = none → cp = 0) (hT : Tabs w Kc Fc) :
    Calls Tryd.prog 32 #[.string key, .slice A l.length cp] w fun e w' => e = .returned (.string ⟨(macL key.data.toList (flat l)).toArray⟩) ∧ Below w.heap.size w w' := by
  obtain ⟨N, hN⟩ : ∃ N, w.heap.size = N := ⟨_, rfl⟩
  have hL := Low.mk' hN hT
  obtain ⟨i0, hi, hz0, hz1, hz2⟩ := info_parts info9
  rw [hN]
  obtain ⟨m, hm⟩ : ∃ m, l.length = m := ⟨_, rfl⟩
  rw [hm]
  have hm0 : (0 : Int) ≤ (m : Int) := by omega
  have Hm := Lib.hid hm
  clear hm
  go_enter Tryd.func32, Tryd.ntmps32
  go_wp2_with fail
  refine (part_calls key 54 54 rfl hk _ hT).mono ?_
  rintro e w1 ⟨rfl, hb1⟩
  rw [hN] at hb1
  have hA1 := hA.below (Nat.le_of_eq hN) hb1
  obtain ⟨X, hX⟩ : ∃ X : ByteArray, (⟨(kxor 54 key.data.toList).toArray⟩ : ByteArray) = X := ⟨_, rfl⟩
  rw [hX]
  have hXl : X.data.toList = kxor 54 key.data.toList := by rw [← hX, ba_mk]
  have hXs : X.size = 64 := by rw [ba_size, hXl, kxor_len]
  have hfx : (flat (X :: l)).length ≤ 1099511627776 := by rw [flat_cons, List.length_append, ← ba_size]; omega
  have HXl := Lib.hid hXl
  have hn1N : N ≤ w1.heap.size := by have := hb1.size; omega
  have hb2 : Below N w (w1.alloc (.cells #[.string X] 9)) := hb1.alloc (by omega) _
  have hA2 : Strs (w1.alloc (.cells #[.string X] 9)) A l := hA1.below (Nat.le_refl _) ((Below.refl _ w1).alloc (Nat.le_refl _) _)
  have hown : (w1.alloc (.cells #[.string X] 9)).ownsRow N 9 1 (.slice (some ⟨w1.heap.size, 0, none⟩) 1 1) 1 [.string X] :=
    ⟨rfl, .inr ⟨w1.heap.size, 1, _, rfl, hn1N, World.alloc_heap_new w1 _, by decide, by decide, rfl, rfl⟩⟩
  have hs2 : N ≤ (w1.alloc (.cells #[.string X] 9)).heap.size := by rw [World.size_alloc]; omega
  clear hX hXl hA hA1 hb1 hXs
  have key2 : ∀ (v2 : Value) (w2 : World), w2.ownsRow N 9 1 v2 (1 + m) ([.string X] ++ l.map Value.string) → ∃ g c, v2 = .slice (some ⟨g, 0, none⟩) (X :: l).length c ∧ Strs w2 (some ⟨g, 0, none⟩) (X :: l) := by
    intro v2 w2 h
    refine strs_own (B := N) (T := 9) (X :: l) (by simp) ?_
    have e : (X :: l).length = 1 + m := by rw [List.length_cons, Hm.out, Nat.add_comm]
    rw [e]
    exact h
  have Key2 := Lib.hid key2
  clear key2
  cases A
  case' none =>
    obtain rfl := hn rfl
    have hl0 : l = [] := by
      rcases hA2 with h | ⟨b, o, h, _⟩
      · exact h
      · cases h
    have hm00 : m = 0 := by rw [← Hm.out, hl0]; rfl
    subst hm00
    have Hl0 := Lib.hid hl0
    clear hA2 hl0
    go_wp2_with (at_builtin; refine wpList_append_own_none _ rfl _ _ 70 rfl N 9 i0 1 Tryd.underlying70 hi _ 1 _ rfl hown rfl ?_)
    obtain ⟨g, c, hv, hS⟩ := Key2.out _ _ (by rw [Hl0.out]; exact hown)
    rw [hv]
    generalize w1.alloc (.cells #[.string X] 9) = w2 at *
  case' some ad =>
    have hc : ∀ (j : Nat) (u : Value), (l.map Value.string)[j]? = some u → (w1.alloc (.cells #[.string X] 9)).cell? (ad.add j) = some u := by
      intro j u hj
      rw [List.getElem?_map, Option.map_eq_some_iff] at hj
      obtain ⟨x, hx, rfl⟩ := hj
      rcases hA2 with h | ⟨b, o, h, _, h3⟩
      · rw [h] at hx; cases hx
      · obtain rfl := Option.some.inj h
        have := h3 j x hx
        rwa [show (⟨b, o, none⟩ : Addr).add j = ⟨b, o + j, none⟩ by simp [Addr.add]]
    have Hc := Lib.hid hc
    clear hc
    go_wp2_with (at_builtin; refine wpList_append_own _ rfl _ _ 70 rfl N 9 i0 (.string ⟨#[]⟩) 1 16 Tryd.underlying70 hi hz0 hz1 hz2 rfl (by decide) _ 1 _ rfl hown ad m cp (l.map Value.string) rfl ?c0 Hc.out ?c2 ?c3 ?c4 hs2 ?_)
    case c0 => rw [List.length_map, Hm.out, Nat.mul_one]
    case c2 =>
      intro u hu
      obtain ⟨x, _, rfl⟩ := List.mem_map.1 hu
      rfl
    case c3 => have := Hm.out; unfold maxLen; omega
    case c4 => have := Hm.out; omega
    intro v2 w2 hown2 hgr2 _
    obtain ⟨g, c, hv, hS⟩ := Key2.out _ _ hown2
    rw [hv]
    replace hb2 := hb2.grown hgr2 hs2 (fun k hk => by simp only [Value.ownBlock, Option.some.injEq] at hk; omega)
  · have hs3 := hb2.size
    go_wp2_with fail
    refine (Add_strs (some ⟨g, 0, none⟩) c (X :: l) Kc Fc hfx (by rw [List.length_cons]; omega) _ hS (hL.at hb2)).mono ?_
    rintro e w3 ⟨rfl, hb3⟩
    replace hb3 := bst hN hb2 hb3
    obtain ⟨I, hI⟩ : ∃ I : ByteArray, (⟨(sum Kc Fc (flat (X :: l))).toArray⟩ : ByteArray) = I := ⟨_, rfl⟩
    rw [hI]
    have hIl : I.data.toList = sum Kc Fc (kxor 54 key.data.toList ++ flat l) := by rw [← hI, ba_mk, flat_cons, HXl.out]
    have HIl := Lib.hid hIl
    clear hI hIl hfx hS
    go_wp2_with fail
    refine (part_calls key 92 92 rfl hk _ (hL.at hb3)).mono ?_
    rintro e w4 ⟨rfl, hb4⟩
    replace hb4 := bst hN hb3 hb4
    obtain ⟨Y, hY⟩ : ∃ Y : ByteArray, (⟨(kxor 92 key.data.toList).toArray⟩ : ByteArray) = Y := ⟨_, rfl⟩
    rw [hY]
    have hYl : Y.data.toList = kxor 92 key.data.toList := by rw [← hY, ba_mk]
    have hfl2 : flat [Y, I] = kxor 92 key.data.toList ++ sum Kc Fc (kxor 54 key.data.toList ++ flat l) := by rw [flat_two, hYl, HIl.out]
    have hfl3 : (flat [Y, I]).length ≤ 1099511627776 := by rw [hfl2, List.length_append, kxor_len, sum_len]; omega
    have hfin : (⟨(sum Kc Fc (flat [Y, I])).toArray⟩ : ByteArray) = ⟨(macL key.data.toList (flat l)).toArray⟩ := by rw [hfl2, macL]
    have Hfin := Lib.hid hfin
    clear hY hYl hfl2 hfin
    obtain ⟨n4, hn4⟩ : ∃ n4, w4.heap.size = n4 := ⟨_, rfl⟩
    have hn4N : N ≤ n4 := by have := hb4.size; omega
    have hb5 : Below N w (w4.alloc (.cells #[.string Y, .string I] 9)) := hb4.alloc (by omega) _
    have hS5 : Strs (w4.alloc (.cells #[.string Y, .string I] 9)) (some ⟨n4, 0, none⟩) [Y, I] := by
      refine strs_cells (cs := #[.string Y, .string I]) (T := 9) (fz := (0, 0)) [Y, I] (by rw [← hn4]; exact World.alloc_heap_new w4 _) (fun j x hj => ?_)
      match j, hj with
      | 0, hj => simp at hj; subst hj; rfl
      | 1, hj => simp at hj; subst hj; rfl
    go_wp2_with fail
    refine (Add_strs (some ⟨n4, 0, none⟩) 2 [Y, I] Kc Fc hfl3 (by show 2 ≤ _; omega) _ hS5 (hL.at hb5)).mono ?_
    rintro e w6 ⟨rfl, hb6⟩
    replace hb6 := bst hN hb5 hb6
    rw [Hfin.out]
    go_wp2
    go_ret
    exact ⟨rfl, hb6⟩
  · have hs3 := hb2.size
    go_wp2_with fail
    refine (Add_strs (some ⟨g, 0, none⟩) c (X :: l) Kc Fc hfx (by rw [List.length_cons]; omega) _ hS (hL.at hb2)).mono ?_
    rintro e w3 ⟨rfl, hb3⟩
    replace hb3 := bst hN hb2 hb3
    obtain ⟨I, hI⟩ : ∃ I : ByteArray, (⟨(sum Kc Fc (flat (X :: l))).toArray⟩ : ByteArray) = I := ⟨_, rfl⟩
    rw [hI]
    have hIl : I.data.toList = sum Kc Fc (kxor 54 key.data.toList ++ flat l) := by rw [← hI, ba_mk, flat_cons, HXl.out]
    have HIl := Lib.hid hIl
    clear hI hIl hfx hS
    go_wp2_with fail
    refine (part_calls key 92 92 rfl hk _ (hL.at hb3)).mono ?_
    rintro e w4 ⟨rfl, hb4⟩
    replace hb4 := bst hN hb3 hb4
    obtain ⟨Y, hY⟩ : ∃ Y : ByteArray, (⟨(kxor 92 key.data.toList).toArray⟩ : ByteArray) = Y := ⟨_, rfl⟩
    rw [hY]
    have hYl : Y.data.toList = kxor 92 key.data.toList := by rw [← hY, ba_mk]
    have hfl2 : flat [Y, I] = kxor 92 key.data.toList ++ sum Kc Fc (kxor 54 key.data.toList ++ flat l) := by rw [flat_two, hYl, HIl.out]
    have hfl3 : (flat [Y, I]).length ≤ 1099511627776 := by rw [hfl2, List.length_append, kxor_len, sum_len]; omega
    have hfin : (⟨(sum Kc Fc (flat [Y, I])).toArray⟩ : ByteArray) = ⟨(macL key.data.toList (flat l)).toArray⟩ := by rw [hfl2, macL]
    have Hfin := Lib.hid hfin
    clear hY hYl hfl2 hfin
    obtain ⟨n4, hn4⟩ : ∃ n4, w4.heap.size = n4 := ⟨_, rfl⟩
    have hn4N : N ≤ n4 := by have := hb4.size; omega
    have hb5 : Below N w (w4.alloc (.cells #[.string Y, .string I] 9)) := hb4.alloc (by omega) _
    have hS5 : Strs (w4.alloc (.cells #[.string Y, .string I] 9)) (some ⟨n4, 0, none⟩) [Y, I] := by
      refine strs_cells (cs := #[.string Y, .string I]) (T := 9) (fz := (0, 0)) [Y, I] (by rw [← hn4]; exact World.alloc_heap_new w4 _) (fun j x hj => ?_)
      match j, hj with
      | 0, hj => simp at hj; subst hj; rfl
      | 1, hj => simp at hj; subst hj; rfl
    go_wp2_with fail
    refine (Add_strs (some ⟨n4, 0, none⟩) 2 [Y, I] Kc Fc hfl3 (by show 2 ≤ _; omega) _ hS5 (hL.at hb5)).mono ?_
    rintro e w6 ⟨rfl, hb6⟩
    replace hb6 := bst hN hb5 hb6
    rw [Hfin.out]
    go_wp2
    go_ret
    exact ⟨rfl, hb6⟩


/-- Bytes as numbers. -/
def nb (l : List UInt8) : List Int := l.map (fun x => (x.toNat : Int))
theorem str_nb (l : List UInt8) : strOfNums (nb l) = ⟨l.toArray⟩ := by
  unfold strOfNums nb
  congr 1
  rw [List.map_map]
  congr 1
  refine (List.map_congr_left (fun x _ => ?_)).trans (List.map_id l)
  show UInt8.ofNat ((x.toNat : Int)).toNat = x
  simp

set_option maxRecDepth 100000 in
set_option maxHeartbeats 1000000 in
theorem kpart_calls (key : ByteArray) (c : Int) (k : UInt8) (hc : c = (k.toNat : Int)) (hs : key.size ≤ 1099511627776) (w : World) (hG : Glob w 0 Kc) :
    Calls Tryd.prog 43 #[.string key, .int .u8 c] w fun e w' => e = .returned (.string ⟨(kxor k key.data.toList).toArray⟩) ∧ Below w.heap.size w w' := by
  obtain ⟨N, hN⟩ : ∃ N, w.heap.size = N := ⟨_, rfl⟩
  obtain ⟨L, hLe⟩ : ∃ L, kxor k key.data.toList = L := ⟨_, rfl⟩
  rw [hLe, hN]
  have hLl : L.length = 64 := by rw [← hLe, kxor_len]
  have hstr := str_nb L
  have Hstr := Lib.hid hstr
  have Hc := Lib.hid hc
  clear hc hstr
  go_enter Tryd.func43, Tryd.ntmps43
  by_cases h64 : 64 < key.size
  case' pos =>
    have d1 : decide ((64 : Int) < (key.size : Int)) = true := decide_eq_true (by omega)
    have d2 : (64 : Int) < (key.size : Int) := by omega
    have hk : kpad key.data.toList = sum Kc Fc key.data.toList ++ List.replicate 32 0 := by rw [kpad, if_pos (by rw [← ba_size]; exact h64)]
    go_wp2_with fail
    refine (refSum_calls Kc key hs Kc_len _ hG).mono ?_
    rintro e w1 ⟨rfl, hb1⟩
    rw [hN] at hb1
    obtain ⟨X, hX⟩ : ∃ X : ByteArray, (⟨(sum Kc Fc key.data.toList).toArray⟩ : ByteArray) = X := ⟨_, rfl⟩
    rw [show (⟨(sum Kc _ key.data.toList).toArray⟩ : ByteArray) = X from hX]
    have hXs : X.size = 32 := by rw [← hX, ba_size, ba_mk, sum_len]
    have hXk : L = (X.data.toList ++ List.replicate (64 - X.size) 0).map (· ^^^ k) := by rw [hXs, ← hLe, kxor, hk, ← hX]
    have hX64 : X.size ≤ 64 := by omega
    clear hX hk hXs d1 d2 h64
    go_wp2
  case' neg =>
    have d1 : decide ((64 : Int) < (key.size : Int)) = false := decide_eq_false (by omega)
    have d2 : ¬ (64 : Int) < (key.size : Int) := by omega
    have hk : kpad key.data.toList = key.data.toList ++ List.replicate (64 - key.size) 0 := by rw [kpad, if_neg (by rw [← ba_size]; exact h64), ← ba_size]
    have hXk : L = (key.data.toList ++ List.replicate (64 - key.size) 0).map (· ^^^ k) := by rw [← hLe, kxor, hk]
    have hX64 : key.size ≤ 64 := by omega
    have hb1 : Below N w w := Below.refl _ _
    clear hk h64
    go_wp2
  · have HXk := Lib.hid hXk
    clear hLe hXk
    go_loopw [5, 6, 7] (fun vo vi vb wr => ∃ j : Nat, vi = .int .i64 j ∧ j ≤ 64 ∧ Kd.R (Kd.int .u8) 5 wr N (fun _ => True) vo (nb (L.take j)) ∧ Below N w wr) (fun _ vi _ _ => 64 - (intOf vi).toNat)
    case atStart => exact ⟨0, rfl, by omega, Kd.R_nil _ _ _ _ _, hb1⟩
    case round =>
      clear hb1
      obtain ⟨j, rfl, hj, hO, hB⟩ := hrel
      have hBs := hB.size
      by_cases hj64 : j = 64
      · subst hj64
        rw [List.take_of_length_le (by omega)] at hO
        have hcv := own_string (P := Tryd.prog) Tryd.underlying41 Tryd.underlying5 Tryd.underlying9 (Kd.own_of_R hO)
        rw [Hstr.out] at hcv
        go_wp2
        go_ret
        exact ⟨rfl, hB⟩
      · have e1 : decide ((j : Int) < 64) = true := decide_eq_true (by omega)
        have e2 : (j : Int) < 64 := by omega
        have hlen : (nb (L.take j)).length ≤ 64 := by rw [nb, List.length_map, List.length_take]; omega
        by_cases hjX : j < key.size
        · have e3 : decide ((j : Int) < (key.size : Int)) = true := decide_eq_true (by omega)
          have e4 : (j : Int) < (key.size : Int) := by omega
          have hj0 : (0 : Int) ≤ (j : Int) := by omega
          have hout : nb (L.take (j + 1)) = nb (L.take j) ++ [bits .xor .u8 (key[j].toNat : Int) c] := by
            have h1 : key.size = key.data.toList.length := by simp
            rw [List.take_succ_eq_append_getElem (by omega), nb, List.map_append]
            congr 1
            show [_] = [_]
            congr 1
            simp only [HXk.out, List.getElem_map]
            rw [List.getElem_append_left (by rw [← h1]; exact hjX), Hc.out, ← xor_bits]
            rfl
          generalize nb (L.take j) = Q at hO hlen hout
          have Hout := Lib.hid hout
          clear hout
          go_wp2_with ((with_reducible refine gate_builtin (b := .append) (xs := #[.tmp 24, .tmp 28]) rfl ?_); at_builtin; refine Kd.R_append_rows (Kd.int .u8) (Rr := fun x cs => cs = [.int .u8 x]) (w0 := w) N rfl (.tmp 24) (.tmp 28) 41 5 (.int .u8 0) 1 rfl Tryd.underlying41 info5 rfl (by decide) (by decide) u5 Q [bits .xor .u8 (key[j].toNat : Int) c] (some ⟨wr.heap.size, 0, none⟩) 1 1 (fun _ => True) (fun _ => False) rfl rfl ?p1 ?p2 (fun _ _ h => h) (fun _ h => h.elim) (fun _ _ => trivial) ?p3 ?p4 ?p5 ?_; (case p1 => exact Kd.R_alloc hO _); (case p2 => exact reads1 _ _); (case p3 => exact hB.alloc (by omega) _); (case p4 => (rw [World.size_alloc]; omega)); (case p5 => (show (Q.length + 1) * 1 ≤ _; omega)); intro v3 w3 ho3 hb3 hgr3 hat3)
          refine ⟨⟨j + 1, by go_num, by omega, by rw [Hout.out]; exact ho3, hb3⟩, by simp [intOf]; omega⟩
        · have e3 : decide ((j : Int) < (key.size : Int)) = false := decide_eq_false (by omega)
          have e4 : ¬ (j : Int) < (key.size : Int) := by omega
          have hout : nb (L.take (j + 1)) = nb (L.take j) ++ [bits .xor .u8 0 c] := by
            have h1 : key.size = key.data.toList.length := by simp
            rw [List.take_succ_eq_append_getElem (by omega), nb, List.map_append]
            congr 1
            show [_] = [_]
            congr 1
            simp only [HXk.out, List.getElem_map]
            rw [List.getElem_append_right (by rw [← h1]; omega), List.getElem_replicate, Hc.out, ← xor_bits]
            rfl
          generalize nb (L.take j) = Q at hO hlen hout
          have Hout := Lib.hid hout
          clear hout
          go_wp2_with ((with_reducible refine gate_builtin (b := .append) (xs := #[.tmp 24, .tmp 28]) rfl ?_); at_builtin; refine Kd.R_append_rows (Kd.int .u8) (Rr := fun x cs => cs = [.int .u8 x]) (w0 := w) N rfl (.tmp 24) (.tmp 28) 41 5 (.int .u8 0) 1 rfl Tryd.underlying41 info5 rfl (by decide) (by decide) u5 Q [bits .xor .u8 0 c] (some ⟨wr.heap.size, 0, none⟩) 1 1 (fun _ => True) (fun _ => False) rfl rfl ?p1 ?p2 (fun _ _ h => h) (fun _ h => h.elim) (fun _ _ => trivial) ?p3 ?p4 ?p5 ?_; (case p1 => exact Kd.R_alloc hO _); (case p2 => exact reads1 _ _); (case p3 => exact hB.alloc (by omega) _); (case p4 => (rw [World.size_alloc]; omega)); (case p5 => (show (Q.length + 1) * 1 ≤ _; omega)); intro v3 w3 ho3 hb3 hgr3 hat3)
          refine ⟨⟨j + 1, by go_num, by omega, by rw [Hout.out]; exact ho3, hb3⟩, by simp [intOf]; omega⟩
  · have HXk := Lib.hid hXk
    clear hLe hXk
    go_loopw [5, 6, 7] (fun vo vi vb wr => ∃ j : Nat, vi = .int .i64 j ∧ j ≤ 64 ∧ Kd.R (Kd.int .u8) 5 wr N (fun _ => True) vo (nb (L.take j)) ∧ Below N w wr) (fun _ vi _ _ => 64 - (intOf vi).toNat)
    case atStart => exact ⟨0, rfl, by omega, Kd.R_nil _ _ _ _ _, hb1⟩
    case round =>
      clear hb1
      obtain ⟨j, rfl, hj, hO, hB⟩ := hrel
      have hBs := hB.size
      by_cases hj64 : j = 64
      · subst hj64
        rw [List.take_of_length_le (by omega)] at hO
        have hcv := own_string (P := Tryd.prog) Tryd.underlying41 Tryd.underlying5 Tryd.underlying9 (Kd.own_of_R hO)
        rw [Hstr.out] at hcv
        go_wp2
        go_ret
        exact ⟨rfl, hB⟩
      · have e1 : decide ((j : Int) < 64) = true := decide_eq_true (by omega)
        have e2 : (j : Int) < 64 := by omega
        have hlen : (nb (L.take j)).length ≤ 64 := by rw [nb, List.length_map, List.length_take]; omega
        by_cases hjX : j < X.size
        · have e3 : decide ((j : Int) < (X.size : Int)) = true := decide_eq_true (by omega)
          have e4 : (j : Int) < (X.size : Int) := by omega
          have hj0 : (0 : Int) ≤ (j : Int) := by omega
          have hout : nb (L.take (j + 1)) = nb (L.take j) ++ [bits .xor .u8 (X[j].toNat : Int) c] := by
            have h1 : X.size = X.data.toList.length := by simp
            rw [List.take_succ_eq_append_getElem (by omega), nb, List.map_append]
            congr 1
            show [_] = [_]
            congr 1
            simp only [HXk.out, List.getElem_map]
            rw [List.getElem_append_left (by rw [← h1]; exact hjX), Hc.out, ← xor_bits]
            rfl
          generalize nb (L.take j) = Q at hO hlen hout
          have Hout := Lib.hid hout
          clear hout
          go_wp2_with ((with_reducible refine gate_builtin (b := .append) (xs := #[.tmp 24, .tmp 28]) rfl ?_); at_builtin; refine Kd.R_append_rows (Kd.int .u8) (Rr := fun x cs => cs = [.int .u8 x]) (w0 := w) N rfl (.tmp 24) (.tmp 28) 41 5 (.int .u8 0) 1 rfl Tryd.underlying41 info5 rfl (by decide) (by decide) u5 Q [bits .xor .u8 (X[j].toNat : Int) c] (some ⟨wr.heap.size, 0, none⟩) 1 1 (fun _ => True) (fun _ => False) rfl rfl ?p1 ?p2 (fun _ _ h => h) (fun _ h => h.elim) (fun _ _ => trivial) ?p3 ?p4 ?p5 ?_; (case p1 => exact Kd.R_alloc hO _); (case p2 => exact reads1 _ _); (case p3 => exact hB.alloc (by omega) _); (case p4 => (rw [World.size_alloc]; omega)); (case p5 => (show (Q.length + 1) * 1 ≤ _; omega)); intro v3 w3 ho3 hb3 hgr3 hat3)
          refine ⟨⟨j + 1, by go_num, by omega, by rw [Hout.out]; exact ho3, hb3⟩, by simp [intOf]; omega⟩
        · have e3 : decide ((j : Int) < (X.size : Int)) = false := decide_eq_false (by omega)
          have e4 : ¬ (j : Int) < (X.size : Int) := by omega
          have hout : nb (L.take (j + 1)) = nb (L.take j) ++ [bits .xor .u8 0 c] := by
            have h1 : X.size = X.data.toList.length := by simp
            rw [List.take_succ_eq_append_getElem (by omega), nb, List.map_append]
            congr 1
            show [_] = [_]
            congr 1
            simp only [HXk.out, List.getElem_map]
            rw [List.getElem_append_right (by rw [← h1]; omega), List.getElem_replicate, Hc.out, ← xor_bits]
            rfl
          generalize nb (L.take j) = Q at hO hlen hout
          have Hout := Lib.hid hout
          clear hout
          go_wp2_with ((with_reducible refine gate_builtin (b := .append) (xs := #[.tmp 24, .tmp 28]) rfl ?_); at_builtin; refine Kd.R_append_rows (Kd.int .u8) (Rr := fun x cs => cs = [.int .u8 x]) (w0 := w) N rfl (.tmp 24) (.tmp 28) 41 5 (.int .u8 0) 1 rfl Tryd.underlying41 info5 rfl (by decide) (by decide) u5 Q [bits .xor .u8 0 c] (some ⟨wr.heap.size, 0, none⟩) 1 1 (fun _ => True) (fun _ => False) rfl rfl ?p1 ?p2 (fun _ _ h => h) (fun _ h => h.elim) (fun _ _ => trivial) ?p3 ?p4 ?p5 ?_; (case p1 => exact Kd.R_alloc hO _); (case p2 => exact reads1 _ _); (case p3 => exact hB.alloc (by omega) _); (case p4 => (rw [World.size_alloc]; omega)); (case p5 => (show (Q.length + 1) * 1 ≤ _; omega)); intro v3 w3 ho3 hb3 hgr3 hat3)
          refine ⟨⟨j + 1, by go_num, by omega, by rw [Hout.out]; exact ho3, hb3⟩, by simp [intOf]; omega⟩

set_option maxRecDepth 100000 in
set_option maxHeartbeats 1000000 in
theorem Texts_calls (key s : ByteArray) (hk : key.size ≤ 1099511627776) (hs : s.size ≤ 1099511620000) (w : World) (hG : Glob w 0 Kc) :
    Calls Tryd.prog 35 #[.string key, .string s] w fun e w' => ∃ (g : Nat) (T : ByteArray), e = .returned (.slice (some ⟨g, 0, none⟩) 2 2) ∧ w'.cell? ⟨g, 1, none⟩ = some (.string T) ∧ T.data.toList = kxor 92 key.data.toList ++ sum Kc Fc (kxor 54 key.data.toList ++ s.data.toList) ∧ T.size = 96 ∧ Below w.heap.size w w' := by
  obtain ⟨N, hN⟩ : ∃ N, w.heap.size = N := ⟨_, rfl⟩
  have hgK : 0 < N := by rw [← hN]; exact hG.lt
  rw [hN]
  go_enter Tryd.func35, Tryd.ntmps35
  go_wp2_with fail
  refine (kpart_calls key 54 54 rfl hk _ hG).mono ?_
  rintro e w1 ⟨rfl, hb1⟩
  rw [hN] at hb1
  obtain ⟨X, hX⟩ : ∃ X : ByteArray, (⟨(kxor 54 key.data.toList).toArray⟩ : ByteArray) = X := ⟨_, rfl⟩
  rw [hX]
  have hXl : X.data.toList = kxor 54 key.data.toList := by rw [← hX, ba_mk]
  have hXs : X.size = 64 := by rw [ba_size, hXl, kxor_len]
  have h63 := eq_false (show ¬ (9223372036854775807 < X.size + s.size) by omega)
  obtain ⟨U, hU⟩ : ∃ U, X ++ s = U := ⟨_, rfl⟩
  have hUl : U.data.toList = kxor 54 key.data.toList ++ s.data.toList := by rw [← hU, ba_app, hXl]
  have hUs : U.size ≤ 1099511627776 := by rw [← hU, ByteArray.size_append]; omega
  have HUl := Lib.hid hUl
  have HUs := Lib.hid hUs
  clear hX hXl hUl hUs hXs
  go_wp2_with fail
  refine (kpart_calls key 92 92 rfl hk _ (hG.below hb1 hgK)).mono ?_
  rintro e w2 ⟨rfl, hb2⟩
  replace hb2 := bst hN hb1 hb2
  clear hU h63
  obtain ⟨Y, hY⟩ : ∃ Y : ByteArray, (⟨(kxor 92 key.data.toList).toArray⟩ : ByteArray) = Y := ⟨_, rfl⟩
  rw [hY]
  have hYl : Y.data.toList = kxor 92 key.data.toList := by rw [← hY, ba_mk]
  have HYl := Lib.hid hYl
  clear hY hYl
  go_wp2_with fail
  refine (refSum_calls Kc U HUs.out Kc_len _ (hG.below hb2 hgK)).mono ?_
  rintro e w3 ⟨rfl, hb3⟩
  replace hb3 := bst hN hb2 hb3
  obtain ⟨I, hI⟩ : ∃ I : ByteArray, (⟨(sum Kc Fc U.data.toList).toArray⟩ : ByteArray) = I := ⟨_, rfl⟩
  rw [show (⟨(sum Kc _ U.data.toList).toArray⟩ : ByteArray) = I from hI]
  have hIl : I.data.toList = sum Kc Fc (kxor 54 key.data.toList ++ s.data.toList) := by rw [← hI, ba_mk, HUl.out]
  have hIs : I.size = 32 := by rw [ba_size, hIl, sum_len]
  have hYs : Y.size = 64 := by rw [ba_size, HYl.out, kxor_len]
  have h63 := eq_false (show ¬ (9223372036854775807 < Y.size + I.size) by omega)
  obtain ⟨T, hT⟩ : ∃ T, Y ++ I = T := ⟨_, rfl⟩
  have hTl : T.data.toList = kxor 92 key.data.toList ++ sum Kc Fc (kxor 54 key.data.toList ++ s.data.toList) := by rw [← hT, ba_app, HYl.out, hIl]
  have hTs : T.size = 96 := by rw [← hT, ByteArray.size_append]; omega
  have HTl := Lib.hid hTl
  have HTs := Lib.hid hTs
  clear hI hIl hTl hTs hIs hYs
  go_wp2
  go_ret
  refine ⟨_, T, rfl, ?_, HTl.out, HTs.out, hb3.alloc (by have := hb3.size; omega) _⟩
  rw [Lib.cell_of_heap (World.alloc_heap_new w3 _)]
  rfl

set_option maxRecDepth 100000 in
set_option maxHeartbeats 1000000 in
theorem refMac_calls (key s : ByteArray) (hk : key.size ≤ 1099511627776) (hs : s.size ≤ 1099511620000) (w : World) (hG : Glob w 0 Kc) :
    Calls Tryd.prog 25 #[.string key, .string s] w fun e w' => e = .returned (.string ⟨(macL key.data.toList s.data.toList).toArray⟩) ∧ Below w.heap.size w w' := by
  obtain ⟨N, hN⟩ : ∃ N, w.heap.size = N := ⟨_, rfl⟩
  have hgK : 0 < N := by rw [← hN]; exact hG.lt
  rw [hN]
  go_enter Tryd.func25, Tryd.ntmps25
  go_wp2_with fail
  refine (Texts_calls key s hk hs _ hG).mono ?_
  rintro e w1 ⟨g, T, rfl, hc, hTl, hTs, hb1⟩
  rw [hN] at hb1
  have hfin : (⟨(sum Kc Fc T.data.toList).toArray⟩ : ByteArray) = ⟨(macL key.data.toList s.data.toList).toArray⟩ := by rw [hTl, macL]
  have Hfin := Lib.hid hfin
  have HTs := Lib.hid hTs
  clear hfin hTl hTs
  go_wp2_with fail
  refine (refSum_calls Kc T (by rw [HTs.out]; decide) Kc_len _ (hG.below hb1 hgK)).mono ?_
  rintro e w2 ⟨rfl, hb2⟩
  replace hb2 := bst hN hb1 hb2
  rw [show (⟨(sum Kc _ T.data.toList).toArray⟩ : ByteArray) = _ from Hfin.out]
  go_wp2
  go_ret
  exact ⟨rfl, hb2⟩

end Go.Proofs.YtobjhddiieaafaaDoor.M

namespace Go.Proofs.YtobjhddiieaafaaDoor.M
open Go.Proofs.YtobjhddiieaafaaDoor.H
open Go.RowKit Go.Shelf Go.Proofs.YtobjhddiieaafaaDoorW.PrintWords Go.Proofs.YtobjhddiieaafaaDoorW.PrintLast Go.Proofs.YtobjhddiieaafaaDoorW.PrintMore Go.Proofs.YtobjhddiieaafaaDoor.Plain Go.Proofs.YtobjhddiieaafaaDoor.RowOf Go.Proofs.YtobjhddiieaafaaDoor.Le
attribute [local go_sem] Oper.semAt_some
set_option linter.unusedVariables false
set_option linter.unusedSimpArgs false

/-- mac.Mac of texts that were just laid. -/
theorem MacN (key : ByteArray) (l : List ByteArray) (cs : Array Value) (n : Nat) (hcs : cs = (l.map Value.string).toArray) (hn : l.length = n) (hk : key.size ≤ 1099511627776) (hfl : (flat l).length ≤ 1099511620000) (hll : n ≤ 1099511620000) (w : World) (hT : Tabs w Kc Fc) :
    Calls Tryd.prog 32 #[.string key, .slice (some ⟨w.heap.size, 0, none⟩) n n] (w.alloc (.cells cs 9)) fun e w' => e = .returned (.string ⟨(macL key.data.toList (flat l)).toArray⟩) ∧ Below w.heap.size w w' := by
  subst hcs hn
  have hb : Below w.heap.size w (w.alloc (.cells (l.map Value.string).toArray 9)) := (Below.refl _ w).alloc (Nat.le_refl _) _
  refine (Mac_calls key (some ⟨w.heap.size, 0, none⟩) l.length l hk hfl hll _ (strs_cells l (World.alloc_heap_new w _) (fun j x hj => ?_)) (fun h => by cases h) (hT.grown hb)).mono ?_
  · rw [List.getElem?_toArray, List.getElem?_map, hj]
    rfl
  · rintro e w' ⟨he, hb2⟩
    exact ⟨he, hb.trans (hb2.mono hb.size)⟩
theorem Mac1 (key x : ByteArray) (hk : key.size ≤ 1099511627776) (hx : x.size ≤ 1099511620000) (w : World) (hT : Tabs w Kc Fc) :
    Calls Tryd.prog 32 #[.string key, .slice (some ⟨w.heap.size, 0, none⟩) 1 1] (w.alloc (.cells #[.string x] 9)) fun e w' => e = .returned (.string ⟨(macL key.data.toList x.data.toList).toArray⟩) ∧ Below w.heap.size w w' := by
  have e : flat [x] = x.data.toList := by simp [flat]
  have h := MacN key [x] #[.string x] 1 rfl rfl hk (by rw [e, ← ba_size]; exact hx) (by decide) w hT
  rw [e] at h
  exact h
theorem Mac2 (key x y : ByteArray) (hk : key.size ≤ 1099511627776) (hx : x.size + y.size ≤ 1099511620000) (w : World) (hT : Tabs w Kc Fc) :
    Calls Tryd.prog 32 #[.string key, .slice (some ⟨w.heap.size, 0, none⟩) 2 2] (w.alloc (.cells #[.string x, .string y] 9)) fun e w' => e = .returned (.string ⟨(macL key.data.toList (x.data.toList ++ y.data.toList)).toArray⟩) ∧ Below w.heap.size w w' := by
  have e : flat [x, y] = x.data.toList ++ y.data.toList := flat_two x y
  have h := MacN key [x, y] #[.string x, .string y] 2 rfl rfl hk (by rw [e, List.length_append, ← ba_size, ← ba_size]; exact hx) (by decide) w hT
  rw [e] at h
  exact h
theorem Mac3 (key x y z : ByteArray) (hk : key.size ≤ 1099511627776) (hx : x.size + y.size + z.size ≤ 1099511620000) (w : World) (hT : Tabs w Kc Fc) :
    Calls Tryd.prog 32 #[.string key, .slice (some ⟨w.heap.size, 0, none⟩) 3 3] (w.alloc (.cells #[.string x, .string y, .string z] 9)) fun e w' => e = .returned (.string ⟨(macL key.data.toList (x.data.toList ++ y.data.toList ++ z.data.toList)).toArray⟩) ∧ Below w.heap.size w w' := by
  have e : flat [x, y, z] = x.data.toList ++ y.data.toList ++ z.data.toList := by simp [flat]
  have h := MacN key [x, y, z] #[.string x, .string y, .string z] 3 rfl rfl hk (by rw [e, List.length_append, List.length_append, ← ba_size, ← ba_size, ← ba_size]; exact hx) (by decide) w hT
  rw [e] at h
  exact h

end Go.Proofs.YtobjhddiieaafaaDoor.M
