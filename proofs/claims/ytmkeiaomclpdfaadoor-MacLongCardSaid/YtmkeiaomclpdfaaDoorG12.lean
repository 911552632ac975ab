/- mac.part: the walk. -/
import Derived.Test.YtmkeiaomclpdfaaDoorCom
import Derived.Test.YtmkeiaomclpdfaaDoorP6
import Derived.Test.YtmkeiaomclpdfaaDoorBuilderWS
namespace Go.Proofs.YtmkeiaomclpdfaaDoor.H
open Go.RowKit Go.Shelf Go.Proofs.YtmkeiaomclpdfaaDoorW.PrintWords Go.Proofs.YtmkeiaomclpdfaaDoorW.PrintLast Go.Proofs.YtmkeiaomclpdfaaDoorW.PrintMore Go.Proofs.YtmkeiaomclpdfaaDoor.Plain Go.Proofs.YtmkeiaomclpdfaaDoor.RowOf Go.Proofs.YtmkeiaomclpdfaaDoor.Le
attribute [local go_sem] Oper.semAt_some
set_option linter.unusedVariables false
set_option linter.unusedSimpArgs false

theorem builder_below {T e B b : Nat} {bs : List Value} {w w' : World} (h : Lib.IsBuilder T e B b bs w) (hb : Below w.heap.size w w') : Lib.IsBuilder T e B b bs w' := by
  have key : ∀ p, Lib.BuilderAt T e B b p bs w → Lib.BuilderAt T e B b p bs w' := by
    rintro p ⟨hB, v, hbk, hown, hne⟩
    refine ⟨hB, v, (hb.block b (Array.getElem?_eq_some_iff.1 hbk).1).trans hbk, ?_, hne⟩
    exact hown.kept (row := none) ⟨hb.os, hb.tape, hb.output, hb.size, fun k hk _ => hb.block k hk⟩ (by
      cases v.ownBlock with
      | none => exact .inl rfl
      | some k => exact .inr (by simp))
  exact h.imp (key _) (key _)

set_option maxRecDepth 100000 in
set_option maxHeartbeats 1000000 in
theorem part_calls (key : ByteArray) (c : Int) (k : UInt8) (hc : c = (k.toNat : Int)) (hs : key.size ≤ 1099511627776) (w : World) (hT : Tabs w Kc Fc) :
    Calls Tryd.prog 19 #[.string key, .int .u8 c] w fun e w' => e = .returned (.string ⟨(kxor k key.data.toList).toArray⟩) ∧ Below w.heap.size w w' := by
  obtain ⟨N, hN⟩ : ∃ N, w.heap.size = N := ⟨_, rfl⟩
  have hL := Low.mk' hN hT
  obtain ⟨L, hLe⟩ : ∃ L, kxor k key.data.toList = L := ⟨_, rfl⟩
  rw [hLe, hN]
  have hLl : L.length = 64 := by rw [← hLe, kxor_len]
  have Hc := Lib.hid hc
  clear hc
  go_enter Tryd.func19, Tryd.ntmps19
  by_cases h64 : 64 < key.size
  case' pos =>
    have d1 : decide ((64 : Int) < (key.size : Int)) = true := decide_eq_true (by omega)
    have d2 : (64 : Int) < (key.size : Int) := by omega
    have hk : kpad key.data.toList = sum Kc Fc key.data.toList ++ List.replicate 32 0 := by rw [kpad, if_pos (by rw [← ba_size]; exact h64)]
    go_wp2_with fail
    refine (Sum1_calls key Kc Fc hs _ hT).mono ?_
    rintro e w1 ⟨rfl, hb1⟩
    rw [hN] at hb1
    obtain ⟨X, hX⟩ : ∃ X : ByteArray, (⟨(sum Kc Fc key.data.toList).toArray⟩ : ByteArray) = X := ⟨_, rfl⟩
    rw [hX]
    have hXs : X.size = 32 := by rw [← hX, ba_size, ba_mk, sum_len]
    have hXk : L = (X.data.toList ++ List.replicate 32 0).map (· ^^^ k) := by rw [← hLe, kxor, hk, ← hX]
    obtain ⟨z, hz⟩ : ∃ z : Nat, z = 32 := ⟨_, rfl⟩
    rw [← hz] at hXk
    have hXz : X.size + z = 64 := by omega
    have hw1 : IntKind.i64.wrap (64 - (X.size : Int)) = (z : Int) := by rw [i64_w]; unfold wrap64; omega
    clear hX hk hz hXs d1 d2 h64
    go_wp2_with fail
  case' neg =>
    have d1 : decide ((64 : Int) < (key.size : Int)) = false := decide_eq_false (by omega)
    have d2 : ¬ (64 : Int) < (key.size : Int) := by omega
    have hk : kpad key.data.toList = key.data.toList ++ List.replicate (64 - key.size) 0 := by rw [kpad, if_neg (by rw [← ba_size]; exact h64), ← ba_size]
    obtain ⟨X, hX⟩ : ∃ X, key = X := ⟨_, rfl⟩
    subst hX
    have hXk : L = (key.data.toList ++ List.replicate (64 - key.size) 0).map (· ^^^ k) := by rw [← hLe, kxor, hk]
    obtain ⟨z, hz⟩ : ∃ z : Nat, z = 64 - key.size := ⟨_, rfl⟩
    rw [← hz] at hXk
    have hXz : key.size + z = 64 := by omega
    have hw1 : IntKind.i64.wrap (64 - (key.size : Int)) = (z : Int) := by rw [i64_w]; unfold wrap64; omega
    have hb1 : Below N w w := Below.refl _ _
    clear hk hz
    go_wp2_with fail
  · clear hLe
    refine (Tryd.strings_Repeat ⟨#[0]⟩ z _ (by omega) (by show 1 * z ≤ _; omega)).mono ?_
    rintro e w2 ⟨rfl, hb2⟩
    replace hb2 := bst hN hb1 hb2
    obtain ⟨Z, hZ⟩ : ∃ Z : ByteArray, (⟨(Lib.repeatL (⟨#[0]⟩ : ByteArray).data.toList z).toArray⟩ : ByteArray) = Z := ⟨_, rfl⟩
    rw [hZ]
    have hZl : Z.data.toList = List.replicate z 0 := by rw [← hZ, ba_mk]; exact repeat_one z
    have hZs : Z.size = z := by rw [ba_size, hZl, List.length_replicate]
    have h63 := eq_false (show ¬ (9223372036854775807 < key.size + Z.size) by omega)
    obtain ⟨P, hP⟩ : ∃ P, key ++ Z = P := ⟨_, rfl⟩
    have hPs : P.size = 64 := by rw [← hP, ByteArray.size_append]; omega
    have hPL : L = P.data.toList.map (· ^^^ k) := by rw [← hP, ba_app, hZl]; exact hXk
    have HPL := Lib.hid hPL
    have HPs := Lib.hid hPs
    obtain ⟨b, hb⟩ : ∃ b, w2.heap.size = b := ⟨_, rfl⟩
    have hbN : N ≤ b := by have := hb2.size; omega
    have hB0 := Lib.fresh_isBuilder 42 5 w2
    rw [hb] at hB0
    have hbs : ∀ o, b ≤ (w2.alloc o).heap.size := fun o => by rw [World.size_alloc]; omega
    clear hXk hPL hPs hZl hZ
    go_wp2
    go_loopw [18] (fun vi wr => ∃ j : Nat, vi = .int .i64 j ∧ j ≤ 64 ∧ Lib.IsBuilder 42 5 b b (Lib.byteCells (L.take j)) wr ∧ Below N w wr ∧ b ≤ wr.heap.size) (fun vi _ => 64 - (intOf vi).toNat)
    case atStart => exact ⟨0, rfl, by omega, hB0, hb2.alloc (by omega) _, hbs _⟩
    case round =>
      clear hB0 hb2 hbs
      obtain ⟨j, rfl, hj, hbd, hB, hbw⟩ := hrel
      have hps := HPs.out
      by_cases hj64 : j = 64
      · subst hj64
        have e1 : decide ((64 : Int) < 64) = false := rfl
        rw [List.take_of_length_le (by omega)] at hbd
        clear hps
        go_wp2_with fail
        refine (Tryd.Builder_String_any b b _ _ hbd hbw).mono ?_
        rintro e w3 ⟨rfl, hb3⟩
        go_wp2
        go_ret
        exact ⟨rfl, hB.trans (hb3.mono hbN)⟩
      · have e1 : decide ((j : Int) < 64) = true := decide_eq_true (by omega)
        have hj0 : (0 : Int) ≤ (j : Int) := by omega
        have hjP : j < P.size := by omega
        have hj1 : (j : Int) < (P.size : Int) := by omega
        have hlen : (Lib.byteCells (L.take j)).length + 1 ≤ 140737488355328 := by
          rw [Lib.byteCells_length, List.length_take]
          omega
        have hst : Lib.byteCells (L.take j) ++ [.int .u8 (bits .xor .u8 (P[j].toNat : Int) c)] = Lib.byteCells (L.take (j + 1)) := by
          rw [xor_step P k L HPL.out j hjP, Lib.byteCells_append, Hc.out, xor_bits]
          rfl
        have Hst := Lib.hid hst
        clear hps hst
        go_wp2_with fail
        refine (Bld.WriteByte b b _ _ _ hbd hlen hbw).mono ?_
        rintro e w3 ⟨rfl, hb3, hbl3⟩
        rw [Hst.out] at hb3
        have hs3 := hbl3.size
        go_wp2
        exact ⟨⟨j + 1, by go_num, by omega, .inr hb3, hB.trans (hbl3.mono hbN), by omega⟩, by simp [intOf]; omega⟩
  · clear hLe
    refine (Tryd.strings_Repeat ⟨#[0]⟩ z _ (by omega) (by show 1 * z ≤ _; omega)).mono ?_
    rintro e w2 ⟨rfl, hb2⟩
    replace hb2 := bst hN hb1 hb2
    obtain ⟨Z, hZ⟩ : ∃ Z : ByteArray, (⟨(Lib.repeatL (⟨#[0]⟩ : ByteArray).data.toList z).toArray⟩ : ByteArray) = Z := ⟨_, rfl⟩
    rw [hZ]
    have hZl : Z.data.toList = List.replicate z 0 := by rw [← hZ, ba_mk]; exact repeat_one z
    have hZs : Z.size = z := by rw [ba_size, hZl, List.length_replicate]
    have h63 := eq_false (show ¬ (9223372036854775807 < X.size + Z.size) by omega)
    obtain ⟨P, hP⟩ : ∃ P, X ++ Z = P := ⟨_, rfl⟩
    have hPs : P.size = 64 := by rw [← hP, ByteArray.size_append]; omega
    have hPL : L = P.data.toList.map (· ^^^ k) := by rw [← hP, ba_app, hZl]; exact hXk
    have HPL := Lib.hid hPL
    have HPs := Lib.hid hPs
    obtain ⟨b, hb⟩ : ∃ b, w2.heap.size = b := ⟨_, rfl⟩
    have hbN : N ≤ b := by have := hb2.size; omega
    have hB0 := Lib.fresh_isBuilder 42 5 w2
    rw [hb] at hB0
    have hbs : ∀ o, b ≤ (w2.alloc o).heap.size := fun o => by rw [World.size_alloc]; omega
    clear hXk hPL hPs hZl hZ
    go_wp2
    go_loopw [18] (fun vi wr => ∃ j : Nat, vi = .int .i64 j ∧ j ≤ 64 ∧ Lib.IsBuilder 42 5 b b (Lib.byteCells (L.take j)) wr ∧ Below N w wr ∧ b ≤ wr.heap.size) (fun vi _ => 64 - (intOf vi).toNat)
    case atStart => exact ⟨0, rfl, by omega, hB0, hb2.alloc (by omega) _, hbs _⟩
    case round =>
      clear hB0 hb2 hbs
      obtain ⟨j, rfl, hj, hbd, hB, hbw⟩ := hrel
      have hps := HPs.out
      by_cases hj64 : j = 64
      · subst hj64
        have e1 : decide ((64 : Int) < 64) = false := rfl
        rw [List.take_of_length_le (by omega)] at hbd
        clear hps
        go_wp2_with fail
        refine (Tryd.Builder_String_any b b _ _ hbd hbw).mono ?_
        rintro e w3 ⟨rfl, hb3⟩
        go_wp2
        go_ret
        exact ⟨rfl, hB.trans (hb3.mono hbN)⟩
      · have e1 : decide ((j : Int) < 64) = true := decide_eq_true (by omega)
        have hj0 : (0 : Int) ≤ (j : Int) := by omega
        have hjP : j < P.size := by omega
        have hj1 : (j : Int) < (P.size : Int) := by omega
        have hlen : (Lib.byteCells (L.take j)).length + 1 ≤ 140737488355328 := by
          rw [Lib.byteCells_length, List.length_take]
          omega
        have hst : Lib.byteCells (L.take j) ++ [.int .u8 (bits .xor .u8 (P[j].toNat : Int) c)] = Lib.byteCells (L.take (j + 1)) := by
          rw [xor_step P k L HPL.out j hjP, Lib.byteCells_append, Hc.out, xor_bits]
          rfl
        have Hst := Lib.hid hst
        clear hps hst
        go_wp2_with fail
        refine (Bld.WriteByte b b _ _ _ hbd hlen hbw).mono ?_
        rintro e w3 ⟨rfl, hb3, hbl3⟩
        rw [Hst.out] at hb3
        have hs3 := hbl3.size
        go_wp2
        exact ⟨⟨j + 1, by go_num, by omega, .inr hb3, hB.trans (hbl3.mono hbN), by omega⟩, by simp [intOf]; omega⟩

end Go.Proofs.YtmkeiaomclpdfaaDoor.H
