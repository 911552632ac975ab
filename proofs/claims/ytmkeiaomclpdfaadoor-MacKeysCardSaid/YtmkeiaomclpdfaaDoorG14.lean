/- The reference's part, Texts, Mac: the walks. -/
import Derived.Test.YtmkeiaomclpdfaaDoorG13
namespace Go.Proofs.YtmkeiaomclpdfaaDoor.H
open Go.RowKit Go.Shelf Go.Proofs.YtmkeiaomclpdfaaDoorW.PrintWords Go.Proofs.YtmkeiaomclpdfaaDoorW.PrintLast Go.Proofs.YtmkeiaomclpdfaaDoorW.PrintMore Go.Proofs.YtmkeiaomclpdfaaDoor.Plain Go.Proofs.YtmkeiaomclpdfaaDoor.RowOf Go.Proofs.YtmkeiaomclpdfaaDoor.Le
attribute [local go_sem] Oper.semAt_some
set_option linter.unusedVariables false
set_option linter.unusedSimpArgs false

/-- Bytes as numbers. -/
def nb (l : List UInt8) : List Int := l.map (fun x => (x.toNat : Int))
theorem str_nb (l : List UInt8) : strOfNums (nb l) = ⟨l.toArray⟩ := by
  unfold strOfNums nb
  congr 1
  rw [List.map_map]
  congr 1
  refine (List.map_congr_left (fun x _ => ?_)).trans (List.map_id l)
  show UInt8.ofNat ((x.toNat : Int)).toNat = x
  simp

set_option maxRecDepth 100000 in
set_option maxHeartbeats 1000000 in
theorem kpart_calls (key : ByteArray) (c : Int) (k : UInt8) (hc : c = (k.toNat : Int)) (hs : key.size ≤ 1099511627776) (w : World) (hG : Glob w 1 Kc) :
    Calls Tryd.prog 35 #[.string key, .int .u8 c] w fun e w' => e = .returned (.string ⟨(kxor k key.data.toList).toArray⟩) ∧ Below w.heap.size w w' := by
  obtain ⟨N, hN⟩ : ∃ N, w.heap.size = N := ⟨_, rfl⟩
  obtain ⟨L, hLe⟩ : ∃ L, kxor k key.data.toList = L := ⟨_, rfl⟩
  rw [hLe, hN]
  have hLl : L.length = 64 := by rw [← hLe, kxor_len]
  have hstr := str_nb L
  have Hstr := Lib.hid hstr
  have Hc := Lib.hid hc
  clear hc hstr
  go_enter Tryd.func35, Tryd.ntmps35
  by_cases h64 : 64 < key.size
  case' pos =>
    have d1 : decide ((64 : Int) < (key.size : Int)) = true := decide_eq_true (by omega)
    have d2 : (64 : Int) < (key.size : Int) := by omega
    have hk : kpad key.data.toList = sum Kc Fc key.data.toList ++ List.replicate 32 0 := by rw [kpad, if_pos (by rw [← ba_size]; exact h64)]
    go_wp2_with fail
    refine (refSum_calls Kc key hs Kc_len _ hG).mono ?_
    rintro e w1 ⟨rfl, hb1⟩
    rw [hN] at hb1
    obtain ⟨X, hX⟩ : ∃ X : ByteArray, (⟨(sum Kc Fc key.data.toList).toArray⟩ : ByteArray) = X := ⟨_, rfl⟩
    rw [show (⟨(sum Kc _ key.data.toList).toArray⟩ : ByteArray) = X from hX]
    have hXs : X.size = 32 := by rw [← hX, ba_size, ba_mk, sum_len]
    have hXk : L = (X.data.toList ++ List.replicate (64 - X.size) 0).map (· ^^^ k) := by rw [hXs, ← hLe, kxor, hk, ← hX]
    have hX64 : X.size ≤ 64 := by omega
    clear hX hk hXs d1 d2 h64
    go_wp2
  case' neg =>
    have d1 : decide ((64 : Int) < (key.size : Int)) = false := decide_eq_false (by omega)
    have d2 : ¬ (64 : Int) < (key.size : Int) := by omega
    have hk : kpad key.data.toList = key.data.toList ++ List.replicate (64 - key.size) 0 := by rw [kpad, if_neg (by rw [← ba_size]; exact h64), ← ba_size]
    have hXk : L = (key.data.toList ++ List.replicate (64 - key.size) 0).map (· ^^^ k) := by rw [← hLe, kxor, hk]
    have hX64 : key.size ≤ 64 := by omega
    have hb1 : Below N w w := Below.refl _ _
    clear hk h64
    go_wp2
  · have HXk := Lib.hid hXk
    clear hLe hXk
    go_loopw [5, 6, 7] (fun vo vi vb wr => ∃ j : Nat, vi = .int .i64 j ∧ j ≤ 64 ∧ Kd.R (Kd.int .u8) 5 wr N (fun _ => True) vo (nb (L.take j)) ∧ Below N w wr) (fun _ vi _ _ => 64 - (intOf vi).toNat)
    case atStart => exact ⟨0, rfl, by omega, Kd.R_nil _ _ _ _ _, hb1⟩
    case round =>
      clear hb1
      obtain ⟨j, rfl, hj, hO, hB⟩ := hrel
      have hBs := hB.size
      by_cases hj64 : j = 64
      · subst hj64
        rw [List.take_of_length_le (by omega)] at hO
        have hcv := own_string (P := Tryd.prog) Tryd.underlying27 Tryd.underlying5 Tryd.underlying9 (Kd.own_of_R hO)
        rw [Hstr.out] at hcv
        go_wp2
        go_ret
        exact ⟨rfl, hB⟩
      · have e1 : decide ((j : Int) < 64) = true := decide_eq_true (by omega)
        have e2 : (j : Int) < 64 := by omega
        have hlen : (nb (L.take j)).length ≤ 64 := by rw [nb, List.length_map, List.length_take]; omega
        by_cases hjX : j < key.size
        · have e3 : decide ((j : Int) < (key.size : Int)) = true := decide_eq_true (by omega)
          have e4 : (j : Int) < (key.size : Int) := by omega
          have hj0 : (0 : Int) ≤ (j : Int) := by omega
          have hout : nb (L.take (j + 1)) = nb (L.take j) ++ [bits .xor .u8 (key[j].toNat : Int) c] := by
            have h1 : key.size = key.data.toList.length := by simp
            rw [List.take_succ_eq_append_getElem (by omega), nb, List.map_append]
            congr 1
            show [_] = [_]
            congr 1
            simp only [HXk.out, List.getElem_map]
            rw [List.getElem_append_left (by rw [← h1]; exact hjX), Hc.out, ← xor_bits]
            rfl
          generalize nb (L.take j) = Q at hO hlen hout
          have Hout := Lib.hid hout
          clear hout
          go_wp2_with ((with_reducible refine gate_builtin (b := .append) (xs := #[.tmp 24, .tmp 28]) rfl ?_); at_builtin; refine Kd.R_append_rows (Kd.int .u8) (Rr := fun x cs => cs = [.int .u8 x]) (w0 := w) N rfl (.tmp 24) (.tmp 28) 27 5 (.int .u8 0) 1 rfl Tryd.underlying27 info5 rfl (by decide) (by decide) u5 Q [bits .xor .u8 (key[j].toNat : Int) c] (some ⟨wr.heap.size, 0, none⟩) 1 1 (fun _ => True) (fun _ => False) rfl rfl ?p1 ?p2 (fun _ _ h => h) (fun _ h => h.elim) (fun _ _ => trivial) ?p3 ?p4 ?p5 ?_; (case p1 => exact Kd.R_alloc hO _); (case p2 => exact reads1 _ _); (case p3 => exact hB.alloc (by omega) _); (case p4 => (rw [World.size_alloc]; omega)); (case p5 => (show (Q.length + 1) * 1 ≤ _; omega)); intro v3 w3 ho3 hb3 hgr3 hat3)
          refine ⟨⟨j + 1, by go_num, by omega, by rw [Hout.out]; exact ho3, hb3⟩, by simp [intOf]; omega⟩
        · have e3 : decide ((j : Int) < (key.size : Int)) = false := decide_eq_false (by omega)
          have e4 : ¬ (j : Int) < (key.size : Int) := by omega
          have hout : nb (L.take (j + 1)) = nb (L.take j) ++ [bits .xor .u8 0 c] := by
            have h1 : key.size = key.data.toList.length := by simp
            rw [List.take_succ_eq_append_getElem (by omega), nb, List.map_append]
            congr 1
            show [_] = [_]
            congr 1
            simp only [HXk.out, List.getElem_map]
            rw [List.getElem_append_right (by rw [← h1]; omega), List.getElem_replicate, Hc.out, ← xor_bits]
            rfl
          generalize nb (L.take j) = Q at hO hlen hout
          have Hout := Lib.hid hout
          clear hout
          go_wp2_with ((with_reducible refine gate_builtin (b := .append) (xs := #[.tmp 24, .tmp 28]) rfl ?_); at_builtin; refine Kd.R_append_rows (Kd.int .u8) (Rr := fun x cs => cs = [.int .u8 x]) (w0 := w) N rfl (.tmp 24) (.tmp 28) 27 5 (.int .u8 0) 1 rfl Tryd.underlying27 info5 rfl (by decide) (by decide) u5 Q [bits .xor .u8 0 c] (some ⟨wr.heap.size, 0, none⟩) 1 1 (fun _ => True) (fun _ => False) rfl rfl ?p1 ?p2 (fun _ _ h => h) (fun _ h => h.elim) (fun _ _ => trivial) ?p3 ?p4 ?p5 ?_; (case p1 => exact Kd.R_alloc hO _); (case p2 => exact reads1 _ _); (case p3 => exact hB.alloc (by omega) _); (case p4 => (rw [World.size_alloc]; omega)); (case p5 => (show (Q.length + 1) * 1 ≤ _; omega)); intro v3 w3 ho3 hb3 hgr3 hat3)
          refine ⟨⟨j + 1, by go_num, by omega, by rw [Hout.out]; exact ho3, hb3⟩, by simp [intOf]; omega⟩
  · have HXk := Lib.hid hXk
    clear hLe hXk
    go_loopw [5, 6, 7] (fun vo vi vb wr => ∃ j : Nat, vi = .int .i64 j ∧ j ≤ 64 ∧ Kd.R (Kd.int .u8) 5 wr N (fun _ => True) vo (nb (L.take j)) ∧ Below N w wr) (fun _ vi _ _ => 64 - (intOf vi).toNat)
    case atStart => exact ⟨0, rfl, by omega, Kd.R_nil _ _ _ _ _, hb1⟩
    case round =>
      clear hb1
      obtain ⟨j, rfl, hj, hO, hB⟩ := hrel
      have hBs := hB.size
      by_cases hj64 : j = 64
      · subst hj64
        rw [List.take_of_length_le (by omega)] at hO
        have hcv := own_string (P := Tryd.prog) Tryd.underlying27 Tryd.underlying5 Tryd.underlying9 (Kd.own_of_R hO)
        rw [Hstr.out] at hcv
        go_wp2
        go_ret
        exact ⟨rfl, hB⟩
      · have e1 : decide ((j : Int) < 64) = true := decide_eq_true (by omega)
        have e2 : (j : Int) < 64 := by omega
        have hlen : (nb (L.take j)).length ≤ 64 := by rw [nb, List.length_map, List.length_take]; omega
        by_cases hjX : j < X.size
        · have e3 : decide ((j : Int) < (X.size : Int)) = true := decide_eq_true (by omega)
          have e4 : (j : Int) < (X.size : Int) := by omega
          have hj0 : (0 : Int) ≤ (j : Int) := by omega
          have hout : nb (L.take (j + 1)) = nb (L.take j) ++ [bits .xor .u8 (X[j].toNat : Int) c] := by
            have h1 : X.size = X.data.toList.length := by simp
            rw [List.take_succ_eq_append_getElem (by omega), nb, List.map_append]
            congr 1
            show [_] = [_]
            congr 1
            simp only [HXk.out, List.getElem_map]
            rw [List.getElem_append_left (by rw [← h1]; exact hjX), Hc.out, ← xor_bits]
            rfl
          generalize nb (L.take j) = Q at hO hlen hout
          have Hout := Lib.hid hout
          clear hout
          go_wp2_with ((with_reducible refine gate_builtin (b := .append) (xs := #[.tmp 24, .tmp 28]) rfl ?_); at_builtin; refine Kd.R_append_rows (Kd.int .u8) (Rr := fun x cs => cs = [.int .u8 x]) (w0 := w) N rfl (.tmp 24) (.tmp 28) 27 5 (.int .u8 0) 1 rfl Tryd.underlying27 info5 rfl (by decide) (by decide) u5 Q [bits .xor .u8 (X[j].toNat : Int) c] (some ⟨wr.heap.size, 0, none⟩) 1 1 (fun _ => True) (fun _ => False) rfl rfl ?p1 ?p2 (fun _ _ h => h) (fun _ h => h.elim) (fun _ _ => trivial) ?p3 ?p4 ?p5 ?_; (case p1 => exact Kd.R_alloc hO _); (case p2 => exact reads1 _ _); (case p3 => exact hB.alloc (by omega) _); (case p4 => (rw [World.size_alloc]; omega)); (case p5 => (show (Q.length + 1) * 1 ≤ _; omega)); intro v3 w3 ho3 hb3 hgr3 hat3)
          refine ⟨⟨j + 1, by go_num, by omega, by rw [Hout.out]; exact ho3, hb3⟩, by simp [intOf]; omega⟩
        · have e3 : decide ((j : Int) < (X.size : Int)) = false := decide_eq_false (by omega)
          have e4 : ¬ (j : Int) < (X.size : Int) := by omega
          have hout : nb (L.take (j + 1)) = nb (L.take j) ++ [bits .xor .u8 0 c] := by
            have h1 : X.size = X.data.toList.length := by simp
            rw [List.take_succ_eq_append_getElem (by omega), nb, List.map_append]
            congr 1
            show [_] = [_]
            congr 1
            simp only [HXk.out, List.getElem_map]
            rw [List.getElem_append_right (by rw [← h1]; omega), List.getElem_replicate, Hc.out, ← xor_bits]
            rfl
          generalize nb (L.take j) = Q at hO hlen hout
          have Hout := Lib.hid hout
          clear hout
          go_wp2_with ((with_reducible refine gate_builtin (b := .append) (xs := #[.tmp 24, .tmp 28]) rfl ?_); at_builtin; refine Kd.R_append_rows (Kd.int .u8) (Rr := fun x cs => cs = [.int .u8 x]) (w0 := w) N rfl (.tmp 24) (.tmp 28) 27 5 (.int .u8 0) 1 rfl Tryd.underlying27 info5 rfl (by decide) (by decide) u5 Q [bits .xor .u8 0 c] (some ⟨wr.heap.size, 0, none⟩) 1 1 (fun _ => True) (fun _ => False) rfl rfl ?p1 ?p2 (fun _ _ h => h) (fun _ h => h.elim) (fun _ _ => trivial) ?p3 ?p4 ?p5 ?_; (case p1 => exact Kd.R_alloc hO _); (case p2 => exact reads1 _ _); (case p3 => exact hB.alloc (by omega) _); (case p4 => (rw [World.size_alloc]; omega)); (case p5 => (show (Q.length + 1) * 1 ≤ _; omega)); intro v3 w3 ho3 hb3 hgr3 hat3)
          refine ⟨⟨j + 1, by go_num, by omega, by rw [Hout.out]; exact ho3, hb3⟩, by simp [intOf]; omega⟩

set_option maxRecDepth 100000 in
set_option maxHeartbeats 1000000 in
theorem Texts_calls (key s : ByteArray) (hk : key.size ≤ 1099511627776) (hs : s.size ≤ 1099511620000) (w : World) (hG : Glob w 1 Kc) :
    Calls Tryd.prog 21 #[.string key, .string s] w fun e w' => ∃ (g : Nat) (T : ByteArray), e = .returned (.slice (some ⟨g, 0, none⟩) 2 2) ∧ w'.cell? ⟨g, 1, none⟩ = some (.string T) ∧ T.data.toList = kxor 92 key.data.toList ++ sum Kc Fc (kxor 54 key.data.toList ++ s.data.toList) ∧ T.size = 96 ∧ Below w.heap.size w w' := by
  obtain ⟨N, hN⟩ : ∃ N, w.heap.size = N := ⟨_, rfl⟩
  have hgK : 1 < N := by rw [← hN]; exact hG.lt
  rw [hN]
  go_enter Tryd.func21, Tryd.ntmps21
  go_wp2_with fail
  refine (kpart_calls key 54 54 rfl hk _ hG).mono ?_
  rintro e w1 ⟨rfl, hb1⟩
  rw [hN] at hb1
  obtain ⟨X, hX⟩ : ∃ X : ByteArray, (⟨(kxor 54 key.data.toList).toArray⟩ : ByteArray) = X := ⟨_, rfl⟩
  rw [hX]
  have hXl : X.data.toList = kxor 54 key.data.toList := by rw [← hX, ba_mk]
  have hXs : X.size = 64 := by rw [ba_size, hXl, kxor_len]
  have h63 := eq_false (show ¬ (9223372036854775807 < X.size + s.size) by omega)
  obtain ⟨U, hU⟩ : ∃ U, X ++ s = U := ⟨_, rfl⟩
  have hUl : U.data.toList = kxor 54 key.data.toList ++ s.data.toList := by rw [← hU, ba_app, hXl]
  have hUs : U.size ≤ 1099511627776 := by rw [← hU, ByteArray.size_append]; omega
  have HUl := Lib.hid hUl
  have HUs := Lib.hid hUs
  clear hX hXl hUl hUs hXs
  go_wp2_with fail
  refine (kpart_calls key 92 92 rfl hk _ (hG.below hb1 hgK)).mono ?_
  rintro e w2 ⟨rfl, hb2⟩
  replace hb2 := bst hN hb1 hb2
  clear hU h63
  obtain ⟨Y, hY⟩ : ∃ Y : ByteArray, (⟨(kxor 92 key.data.toList).toArray⟩ : ByteArray) = Y := ⟨_, rfl⟩
  rw [hY]
  have hYl : Y.data.toList = kxor 92 key.data.toList := by rw [← hY, ba_mk]
  have HYl := Lib.hid hYl
  clear hY hYl
  go_wp2_with fail
  refine (refSum_calls Kc U HUs.out Kc_len _ (hG.below hb2 hgK)).mono ?_
  rintro e w3 ⟨rfl, hb3⟩
  replace hb3 := bst hN hb2 hb3
  obtain ⟨I, hI⟩ : ∃ I : ByteArray, (⟨(sum Kc Fc U.data.toList).toArray⟩ : ByteArray) = I := ⟨_, rfl⟩
  rw [show (⟨(sum Kc _ U.data.toList).toArray⟩ : ByteArray) = I from hI]
  have hIl : I.data.toList = sum Kc Fc (kxor 54 key.data.toList ++ s.data.toList) := by rw [← hI, ba_mk, HUl.out]
  have hIs : I.size = 32 := by rw [ba_size, hIl, sum_len]
  have hYs : Y.size = 64 := by rw [ba_size, HYl.out, kxor_len]
  have h63 := eq_false (show ¬ (9223372036854775807 < Y.size + I.size) by omega)
  obtain ⟨T, hT⟩ : ∃ T, Y ++ I = T := ⟨_, rfl⟩
  have hTl : T.data.toList = kxor 92 key.data.toList ++ sum Kc Fc (kxor 54 key.data.toList ++ s.data.toList) := by rw [← hT, ba_app, HYl.out, hIl]
  have hTs : T.size = 96 := by rw [← hT, ByteArray.size_append]; omega
  have HTl := Lib.hid hTl
  have HTs := Lib.hid hTs
  clear hI hIl hTl hTs hIs hYs
  go_wp2
  go_ret
  refine ⟨_, T, rfl, ?_, HTl.out, HTs.out, hb3.alloc (by have := hb3.size; omega) _⟩
  rw [Lib.cell_of_heap (World.alloc_heap_new w3 _)]
  rfl

set_option maxRecDepth 100000 in
set_option maxHeartbeats 1000000 in
theorem refMac_calls (key s : ByteArray) (hk : key.size ≤ 1099511627776) (hs : s.size ≤ 1099511620000) (w : World) (hG : Glob w 1 Kc) :
    Calls Tryd.prog 13 #[.string key, .string s] w fun e w' => e = .returned (.string ⟨(macL key.data.toList s.data.toList).toArray⟩) ∧ Below w.heap.size w w' := by
  obtain ⟨N, hN⟩ : ∃ N, w.heap.size = N := ⟨_, rfl⟩
  have hgK : 1 < N := by rw [← hN]; exact hG.lt
  rw [hN]
  go_enter Tryd.func13, Tryd.ntmps13
  go_wp2_with fail
  refine (Texts_calls key s hk hs _ hG).mono ?_
  rintro e w1 ⟨g, T, rfl, hc, hTl, hTs, hb1⟩
  rw [hN] at hb1
  have hfin : (⟨(sum Kc Fc T.data.toList).toArray⟩ : ByteArray) = ⟨(macL key.data.toList s.data.toList).toArray⟩ := by rw [hTl, macL]
  have Hfin := Lib.hid hfin
  have HTs := Lib.hid hTs
  clear hfin hTl hTs
  go_wp2_with fail
  refine (refSum_calls Kc T (by rw [HTs.out]; decide) Kc_len _ (hG.below hb1 hgK)).mono ?_
  rintro e w2 ⟨rfl, hb2⟩
  replace hb2 := bst hN hb1 hb2
  rw [show (⟨(sum Kc _ T.data.toList).toArray⟩ : ByteArray) = _ from Hfin.out]
  go_wp2
  go_ret
  exact ⟨rfl, hb2⟩

end Go.Proofs.YtmkeiaomclpdfaaDoor.H
