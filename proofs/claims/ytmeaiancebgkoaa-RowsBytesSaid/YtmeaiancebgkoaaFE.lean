/- A page's bytes: what the reference's Encode answers is what the program's answers. -/
import Derived.Test.YtmeaiancebgkoaaFR
import Derived.Test.YtmeaiancebgkoaaH15
import Derived.Lib.LazyBuf
set_option maxRecDepth 100000
set_option linter.unusedSimpArgs false
set_option linter.unusedVariables false
namespace Go.Proofs.Ytmeaiancebgkoaa.H
open Go.RowKit Go.Proofs.YtmeaiancebgkoaaW.PrintWords Go.Proofs.YtmeaiancebgkoaaW.PrintLast Go.Proofs.YtmeaiancebgkoaaW.PrintMore

def bt (l : List UInt8) : ByteArray := ⟨l.toArray⟩
theorem bt_size (l : List UInt8) : (bt l).size = l.length := by rw [ba_size, bt, ba_mk]
theorem bt_ext {a b : ByteArray} (h : a.data.toList = b.data.toList) : a = b := by
  obtain ⟨⟨a⟩⟩ := a
  obtain ⟨⟨b⟩⟩ := b
  simp only at h
  rw [h]
theorem bt_ba (b : ByteArray) : bt b.data.toList = b := bt_ext (ba_mk _)
theorem bt_app (a b : List UInt8) : bt a ++ bt b = bt (a ++ b) := by
  apply bt_ext
  rw [ByteArray.data_append, Array.toList_append, bt, bt, bt, ba_mk, ba_mk, ba_mk]
theorem bt_one (n : Nat) : strOfNums ([(n : Int) % 256] : List Int) = bt [UInt8.ofNat n] := by
  have h := Lib.Lz.strOfNums_map [UInt8.ofNat n]
  rw [List.map_cons, List.map_nil, UInt8.toNat_ofNat', Int.natCast_emod] at h
  exact h
theorem bt_zeros : strOfNums (List.replicate 32 0) = bt (List.replicate 32 0) := by
  have h := Lib.Lz.strOfNums_map (List.replicate 32 0)
  rw [List.map_replicate] at h
  exact h

theorem putR_l0 (n w : Nat) (hn : n < 18446744073709551616) (hw : w ≤ 8) (m : Nat) : ∀ (k i : Nat), i + m = w → m < k →
    sphragisref10_put.l0 k ((n / 256 ^ i : Nat) : Int) (w : Int) (bt (le n i)) (i : Int) = some (bt (le n w)) := by
  induction m with
  | zero =>
    intro k i hi hk
    obtain ⟨k, rfl⟩ : ∃ j, k = j + 1 := ⟨k - 1, by omega⟩
    obtain rfl : i = w := by omega
    rw [sphragisref10_put.l0, if_neg (by omega)]
  | succ m ih =>
    intro k i hi hk
    obtain ⟨k, rfl⟩ : ∃ j, k = j + 1 := ⟨k - 1, by omega⟩
    have hle := Nat.div_le_self n (256 ^ i)
    have hd : n / 256 ^ (i + 1) = n / 256 ^ i / 256 := by rw [Nat.div_div_eq_div_mul, ← Nat.pow_succ]
    have hw2 : IntKind.u64.wrap (Int.tdiv ((n / 256 ^ i : Nat) : Int) 256) = ((n / 256 ^ (i + 1) : Nat) : Int) := by
      rw [hd]
      generalize n / 256 ^ i = q at *
      rw [show Int.tdiv (q : Int) 256 = ((q / 256 : Nat) : Int) from rfl, IntKind.wrap_u64]
      omega
    rw [sphragisref10_put.l0, if_pos (by omega), Option.bind_some, bt_one, bt_size, bt_size, le_length, if_pos (by show i + 1 ≤ _; omega), bt_app, hw2, wrapS i (by omega)]
    exact ih k (i + 1) (by omega) (by omega)
theorem putR_f (n w : Nat) (hn : n < 18446744073709551616) (hw : w ≤ 8) (k : Nat) (hk : w < k) : sphragisref10_put.f k (n : Int) (w : Int) = some (bt (le n w)) := by
  have h := putR_l0 n w hn hw w k 0 (by omega) hk
  rw [Nat.pow_zero, Nat.div_one] at h
  exact h
theorem putR_v (v : Int) (w : Nat) (W : Int) (hW : W = (w : Int)) (h0 : 0 ≤ v) (h1 : v < 18446744073709551616) (hw : w ≤ 8) (k : Nat) (hk : w < k) : sphragisref10_put.f k v W = some (bt (le v.toNat w)) := by
  subst hW
  obtain ⟨n, rfl⟩ : ∃ n : Nat, v = n := ⟨v.toNat, by omega⟩
  exact putR_f n w (by omega) hw k hk
theorem putR_w (v : Int) (w : Nat) (W : Int) (hW : W = (w : Int)) (h0 : 0 ≤ v) (h1 : v < 18446744073709551616) (hw : w ≤ 8) (k : Nat) (hk : w < k) : sphragisref10_put.f k (IntKind.u64.wrap v) W = some (bt (le v.toNat w)) := by
  rw [show IntKind.u64.wrap v = v by rw [IntKind.wrap_u64]; omega]
  exact putR_v v w W hW h0 h1 hw k hk

theorem kidsR_l0 (a0 x y lv : Int) (l4 : List Row) (l : List Ref) (np : Int) (nt : ByteArray) (hl : l.length ≤ 1000) (hr : ∀ r ∈ l, refIn r ∧ r.f1.size = 32) (m : Nat) : ∀ (k i : Nat) (P : List UInt8), i + m = l.length → m + 4 < k → P.length + 36 * m ≤ 1000000 →
    sphragisref10_Encode.l0 k (bt P) (i : Int) a0 x y lv l4 l np nt = some (bt (P ++ ((l.drop i).map kidB).flatten), 0) := by
  induction m with
  | zero =>
    intro k i P hi hk hP
    obtain ⟨k, rfl⟩ : ∃ j, k = j + 1 := ⟨k - 1, by omega⟩
    rw [sphragisref10_Encode.l0, if_neg (by omega), List.drop_of_length_le (by omega), List.map_nil, List.flatten_nil, List.append_nil]
  | succ m ih =>
    intro k i P hi hk hP
    obtain ⟨k, rfl⟩ : ∃ j, k = j + 1 := ⟨k - 1, by omega⟩
    have hil : i < l.length := by omega
    have hd : l.drop i = l[i] :: l.drop (i + 1) := List.drop_eq_getElem_cons hil
    obtain ⟨h1, h2⟩ := hr l[i] (List.getElem_mem hil)
    unfold refIn at h1
    have hk32 : kidB l[i] = le l[i].f0.toNat 4 ++ l[i].f1.data.toList := by rw [kidB, refB, h2, Nat.sub_self, List.replicate_zero, List.append_nil]
    rw [sphragisref10_Encode.l0, if_pos (by omega), if_pos (by omega), rd_ref l i hil, putR_w l[i].f0 4 4 rfl h1.1 (by omega) (by decide) k (by omega), Option.bind_some, bt_size, bt_size, le_length, h2, if_pos (by omega), if_pos (by omega), ← bt_ba l[i].f1, bt_app, bt_app, wrapS i (by omega), List.append_assoc]
    rw [← hk32, ih k (i + 1) _ (by omega) (by omega) (by rw [List.length_append, hk32, List.length_append, le_length, ← ba_size, h2]; omega), hd, List.map_cons, List.flatten_cons, List.append_assoc]
theorem rowsR_l1 (a0 x y lv : Int) (l : List Row) (l5 : List Ref) (np : Int) (nt : ByteArray) (hl : l.length ≤ 1000) (hr : ∀ r ∈ l, rowIn r ∧ rowB r = true) (m : Nat) : ∀ (k i : Nat) (P : List UInt8), i + m = l.length → m + 8 < k → P.length + 33 * m ≤ 1000000 →
    sphragisref10_Encode.l1 k (bt P) (i : Int) a0 x y lv l l5 np nt = some (bt (P ++ ((l.drop i).map rowBytes).flatten), 0) := by
  induction m with
  | zero =>
    intro k i P hi hk hP
    obtain ⟨k, rfl⟩ : ∃ j, k = j + 1 := ⟨k - 1, by omega⟩
    rw [sphragisref10_Encode.l1, if_neg (by omega), List.drop_of_length_le (by omega), List.map_nil, List.flatten_nil, List.append_nil]
  | succ m ih =>
    intro k i P hi hk hP
    obtain ⟨k, rfl⟩ : ∃ j, k = j + 1 := ⟨k - 1, by omega⟩
    have hil : i < l.length := by omega
    have hd : l.drop i = l[i] :: l.drop (i + 1) := List.drop_eq_getElem_cons hil
    obtain ⟨h1, h2⟩ := hr l[i] (List.getElem_mem hil)
    have h3 := rowBytes_le h2
    unfold rowIn at h1
    rw [rowBytes] at h3
    simp only [List.length_append, le_length, ← ba_size] at h3
    rw [sphragisref10_Encode.l1, if_pos (by omega), if_pos (by omega), rd_row l i hil, putR_v l[i].f0 8 8 rfl h1.1 (by omega) (by decide) k (by omega), Option.bind_some, bt_size, bt_size, le_length, if_pos (by omega),
      putR_w l[i].f1 4 4 rfl (by omega) (by omega) (by decide) k (by omega), Option.bind_some, bt_size, le_length, if_pos (by omega),
      putR_w l[i].f2 4 4 rfl (by omega) (by omega) (by decide) k (by omega), Option.bind_some, bt_size, le_length, if_pos (by omega),
      putR_w _ 1 1 rfl (by omega) (by omega) (by decide) k (by omega), Option.bind_some, bt_size, le_length, if_pos (by omega), if_pos (by omega)]
    have hbt : bt P ++ bt (le l[i].f0.toNat 8) ++ bt (le l[i].f1.toNat 4) ++ bt (le l[i].f2.toNat 4) ++ bt (le ((l[i].f3.size : Nat) : Int).toNat 1) ++ l[i].f3 = bt (P ++ rowBytes l[i]) := by
      have e : l[i].f3 = bt l[i].f3.data.toList := (bt_ba _).symm
      rw [bt_app, bt_app, bt_app, bt_app]
      conv => lhs; rhs; rw [e]
      rw [bt_app, rowBytes, Int.toNat_natCast]
      simp only [List.append_assoc]
    rw [hbt, wrapS i (by omega), ih k (i + 1) _ (by omega) (by omega) (by rw [List.length_append, rowBytes]; simp only [List.length_append, le_length, ← ba_size]; omega), hd, List.map_cons, List.flatten_cons, List.append_assoc]

theorem encR_f (p : Pg) (hp : pageIn p) (k : Nat) (hl : p.rows.length ≤ 1000) (hk1 : p.rows.length + 20 < k) (hk2 : p.kids.length + 20 < k) :
    sphragisref10_Encode.f k p.k p.x p.y p.lv p.rows p.kids p.np p.nt = some (encP p) := by
  have hp0 := hp
  obtain ⟨hx, hy, hnp, hlv, hkl, hrr, hkk⟩ := hp0
  unfold sphragisref10_Encode.f
  rw [rightR_f p hp k (by omega) (by omega) (by omega), Option.bind_some]
  by_cases hr : rightP p = true
  case neg => rw [if_neg hr, encP, if_neg hr]
  rw [if_pos hr, encP, if_pos hr]
  rcases right_kind hr with hkd | hkd
  · obtain ⟨q1, q2, q3, _⟩ := right1 hkd hr
    have hrs := rises_all p.rows none (Bool.and_eq_true _ _ ▸ q2 : rises none p.rows = true ∧ _).1
    have hn := next_size q3
    have hj : sphragisref10_Encode.j1 k (bt (p.nt.data.toList ++ List.replicate (32 - p.nt.size) 0)) p.k p.x p.y p.lv p.rows p.kids p.np p.nt = some (bt (encL p), 0) := by
      obtain ⟨k, rfl⟩ : ∃ j, k = j + 1 := ⟨k - 1, by omega⟩
      have h32 : (bt (p.nt.data.toList ++ List.replicate (32 - p.nt.size) 0)).size = 32 := by rw [bt_size, List.length_append, List.length_replicate, ← ba_size]; omega
      rw [sphragisref10_Encode.j1, putR_w _ 1 1 rfl (by omega) (by omega) (by decide) k (by omega), Option.bind_some, bt_size, le_length, if_pos (by omega),
        putR_w p.np 4 4 rfl (by omega) (by omega) (by decide) k (by omega), Option.bind_some, bt_size, le_length, if_pos (by omega), h32, if_pos (by omega)]
      rw [show (⟨#[1]⟩ : ByteArray) = bt (le 1 1) from rfl, bt_app, bt_app, bt_app, Int.toNat_natCast]
      have h := rowsR_l1 p.k p.x p.y p.lv p.rows p.kids p.np p.nt hl (fun r h => ⟨hrr r h, hrs r h⟩) p.rows.length k 0 (le 1 1 ++ le p.rows.length 1 ++ le p.np.toNat 4 ++ (p.nt.data.toList ++ List.replicate (32 - p.nt.size) 0)) (by omega) (by omega)
        (by simp only [List.length_append, le_length, List.length_replicate, ← ba_size]; omega)
      rw [List.drop_zero] at h
      rw [show ((0 : Nat) : Int) = 0 from rfl] at h
      rw [h, encL, if_neg (by omega), refB]
      simp only [List.append_assoc]
    rw [if_neg (by omega)]
    by_cases ht : p.nt.toList = []
    · rw [if_pos ht, if_pos (by decide), bt_zeros]
      rw [Lib.toList_data] at ht
      rw [ht, ba_size, ht] at hj
      exact hj
    · rw [if_neg ht]
      have h32 : p.nt.size = 32 := by
        rcases q3 with h | h
        · rw [(none_size h).2] at ht
          exact absurd (by rw [Lib.toList_data]) ht
        · exact (refOK_iff.1 h).2
      rw [h32, Nat.sub_self, List.replicate_zero, List.append_nil, bt_ba] at hj
      exact hj
  · obtain ⟨q1, q2, q3, q4, q5, q6, q7⟩ := right2 hkd hr
    rw [if_pos hkd, putR_w _ 1 1 rfl (by omega) (by omega) (by decide) k (by omega), Option.bind_some, bt_size, le_length, if_pos (by omega),
      putR_w p.lv 1 1 rfl (by omega) (by omega) (by decide) k (by omega), Option.bind_some, bt_size, le_length, if_pos (by omega),
      putR_w p.x 4 4 rfl (by omega) (by omega) (by decide) k (by omega), Option.bind_some, bt_size, le_length, if_pos (by omega),
      putR_w p.y 4 4 rfl (by omega) (by omega) (by decide) k (by omega), Option.bind_some, bt_size, le_length, if_pos (by omega)]
    rw [show (⟨#[2]⟩ : ByteArray) = bt (le 2 1) from rfl, bt_app, bt_app, bt_app, bt_app, Int.toNat_natCast]
    have h := kidsR_l0 p.k p.x p.y p.lv p.rows p.kids p.np p.nt hkl (fun r h => ⟨hkk r h, (kid_size q1 r h).2⟩) p.kids.length k 0 (le 2 1 ++ le p.kids.length 1 ++ le p.lv.toNat 1 ++ le p.x.toNat 4 ++ le p.y.toNat 4) (by omega) (by omega)
      (by simp only [List.length_append, le_length]; omega)
    rw [List.drop_zero] at h
    rw [show ((0 : Nat) : Int) = 0 from rfl] at h
    rw [h, encL, if_pos hkd]
    simp only [List.append_assoc]
    rfl
end Go.Proofs.Ytmeaiancebgkoaa.H
