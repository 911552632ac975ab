/- What is written is what is read: a page is the page of its bytes. -/
import Derived.Test.YtmeaiancebgkoaaQ1
import Derived.Test.YtmeaiancebgkoaaPG
set_option maxRecDepth 100000
set_option linter.unusedSimpArgs false
set_option linter.unusedVariables false
namespace Go.Proofs.Ytmeaiancebgkoaa.H
open Go.RowKit Go.Proofs.YtmeaiancebgkoaaW.PrintWords Go.Proofs.YtmeaiancebgkoaaW.PrintLast Go.Proofs.YtmeaiancebgkoaaW.PrintMore

def bts (l : List UInt8) : ByteArray := ⟨l.toArray⟩
theorem bts_size (l : List UInt8) : (bts l).size = l.length := by rw [ba_size, bts, ba_mk]
theorem bts_data (l : List UInt8) : (bts l).data.toList = l := ba_mk l
theorem bts_ba (b : ByteArray) : bts b.data.toList = b := ba_ext (bts_data _)
theorem takeS_fwd (a c : List UInt8) (b : Bool) (n : Nat) (hn : a.length = n) : takeS (bts (a ++ c), b) n = (bts a, bts c, b) := by
  subst hn
  unfold takeS
  simp only
  rw [if_neg (by rw [bts_size, List.length_append]; omega)]
  refine Prod.ext (ba_ext ?_) (Prod.ext (ba_ext ?_) rfl)
  · simp only
    rw [ba_ex, bts_data, bts_data, List.drop_zero, Nat.sub_zero, List.take_left]
  · simp only
    rw [ba_ex, bts_data, bts_data, List.drop_left, bts_size, List.length_append, Nat.add_sub_cancel_left, List.take_length]
theorem getS_fwd (v n : Nat) (c : List UInt8) (b : Bool) (hv : v < 256 ^ n) : getS (bts (le v n ++ c), b) n = (v, bts c, b) := by
  unfold getS
  rw [takeS_fwd _ _ _ _ (le_length v n)]
  simp only
  rw [bts_data, num_le v n hv]
theorem refS_fwd (p : Nat) (t : ByteArray) (hp : p < 4294967296) (ht : t.size ≤ 32) (c : List UInt8) (b : Bool) :
    refS (bts (refB p t ++ c), b) = (⟨(p : Int), bts (t.data.toList ++ List.replicate (32 - t.size) 0)⟩, bts c, b) := by
  have p4 : (256 : Nat) ^ 4 = 4294967296 := by decide
  unfold refS
  rw [refB, List.append_assoc, getS_fwd p 4 _ b (by omega)]
  simp only
  rw [takeS_fwd _ _ _ 32 (by rw [List.length_append, List.length_replicate, ← ba_size]; omega)]
theorem kid_fwd (r : Ref) (h1 : refIn r) (h2 : r.f1.size = 32) (c : List UInt8) (b : Bool) : refS (bts (kidB r ++ c), b) = (r, bts c, b) := by
  obtain ⟨p, t⟩ := r
  obtain ⟨h3, h4⟩ := h1
  simp only at h2 h3 h4
  obtain ⟨p, rfl⟩ : ∃ q : Nat, p = q := ⟨p.toNat, by omega⟩
  rw [kidB]
  simp only [Int.toNat_natCast]
  rw [refS_fwd p t (by omega) (by omega), h2, Nat.sub_self, List.replicate_zero, List.append_nil, bts_ba]
theorem row_fwd (r : Row) (h1 : rowIn r) (h2 : rowB r = true) (c : List UInt8) (b : Bool) : rowS (bts (rowBytes r ++ c), b) = (r, bts c, b) := by
  obtain ⟨i, x, y, t⟩ := r
  obtain ⟨a1, a2, a3, a4, a5, a6⟩ := h1
  rw [rowB, Bool.and_eq_true, decide_eq_true_eq, decide_eq_true_eq] at h2
  have h3 := h2.2
  simp only at a1 a2 a3 a4 a5 a6 h3
  obtain ⟨i, rfl⟩ : ∃ q : Nat, i = q := ⟨i.toNat, by omega⟩
  obtain ⟨x, rfl⟩ : ∃ q : Nat, x = q := ⟨x.toNat, by omega⟩
  obtain ⟨y, rfl⟩ : ∃ q : Nat, y = q := ⟨y.toNat, by omega⟩
  have p4 : (256 : Nat) ^ 4 = 4294967296 := by decide
  have p8 : (256 : Nat) ^ 8 = 18446744073709551616 := by decide
  have p1 : (256 : Nat) ^ 1 = 256 := by decide
  unfold rowS
  rw [rowBytes]
  simp only [Int.toNat_natCast, List.append_assoc]
  rw [getS_fwd i 8 _ b (by omega)]
  simp only
  rw [getS_fwd x 4 _ b (by omega)]
  simp only
  rw [getS_fwd y 4 _ b (by omega)]
  simp only
  rw [getS_fwd t.size 1 _ b (by omega)]
  simp only
  rw [takeS_fwd t.data.toList c b t.size (ba_size t).symm, bts_ba]
theorem rows_fwd (rows : List Row) (h1 : ∀ r ∈ rows, rowIn r) (h2 : ∀ r ∈ rows, rowB r = true) (c : List UInt8) (b : Bool) : ∀ (k : Nat), k ≤ rows.length →
    stAt (bts ((rows.map rowBytes).flatten ++ c), b) k = (bts (((rows.drop k).map rowBytes).flatten ++ c), b) ∧ rowsTo (bts ((rows.map rowBytes).flatten ++ c), b) k = rows.take k := by
  intro k
  induction k with
  | zero => intro _; exact ⟨rfl, rfl⟩
  | succ k ih =>
    intro hk
    obtain ⟨i1, i2⟩ := ih (by omega)
    have hm : rows[k]'(by omega) ∈ rows := List.getElem_mem _
    have hd : rows.drop k = rows[k]'(by omega) :: rows.drop (k + 1) := List.drop_eq_getElem_cons (by omega)
    have hr : rowS (stAt (bts ((rows.map rowBytes).flatten ++ c), b) k) = (rows[k]'(by omega), bts (((rows.drop (k + 1)).map rowBytes).flatten ++ c), b) := by
      rw [i1, hd, List.map_cons, List.flatten_cons, List.append_assoc]
      exact row_fwd _ (h1 _ hm) (h2 _ hm) _ _
    refine ⟨by rw [stAt, hr], ?_⟩
    rw [rowsTo_succ, i2, rowAt, hr, List.take_succ_eq_append_getElem (by omega)]
theorem kids_fwd (kids : List Ref) (h1 : ∀ r ∈ kids, refIn r) (h2 : ∀ r ∈ kids, r.f1.size = 32) (c : List UInt8) (b : Bool) : ∀ (k : Nat), k ≤ kids.length →
    kidsAt (bts ((kids.map kidB).flatten ++ c), b) k = (kids.take k, bts (((kids.drop k).map kidB).flatten ++ c), b) := by
  intro k
  induction k with
  | zero => intro _; rfl
  | succ k ih =>
    intro hk
    have i1 := ih (by omega)
    have hm : kids[k]'(by omega) ∈ kids := List.getElem_mem _
    have hd : kids.drop k = kids[k]'(by omega) :: kids.drop (k + 1) := List.drop_eq_getElem_cons (by omega)
    rw [kidsAt, i1]
    simp only
    rw [hd, List.map_cons, List.flatten_cons, List.append_assoc, kid_fwd _ (h1 _ hm) (h2 _ hm), List.take_succ_eq_append_getElem (by omega)]

/-- Behind a page's bytes stands what stood there. -/
theorem page_fwd (p : Pg) (hr : rightP p = true) (hp : pageIn p) (c : List UInt8) (b : Bool) (hb : b = false) : pageS (bts (encL p ++ c), b) = (p, bts c, b) := by
  subst hb
  obtain ⟨⟨x1, x2⟩, ⟨y1, y2⟩, ⟨n1, n2⟩, hlv, hkl, hri, hki⟩ := hp
  have p4 : (256 : Nat) ^ 4 = 4294967296 := by decide
  have p1 : (256 : Nat) ^ 1 = 256 := by decide
  obtain ⟨kd, x, y, lv, rows, kids, np, nt⟩ := p
  simp only at x1 x2 y1 y2 n1 n2 hlv hkl hri hki
  rcases right_kind hr with hk | hk
  · obtain ⟨q1, q2, q3, q4, q5, q6, q7⟩ := right1 hk hr
    simp only at hk q1 q2 q3 q4 q5 q6 q7
    subst hk q5 q6 q7
    obtain rfl := List.eq_nil_of_length_eq_zero q4
    obtain ⟨np, rfl⟩ : ∃ q : Nat, np = q := ⟨np.toNat, by omega⟩
    have hrs := rises_all rows none (Bool.and_eq_true _ _ ▸ q2 : rises none rows = true ∧ _).1
    have hnt := next_size q3
    have eL : encL ⟨1, 0, 0, 0, rows, [], (np : Int), nt⟩ = le 1 1 ++ (le rows.length 1 ++ (refB np nt ++ (rows.map rowBytes).flatten)) := by
      rw [encL, if_neg (show ¬ (1 : Int) = 2 by decide)]
      rfl
    rw [eL]
    clear eL
    unfold pageS
    simp only [List.append_assoc]
    rw [getS_fwd 1 1 _ _ (by decide)]
    simp only
    rw [getS_fwd rows.length 1 _ _ (by omega)]
    simp only
    rw [if_neg (by decide)]
    unfold leafS
    rw [refS_fwd np nt (by omega) hnt]
    simp only
    obtain ⟨f1, f2⟩ := rows_fwd rows hri hrs c false rows.length (Nat.le_refl _)
    have hrd : readTo (bts ((rows.map rowBytes).flatten ++ c), false) rows.length rows.length 0 = rows.length :=
      readTo_eq _ _ _ (Nat.le_refl _) (fun j h1 h2 => by rw [stops, (rows_fwd rows hri hrs c false j (by omega)).1, Bool.false_or]; exact decide_eq_false (by omega)) (.inl rfl) _ _ (Nat.zero_le _) (by omega) (fun _ => .inl rfl)
    rw [hrd, f1, f2, List.take_length, List.drop_length]
    have hz : (if ((np : Int) = 0 ∧ bts (nt.data.toList ++ List.replicate (32 - nt.size) 0) = zeros 32) then (⟨#[]⟩ : ByteArray) else bts (nt.data.toList ++ List.replicate (32 - nt.size) 0)) = nt := by
      rcases q3 with q3 | q3
      · obtain ⟨h1, h2⟩ := none_size q3
        subst h2
        rw [if_pos ⟨h1, by rfl⟩]
      · obtain ⟨h1, h2⟩ := refOK_iff.1 q3
        rw [if_neg (by omega), h2, Nat.sub_self, List.replicate_zero, List.append_nil, bts_ba]
    rw [hz]
    rfl
  · obtain ⟨q1, q2, q3, q4, q5, q6, q7⟩ := right2 hk hr
    simp only at hk q1 q2 q3 q4 q5 q6 q7
    subst hk
    obtain rfl := List.eq_nil_of_length_eq_zero q2
    obtain ⟨rfl, rfl⟩ := none_size q3
    obtain ⟨x, rfl⟩ : ∃ q : Nat, x = q := ⟨x.toNat, by omega⟩
    obtain ⟨y, rfl⟩ : ∃ q : Nat, y = q := ⟨y.toNat, by omega⟩
    obtain ⟨lv, rfl⟩ : ∃ q : Nat, lv = q := ⟨lv.toNat, by omega⟩
    have hlv2 : lv < 256 := by
      have h := q6
      unfold cellB cell_Right.f at h
      rw [if_neg (by omega)] at h
      by_cases h31 : (lv : Int) > 31
      · rw [if_pos h31] at h
        cases h
      · omega
    have eL : encL ⟨2, (x : Int), (y : Int), (lv : Int), [], kids, 0, ⟨#[]⟩⟩ = le 2 1 ++ (le kids.length 1 ++ (le lv 1 ++ (le x 4 ++ (le y 4 ++ (kids.map kidB).flatten)))) := by
      rw [encL, if_pos rfl]
      rfl
    rw [eL]
    clear eL
    unfold pageS
    simp only [List.append_assoc]
    rw [getS_fwd 2 1 _ _ (by decide)]
    simp only
    rw [getS_fwd kids.length 1 _ _ (by omega)]
    simp only [if_true]
    unfold innerS
    simp only
    rw [getS_fwd lv 1 _ _ (by omega)]
    simp only
    rw [getS_fwd x 4 _ _ (by omega)]
    simp only
    rw [getS_fwd y 4 _ _ (by omega)]
    simp only
    rw [show min kids.length 5 = kids.length by omega, kids_fwd kids hki (fun r hr => (kid_size q1 r hr).2) c false kids.length (Nat.le_refl _), List.take_length, List.drop_length]
    rfl
/-- A page is the page of its bytes. -/
theorem enc_dec (p : Pg) (hr : rightP p = true) (hp : pageIn p) : decP (encP p).1 = (p, 0) := by
  rw [encP, if_pos hr]
  have h := page_fwd p hr hp [] false rfl
  rw [List.append_nil] at h
  unfold decP
  have e : pageS ((⟨(encL p).toArray⟩ : ByteArray), false) = (p, bts [], false) := h
  rw [e]
  show (if (false = false ∧ (bts []).size = 0 ∧ rightP p = true) then (p, (0 : Int)) else (pgNil, 90)) = (p, 0)
  rw [if_pos ⟨rfl, rfl, hr⟩]
end Go.Proofs.Ytmeaiancebgkoaa.H
