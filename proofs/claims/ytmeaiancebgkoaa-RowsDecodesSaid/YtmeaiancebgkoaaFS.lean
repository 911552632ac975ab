/- The page of bytes: the reference's answer is the program's. -/
import Derived.Test.YtmeaiancebgkoaaFD
set_option maxRecDepth 100000
set_option linter.unusedSimpArgs false
set_option linter.unusedVariables false
namespace Go.Proofs.Ytmeaiancebgkoaa.H
open Go.RowKit Go.Proofs.YtmeaiancebgkoaaW.PrintWords Go.Proofs.YtmeaiancebgkoaaW.PrintLast Go.Proofs.YtmeaiancebgkoaaW.PrintMore

/-- What is left of the bytes. -/
abbrev dr (s : ByteArray) (i : Nat) : List UInt8 := s.data.toList.drop i
theorem dr_len (s : ByteArray) (i : Nat) : (dr s i).length = s.size - i := by rw [dr, List.length_drop, ← ba_size]
theorem ext_pre (s : ByteArray) (a b : Nat) (p q : List UInt8) (h : dr s a = p ++ q) (hb : b = a + p.length) : (s.extract a b).data.toList = p ∧ dr s b = q := by
  subst hb
  refine ⟨?_, ?_⟩
  · rw [ba_ex, Nat.add_sub_cancel_left]
    show (dr s a).take p.length = p
    rw [h, List.take_left]
  · show s.data.toList.drop (a + p.length) = q
    rw [← List.drop_drop]
    show (dr s a).drop p.length = q
    rw [h, List.drop_left]
theorem dr_ext (s : ByteArray) (a b : Nat) (h : a ≤ b) : dr s a = (s.extract a b).data.toList ++ dr s b := by
  rw [ba_ex]
  show dr s a = (dr s a).take (b - a) ++ s.data.toList.drop b
  have : s.data.toList.drop b = (dr s a).drop (b - a) := by
    show _ = (s.data.toList.drop a).drop (b - a)
    rw [List.drop_drop]
    congr 1
    omega
  rw [this, List.take_append_drop]
theorem by1_pre (s : ByteArray) (a : Nat) (c : UInt8) (q : List UInt8) (h : dr s a = [c] ++ q) : by1 s a = c.toNat ∧ dr s (a + 1) = q := by
  rw [List.singleton_append] at h
  have hl := congrArg List.length h
  rw [dr_len, List.length_cons] at hl
  have ha : a < s.data.toList.length := by rw [← ba_size]; omega
  have hd : dr s a = s.data.toList[a] :: dr s (a + 1) := List.drop_eq_getElem_cons ha
  rw [h] at hd
  injection hd with h1 h2
  exact ⟨by rw [by1_get s a ha, ← h1], h2.symm⟩
theorem dr_by1 (s : ByteArray) (a : Nat) (h : a < s.size) : dr s a = [UInt8.ofNat (by1 s a)] ++ dr s (a + 1) := by
  have ha : a < s.data.toList.length := by rw [← ba_size]; omega
  have hd : dr s a = s.data.toList[a] :: dr s (a + 1) := List.drop_eq_getElem_cons ha
  rw [hd, by1_get s a ha, UInt8.ofNat_toNat]
  rfl
theorem le1 (n : Nat) : le n 1 = [UInt8.ofNat n] := by simp [le]
theorem ext_len (s : ByteArray) (a b : Nat) (h1 : a ≤ b) (h2 : b ≤ s.size) : (s.extract a b).data.toList.length = b - a := by
  rw [← ba_size, ByteArray.size_extract]
  omega
theorem le_nm (s : ByteArray) (a b w : Nat) (h : a + w = b) (hb : b ≤ s.size) : le (nm s a b) w = (s.extract a b).data.toList := by
  have h1 := le_num (s.extract a b).data.toList
  rw [ext_len s a b (by omega) hb, show b - a = w by omega] at h1
  exact h1
theorem nm_pre {s : ByteArray} {a b w v : Nat} (h : (s.extract a b).data.toList = le v w) (hv : v < 256 ^ w) : nm s a b = v := by
  unfold nm
  rw [h, num_le v w hv]
theorem p4 : (256 : Nat) ^ 4 = 4294967296 := by decide
theorem p8 : (256 : Nat) ^ 8 = 18446744073709551616 := by decide

theorem rowA_bytes (s : ByteArray) (i : Nat) (h : i + 17 + by1 s (i + 16) ≤ s.size) : dr s i = rowBytes (rowA s i) ++ dr s (i + 17 + by1 s (i + 16)) := by
  have e1 := dr_ext s i (i + 8) (by omega)
  have e2 := dr_ext s (i + 8) (i + 12) (by omega)
  have e3 := dr_ext s (i + 12) (i + 16) (by omega)
  have e4 := dr_by1 s (i + 16) (by omega)
  have e5 := dr_ext s (i + 17) (i + 17 + by1 s (i + 16)) (by omega)
  have hz : (s.extract (i + 17) (i + 17 + by1 s (i + 16))).size = by1 s (i + 16) := by rw [ba_size, ext_len _ _ _ (by omega) (by omega)]; omega
  unfold rowBytes rowA
  simp only [Int.toNat_natCast]
  rw [le_nm s i (i + 8) 8 rfl (by omega), le_nm s (i + 8) (i + 12) 4 rfl (by omega), le_nm s (i + 12) (i + 16) 4 rfl (by omega), hz, le1, e1, e2, e3, e4, e5]
  simp only [List.append_assoc]
theorem rowsA_inv (s : ByteArray) : ∀ (n i : Nat) (acc res : List Row), rowsA s n i acc = (res, true) → i ≤ s.size → ∃ rows, res = acc ++ rows ∧ rows.length = n ∧ dr s i = (rows.map rowBytes).flatten
  | 0, i, acc, res, h, hi => by
    rw [rowsA] at h
    injection h with h1 h2
    rw [beq_iff_eq] at h2
    refine ⟨[], by rw [List.append_nil, h1], rfl, ?_⟩
    exact List.drop_of_length_le (by rw [← ba_size]; omega)
  | n + 1, i, acc, res, h, hi => by
    rw [rowsA] at h
    split at h
    · injection h with _ h
      cases h
    split at h
    · injection h with _ h
      cases h
    rename_i h1 h2
    obtain ⟨rows, r1, r2, r3⟩ := rowsA_inv s n _ _ _ h (by omega)
    refine ⟨rowA s i :: rows, by rw [r1, List.append_assoc]; rfl, by rw [List.length_cons, r2], ?_⟩
    rw [rowA_bytes s i (by omega), r3]
    rfl
theorem rowsA_fwd (s : ByteArray) : ∀ (rows : List Row) (i : Nat) (acc : List Row), (∀ r ∈ rows, rowIn r ∧ rowB r = true) → dr s i = (rows.map rowBytes).flatten → i ≤ s.size → rowsA s rows.length i acc = (acc ++ rows, true)
  | [], i, acc, _, h, hi => by
    have hl := congrArg List.length h
    rw [dr_len] at hl
    have : s.size - i = 0 := hl
    rw [List.length_nil, rowsA, List.append_nil, show ((i : Int) == (s.size : Int)) = true from beq_iff_eq.2 (by omega)]
  | r :: rows, i, acc, hr, h, hi => by
    obtain ⟨hin, hb⟩ := hr r List.mem_cons_self
    obtain ⟨f0, f1, f2, f3⟩ := r
    unfold rowIn at hin
    rw [rowB, Bool.and_eq_true, decide_eq_true_eq, decide_eq_true_eq] at hb
    simp only at hin hb
    have hz : f3.size < 256 := by omega
    obtain ⟨f0, rfl⟩ : ∃ q : Nat, f0 = q := ⟨f0.toNat, by omega⟩
    obtain ⟨f1, rfl⟩ : ∃ q : Nat, f1 = q := ⟨f1.toNat, by omega⟩
    obtain ⟨f2, rfl⟩ : ∃ q : Nat, f2 = q := ⟨f2.toNat, by omega⟩
    rw [List.map_cons, List.flatten_cons, rowBytes] at h
    simp only [Int.toNat_natCast, List.append_assoc] at h
    have hl := congrArg List.length h
    simp only [dr_len, List.length_append, le_length, ← ba_size] at hl
    obtain ⟨x1, d1⟩ := ext_pre s i (i + 8) _ _ h (by rw [le_length])
    obtain ⟨x2, d2⟩ := ext_pre s (i + 8) (i + 12) _ _ d1 (by rw [le_length])
    obtain ⟨x3, d3⟩ := ext_pre s (i + 12) (i + 16) _ _ d2 (by rw [le_length])
    rw [le1] at d3
    obtain ⟨x4, d4⟩ := by1_pre s (i + 16) _ _ d3
    rw [UInt8.toNat_ofNat', Nat.mod_eq_of_lt hz] at x4
    obtain ⟨x5, d5⟩ := ext_pre s (i + 17) (i + 17 + f3.size) _ _ d4 (by rw [← ba_size])
    have hA : rowA s i = ⟨f0, f1, f2, f3⟩ := by
      unfold rowA
      rw [nm_pre x1 (by rw [p8]; omega), nm_pre x2 (by rw [p4]; omega), nm_pre x3 (by rw [p4]; omega), x4, ba_ext x5]
    rw [List.length_cons, rowsA, x4, if_neg (by omega), if_neg (by omega), rowsA_fwd s rows _ _ (fun r h => hr r (List.mem_cons_of_mem _ h)) d5 (by omega), hA, List.append_assoc]
    rfl

theorem kidA_bytes (s : ByteArray) (i : Nat) (h : i + 36 ≤ s.size) : dr s i = kidB (kidA s i) ++ dr s (i + 36) := by
  have e1 := dr_ext s i (i + 4) (by omega)
  have e2 := dr_ext s (i + 4) (i + 36) (by omega)
  have hz : (s.extract (i + 4) (i + 36)).size = 32 := by rw [ba_size, ext_len _ _ _ (by omega) (by omega)]; omega
  unfold kidB refB kidA
  simp only [Int.toNat_natCast]
  rw [le_nm s i (i + 4) 4 rfl (by omega), hz, Nat.sub_self, List.replicate_zero, List.append_nil, e1, e2, List.append_assoc]
theorem kidsA_inv (s : ByteArray) : ∀ (n i : Nat) (acc : List Ref), i + 36 * n = s.size → ∃ kids, kidsA s n i acc = acc ++ kids ∧ kids.length = n ∧ dr s i = (kids.map kidB).flatten
  | 0, i, acc, hi => ⟨[], by rw [kidsA, List.append_nil], rfl, List.drop_of_length_le (by rw [← ba_size]; omega)⟩
  | n + 1, i, acc, hi => by
    obtain ⟨kids, r1, r2, r3⟩ := kidsA_inv s n (i + 36) (acc ++ [kidA s i]) (by omega)
    refine ⟨kidA s i :: kids, by rw [kidsA, r1, List.append_assoc]; rfl, by rw [List.length_cons, r2], ?_⟩
    rw [kidA_bytes s i (by omega), r3]
    rfl
theorem kidsA_fwd (s : ByteArray) : ∀ (kids : List Ref) (i : Nat) (acc : List Ref), (∀ r ∈ kids, refIn r ∧ r.f1.size = 32) → dr s i = (kids.map kidB).flatten → kidsA s kids.length i acc = acc ++ kids
  | [], i, acc, _, h => by rw [List.length_nil, kidsA, List.append_nil]
  | r :: kids, i, acc, hr, h => by
    obtain ⟨hin, hz⟩ := hr r List.mem_cons_self
    obtain ⟨f0, f1⟩ := r
    unfold refIn at hin
    simp only at hin hz
    obtain ⟨f0, rfl⟩ : ∃ q : Nat, f0 = q := ⟨f0.toNat, by omega⟩
    rw [List.map_cons, List.flatten_cons, kidB, refB] at h
    simp only [Int.toNat_natCast, hz, Nat.sub_self, List.replicate_zero, List.append_nil, List.append_assoc] at h
    obtain ⟨x1, d1⟩ := ext_pre s i (i + 4) _ _ h (by rw [le_length])
    obtain ⟨x2, d2⟩ := ext_pre s (i + 4) (i + 36) _ _ d1 (by rw [← ba_size, hz])
    have hA : kidA s i = ⟨f0, f1⟩ := by
      unfold kidA
      rw [nm_pre x1 (by rw [p4]; omega), ba_ext x2]
    rw [List.length_cons, kidsA, kidsA_fwd s kids _ _ (fun r h => hr r (List.mem_cons_of_mem _ h)) d2, hA, List.append_assoc]
    rfl

theorem dr0 (s : ByteArray) : dr s 0 = s.data.toList := List.drop_zero
theorem leafA_inv (s : ByteArray) (h0 : by1 s 0 = 1) (h : (leafA s).2 = true) : s.data.toList = encL (leafA s).1 := by
  have hb1 := by1_lt s 1
  unfold leafA at h ⊢
  by_cases h38 : s.size < 38
  · rw [if_pos h38] at h
    cases h
  rw [if_neg h38] at h ⊢
  obtain ⟨⟨res, ok⟩, hq⟩ : ∃ q, rowsA s (by1 s 1) 38 [] = q := ⟨_, rfl⟩
  rw [hq] at h ⊢
  simp only at h
  subst h
  obtain ⟨rows, r1, r2, r3⟩ := rowsA_inv s (by1 s 1) 38 [] res hq (by omega)
  rw [List.nil_append] at r1
  subst r1
  have e1 := dr_by1 s 0 (by omega)
  have e2 := dr_by1 s 1 (by omega)
  have e3 := dr_ext s 2 6 (by omega)
  have e4 := dr_ext s 6 38 (by omega)
  have hz : (s.extract 6 38).size = 32 := by rw [ba_size, ext_len _ _ _ (by omega) (by omega)]
  have hB : refB (nm s 2 6) (if nm s 2 6 = 0 ∧ s.extract 6 38 = zeros 32 then (⟨#[]⟩ : ByteArray) else s.extract 6 38) = (s.extract 2 6).data.toList ++ (s.extract 6 38).data.toList := by
    rw [refB, le_nm s 2 6 4 rfl (by omega)]
    split
    · rename_i hc
      rw [hc.2]
      rfl
    · rw [hz, Nat.sub_self, List.replicate_zero, List.append_nil]
  rw [encL, if_neg (show ¬ (1 : Int) = 2 by decide)]
  simp only [Int.toNat_natCast]
  rw [hB, ← dr0, e1, e2, e3, e4, r3, r2, le1, le1, h0]
  all_goals simp only [List.append_assoc]
theorem innerA_inv (s : ByteArray) (h0 : by1 s 0 = 2) (h : (innerA s).2 = true) : s.data.toList = encL (innerA s).1 := by
  have hb1 := by1_lt s 1
  unfold innerA at h ⊢
  by_cases hc : s.size < 11 ∨ s.size ≠ 11 + 36 * by1 s 1
  · rw [if_pos hc] at h
    cases h
  rw [if_neg hc]
  obtain ⟨kids, r1, r2, r3⟩ := kidsA_inv s (by1 s 1) 11 [] (by omega)
  rw [List.nil_append] at r1
  have e1 := dr_by1 s 0 (by omega)
  have e2 := dr_by1 s 1 (by omega)
  have e3 := dr_by1 s 2 (by omega)
  have e4 := dr_ext s 3 7 (by omega)
  have e5 := dr_ext s 7 11 (by omega)
  rw [encL, if_pos rfl]
  simp only [Int.toNat_natCast]
  rw [r1, le_nm s 3 7 4 rfl (by omega), le_nm s 7 11 4 rfl (by omega), ← dr0, e1, e2, e3, e4, e5, r3, r2, le1, le1, le1, h0]
  all_goals simp only [List.append_assoc]

theorem leafA_fwd (s : ByteArray) (q : Pg) (hr : rightP q = true) (hp : pageIn q) (hk : q.k = 1) (hL : s.data.toList = encL q) : 0 < s.size ∧ by1 s 0 = 1 ∧ leafA s = (q, true) := by
  obtain ⟨⟨x1, x2⟩, ⟨y1, y2⟩, ⟨n1, n2⟩, hlv, hkl, hri, hki⟩ := hp
  obtain ⟨kd, x, y, lv, rows, kids, np, nt⟩ := q
  obtain ⟨q1, q2, q3, q4, q5, q6, q7⟩ := right1 hk hr
  simp only at hk q1 q2 q3 q4 q5 q6 q7 x1 x2 y1 y2 n1 n2 hri
  subst hk q5 q6 q7
  obtain rfl := List.eq_nil_of_length_eq_zero q4
  obtain ⟨np, rfl⟩ : ∃ q : Nat, np = q := ⟨np.toNat, by omega⟩
  have hrs := rises_all rows none (Bool.and_eq_true _ _ ▸ q2 : rises none rows = true ∧ _).1
  have hnt := next_size q3
  rw [encL, if_neg (show ¬ (1 : Int) = 2 by decide), ← dr0, le1, le1, refB] at hL
  simp only [Int.toNat_natCast, List.append_assoc] at hL
  have hl := congrArg List.length hL
  simp only [dr_len, List.length_append, le_length, ← ba_size, List.length_singleton, List.length_replicate] at hl
  obtain ⟨x1, d1⟩ := by1_pre s 0 _ _ hL
  obtain ⟨x2, d2⟩ := by1_pre s 1 _ _ d1
  obtain ⟨x3, d3⟩ := ext_pre s 2 6 _ _ d2 (by rw [le_length])
  have d3' : dr s 6 = (nt.data.toList ++ List.replicate (32 - nt.size) 0) ++ (rows.map rowBytes).flatten := by rw [d3, List.append_assoc]
  obtain ⟨x4, d4⟩ := ext_pre s 6 38 _ _ d3' (by rw [List.length_append, List.length_replicate, ← ba_size]; omega)
  have e2 : by1 s 1 = rows.length := by rw [x2, UInt8.toNat_ofNat', Nat.mod_eq_of_lt (show rows.length < 2 ^ 8 by omega)]
  have en : nm s 2 6 = np := nm_pre x3 (by rw [p4]; omega)
  have ex : s.extract 6 38 = bts (nt.data.toList ++ List.replicate (32 - nt.size) 0) := ba_ext (by rw [x4, bts_data])
  have hz : (if np = 0 ∧ bts (nt.data.toList ++ List.replicate (32 - nt.size) 0) = zeros 32 then (⟨#[]⟩ : ByteArray) else bts (nt.data.toList ++ List.replicate (32 - nt.size) 0)) = nt := by
    rcases q3 with q3 | q3
    · obtain ⟨h1, h2⟩ := none_size q3
      subst h2
      rw [if_pos ⟨by omega, by rfl⟩]
    · obtain ⟨h1, h2⟩ := refOK_iff.1 q3
      rw [if_neg (by omega), h2, Nat.sub_self, List.replicate_zero, List.append_nil, bts_ba]
  refine ⟨by omega, x1.trans (by decide), ?_⟩
  unfold leafA
  rw [if_neg (by omega), e2, rowsA_fwd s rows 38 [] (fun r h => ⟨hri r h, hrs r h⟩) d4 (by omega), en, ex, hz]
  rfl
theorem innerA_fwd (s : ByteArray) (q : Pg) (hr : rightP q = true) (hp : pageIn q) (hk : q.k = 2) (hL : s.data.toList = encL q) : 0 < s.size ∧ by1 s 0 = 2 ∧ innerA s = (q, true) := by
  obtain ⟨⟨x1, x2⟩, ⟨y1, y2⟩, ⟨n1, n2⟩, hlv, hkl, hri, hki⟩ := hp
  obtain ⟨kd, x, y, lv, rows, kids, np, nt⟩ := q
  obtain ⟨q1, q2, q3, q4, q5, q6, q7⟩ := right2 hk hr
  simp only at hk q1 q2 q3 q4 q5 q6 q7 x1 x2 y1 y2 n1 n2 hki
  subst hk
  obtain rfl := List.eq_nil_of_length_eq_zero q2
  obtain ⟨rfl, rfl⟩ := none_size q3
  obtain ⟨x, rfl⟩ : ∃ q : Nat, x = q := ⟨x.toNat, by omega⟩
  obtain ⟨y, rfl⟩ : ∃ q : Nat, y = q := ⟨y.toNat, by omega⟩
  obtain ⟨lv, rfl⟩ : ∃ q : Nat, lv = q := ⟨lv.toNat, by omega⟩
  have hlv2 : lv < 256 := by
    have h := q6
    unfold cellB cell_Right.f at h
    rw [if_neg (by omega)] at h
    by_cases h31 : (lv : Int) > 31
    · rw [if_pos h31] at h
      cases h
    · omega
  have hks : ∀ r ∈ kids, refIn r ∧ r.f1.size = 32 := fun r h => ⟨hki r h, (kid_size q1 r h).2⟩
  have hfl : ((kids.map kidB).flatten).length = 36 * kids.length := by
    clear hr hL hkl q1 q4 q5 hki hlv hri
    induction kids with
    | nil => rfl
    | cons r kids ih =>
      rw [List.map_cons, List.flatten_cons, List.length_append, ih (fun r h => hks r (List.mem_cons_of_mem _ h)), kidB, refB_length _ _ (by rw [(hks r List.mem_cons_self).2]; omega), List.length_cons]
      omega
  rw [encL, if_pos rfl, ← dr0, le1, le1, le1] at hL
  simp only [Int.toNat_natCast] at hL
  have hl := congrArg List.length hL
  simp only [dr_len, List.length_append, le_length, List.length_singleton, hfl] at hl
  obtain ⟨x1, d1⟩ := by1_pre s 0 _ _ hL
  obtain ⟨x2, d2⟩ := by1_pre s 1 _ _ d1
  obtain ⟨x3, d3⟩ := by1_pre s 2 _ _ d2
  obtain ⟨x4, d4⟩ := ext_pre s 3 7 _ _ d3 (by rw [le_length])
  obtain ⟨x5, d5⟩ := ext_pre s 7 11 _ _ d4 (by rw [le_length])
  have e2 : by1 s 1 = kids.length := by rw [x2, UInt8.toNat_ofNat', Nat.mod_eq_of_lt (show kids.length < 2 ^ 8 by omega)]
  have e3 : by1 s 2 = lv := by rw [x3, UInt8.toNat_ofNat', Nat.mod_eq_of_lt (show lv < 2 ^ 8 by omega)]
  refine ⟨by omega, x1.trans (by decide), ?_⟩
  have hc : ¬ (s.size < 11 ∨ s.size ≠ 11 + 36 * kids.length) := by omega
  unfold innerA
  rw [e2, if_neg hc, e3, kidsA_fwd s kids 11 [] hks d5, nm_pre x4 (by rw [p4]; omega), nm_pre x5 (by rw [p4]; omega)]
  rfl

/-- What the reference reads, the program reads. -/
theorem decA_eq (s : ByteArray) : decA s = decP s := by
  by_cases hg : (pickA s).2 = true ∧ rightP (pickA s).1 = true
  · have hd : decA s = ((pickA s).1, 0) := if_pos hg
    obtain ⟨hok, hr⟩ := hg
    have hin : s.data.toList = encL (pickA s).1 ∧ pageIn (pickA s).1 := by
      unfold pickA at hok ⊢
      by_cases h1 : 0 < s.size ∧ by1 s 0 = 1
      · rw [if_pos h1] at hok ⊢
        exact ⟨leafA_inv s h1.2 hok, (leafA_in s).1⟩
      · rw [if_neg h1] at hok ⊢
        by_cases h2 : 0 < s.size ∧ by1 s 0 = 2
        · rw [if_pos h2] at hok ⊢
          exact ⟨innerA_inv s h2.2 hok, (innerA_in s).1⟩
        · rw [if_neg h2] at hok
          cases hok
    have h := enc_dec (pickA s).1 hr hin.2
    rw [encP, if_pos hr] at h
    have hs : (⟨(encL (pickA s).1).toArray⟩ : ByteArray) = s := ba_ext (by rw [ba_mk, hin.1])
    simp only at h
    rw [hs] at h
    rw [hd, h]
  · have hd : decA s = (pgNil, 90) := if_neg hg
    rw [hd]
    by_cases hz : (decP s).2 = 0
    · exfalso
      obtain ⟨hr, hp, he⟩ := dec_enc s hz
      rw [encP, if_pos hr] at he
      have hL : s.data.toList = encL (decP s).1 := by
        have := congrArg (fun x => x.1.data.toList) he
        simp only at this
        rw [← this]
      apply hg
      rcases right_kind hr with hk | hk
      · obtain ⟨h1, h2, h3⟩ := leafA_fwd s _ hr hp hk hL
        have : pickA s = leafA s := if_pos ⟨h1, h2⟩
        rw [this, h3]
        exact ⟨rfl, hr⟩
      · obtain ⟨h1, h2, h3⟩ := innerA_fwd s _ hr hp hk hL
        have : pickA s = innerA s := (if_neg (by omega)).trans (if_pos ⟨h1, h2⟩)
        rw [this, h3]
        exact ⟨rfl, hr⟩
    · exact (dec_bad s hz).symm
end Go.Proofs.Ytmeaiancebgkoaa.H
