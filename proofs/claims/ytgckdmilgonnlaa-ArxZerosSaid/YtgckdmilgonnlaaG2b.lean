/- The reference's block: the walk. -/
import Derived.Test.YtgckdmilgonnlaaG2
namespace Go.Proofs.Ytgckdmilgonnlaa.H
open Go.RowKit Go.Shelf Go.Proofs.YtgckdmilgonnlaaW.PrintWords Go.Proofs.YtgckdmilgonnlaaW.PrintLast Go.Proofs.YtgckdmilgonnlaaW.PrintMore Go.Proofs.Ytgckdmilgonnlaa.Le Go.Proofs.Ytgckdmilgonnlaa.RowOf
attribute [local go_sem] Oper.semAt_some
set_option linter.unusedVariables false
set_option linter.unusedSimpArgs false

/-- Two rounds. -/
def two (xs : List Int) : List Int := atL 3 4 9 14 (atL 2 7 8 13 (atL 1 6 11 12 (atL 0 5 10 15 (atL 3 7 11 15 (atL 2 6 10 14 (atL 1 5 9 13 (atL 0 4 8 12 xs)))))))
theorem two_length (xs : List Int) : (two xs).length = xs.length := by simp only [two, atL_length]
def iter : Nat → List Int → List Int
  | 0, xs => xs
  | n + 1, xs => two (iter n xs)
theorem iter_length (n : Nat) (xs : List Int) : (iter n xs).length = xs.length := by
  induction n with
  | zero => rfl
  | succ n ih => rw [iter, two_length, ih]
/-- A word's bytes, the least first. -/
def wb (x : Int) : List Int := [x % 256, x / 256 % 256, x / 65536 % 256, x / 16777216 % 256]
/-- The bytes of the first n words. -/
def outB (ys xs : List Int) : Nat → List Int
  | 0 => []
  | n + 1 => outB ys xs n ++ wb (IntKind.u32.wrap (wrd ys n + wrd xs n))
def refBlock (xs : List Int) : ByteArray := strOfNums (outB (iter 10 xs) xs 16)

def sphragisref01_Block.f (key : ByteArray) (ctr : Int) (nonce : ByteArray) : Option (ByteArray × Int) :=
  if key.size = 32 ∧ nonce.size = 12 then (sphragisref01_State.f 20 key ctr nonce).bind fun xs => if xs.length = 16 then some (refBlock xs, 0) else none
  else some (⟨#[]⟩, 2)

theorem row_of_own {W : World} {base g cap n : Nat} {xs : List Int} (h : W.ownsRow base 22 1 (.slice (some ⟨g, 0, none⟩) n cap) n (xs.map (Value.int .u32))) : Row W g 22 xs := by
  rcases h.2 with ⟨h1, _⟩ | ⟨g', cap', cur, h1, h2, h3, h4, h5, h6, h7⟩
  · cases h1
  · obtain ⟨rfl, rfl⟩ : g' = g ∧ cap' = cap := by simpa using h1.symm
    exact ⟨cur, h3, cur.toList.drop (n * 1), (fun h => absurd h (by decide)), by rw [← h7, List.take_append_drop]⟩

theorem at_callsI (a b c d : Nat) {A B C D : Int} (g cap : Nat) (xs : List Int) (w : World) (hR : Row w g 22 xs) (hl : xs.length = 16) (ha : a < 16) (hb : b < 16) (hc : c < 16) (hd : d < 16) (eA : (a : Int) = A) (eB : (b : Int) = B) (eC : (c : Int) = C) (eD : (d : Int) = D) :
    Calls Try.prog 24 #[.slice (some ⟨g, 0, none⟩) 16 cap, .int .i64 A, .int .i64 B, .int .i64 C, .int .i64 D] w fun e w' => (∃ v, e = .returned v) ∧ Row w' g 22 (atL a b c d xs) ∧ w.grownBy w' (some g) := by
  subst eA eB eC eD
  exact at_calls a b c d g cap xs w hR hl ha hb hc hd

theorem at_c0 (g cap : Nat) (xs : List Int) (w : World) (hR : Row w g 22 xs) (hl : xs.length = 16) :
    Calls Try.prog 24 #[.slice (some ⟨g, 0, none⟩) 16 cap, .int .i64 0, .int .i64 4, .int .i64 8, .int .i64 12] w fun e w' => (∃ v, e = .returned v) ∧ Row w' g 22 (atL 0 4 8 12 xs) ∧ w.grownBy w' (some g) :=
  at_callsI 0 4 8 12 g cap xs w hR hl (by decide) (by decide) (by decide) (by decide) rfl rfl rfl rfl
theorem at_c1 (g cap : Nat) (xs : List Int) (w : World) (hR : Row w g 22 xs) (hl : xs.length = 16) :
    Calls Try.prog 24 #[.slice (some ⟨g, 0, none⟩) 16 cap, .int .i64 1, .int .i64 5, .int .i64 9, .int .i64 13] w fun e w' => (∃ v, e = .returned v) ∧ Row w' g 22 (atL 1 5 9 13 xs) ∧ w.grownBy w' (some g) :=
  at_callsI 1 5 9 13 g cap xs w hR hl (by decide) (by decide) (by decide) (by decide) rfl rfl rfl rfl
theorem at_c2 (g cap : Nat) (xs : List Int) (w : World) (hR : Row w g 22 xs) (hl : xs.length = 16) :
    Calls Try.prog 24 #[.slice (some ⟨g, 0, none⟩) 16 cap, .int .i64 2, .int .i64 6, .int .i64 10, .int .i64 14] w fun e w' => (∃ v, e = .returned v) ∧ Row w' g 22 (atL 2 6 10 14 xs) ∧ w.grownBy w' (some g) :=
  at_callsI 2 6 10 14 g cap xs w hR hl (by decide) (by decide) (by decide) (by decide) rfl rfl rfl rfl
theorem at_c3 (g cap : Nat) (xs : List Int) (w : World) (hR : Row w g 22 xs) (hl : xs.length = 16) :
    Calls Try.prog 24 #[.slice (some ⟨g, 0, none⟩) 16 cap, .int .i64 3, .int .i64 7, .int .i64 11, .int .i64 15] w fun e w' => (∃ v, e = .returned v) ∧ Row w' g 22 (atL 3 7 11 15 xs) ∧ w.grownBy w' (some g) :=
  at_callsI 3 7 11 15 g cap xs w hR hl (by decide) (by decide) (by decide) (by decide) rfl rfl rfl rfl
theorem at_c4 (g cap : Nat) (xs : List Int) (w : World) (hR : Row w g 22 xs) (hl : xs.length = 16) :
    Calls Try.prog 24 #[.slice (some ⟨g, 0, none⟩) 16 cap, .int .i64 0, .int .i64 5, .int .i64 10, .int .i64 15] w fun e w' => (∃ v, e = .returned v) ∧ Row w' g 22 (atL 0 5 10 15 xs) ∧ w.grownBy w' (some g) :=
  at_callsI 0 5 10 15 g cap xs w hR hl (by decide) (by decide) (by decide) (by decide) rfl rfl rfl rfl
theorem at_c5 (g cap : Nat) (xs : List Int) (w : World) (hR : Row w g 22 xs) (hl : xs.length = 16) :
    Calls Try.prog 24 #[.slice (some ⟨g, 0, none⟩) 16 cap, .int .i64 1, .int .i64 6, .int .i64 11, .int .i64 12] w fun e w' => (∃ v, e = .returned v) ∧ Row w' g 22 (atL 1 6 11 12 xs) ∧ w.grownBy w' (some g) :=
  at_callsI 1 6 11 12 g cap xs w hR hl (by decide) (by decide) (by decide) (by decide) rfl rfl rfl rfl
theorem at_c6 (g cap : Nat) (xs : List Int) (w : World) (hR : Row w g 22 xs) (hl : xs.length = 16) :
    Calls Try.prog 24 #[.slice (some ⟨g, 0, none⟩) 16 cap, .int .i64 2, .int .i64 7, .int .i64 8, .int .i64 13] w fun e w' => (∃ v, e = .returned v) ∧ Row w' g 22 (atL 2 7 8 13 xs) ∧ w.grownBy w' (some g) :=
  at_callsI 2 7 8 13 g cap xs w hR hl (by decide) (by decide) (by decide) (by decide) rfl rfl rfl rfl
theorem at_c7 (g cap : Nat) (xs : List Int) (w : World) (hR : Row w g 22 xs) (hl : xs.length = 16) :
    Calls Try.prog 24 #[.slice (some ⟨g, 0, none⟩) 16 cap, .int .i64 3, .int .i64 4, .int .i64 9, .int .i64 14] w fun e w' => (∃ v, e = .returned v) ∧ Row w' g 22 (atL 3 4 9 14 xs) ∧ w.grownBy w' (some g) :=
  at_callsI 3 4 9 14 g cap xs w hR hl (by decide) (by decide) (by decide) (by decide) rfl rfl rfl rfl

theorem reads4 (W : World) (a b c d : Int) : ReadsRow (fun (x : Int) cs => cs = [.int .u8 x]) 1 (W.alloc (.cells #[.int .u8 a, .int .u8 b, .int .u8 c, .int .u8 d] 5 (0, 0))) (some ⟨W.heap.size, 0, none⟩) 4 [a, b, c, d] := by
  refine ⟨rfl, by decide, fun _ => ⟨_, rfl, fun j p hj => ⟨[.int .u8 p], rfl, rfl, fun i u hi => ?_⟩⟩⟩
  have h := World.alloc_heap_new W (.cells #[.int .u8 a, .int .u8 b, .int .u8 c, .int .u8 d] 5 (0, 0))
  obtain ⟨rfl, rfl⟩ : i = 0 ∧ u = .int .u8 p := by
    cases i with
    | zero => exact ⟨rfl, (Option.some.inj hi).symm⟩
    | succ i => cases hi
  have hc : ∀ i, (W.alloc (.cells #[.int .u8 a, .int .u8 b, .int .u8 c, .int .u8 d] 5 (0, 0))).cell? ⟨W.heap.size, i, none⟩ = (#[Value.int .u8 a, .int .u8 b, .int .u8 c, .int .u8 d] : Array Value)[i]? := fun i => by
    unfold World.cell?
    rw [h]
    rfl
  match j, hj with
  | 0, hj => obtain rfl := Option.some.inj hj; exact hc 0
  | 1, hj => obtain rfl := Option.some.inj hj; exact hc 1
  | 2, hj => obtain rfl := Option.some.inj hj; exact hc 2
  | 3, hj => obtain rfl := Option.some.inj hj; exact hc 3

theorem row_ne {W : World} {base n g : Nat} {v : Value} {xs : List Value} {ys : List Int} {t : TypeId} (ho : W.ownsRow base 5 1 v n xs) (hR : Row W g t ys) (ht : t ≠ 5) : some g ≠ v.ownBlock := fun e => by
  obtain ⟨cells, hc⟩ := own_typed ho g e.symm
  obtain ⟨cur, h1, -⟩ := hR
  rw [hc] at h1
  exact ht (by injection h1 with h1; injection h1 with _ h1; exact h1.symm)

theorem outB_length (ys xs : List Int) (n : Nat) : (outB ys xs n).length = 4 * n := by
  induction n with
  | zero => rfl
  | succ n ih => rw [outB, List.length_append, ih]; simp [wb]; omega
theorem make16 (W : World) : (Instr.makeSlice 45 (.int .i64 0) (.int .i64 16)).run Try.prog W = .ok (.slice (some ⟨W.heap.size, 0, none⟩) 0 16) (W.alloc (.cells #[.int .u32 0, .int .u32 0, .int .u32 0, .int .u32 0, .int .u32 0, .int .u32 0, .int .u32 0, .int .u32 0, .int .u32 0, .int .u32 0, .int .u32 0, .int .u32 0, .int .u32 0, .int .u32 0, .int .u32 0, .int .u32 0] 22 (0, 0))) := by kernel_rfl
theorem own16 (W : World) (base : Nat) (h : base ≤ W.heap.size) : (W.alloc (.cells #[.int .u32 0, .int .u32 0, .int .u32 0, .int .u32 0, .int .u32 0, .int .u32 0, .int .u32 0, .int .u32 0, .int .u32 0, .int .u32 0, .int .u32 0, .int .u32 0, .int .u32 0, .int .u32 0, .int .u32 0, .int .u32 0] 22 (0, 0))).ownsRow base 22 1 (.slice (some ⟨W.heap.size, 0, none⟩) 0 16) 0 [] :=
  ⟨rfl, .inr ⟨_, 16, _, rfl, h, World.alloc_heap_new W _, by decide, by decide, rfl, rfl⟩⟩
/-- A slice of sixteen words of one's own. -/
theorem R_row {W : World} {base : Nat} {ok : Nat → Prop} {v : Value} {xs : List Int} (h : Kd.R (Kd.int .u32) 22 W base ok v xs) (hl : xs.length = 16) : ∃ g cap, v = .slice (some ⟨g, 0, none⟩) 16 cap ∧ Row W g 22 xs ∧ base ≤ g := by
  have ho := Kd.own_of_R h
  rw [hl] at ho
  obtain ⟨g, cap, rfl⟩ := ownsRow_succ ho
  exact ⟨g, cap, rfl, row_of_own ho, own_base ho g rfl⟩

set_option maxRecDepth 100000 in
set_option maxHeartbeats 2000000 in
theorem sphragisref01_Block.calls (a0 : ByteArray) (a1 : Int) (a2 : ByteArray) (r1 : ByteArray) (r2 : Int) (w : World) (h : sphragisref01_Block.f a0 a1 a2 = some (r1, r2)) :
    Calls Try.prog 14 #[.string a0, .int .u32 a1, .string a2] w fun e w' => e = .returned (.tuple #[.string r1, .int .i64 r2]) ∧ Below w.heap.size w w' := by
  unfold sphragisref01_Block.f at h
  by_cases hk : a0.size = 32
  · by_cases hn : a2.size = 12
    · rw [if_pos ⟨hk, hn⟩] at h
      obtain ⟨xs, hS, hT⟩ := Option.bind_eq_some_iff.1 h
      clear h
      have hl : xs.length = 16 := by
        by_cases h : xs.length = 16
        · exact h
        · rw [if_neg h] at hT
          cases hT
      rw [if_pos hl] at hT
      simp only [Option.some.injEq, Prod.mk.injEq] at hT
      obtain ⟨rfl, rfl⟩ := hT
      have hk1 : ((a0.size : Int) == 32) = true := by rw [hk]; rfl
      have hn1 : ((a2.size : Int) == 12) = true := by rw [hn]; rfl
      have hk2 : ((a0.size : Int) != 32) = false := by rw [hk]; rfl
      have hn2 : ((a2.size : Int) != 12) = false := by rw [hn]; rfl
      have HS := Lib.hid hS
      clear hS hk hn
      go_enter Try.func14, Try.ntmps14
      go_wp2_with (go_at_call 23; refine (sphragisref01_State.calls 20 a0 a1 a2 xs _ HS.out).mono ?_; rintro e w1 ⟨v1, rfl, hv1, hb1⟩)
      obtain ⟨A1, c1, hv1e, hc1, hC1⟩ := Kd.R_reads hv1
      obtain ⟨g1, cap1, rfl, hR1, hg1⟩ := R_row hv1 hl
      have hmk := make16 w1
      have hown := own16 w1 w.heap.size hb1.size
      have hlt1 := hR1.lt
      have hO0 : Kd.R (Kd.int .u32) 22 (w1.alloc (.cells #[.int .u32 0, .int .u32 0, .int .u32 0, .int .u32 0, .int .u32 0, .int .u32 0, .int .u32 0, .int .u32 0, .int .u32 0, .int .u32 0, .int .u32 0, .int .u32 0, .int .u32 0, .int .u32 0, .int .u32 0, .int .u32 0] 22 (0, 0))) w.heap.size (fun _ => True) (.slice (some ⟨w1.heap.size, 0, none⟩) 0 16) [] := Kd.R_of_own hown (fun _ _ => trivial)
      have hba := hb1.alloc hb1.size (.cells #[.int .u32 0, .int .u32 0, .int .u32 0, .int .u32 0, .int .u32 0, .int .u32 0, .int .u32 0, .int .u32 0, .int .u32 0, .int .u32 0, .int .u32 0, .int .u32 0, .int .u32 0, .int .u32 0, .int .u32 0, .int .u32 0] 22 (0, 0))
      rw [hl] at hv1e hC1
      obtain ⟨hAe, -⟩ : A1 = some ⟨g1, 0, none⟩ ∧ c1 = cap1 := by simpa [eq_comm] using hv1e
      subst hAe
      have hC2 := Kd.C_below hC1 ((Below.refl _ w1).alloc (Nat.le_refl _) (.cells #[.int .u32 0, .int .u32 0, .int .u32 0, .int .u32 0, .int .u32 0, .int .u32 0, .int .u32 0, .int .u32 0, .int .u32 0, .int .u32 0, .int .u32 0, .int .u32 0, .int .u32 0, .int .u32 0, .int .u32 0, .int .u32 0] 22 (0, 0)))
      have hR1a := hR1.alloc (.cells #[.int .u32 0, .int .u32 0, .int .u32 0, .int .u32 0, .int .u32 0, .int .u32 0, .int .u32 0, .int .u32 0, .int .u32 0, .int .u32 0, .int .u32 0, .int .u32 0, .int .u32 0, .int .u32 0, .int .u32 0, .int .u32 0] 22 (0, 0))
      clear hv1 hv1e hc1
      rw [hmk]
      go_wp2_with ((with_reducible refine gate_builtin (b := .append) (xs := #[.tmp 26, .tmp 27]) rfl ?_); at_builtin; refine Kd.R_append_rows (Kd.int .u32) (Rr := fun x cs => cs = [.int .u32 x]) (w0 := w) w.heap.size rfl (.tmp 26) (.tmp 27) 45 22 (.int .u32 0) 4 rfl Try.underlying45 info22 rfl (by decide) (by decide) _ [] xs (some ⟨g1, 0, none⟩) 16 cap1 (fun _ => True) (fun _ => False) rfl rfl hO0 hC2 (fun _ _ h => h) (fun _ h => h.elim) (fun _ _ => trivial) hba (by simp; omega) (by simp) ?_; intro v2 w2 ho2 hb2 hgr2 hat2)
      obtain ⟨g2, cap2, rfl, hR2, hg2⟩ := R_row ho2 (by simpa using hl)
      rw [List.nil_append] at hR2
      have hne : g2 ≠ g1 := by
        rcases hat2 with h | ⟨b, h, hb⟩
        · have h' : g2 = w1.heap.size := Option.some.inj h
          omega
        · have h' : g2 = b := Option.some.inj h
          rw [World.size_alloc] at hb
          omega
      replace hR1 : Row w2 g1 22 xs := hR1a.kept (hgr2.block g1 hR1a.lt (fun e => by have e' : g1 = w1.heap.size := Option.some.inj e; omega))
      clear ho2 hgr2 hat2 hR1a hC2 hba hO0 hown hmk hC1 hb1 hlt1
      go_loopw [10] (fun vi wr => ∃ n : Nat, vi = .int .i64 n ∧ n ≤ 10 ∧ Row wr g2 22 (iter n xs) ∧ Row wr g1 22 xs ∧ Below w.heap.size w wr) (fun vi _ => 10 - (intOf vi).toNat)
      case atStart => exact ⟨0, rfl, by omega, hR2, hR1, hb2⟩
      case round =>
        clear hR2 hR1 hb2 HS
        obtain ⟨n, rfl, hn10, hR2, hR1, hB⟩ := hrel
        have hL : (iter n xs).length = 16 := by rw [iter_length, hl]
        by_cases hn1 : n = 10
        · subst hn1
          go_wp2
          go_loopw [11, 12] (fun vo vi wr => ∃ m : Nat, vi = .int .i64 m ∧ m ≤ 16 ∧ Kd.R (Kd.int .u8) 5 wr w.heap.size (fun _ => True) vo (outB (iter 10 xs) xs m) ∧ Row wr g2 22 (iter 10 xs) ∧ Row wr g1 22 xs ∧ Below w.heap.size w wr) (fun _ vi _ => 16 - (intOf vi).toNat)
          case atStart => exact ⟨0, rfl, by omega, Kd.R_nil _ _ _ _ _, hR2, hR1, hB⟩
          case round =>
            clear hR2 hR1 hB
            obtain ⟨m, rfl, hm, hO, hR2, hR1, hB⟩ := hrel
            by_cases hm1 : m = 16
            · subst hm1
              have hcv := own_string (P := Try.prog) Try.underlying35 Try.underlying5 Try.underlying9 (Kd.own_of_R hO)
              go_wp2
              go_ret2
              exact ⟨rfl, hB⟩
            · have hlt : decide ((m : Int) < 16) = true := decide_eq_true (by omega)
              have hm0 : (0 : Int) ≤ (m : Int) := by omega
              have hm16 : (m : Int) < 16 := by omega
              go_upto_region 20 with (fail)
              refine start_ (n := 10) (S := fun w' => Row w' g2 22 (iter 10 xs) ∧ Row w' g1 22 xs) (ds := []) #[false, false, false, false, false, false, false, false, false, false] (by kernel_rfl) rfl rfl ⟨hR2.kept rfl, hR1.kept rfl⟩ (fun hHeld => ?_)
              refine pure_ (i := 0) (N := some 53) (v := ?_) (a' := ?_) #[true, false, false, false, false, false, false, false, false, false] rfl rfl (by kernel_rfl) (fun _ _ _ h => h) (Or.inl ⟨by rfl, ?_⟩) ?_ ?_
              rotate_left
              · intro w'
                go_simp
                try (with_reducible rfl)
              rotate_left
              · simp only [Act.put, List.setIfInBounds_toArray, List.set_cons_zero, List.set_cons_succ, i64_w, i32_w]
                rfl
              refine pure_ (i := 1) (N := some 54) (v := ?_) (a' := ?_) #[true, true, false, false, false, false, false, false, false, false] rfl rfl (by kernel_rfl) (fun _ _ _ h => h) (Or.inl ⟨by rfl, ?_⟩) ?_ ?_
              rotate_left
              · intro w'
                go_simp
                try (with_reducible rfl)
              rotate_left
              · simp only [Act.put, List.setIfInBounds_toArray, List.set_cons_zero, List.set_cons_succ, i64_w, i32_w]
                rfl
              refine pure_ (i := 2) (N := some 55) (v := ?_) (a' := ?_) #[true, true, true, false, false, false, false, false, false, false] rfl rfl (by kernel_rfl) (fun _ _ _ h => h) (Or.inl ⟨by rfl, ?_⟩) ?_ ?_
              rotate_left
              · intro w'
                go_simp
                try (with_reducible rfl)
              rotate_left
              · simp only [Act.put, List.setIfInBounds_toArray, List.set_cons_zero, List.set_cons_succ, i64_w, i32_w]
                rfl
              refine take_ (i := 3) (N := some 56) (v := ?_) (a' := ?_) #[true, true, true, true, false, false, false, false, false, false] rfl rfl (by kernel_rfl) (fun _ _ _ h => h) (Or.inl ⟨by rfl, ?_⟩) hHeld ?_ ?_
              rotate_left
              · intro w' hS_
                have ca := hS_.1.cell m (by omega); have cb := hS_.2.cell m (by omega); have cf := hS_.1.frozen; have cf2 := hS_.2.frozen
                go_simp
                try (with_reducible rfl)
              rotate_left
              · simp only [Act.put, List.setIfInBounds_toArray, List.set_cons_zero, List.set_cons_succ, i64_w, i32_w]
                rfl
              refine pure_ (i := 4) (N := some 57) (v := ?_) (a' := ?_) #[true, true, true, true, true, false, false, false, false, false] rfl rfl (by kernel_rfl) (fun _ _ _ h => h) (Or.inl ⟨by rfl, ?_⟩) ?_ ?_
              rotate_left
              · intro w'
                go_simp
                try (with_reducible rfl)
              rotate_left
              · simp only [Act.put, List.setIfInBounds_toArray, List.set_cons_zero, List.set_cons_succ, i64_w, i32_w]
                rfl
              refine pure_ (i := 5) (N := some 58) (v := ?_) (a' := ?_) #[true, true, true, true, true, true, false, false, false, false] rfl rfl (by kernel_rfl) (fun _ _ _ h => h) (Or.inl ⟨by rfl, ?_⟩) ?_ ?_
              rotate_left
              · intro w'
                go_simp
                try (with_reducible rfl)
              rotate_left
              · simp only [Act.put, List.setIfInBounds_toArray, List.set_cons_zero, List.set_cons_succ, i64_w, i32_w]
                rfl
              refine pure_ (i := 6) (N := some 59) (v := ?_) (a' := ?_) #[true, true, true, true, true, true, true, false, false, false] rfl rfl (by kernel_rfl) (fun _ _ _ h => h) (Or.inl ⟨by rfl, ?_⟩) ?_ ?_
              rotate_left
              · intro w'
                go_simp
                try (with_reducible rfl)
              rotate_left
              · simp only [Act.put, List.setIfInBounds_toArray, List.set_cons_zero, List.set_cons_succ, i64_w, i32_w]
                rfl
              refine take_ (i := 7) (N := some 60) (v := ?_) (a' := ?_) #[true, true, true, true, true, true, true, true, false, false] rfl rfl (by kernel_rfl) (fun _ _ _ h => h) (Or.inl ⟨by rfl, ?_⟩) hHeld ?_ ?_
              rotate_left
              · intro w' hS_
                have ca := hS_.1.cell m (by omega); have cb := hS_.2.cell m (by omega); have cf := hS_.1.frozen; have cf2 := hS_.2.frozen
                go_simp
                try (with_reducible rfl)
              rotate_left
              · simp only [Act.put, List.setIfInBounds_toArray, List.set_cons_zero, List.set_cons_succ, i64_w, i32_w]
                rfl
              refine pure_ (i := 8) (N := some 61) (v := ?_) (a' := ?_) #[true, true, true, true, true, true, true, true, true, false] rfl rfl (by kernel_rfl) (fun _ _ _ h => h) (Or.inl ⟨by rfl, ?_⟩) ?_ ?_
              rotate_left
              · intro w'
                go_simp
                try (with_reducible rfl)
              rotate_left
              · simp only [Act.put, List.setIfInBounds_toArray, List.set_cons_zero, List.set_cons_succ, i64_w, i32_w]
                rfl
              refine pure_ (i := 9) (N := some 13) (v := ?_) (a' := ?_) #[true, true, true, true, true, true, true, true, true, true] rfl rfl (by kernel_rfl) (fun _ _ _ h => h) (Or.inl ⟨by rfl, ?_⟩) ?_ ?_
              rotate_left
              · intro w'
                go_simp
                try (with_reducible rfl)
              rotate_left
              · simp only [Act.put, List.setIfInBounds_toArray, List.set_cons_zero, List.set_cons_succ, i64_w, i32_w]
                rfl
              refine done_ (by kernel_rfl) ?_
              have hB1 := hB.drew
              have hO1 := Kd.R_drew hO
              have hR1' : Row wr.drew g1 22 xs := hR1.kept rfl
              have hR2' : Row wr.drew g2 22 (iter 10 xs) := hR2.kept rfl
              clear hR1 hR2 hO hB hHeld
              generalize wr.drew = W5 at hB1 hO1 hR1' hR2' ⊢
              generalize hx : IntKind.u32.wrap (wrd (iter 10 xs) m + wrd xs m) = x
              have hlen := outB_length (iter 10 xs) xs m
              have hout : outB (iter 10 xs) xs (m + 1) = outB (iter 10 xs) xs m ++ wb x := by rw [outB, hx]
              generalize outB (iter 10 xs) xs m = L at hO1 hlen hout
              have hbase := hB1.size
              go_wp2_with ((with_reducible refine gate_builtin (b := .append) (xs := #[.tmp 62, .tmp 74]) rfl ?_); at_builtin; refine Kd.R_append_rows (Kd.int .u8) (Rr := fun x cs => cs = [.int .u8 x]) (w0 := w) w.heap.size rfl (.tmp 62) (.tmp 74) 35 5 (.int .u8 0) 1 rfl Try.underlying35 info5 rfl (by decide) (by decide) u11 L (wb x) (some ⟨W5.heap.size, 0, none⟩) 4 4 (fun _ => True) (fun _ => False) rfl rfl ?p1 ?p2 (fun _ _ h => h) (fun _ h => h.elim) (fun _ _ => trivial) ?p3 ?p4 ?p5 ?_; (case p1 => exact Kd.R_alloc hO1 _); (case p2 => exact reads4 _ _ _ _ _); (case p3 => exact hB1.alloc hB1.size _); (case p4 => (rw [World.size_alloc]; omega)); (case p5 => (rw [hlen]; omega)); intro v3 w3 ho3 hb3 hgr3 hat3)
              have n1 := row_ne (Kd.own_of_R hO1) hR1' (by decide)
              have n2 := row_ne (Kd.own_of_R hO1) hR2' (by decide)
              have hR1 := (hR1'.alloc (.cells #[.int .u8 (x % 256), .int .u8 (x / 256 % 256), .int .u8 (x / 65536 % 256), .int .u8 (x / 16777216 % 256)] 5)).kept (hgr3.block g1 (hR1'.alloc _).lt n1)
              have hR2 := (hR2'.alloc (.cells #[.int .u8 (x % 256), .int .u8 (x / 256 % 256), .int .u8 (x / 65536 % 256), .int .u8 (x / 16777216 % 256)] 5)).kept (hgr3.block g2 (hR2'.alloc _).lt n2)
              go_round
              case rel =>
                repeat apply Exists.intro
                refine ⟨?_, rfl⟩
                exact ⟨m + 1, by go_num, by omega, by rw [hout]; exact ho3, hR2, hR1, hb3⟩
              case measure => simp [intOf]; omega
        · have hlt : decide ((n : Int) < 10) = true := decide_eq_true (by omega)
          go_wp2_with (go_at_call 24; (first | with_reducible refine (at_c0 g2 cap2 _ _ hR2 (by simp only [atL_length, iter_length, hl])).mono ?_ | with_reducible refine (at_c1 g2 cap2 _ _ hR2 (by simp only [atL_length, iter_length, hl])).mono ?_ | with_reducible refine (at_c2 g2 cap2 _ _ hR2 (by simp only [atL_length, iter_length, hl])).mono ?_ | with_reducible refine (at_c3 g2 cap2 _ _ hR2 (by simp only [atL_length, iter_length, hl])).mono ?_ | with_reducible refine (at_c4 g2 cap2 _ _ hR2 (by simp only [atL_length, iter_length, hl])).mono ?_ | with_reducible refine (at_c5 g2 cap2 _ _ hR2 (by simp only [atL_length, iter_length, hl])).mono ?_ | with_reducible refine (at_c6 g2 cap2 _ _ hR2 (by simp only [atL_length, iter_length, hl])).mono ?_ | with_reducible refine (at_c7 g2 cap2 _ _ hR2 (by simp only [atL_length, iter_length, hl])).mono ?_); rintro e W' ⟨⟨v, rfl⟩, hA, hGr⟩; have hR1' := hR1.kept (hGr.block g1 hR1.lt (by simpa using hne.symm)); have hB' := hB.grown hGr hB.size (fun k hk => by cases hk; exact hg2); clear hR1 hR2 hB hGr; have hR1 := hR1'; have hR2 := hA; have hB := hB'; clear hR1' hA hB')
          exact ⟨⟨n + 1, by go_num, by omega, hR2, hR1, hB⟩, by simp [intOf]; omega⟩
    · rw [if_neg (fun h => hn h.2)] at h
      simp only [Option.some.injEq, Prod.mk.injEq] at h
      obtain ⟨rfl, rfl⟩ := h
      have hk1 : ((a0.size : Int) == 32) = true := by rw [hk]; rfl
      have hk2 : ((a0.size : Int) != 32) = false := by rw [hk]; rfl
      have hn1 : ((a2.size : Int) == 12) = false := beq_eq_false_iff_ne.2 (by omega)
      have hn2 : ((a2.size : Int) != 12) = true := bne_iff_ne.2 (by omega)
      go_enter Try.func14, Try.ntmps14
      go_wp2
      go_ret2
      exact ⟨rfl, Below.refl _ _⟩
  · rw [if_neg (fun h => hk h.1)] at h
    simp only [Option.some.injEq, Prod.mk.injEq] at h
    obtain ⟨rfl, rfl⟩ := h
    have hk1 : ((a0.size : Int) == 32) = false := beq_eq_false_iff_ne.2 (by omega)
    have hk2 : ((a0.size : Int) != 32) = true := bne_iff_ne.2 (by omega)
    go_enter Try.func14, Try.ntmps14
    go_wp2
    go_ret2
    exact ⟨rfl, Below.refl _ _⟩

end Go.Proofs.Ytgckdmilgonnlaa.H
