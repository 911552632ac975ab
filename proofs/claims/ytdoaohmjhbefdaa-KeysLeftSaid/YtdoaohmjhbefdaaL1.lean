/- The laws' calls, as they are used: what each gives on a list of at most 400 keys. -/
import Derived.Test.YtdoaohmjhbefdaaP1
namespace Go.Proofs.Ytdoaohmjhbefdaa.H
open Go.RowKit Go.Shelf Go.Proofs.YtdoaohmjhbefdaaW.PrintWords Go.Proofs.YtdoaohmjhbefdaaW.PrintLast Go.Proofs.YtdoaohmjhbefdaaW.PrintMore Go.Proofs.Ytdoaohmjhbefdaa.CopyK
attribute [local go_sem] Oper.semAt_some max2_int min2_int max_two min_two
set_option linter.unusedVariables false
set_option linter.unusedSimpArgs false
set_option maxRecDepth 100000

theorem shown_true : sphragislaw04_shown.f 200 = some true := by decide +kernel
theorem shown_ok (w : World) : Calls Try.prog 9 #[] w fun e w' => e = .returned (.bool true) ∧ Below w.heap.size w w' :=
  sphragislaw04_shown.calls 200 true w shown_true
theorem newest_ok (A : Option Addr) (c : Nat) (L : List S25) (a e : Int) (w : World) (hC : Kd.C k25 w A L.length L) (hc : L.length ≤ c) (hl : L.length ≤ 400) (h : newOf L = (a, e)) :
    Calls Try.prog 19 #[.slice A L.length c] w fun r w' => r = .returned (.tuple #[.int .u32 a, .int .i64 e]) ∧ Below w.heap.size w w' :=
  keys_Newest.calls A c L a e w hC hc (by rw [prognew L hl, h])
theorem rnewest_ok (A : Option Addr) (c : Nat) (L : List S25) (a e : Int) (w : World) (hC : Kd.C k25 w A L.length L) (hc : L.length ≤ c) (hl : L.length ≤ 400) (h : newOf L = (a, e)) :
    Calls Try.prog 20 #[.slice A L.length c] w fun r w' => r = .returned (.tuple #[.int .u32 a, .int .i64 e]) ∧ Below w.heap.size w w' :=
  (sphragisref04_Newest.calls 1000 A c L a e w hC hc (by rw [refnew L 1000 hl (by omega), h])).mono fun r w' h => by
    first | exact h | (obtain ⟨h1, nd, rfl⟩ := h; exact ⟨h1, pw_below_drewN (Below.refl _ _) _⟩)
theorem right_ok (A : Option Addr) (c : Nat) (L : List S25) (b : Bool) (w : World) (hC : Kd.C k25 w A L.length L) (hc : L.length ≤ c) (hl : L.length ≤ 400) (h : rightB L = b) :
    Calls Try.prog 18 #[.slice A L.length c] w fun r w' => r = .returned (.bool b) ∧ Below w.heap.size w w' :=
  keys_Right.calls A c L b w hC hc (by rw [progright L (by omega), h])
theorem rright_ok (A : Option Addr) (c : Nat) (L : List S25) (b : Bool) (w : World) (hC : Kd.C k25 w A L.length L) (hc : L.length ≤ c) (hl : L.length ≤ 400) (h : rightB L = b) :
    Calls Try.prog 21 #[.slice A L.length c] w fun r w' => r = .returned (.bool b) ∧ Below w.heap.size w w' :=
  (sphragisref04_Right.calls 1000 A c L b w hC hc (by rw [refright L 1000 (by omega) (by omega), h])).mono fun r w' h => by
    first | exact h | (obtain ⟨h1, nd, rfl⟩ := h; exact ⟨h1, pw_below_drewN (Below.refl _ _) _⟩)
theorem add_ok (A : Option Addr) (c : Nat) (L : List S25) (g : Int) (s : ByteArray) (a : List S25) (e : Int) (w : World) (hC : Kd.C k25 w A L.length L) (hc : L.length ≤ c) (hl : L.length ≤ 400) (h : addOf L ⟨g, s⟩ = (a, e)) :
    Calls Try.prog 10 #[.slice A L.length c, .agg #[.int .u32 g, .string s]] w fun r w' => ∃ v, r = .returned (.tuple #[v, .int .i64 e]) ∧ Kd.R k25 25 w' w.heap.size (fun _ => True) v a ∧ Below w.heap.size w w' :=
  keys_Add.calls A c L g s a e w hC hc (by rw [← h]; exact progadd L ⟨g, s⟩ hl)
theorem radd_ok (A : Option Addr) (c : Nat) (L : List S25) (g : Int) (s : ByteArray) (a : List S25) (e : Int) (w : World) (hC : Kd.C k25 w A L.length L) (hc : L.length ≤ c) (hl : L.length ≤ 400) (h : addOf L ⟨g, s⟩ = (a, e)) :
    Calls Try.prog 12 #[.slice A L.length c, .agg #[.int .u32 g, .string s]] w fun r w' => ∃ v, r = .returned (.tuple #[v, .int .i64 e]) ∧ Kd.R k25 25 w' w.heap.size (fun _ => True) v a ∧ Below w.heap.size w w' :=
  sphragisref04_Add.calls 3000 A c L g s a e w hC hc (by rw [← h]; exact refadd L ⟨g, s⟩ 3000 hl (by omega))
theorem find_ok (A : Option Addr) (c : Nat) (L : List S25) (g : Int) (x : Int) (y : ByteArray) (e : Int) (w : World) (hC : Kd.C k25 w A L.length L) (hc : L.length ≤ c) (hl : L.length ≤ 400) (h : findOf L g = (x, y, e)) :
    Calls Try.prog 16 #[.slice A L.length c, .int .u32 g] w fun r w' => r = .returned (.tuple #[.agg #[.int .u32 x, .string y], .int .i64 e]) ∧ Below w.heap.size w w' :=
  keys_Find.calls A c L g x y e w hC hc (by rw [progfind L g hl, h])
theorem rfind_ok (A : Option Addr) (c : Nat) (L : List S25) (g : Int) (x : Int) (y : ByteArray) (e : Int) (w : World) (hC : Kd.C k25 w A L.length L) (hc : L.length ≤ c) (hl : L.length ≤ 400) (h : findOf L g = (x, y, e)) :
    Calls Try.prog 17 #[.slice A L.length c, .int .u32 g] w fun r w' => r = .returned (.tuple #[.agg #[.int .u32 x, .string y], .int .i64 e]) ∧ Below w.heap.size w w' :=
  sphragisref04_Find.calls 1000 A c L g x y e w hC hc (by rw [reffind L g 1000 hl (by omega), h])

theorem eqA_refl (x : S25) : ∀ (l : List S25) (m k i : Nat), i + m = l.length → l.length ≤ 1000 → m < k → sphragisref04_Same.l0 k l l (i : Int) = some true := by
  intro l m
  induction m with
  | zero =>
    intro k i hi hl hk
    obtain ⟨k, rfl⟩ : ∃ j, k = j + 1 := ⟨k - 1, by omega⟩
    rw [sphragisref04_Same.l0, if_neg (by omega)]
  | succ m ih =>
    intro k i hi hl hk
    obtain ⟨k, rfl⟩ : ∃ j, k = j + 1 := ⟨k - 1, by omega⟩
    have h1 : (i : Int) < (l.length : Int) := by omega
    have h0 : (0 : Int) ≤ (i : Int) := by omega
    rw [sphragisref04_Same.l0]
    simp only [h0, h1, if_true]
    simp only [wrapS i (by omega), ih k (i + 1) (by omega) hl (by omega)]
    simp
theorem same_eq (l : List S25) (hl : l.length ≤ 1000) : sphragisref04_Same.f 2000 l l = some true := by
  unfold sphragisref04_Same.f
  have h := eqA_refl ⟨0, ⟨#[]⟩⟩ l l.length 2000 0 (by omega) hl (by omega)
  simp only [if_true]
  exact h
theorem same_ok (A A' : Option Addr) (c c' : Nat) (L : List S25) (w : World) (hC : Kd.C k25 w A L.length L) (hC' : Kd.C k25 w A' L.length L) (hc : L.length ≤ c) (hc' : L.length ≤ c') (hl : L.length ≤ 400) :
    Calls Try.prog 13 #[.slice A L.length c, .slice A' L.length c'] w fun r w' => r = .returned (.bool true) ∧ Below w.heap.size w w' :=
  (sphragisref04_Same.calls 2000 A c L A' c' L true w hC hc hC' hc' (same_eq L (by omega))).mono fun r w' h => by
    first | exact h | (obtain ⟨h1, nd, rfl⟩ := h; exact ⟨h1, pw_below_drewN (Below.refl _ _) _⟩)

set_option maxHeartbeats 8000000 in
theorem cut_calls (A0 : Option Addr) (n c0 : Nat) (hn : n ≤ c0) (w : World) :
    Calls Try.prog 11 #[.slice A0 n c0] w fun e w' => e = .returned (.slice A0 (min n 30) c0) ∧ Below w.heap.size w w' := by
  have HB := Aside0.mk (Below.refl w.heap.size w)
  obtain ⟨m, hm⟩ : ∃ m, min n 30 = m := ⟨_, rfl⟩
  have hji2_ : (if 30 < (n : Int) then 30 else (n : Int)) = (m : Int) := by split <;> omega
  have c1 : (0 : Int) ≤ (m : Int) := by omega
  have c2 : (m : Int) ≤ (n : Int) := by omega
  obtain ⟨i06, hi06, _, hsz6, _⟩ := info_parts info25
  have hcut6 := cut_to (P := Try.prog) 22 25 .i64 Try.underlying22 hi06 A0 n c0 (m : Int) c1 c2 hn
  rw [Int.toNat_natCast] at hcut6
  rw [hm]
  clear hi06 hsz6
  go_enter Try.func11, Try.ntmps11
  go_wp2
  go_ret
  exact ⟨rfl, by repeat (first | (with_reducible first | exact HB.out | apply below_alloc | apply pw_below_drewN | apply below_drew1) | exact HB.out)⟩

end Go.Proofs.Ytdoaohmjhbefdaa.H
