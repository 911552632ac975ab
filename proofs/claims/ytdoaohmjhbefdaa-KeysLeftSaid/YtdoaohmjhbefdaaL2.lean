/- KeysRight: the walk. -/
import Derived.Test.YtdoaohmjhbefdaaL1
import Derived.Test.YtdoaohmjhbefdaaP2
namespace Go.Proofs.Ytdoaohmjhbefdaa.H
open Go.RowKit Go.Shelf Go.Proofs.YtdoaohmjhbefdaaW.PrintWords Go.Proofs.YtdoaohmjhbefdaaW.PrintLast Go.Proofs.YtdoaohmjhbefdaaW.PrintMore Go.Proofs.Ytdoaohmjhbefdaa.CopyK
attribute [local go_sem] Oper.semAt_some
set_option linter.unusedVariables false
set_option linter.unusedSimpArgs false
set_option maxRecDepth 100000

theorem drop_ok (A : Option Addr) (c : Nat) (L : List S25) (g : Int) (a : List S25) (e : Int) (w : World) (hC : Kd.C k25 w A L.length L) (hc : L.length ≤ c) (hl : L.length ≤ 400) (h : dropOf L g = (a, e)) :
    Calls Try.prog 14 #[.slice A L.length c, .int .u32 g] w fun r w' => ∃ v, r = .returned (.tuple #[v, .int .i64 e]) ∧ Kd.R k25 25 w' w.heap.size (fun _ => True) v a ∧ Below w.heap.size w w' :=
  keys_Drop.calls A c L g a e w hC hc (by rw [← h]; exact progdrop L g hl)
theorem rdrop_ok (A : Option Addr) (c : Nat) (L : List S25) (g : Int) (a : List S25) (e : Int) (w : World) (hC : Kd.C k25 w A L.length L) (hc : L.length ≤ c) (hl : L.length ≤ 400) (h : dropOf L g = (a, e)) :
    Calls Try.prog 15 #[.slice A L.length c, .int .u32 g] w fun r w' => ∃ v, r = .returned (.tuple #[v, .int .i64 e]) ∧ Kd.R k25 25 w' w.heap.size (fun _ => True) v a ∧ Below w.heap.size w w' :=
  sphragisref04_Drop.calls 1000 A c L g a e w hC hc (by rw [← h]; exact refdrop L g 1000 hl (by omega))

set_option maxHeartbeats 8000000 in
theorem KeysRight_walk (A0 : Option Addr) (n c0 : Nat) (L : List S25) (W : World) (hn : n ≤ c0) (hL : L.length = min n 30) (hC : Kd.C k25 W A0 L.length L) :
    Calls Try.prog 7 #[.slice A0 n c0] W fun e W' => e = .returned (.bool true) ∧ Below W.heap.size W W' := by
  obtain ⟨a, e, hne⟩ : ∃ a e, newOf L = (a, e) := ⟨_, _, rfl⟩
  obtain ⟨b, hb⟩ : ∃ b, rightB L = b := ⟨_, rfl⟩
  have hl : L.length ≤ 400 := by omega
  have hc : L.length ≤ c0 := by omega
  have Hne := Lib.hid hne
  have Hb := Lib.hid hb
  have HL := Lib.hid hL
  have HC := Lib.hid hC
  clear hne hb hL hC
  go_enter Try.func7, Try.ntmps7
  go_wp2_with fail
  refine (shown_ok _).mono ?_
  rintro r w1 ⟨rfl, hb1⟩
  go_wp2_with fail
  refine (cut_calls _ _ _ hn _).mono ?_
  rintro r w2 ⟨rfl, hb2⟩
  rw [← HL.out]
  have hB2 := hb1.trans (hb2.mono hb1.size)
  clear hb1 hb2
  go_wp2_with fail
  refine (newest_ok A0 c0 L a e _ (Kd.C_below HC.out hB2) hc hl Hne.out).mono ?_
  rintro r w3 ⟨rfl, hb3⟩
  have hB3 := hB2.trans (hb3.mono hB2.size)
  clear hb3 hB2
  go_wp2_with fail
  refine (rnewest_ok A0 c0 L a e _ (Kd.C_below HC.out hB3) hc hl Hne.out).mono ?_
  rintro r w4 ⟨rfl, hb4⟩
  have hB4 := hB3.trans (hb4.mono hB3.size)
  clear hb4 hB3
  go_wp2_with fail
  refine (right_ok A0 c0 L b _ (Kd.C_below HC.out hB4) hc hl Hb.out).mono ?_
  rintro r w5 ⟨rfl, hb5⟩
  have hB5 := hB4.trans (hb5.mono hB4.size)
  clear hb5 hB4
  go_wp2_with fail
  refine (rright_ok A0 c0 L b _ (Kd.C_below HC.out hB5) hc hl Hb.out).mono ?_
  rintro r w6 ⟨rfl, hb6⟩
  have hB6 := hB5.trans (hb6.mono hB5.size)
  clear hb6 hB5
  go_wp2
  go_ret
  exact ⟨by simp, hB6⟩

end Go.Proofs.Ytdoaohmjhbefdaa.H
