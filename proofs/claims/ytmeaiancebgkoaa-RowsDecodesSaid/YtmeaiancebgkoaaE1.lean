/- What the laws call: shown, Encode, Decode, Right, in plain words. -/
import Derived.Test.YtmeaiancebgkoaaRE
import Derived.Test.YtmeaiancebgkoaaRD
import Derived.Test.YtmeaiancebgkoaaH11
namespace Go.Proofs.Ytmeaiancebgkoaa.H
open Go.RowKit Go.Shelf Go.Proofs.YtmeaiancebgkoaaW.PrintWords Go.Proofs.YtmeaiancebgkoaaW.PrintLast Go.Proofs.YtmeaiancebgkoaaW.PrintMore
set_option maxRecDepth 100000

theorem shown_true : sphragislaw10_shown.f 20 = some true := by decide +kernel
theorem shown_ok (w : World) : Calls Try.prog 10 #[] w fun e w' => e = .returned (.bool true) ∧ Below w.heap.size w w' :=
  sphragislaw10_shown.calls 20 true w shown_true
theorem encP_right {p : Pg} (hr : rightP p = true) : encP p = (⟨(encL p).toArray⟩, 0) := if_pos hr
theorem encP_wrong {p : Pg} (hr : ¬ rightP p = true) : encP p = (⟨#[]⟩, 90) := if_neg hr
theorem Dec (s : ByteArray) (q : Pg) (e : Int) (h : decP s = (q, e)) (w : World) :
    Calls Try.prog 18 #[.string s] w fun r w' => ∃ v4_ v5_ : Value, r = .returned (.tuple #[.agg #[.int .i64 q.k, .int .u32 q.x, .int .u32 q.y, .int .i64 q.lv, v4_, v5_, .int .u32 q.np, .string q.nt], .int .i64 e]) ∧ Kd.R k47 47 w' w.heap.size (fun _ => True) v4_ q.rows ∧ Kd.R k28 28 w' w.heap.size (fun _ => True) v5_ q.kids ∧ Below w.heap.size w w' :=
  rows_Decode.calls s _ _ _ _ _ _ _ _ _ w (by rw [rows_Decode.f, h])
theorem Enc (p : Pg) (A4 A5 : Option Addr) (c4 c5 : Nat) (r : ByteArray) (e : Int) (h : encP p = (r, e)) (hp : pageIn p) (w : World) (h4 : Kd.C k47 w A4 p.rows.length p.rows) (hc4 : p.rows.length ≤ c4) (h5 : Kd.C k28 w A5 p.kids.length p.kids) (hc5 : p.kids.length ≤ c5) :
    Calls Try.prog 16 #[.agg #[.int .i64 p.k, .int .u32 p.x, .int .u32 p.y, .int .i64 p.lv, .slice A4 p.rows.length c4, .slice A5 p.kids.length c5, .int .u32 p.np, .string p.nt]] w fun e' w' => e' = .returned (.tuple #[.string r, .int .i64 e]) ∧ Below w.heap.size w w' :=
  rows_Encode.calls p.k p.x p.y p.lv A4 c4 p.rows A5 c5 p.kids p.np p.nt r e w h4 hc4 h5 hc5 (by rw [rows_Encode.f, if_pos hp]; exact congrArg some h)
theorem Right_ok (p : Pg) (b : Bool) (hp : pageIn p) (hb : rightP p = b) (A4 A5 : Option Addr) (c4 c5 : Nat) (w : World) (h4 : Kd.C k47 w A4 p.rows.length p.rows) (hc4 : p.rows.length ≤ c4) (h5 : Kd.C k28 w A5 p.kids.length p.kids) (hc5 : p.kids.length ≤ c5) :
    Calls Try.prog 13 #[.agg #[.int .i64 p.k, .int .u32 p.x, .int .u32 p.y, .int .i64 p.lv, .slice A4 p.rows.length c4, .slice A5 p.kids.length c5, .int .u32 p.np, .string p.nt]] w fun e w' => e = .returned (.bool b) ∧ Below w.heap.size w w' :=
  rows_Right.calls 20 p.k p.x p.y p.lv A4 c4 p.rows A5 c5 p.kids p.np p.nt b w h4 hc4 h5 hc5 (by rw [Right_f p 20 (by decide) hp.2.2.2.2.1, hb])
end Go.Proofs.Ytmeaiancebgkoaa.H
