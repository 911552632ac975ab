/- What a reader reads, in plain words. -/
import Derived.Test.YtmeaiancebgkoaaRT
import Derived.Test.YtmeaiancebgkoaaRP
import Derived.Test.YtmeaiancebgkoaaH8
set_option maxRecDepth 100000
set_option linter.unusedSimpArgs false
set_option linter.unusedVariables false
namespace Go.Proofs.Ytmeaiancebgkoaa.H
open Go.RowKit Go.Proofs.YtmeaiancebgkoaaW.PrintWords Go.Proofs.YtmeaiancebgkoaaW.PrintLast Go.Proofs.YtmeaiancebgkoaaW.PrintMore

/-- A reader's state: what is left, and whether there was too little. -/
abbrev RSt := ByteArray × Bool
def zeros (n : Nat) : ByteArray := ⟨(List.replicate n (0 : UInt8)).toArray⟩
def takeS (st : RSt) (n : Nat) : ByteArray × RSt := if st.1.size < n then (zeros n, st.1, true) else (st.1.extract 0 n, st.1.extract n st.1.size, st.2)
def getS (st : RSt) (n : Nat) : Nat × RSt := (num (takeS st n).1.data.toList, (takeS st n).2)
def refS (st : RSt) : Ref × RSt := (⟨((getS st 4).1 : Int), (takeS (getS st 4).2 32).1⟩, (takeS (getS st 4).2 32).2)
theorem zeros_size (n : Nat) : (zeros n).size = n := by rw [ba_size, zeros, ba_mk, List.length_replicate]
theorem takeS_size (st : RSt) (n : Nat) : (takeS st n).1.size = n := by
  unfold takeS
  split
  · exact zeros_size n
  · rw [ByteArray.size_extract]
    omega
theorem getS_lt (st : RSt) (n : Nat) : (getS st n).1 < 256 ^ n := by
  have h := num_lt (takeS st n).1.data.toList
  rw [← ba_size, takeS_size] at h
  exact h
theorem repeat_f (n : Nat) (hn : n ≤ 1000) : strings_Repeat.f (⟨#[0]⟩ : ByteArray) (n : Int) = some (zeros n) := by
  rw [strings_Repeat.f, if_pos ⟨by omega, by omega, by rw [Int.toNat_natCast]; show 1 * n ≤ _; omega⟩, Int.toNat_natCast]
  congr 1
  rw [zeros, ← repeat_one n]
theorem take_f (st : RSt) (n : Nat) (hn : n ≤ 1000) : rows_reader_take.f st.1 st.2 (n : Int) = some (takeS st n) := by
  unfold rows_reader_take.f takeS
  by_cases h : st.1.size < n
  · rw [if_pos (by omega), if_pos h, repeat_f n hn]
    rfl
  · rw [if_neg (by omega), if_neg h, if_pos (by omega), if_pos (by omega), Int.toNat_natCast]
theorem get_f (st : RSt) (n : Nat) (hn : n ≤ 8) : rows_reader_get.f st.1 st.2 (n : Int) = some (((getS st n).1 : Int), (getS st n).2.1, (getS st n).2.2) := by
  rw [rows_reader_get.f, if_pos ⟨by omega, by omega⟩, take_f st n (by omega)]
  rfl
theorem ref_f (st : RSt) : rows_reader_ref.f st.1 st.2 = some ((refS st).1.f0, (refS st).1.f1, (refS st).2.1, (refS st).2.2) := by
  unfold rows_reader_ref.f
  have h4 := get_f st 4 (by decide)
  have h32 := take_f (getS st 4).2 32 (by decide)
  have hl := getS_lt st 4
  rw [show ((4 : Nat) : Int) = 4 from rfl] at h4
  rw [show ((32 : Nat) : Int) = 32 from rfl] at h32
  rw [h4, Option.bind_some]
  simp only
  rw [h32, Option.bind_some]
  have : ((getS st 4).1 : Int) % 4294967296 = ((getS st 4).1 : Int) := by
    have : (256 : Nat) ^ 4 = 4294967296 := by decide
    omega
  rw [this]
  rfl

/-- A row that is read. -/
def rowS (st : RSt) : Row × RSt :=
  (⟨((getS st 8).1 : Int), ((getS (getS st 8).2 4).1 : Int), ((getS (getS (getS st 8).2 4).2 4).1 : Int), (takeS (getS (getS (getS (getS st 8).2 4).2 4).2 1).2 (getS (getS (getS (getS st 8).2 4).2 4).2 1).1).1⟩,
   (takeS (getS (getS (getS (getS st 8).2 4).2 4).2 1).2 (getS (getS (getS (getS st 8).2 4).2 4).2 1).1).2)
/-- The state behind so many rows, and the next row. -/
def stAt (st : RSt) : Nat → RSt
  | 0 => st
  | k + 1 => (rowS (stAt st k)).2
def rowAt (st : RSt) (k : Nat) : Row := (rowS (stAt st k)).1
def rowsTo (st : RSt) (k : Nat) : List Row := (List.range k).map (rowAt st)
theorem rowsTo_succ (st : RSt) (k : Nat) : rowsTo st (k + 1) = rowsTo st k ++ [rowAt st k] := by
  rw [rowsTo, List.range_succ, List.map_append]
  rfl
theorem rowsTo_length (st : RSt) (k : Nat) : (rowsTo st k).length = k := by rw [rowsTo, List.length_map, List.length_range]
/-- How many of n rows are read: until too little is left, or there are more than four. -/
def stops (st : RSt) (k : Nat) : Bool := (stAt st k).2 || decide (4 < k)
def readTo (st : RSt) (n : Nat) : Nat → Nat → Nat
  | 0, k => k
  | f + 1, k => if k = n then k else if stops st (k + 1) = true then k + 1 else readTo st n f (k + 1)
def kidsAt (st : RSt) : Nat → List Ref × RSt
  | 0 => ([], st)
  | k + 1 => ((kidsAt st k).1 ++ [(refS (kidsAt st k).2).1], (refS (kidsAt st k).2).2)
def innerS (st : RSt) (n : Nat) : Pg × RSt :=
  let l := getS st 1
  let x := getS l.2 4
  let y := getS x.2 4
  let q := kidsAt y.2 (min n 5)
  (⟨2, x.1, y.1, l.1, [], q.1, 0, ⟨#[]⟩⟩, q.2)
def leafS (st : RSt) (k n : Nat) : Pg × RSt :=
  let r := refS st
  let m := readTo r.2 n n 0
  (⟨k, 0, 0, 0, rowsTo r.2 m, [], r.1.f0, if r.1.f0 = 0 ∧ r.1.f1 = zeros 32 then ⟨#[]⟩ else r.1.f1⟩, stAt r.2 m)
def pageS (st : RSt) : Pg × RSt :=
  let k := getS st 1
  let n := getS k.2 1
  if k.1 = 2 then innerS n.2 n.1 else leafS n.2 k.1 n.1
def pgNil : Pg := ⟨0, 0, 0, 0, [], [], 0, ⟨#[]⟩⟩
def decP (s : ByteArray) : Pg × Int :=
  let r := pageS (s, false)
  if r.2.2 = false ∧ r.2.1.size = 0 ∧ rightP r.1 = true then (r.1, 0) else (pgNil, 90)
def rows_Decode.f (s : ByteArray) : Option (Int × Int × Int × Int × List Row × List Ref × Int × ByteArray × Int) :=
  some ((decP s).1.k, (decP s).1.x, (decP s).1.y, (decP s).1.lv, (decP s).1.rows, (decP s).1.kids, (decP s).1.np, (decP s).1.nt, (decP s).2)
theorem kidsAt_length (st : RSt) (k : Nat) : (kidsAt st k).1.length = k := by
  induction k with
  | zero => rfl
  | succ k ih => rw [kidsAt, List.length_append, ih]; rfl
end Go.Proofs.Ytmeaiancebgkoaa.H
