-- Written by a program of this session (hyb.py), which drives the print over functions some of which are proved by hand.
import Derived.Test.YtmeaiancebgkoaaH0
import Derived.Test.YtmeaiancebgkoaaH13
import Derived.Test.YtmeaiancebgkoaaH14
namespace Go.Proofs.Ytmeaiancebgkoaa.H
open Go.RowKit Go.Proofs.YtmeaiancebgkoaaW.PrintWords Go.Proofs.YtmeaiancebgkoaaW.PrintLast Go.Proofs.YtmeaiancebgkoaaW.PrintMore
attribute [local go_sem] max2_int min2_int max_two min_two max_three min_three max_four min_four   -- for this text's walks alone
set_option linter.unusedVariables false
set_option linter.unusedSimpArgs false

/-! ### sphragisref10_Encode: function 17 -/
mutual
def sphragisref10_Encode.l0 : Nat → ByteArray → Int → Int → Int → Int → Int → List (S47) → List (S28) → Int → ByteArray → Option (ByteArray × Int)
  | 0, _, _, _, _, _, _, _, _, _, _ => none
  | k + 1, x5, x6, x177000, x177001, x177002, x177003, x177004, x177005, x177006, x177007 => if x6 < (x177005.length : Int) then (if 0 ≤ x6 then ((sphragisref10_put.f k (IntKind.u64.wrap ((rd_T28 x177005 x6).f0)) 4).bind fun t183 => (if x5.size + t183.size ≤ 9223372036854775807 then (if x5.size + t183.size + ((rd_T28 x177005 x6).f1).size ≤ 9223372036854775807 then (sphragisref10_Encode.l0 k ((x5 ++ t183) ++ ((rd_T28 x177005 x6).f1)) (wrap64 (x6 + 1)) x177000 x177001 x177002 x177003 x177004 x177005 x177006 x177007) else (none)) else (none))) else (none)) else (some (x5, 0))
def sphragisref10_Encode.j1 : Nat → ByteArray → Int → Int → Int → Int → List (S47) → List (S28) → Int → ByteArray → Option (ByteArray × Int)
  | 0, _, _, _, _, _, _, _, _, _ => none
  | k + 1, x7, x177000, x177001, x177002, x177003, x177004, x177005, x177006, x177007 => (sphragisref10_put.f k (IntKind.u64.wrap ((x177004.length : Int))) 1).bind fun t188 => (if 1 + t188.size ≤ 9223372036854775807 then ((sphragisref10_put.f k (IntKind.u64.wrap (x177006)) 4).bind fun t189 => (if 1 + t188.size + t189.size ≤ 9223372036854775807 then (if 1 + t188.size + t189.size + x7.size ≤ 9223372036854775807 then (sphragisref10_Encode.l1 k ((((⟨#[1]⟩ : ByteArray) ++ t188) ++ t189) ++ x7) 0 x177000 x177001 x177002 x177003 x177004 x177005 x177006 x177007) else (none)) else (none))) else (none))
def sphragisref10_Encode.l1 : Nat → ByteArray → Int → Int → Int → Int → Int → List (S47) → List (S28) → Int → ByteArray → Option (ByteArray × Int)
  | 0, _, _, _, _, _, _, _, _, _, _ => none
  | k + 1, x8, x9, x177000, x177001, x177002, x177003, x177004, x177005, x177006, x177007 => if x9 < (x177004.length : Int) then (if 0 ≤ x9 then ((sphragisref10_put.f k ((rd_T47 x177004 x9).f0) 8).bind fun t192 => (if x8.size + t192.size ≤ 9223372036854775807 then ((sphragisref10_put.f k (IntKind.u64.wrap ((rd_T47 x177004 x9).f1)) 4).bind fun t193 => (if x8.size + t192.size + t193.size ≤ 9223372036854775807 then ((sphragisref10_put.f k (IntKind.u64.wrap ((rd_T47 x177004 x9).f2)) 4).bind fun t194 => (if x8.size + t192.size + t193.size + t194.size ≤ 9223372036854775807 then ((sphragisref10_put.f k (IntKind.u64.wrap ((((rd_T47 x177004 x9).f3).size : Int))) 1).bind fun t195 => (if x8.size + t192.size + t193.size + t194.size + t195.size ≤ 9223372036854775807 then (if x8.size + t192.size + t193.size + t194.size + t195.size + ((rd_T47 x177004 x9).f3).size ≤ 9223372036854775807 then (sphragisref10_Encode.l1 k (((((x8 ++ t192) ++ t193) ++ t194) ++ t195) ++ ((rd_T47 x177004 x9).f3)) (wrap64 (x9 + 1)) x177000 x177001 x177002 x177003 x177004 x177005 x177006 x177007) else (none)) else (none))) else (none))) else (none))) else (none))) else (none)) else (some (x8, 0))
end
def sphragisref10_Encode.f (k : Nat) (a0_0 : Int) (a0_1 : Int) (a0_2 : Int) (a0_3 : Int) (l0_4 : List (S47)) (l0_5 : List (S28)) (a0_6 : Int) (a0_7 : ByteArray) : Option (ByteArray × Int) := (sphragisref10_Right.f k a0_0 a0_1 a0_2 a0_3 l0_4 l0_5 a0_6 a0_7).bind fun t177 => (if t177 = true then (if a0_0 = 2 then ((sphragisref10_put.f k (IntKind.u64.wrap ((l0_5.length : Int))) 1).bind fun t178 => (if 1 + t178.size ≤ 9223372036854775807 then ((sphragisref10_put.f k (IntKind.u64.wrap (a0_3)) 1).bind fun t179 => (if 1 + t178.size + t179.size ≤ 9223372036854775807 then ((sphragisref10_put.f k (IntKind.u64.wrap (a0_1)) 4).bind fun t180 => (if 1 + t178.size + t179.size + t180.size ≤ 9223372036854775807 then ((sphragisref10_put.f k (IntKind.u64.wrap (a0_2)) 4).bind fun t181 => (if 1 + t178.size + t179.size + t180.size + t181.size ≤ 9223372036854775807 then (sphragisref10_Encode.l0 k (((((⟨#[2]⟩ : ByteArray) ++ t178) ++ t179) ++ t180) ++ t181) 0 a0_0 a0_1 a0_2 a0_3 l0_4 l0_5 a0_6 a0_7) else (none))) else (none))) else (none))) else (none))) else (if a0_7.toList = ([] : List UInt8) then (if 32 ≤ 281474976710656 then (sphragisref10_Encode.j1 k (strOfNums (List.replicate 32 0)) a0_0 a0_1 a0_2 a0_3 l0_4 l0_5 a0_6 a0_7) else (none)) else (sphragisref10_Encode.j1 k a0_7 a0_0 a0_1 a0_2 a0_3 l0_4 l0_5 a0_6 a0_7))) else (some ((⟨#[]⟩ : ByteArray), 90)))
theorem sphragisref10_Encode.mono_l : ∀ k, (∀ y0 y1 y2 y3 y4 y5 y6 y7 y8 y9, LeO (sphragisref10_Encode.l0 k y0 y1 y2 y3 y4 y5 y6 y7 y8 y9) (sphragisref10_Encode.l0 (k + 1) y0 y1 y2 y3 y4 y5 y6 y7 y8 y9)) ∧ (∀ y0 y1 y2 y3 y4 y5 y6 y7 y8, LeO (sphragisref10_Encode.j1 k y0 y1 y2 y3 y4 y5 y6 y7 y8) (sphragisref10_Encode.j1 (k + 1) y0 y1 y2 y3 y4 y5 y6 y7 y8)) ∧ (∀ y0 y1 y2 y3 y4 y5 y6 y7 y8 y9, LeO (sphragisref10_Encode.l1 k y0 y1 y2 y3 y4 y5 y6 y7 y8 y9) (sphragisref10_Encode.l1 (k + 1) y0 y1 y2 y3 y4 y5 y6 y7 y8 y9))
  | 0 => ⟨fun _ _ _ _ _ _ _ _ _ _ r h => by simp [sphragisref10_Encode.l0] at h, fun _ _ _ _ _ _ _ _ _ r h => by simp [sphragisref10_Encode.j1] at h, fun _ _ _ _ _ _ _ _ _ _ r h => by simp [sphragisref10_Encode.l1] at h⟩
  | k + 1 => by
    obtain ⟨ih0, ih1, ih2⟩ := sphragisref10_Encode.mono_l k
    refine ⟨?_, ?_, ?_⟩
    · intro y0 y1 y2 y3 y4 y5 y6 y7 y8 y9
      unfold sphragisref10_Encode.l0
      repeat' first
      | (with_reducible exact ih0 _ _ _ _ _ _ _ _ _ _)
      | (with_reducible exact ih1 _ _ _ _ _ _ _ _ _)
      | (with_reducible exact ih2 _ _ _ _ _ _ _ _ _ _)
      | (with_reducible exact sphragisref10_Right.mono _ _ _ _ _ _ _ _ _)
      | (with_reducible exact sphragisref10_put.mono _ _ _)
      | (with_reducible exact LeO.refl _)
      | (with_reducible exact LeO.none _)
      | (with_reducible refine LeO.ite ?_ ?_)
      | (with_reducible refine LeO.bind ?_ (fun _ => ?_))
      | exact ih0 _ _ _ _ _ _ _ _ _ _
      | exact ih1 _ _ _ _ _ _ _ _ _
      | exact ih2 _ _ _ _ _ _ _ _ _ _
      | exact sphragisref10_Right.mono _ _ _ _ _ _ _ _ _
      | exact sphragisref10_put.mono _ _ _
      | exact LeO.none _
      | refine LeO.ite ?_ ?_
      | refine LeO.bind ?_ (fun _ => ?_)
    · intro y0 y1 y2 y3 y4 y5 y6 y7 y8
      unfold sphragisref10_Encode.j1
      repeat' first
      | (with_reducible exact ih0 _ _ _ _ _ _ _ _ _ _)
      | (with_reducible exact ih1 _ _ _ _ _ _ _ _ _)
      | (with_reducible exact ih2 _ _ _ _ _ _ _ _ _ _)
      | (with_reducible exact sphragisref10_Right.mono _ _ _ _ _ _ _ _ _)
      | (with_reducible exact sphragisref10_put.mono _ _ _)
      | (with_reducible exact LeO.refl _)
      | (with_reducible exact LeO.none _)
      | (with_reducible refine LeO.ite ?_ ?_)
      | (with_reducible refine LeO.bind ?_ (fun _ => ?_))
      | exact ih0 _ _ _ _ _ _ _ _ _ _
      | exact ih1 _ _ _ _ _ _ _ _ _
      | exact ih2 _ _ _ _ _ _ _ _ _ _
      | exact sphragisref10_Right.mono _ _ _ _ _ _ _ _ _
      | exact sphragisref10_put.mono _ _ _
      | exact LeO.none _
      | refine LeO.ite ?_ ?_
      | refine LeO.bind ?_ (fun _ => ?_)
    · intro y0 y1 y2 y3 y4 y5 y6 y7 y8 y9
      unfold sphragisref10_Encode.l1
      repeat' first
      | (with_reducible exact ih0 _ _ _ _ _ _ _ _ _ _)
      | (with_reducible exact ih1 _ _ _ _ _ _ _ _ _)
      | (with_reducible exact ih2 _ _ _ _ _ _ _ _ _ _)
      | (with_reducible exact sphragisref10_Right.mono _ _ _ _ _ _ _ _ _)
      | (with_reducible exact sphragisref10_put.mono _ _ _)
      | (with_reducible exact LeO.refl _)
      | (with_reducible exact LeO.none _)
      | (with_reducible refine LeO.ite ?_ ?_)
      | (with_reducible refine LeO.bind ?_ (fun _ => ?_))
      | exact ih0 _ _ _ _ _ _ _ _ _ _
      | exact ih1 _ _ _ _ _ _ _ _ _
      | exact ih2 _ _ _ _ _ _ _ _ _ _
      | exact sphragisref10_Right.mono _ _ _ _ _ _ _ _ _
      | exact sphragisref10_put.mono _ _ _
      | exact LeO.none _
      | refine LeO.ite ?_ ?_
      | refine LeO.bind ?_ (fun _ => ?_)
theorem sphragisref10_Encode.mono : ∀ a0 a1 a2 a3 a4 a5 a6 a7 k, LeO (sphragisref10_Encode.f k a0 a1 a2 a3 a4 a5 a6 a7) (sphragisref10_Encode.f (k + 1) a0 a1 a2 a3 a4 a5 a6 a7) := by
  intro a0 a1 a2 a3 a4 a5 a6 a7 k
  obtain ⟨ih0, ih1, ih2⟩ := sphragisref10_Encode.mono_l k
  unfold sphragisref10_Encode.f
  repeat' first
      | (with_reducible exact ih0 _ _ _ _ _ _ _ _ _ _)
      | (with_reducible exact ih1 _ _ _ _ _ _ _ _ _)
      | (with_reducible exact ih2 _ _ _ _ _ _ _ _ _ _)
      | (with_reducible exact sphragisref10_Right.mono _ _ _ _ _ _ _ _ _)
      | (with_reducible exact sphragisref10_put.mono _ _ _)
      | (with_reducible exact LeO.refl _)
      | (with_reducible exact LeO.none _)
      | (with_reducible refine LeO.ite ?_ ?_)
      | (with_reducible refine LeO.bind ?_ (fun _ => ?_))
      | exact ih0 _ _ _ _ _ _ _ _ _ _
      | exact ih1 _ _ _ _ _ _ _ _ _
      | exact ih2 _ _ _ _ _ _ _ _ _ _
      | exact sphragisref10_Right.mono _ _ _ _ _ _ _ _ _
      | exact sphragisref10_put.mono _ _ _
      | exact LeO.none _
      | refine LeO.ite ?_ ?_
      | refine LeO.bind ?_ (fun _ => ?_)
def sphragisref10_Encode.T5 : Bool × List (List Nat × List Nat) := (true, [([], []), ([0], [0]), ([1], [1]), ([2], [2]), ([3], [3]), ([4], [4]), ([], []), ([6], [6]), ([7], [7]), ([8], [8]), ([9, 4], [9]), ([5, 10], [5, 10]), ([], []), ([12], [12]), ([13], [13]), ([14], [14]), ([15, 10], [15]), ([11, 16], [11, 16]), ([], []), ([18], [18]), ([19], [19]), ([20], [20]), ([21, 16], [21]), ([17, 22], [17, 22]), ([23, 22, 0, 1, 2, 3, 4, 5, 6, 7, 8, 9, 10, 11, 12, 13, 14, 15, 16, 17, 18, 19, 20, 21, 22, 23], [23])])
def sphragisref10_Encode.B5 : List Nat := [0, 1, 3, 7, 15, 31, 0, 64, 192, 448, 991, 2047, 0, 4096, 12288, 28672, 63455, 131071, 0, 262144, 786432, 1835008, 4061151, 8388607, 16777215]
theorem sphragisref10_Encode.tab5 : rtab .any (opsOf Try.f17 5) = sphragisref10_Encode.T5 := by kernel_rfl
theorem sphragisref10_Encode.bits5 : waitsOk sphragisref10_Encode.T5.2 sphragisref10_Encode.B5 = true := by kernel_rfl
def sphragisref10_Encode.T9 : Bool × List (List Nat × List Nat) := (true, [([], []), ([], []), ([1], [1]), ([], []), ([2, 3], [2, 3]), ([4], [4]), ([5], [5]), ([6], [6]), ([7], [7]), ([0, 8], [0, 8]), ([], []), ([10], [10]), ([], []), ([11, 12], [11, 12]), ([13], [13]), ([14], [14]), ([9, 15], [9, 15]), ([16, 8, 0, 1, 2, 3, 4, 5, 6, 7, 8, 9, 10, 11, 12, 13, 14, 15, 16], [0, 16])])
def sphragisref10_Encode.B9 : List Nat := [0, 0, 2, 0, 14, 30, 62, 126, 254, 511, 0, 1024, 0, 7168, 15360, 31744, 65535, 131071]
theorem sphragisref10_Encode.tab9 : rtab .any (opsOf Try.f17 9) = sphragisref10_Encode.T9 := by kernel_rfl
theorem sphragisref10_Encode.bits9 : waitsOk sphragisref10_Encode.T9.2 sphragisref10_Encode.B9 = true := by kernel_rfl
def sphragisref10_Encode.T14 : Bool × List (List Nat × List Nat) := (true, [([], []), ([0], [0]), ([1], [1]), ([2], [2]), ([3], [3]), ([4], [4]), ([], []), ([6], [6]), ([7], [7]), ([8], [8]), ([9, 4], [9]), ([5, 10], [5, 10]), ([], []), ([11, 12], [11, 12]), ([13, 10, 0, 1, 2, 3, 4, 5, 6, 7, 8, 9, 10, 11, 12, 13], [13])])
def sphragisref10_Encode.B14 : List Nat := [0, 1, 3, 7, 15, 31, 0, 64, 192, 448, 991, 2047, 0, 8191, 16383]
theorem sphragisref10_Encode.tab14 : rtab .any (opsOf Try.f17 14) = sphragisref10_Encode.T14 := by kernel_rfl
theorem sphragisref10_Encode.bits14 : waitsOk sphragisref10_Encode.T14.2 sphragisref10_Encode.B14 = true := by kernel_rfl
def sphragisref10_Encode.T19 : Bool × List (List Nat × List Nat) := (true, [([], []), ([], []), ([1], [1]), ([2], [2]), ([0, 3], [0, 3]), ([], []), ([5], [5]), ([6], [6]), ([7, 3], [7]), ([4, 8], [4, 8]), ([], []), ([10], [10]), ([11], [11]), ([12, 8], [12]), ([9, 13], [9, 13]), ([], []), ([15], [15]), ([16], [16]), ([17], [17]), ([18, 13], [18]), ([14, 19], [14, 19]), ([], []), ([21], [21]), ([20, 22], [20, 22]), ([23, 19, 0, 1, 2, 3, 4, 5, 6, 7, 8, 9, 10, 11, 12, 13, 14, 15, 16, 17, 18, 19, 20, 21, 22, 23], [0, 23])])
def sphragisref10_Encode.B19 : List Nat := [0, 0, 2, 6, 15, 0, 32, 96, 238, 511, 0, 1024, 3072, 7662, 16383, 0, 32768, 98304, 229376, 507374, 1048575, 0, 2097152, 8388607, 16777215]
theorem sphragisref10_Encode.tab19 : rtab .any (opsOf Try.f17 19) = sphragisref10_Encode.T19 := by kernel_rfl
theorem sphragisref10_Encode.bits19 : waitsOk sphragisref10_Encode.T19.2 sphragisref10_Encode.B19 = true := by kernel_rfl
set_option maxHeartbeats 8000000 in
set_option maxRecDepth 100000 in
theorem sphragisref10_Encode.calls (k : Nat) (a0_0 : Int) (a0_1 : Int) (a0_2 : Int) (a0_3 : Int) (A0_4 : Option Addr) (c0_4 : Nat) (l0_4 : List (S47)) (A0_5 : Option Addr) (c0_5 : Nat) (l0_5 : List (S28)) (a0_6 : Int) (a0_7 : ByteArray) (r1 : ByteArray) (r2 : Int) (w : World) (hr0_4 : Kd.C k47 w A0_4 l0_4.length l0_4) (hc0_4 : l0_4.length ≤ c0_4) (hr0_5 : Kd.C k28 w A0_5 l0_5.length l0_5) (hc0_5 : l0_5.length ≤ c0_5) (h : sphragisref10_Encode.f k a0_0 a0_1 a0_2 a0_3 l0_4 l0_5 a0_6 a0_7 = some (r1, r2)) :
    Calls Try.prog 17 #[.agg #[.int .i64 a0_0, .int .u32 a0_1, .int .u32 a0_2, .int .i64 a0_3, .slice A0_4 l0_4.length c0_4, .slice A0_5 l0_5.length c0_5, .int .u32 a0_6, .string a0_7]] w fun e w' => e = .returned (.tuple #[.string r1, .int .i64 r2]) ∧ Below w.heap.size w w' := by
  have hu30 := Try.underlying30
  have hu47 := Try.underlying47
  have HR0_4 := Aside0.mk hr0_4
  have HC0_4 := Aside0.mk hc0_4
  clear hr0_4 hc0_4
  have HR0_5 := Aside0.mk hr0_5
  have HC0_5 := Aside0.mk hc0_5
  clear hr0_5 hc0_5
  have HB := Aside0.mk (Below.refl w.heap.size w)
  have H : ((sphragisref10_Right.f k a0_0 a0_1 a0_2 a0_3 l0_4 l0_5 a0_6 a0_7).bind fun t177 => (if t177 = true then (if a0_0 = 2 then ((sphragisref10_put.f k (IntKind.u64.wrap ((l0_5.length : Int))) 1).bind fun t178 => (if 1 + t178.size ≤ 9223372036854775807 then ((sphragisref10_put.f k (IntKind.u64.wrap (a0_3)) 1).bind fun t179 => (if 1 + t178.size + t179.size ≤ 9223372036854775807 then ((sphragisref10_put.f k (IntKind.u64.wrap (a0_1)) 4).bind fun t180 => (if 1 + t178.size + t179.size + t180.size ≤ 9223372036854775807 then ((sphragisref10_put.f k (IntKind.u64.wrap (a0_2)) 4).bind fun t181 => (if 1 + t178.size + t179.size + t180.size + t181.size ≤ 9223372036854775807 then (sphragisref10_Encode.l0 k (((((⟨#[2]⟩ : ByteArray) ++ t178) ++ t179) ++ t180) ++ t181) 0 a0_0 a0_1 a0_2 a0_3 l0_4 l0_5 a0_6 a0_7) else (none))) else (none))) else (none))) else (none))) else (if a0_7.toList = ([] : List UInt8) then (if 32 ≤ 281474976710656 then (sphragisref10_Encode.j1 k (strOfNums (List.replicate 32 0)) a0_0 a0_1 a0_2 a0_3 l0_4 l0_5 a0_6 a0_7) else (none)) else (sphragisref10_Encode.j1 k a0_7 a0_0 a0_1 a0_2 a0_3 l0_4 l0_5 a0_6 a0_7))) else (some ((⟨#[]⟩ : ByteArray), 90)))) = some (r1, r2) := h
  clear h
  replace H := Option.bind_eq_some_iff.mp H
  obtain ⟨t177, A20, H⟩ := H
  replace H : (if t177 = true then (if a0_0 = 2 then ((sphragisref10_put.f k (IntKind.u64.wrap ((l0_5.length : Int))) 1).bind fun t178 => (if 1 + t178.size ≤ 9223372036854775807 then ((sphragisref10_put.f k (IntKind.u64.wrap (a0_3)) 1).bind fun t179 => (if 1 + t178.size + t179.size ≤ 9223372036854775807 then ((sphragisref10_put.f k (IntKind.u64.wrap (a0_1)) 4).bind fun t180 => (if 1 + t178.size + t179.size + t180.size ≤ 9223372036854775807 then ((sphragisref10_put.f k (IntKind.u64.wrap (a0_2)) 4).bind fun t181 => (if 1 + t178.size + t179.size + t180.size + t181.size ≤ 9223372036854775807 then (sphragisref10_Encode.l0 k (((((⟨#[2]⟩ : ByteArray) ++ t178) ++ t179) ++ t180) ++ t181) 0 a0_0 a0_1 a0_2 a0_3 l0_4 l0_5 a0_6 a0_7) else (none))) else (none))) else (none))) else (none))) else (if a0_7.toList = ([] : List UInt8) then (if 32 ≤ 281474976710656 then (sphragisref10_Encode.j1 k (strOfNums (List.replicate 32 0)) a0_0 a0_1 a0_2 a0_3 l0_4 l0_5 a0_6 a0_7) else (none)) else (sphragisref10_Encode.j1 k a0_7 a0_0 a0_1 a0_2 a0_3 l0_4 l0_5 a0_6 a0_7))) else (some ((⟨#[]⟩ : ByteArray), 90))) = some (r1, r2) := H
  have A2 := Aside0.mk A20
  clear A20
  by_cases c3 : t177 = true
  · subst c3
    have H1 : (if a0_0 = 2 then ((sphragisref10_put.f k (IntKind.u64.wrap ((l0_5.length : Int))) 1).bind fun t178 => (if 1 + t178.size ≤ 9223372036854775807 then ((sphragisref10_put.f k (IntKind.u64.wrap (a0_3)) 1).bind fun t179 => (if 1 + t178.size + t179.size ≤ 9223372036854775807 then ((sphragisref10_put.f k (IntKind.u64.wrap (a0_1)) 4).bind fun t180 => (if 1 + t178.size + t179.size + t180.size ≤ 9223372036854775807 then ((sphragisref10_put.f k (IntKind.u64.wrap (a0_2)) 4).bind fun t181 => (if 1 + t178.size + t179.size + t180.size + t181.size ≤ 9223372036854775807 then (sphragisref10_Encode.l0 k (((((⟨#[2]⟩ : ByteArray) ++ t178) ++ t179) ++ t180) ++ t181) 0 a0_0 a0_1 a0_2 a0_3 l0_4 l0_5 a0_6 a0_7) else (none))) else (none))) else (none))) else (none))) else (if a0_7.toList = ([] : List UInt8) then (if 32 ≤ 281474976710656 then (sphragisref10_Encode.j1 k (strOfNums (List.replicate 32 0)) a0_0 a0_1 a0_2 a0_3 l0_4 l0_5 a0_6 a0_7) else (none)) else (sphragisref10_Encode.j1 k a0_7 a0_0 a0_1 a0_2 a0_3 l0_4 l0_5 a0_6 a0_7))) = some (r1, r2) := by rw [if_pos rfl] at H; exact H
    clear H
    have H := H1
    clear H1
    by_cases c4 : a0_0 = 2
    · rw [if_pos c4] at H
      have c4b0 : (a0_0 == 2) = true := beq_iff_eq.mpr c4
      have c4b1 : (a0_0 != 2) = false := bne_eq_false_iff_eq.mpr c4
      clear c4
      replace H := Option.bind_eq_some_iff.mp H
      obtain ⟨t178, A50, H⟩ := H
      replace H : (if 1 + t178.size ≤ 9223372036854775807 then ((sphragisref10_put.f k (IntKind.u64.wrap (a0_3)) 1).bind fun t179 => (if 1 + t178.size + t179.size ≤ 9223372036854775807 then ((sphragisref10_put.f k (IntKind.u64.wrap (a0_1)) 4).bind fun t180 => (if 1 + t178.size + t179.size + t180.size ≤ 9223372036854775807 then ((sphragisref10_put.f k (IntKind.u64.wrap (a0_2)) 4).bind fun t181 => (if 1 + t178.size + t179.size + t180.size + t181.size ≤ 9223372036854775807 then (sphragisref10_Encode.l0 k (((((⟨#[2]⟩ : ByteArray) ++ t178) ++ t179) ++ t180) ++ t181) 0 a0_0 a0_1 a0_2 a0_3 l0_4 l0_5 a0_6 a0_7) else (none))) else (none))) else (none))) else (none)) = some (r1, r2) := H
      have A5 := Aside0.mk A50
      clear A50
      by_cases c6 : 1 + t178.size ≤ 9223372036854775807
      · rw [if_pos c6] at H
        have c6b0 := eq_true c6
        have c6b1 : decide (1 + t178.size ≤ 9223372036854775807) = true := decide_eq_true c6
        try have c6b2 : (9223372036854775807 < 1 + t178.size) = False := eq_false (Nat.not_lt.2 c6)
        replace H := Option.bind_eq_some_iff.mp H
        obtain ⟨t179, A70, H⟩ := H
        replace H : (if 1 + t178.size + t179.size ≤ 9223372036854775807 then ((sphragisref10_put.f k (IntKind.u64.wrap (a0_1)) 4).bind fun t180 => (if 1 + t178.size + t179.size + t180.size ≤ 9223372036854775807 then ((sphragisref10_put.f k (IntKind.u64.wrap (a0_2)) 4).bind fun t181 => (if 1 + t178.size + t179.size + t180.size + t181.size ≤ 9223372036854775807 then (sphragisref10_Encode.l0 k (((((⟨#[2]⟩ : ByteArray) ++ t178) ++ t179) ++ t180) ++ t181) 0 a0_0 a0_1 a0_2 a0_3 l0_4 l0_5 a0_6 a0_7) else (none))) else (none))) else (none)) = some (r1, r2) := H
        have A7 := Aside0.mk A70
        clear A70
        by_cases c8 : 1 + t178.size + t179.size ≤ 9223372036854775807
        · rw [if_pos c8] at H
          have c8b0 := eq_true c8
          have c8b1 : decide (1 + t178.size + t179.size ≤ 9223372036854775807) = true := decide_eq_true c8
          try have c8b2 : (9223372036854775807 < 1 + t178.size + t179.size) = False := eq_false (Nat.not_lt.2 c8)
          replace H := Option.bind_eq_some_iff.mp H
          obtain ⟨t180, A90, H⟩ := H
          replace H : (if 1 + t178.size + t179.size + t180.size ≤ 9223372036854775807 then ((sphragisref10_put.f k (IntKind.u64.wrap (a0_2)) 4).bind fun t181 => (if 1 + t178.size + t179.size + t180.size + t181.size ≤ 9223372036854775807 then (sphragisref10_Encode.l0 k (((((⟨#[2]⟩ : ByteArray) ++ t178) ++ t179) ++ t180) ++ t181) 0 a0_0 a0_1 a0_2 a0_3 l0_4 l0_5 a0_6 a0_7) else (none))) else (none)) = some (r1, r2) := H
          have A9 := Aside0.mk A90
          clear A90
          by_cases c10 : 1 + t178.size + t179.size + t180.size ≤ 9223372036854775807
          · rw [if_pos c10] at H
            have c10b0 := eq_true c10
            have c10b1 : decide (1 + t178.size + t179.size + t180.size ≤ 9223372036854775807) = true := decide_eq_true c10
            try have c10b2 : (9223372036854775807 < 1 + t178.size + t179.size + t180.size) = False := eq_false (Nat.not_lt.2 c10)
            replace H := Option.bind_eq_some_iff.mp H
            obtain ⟨t181, A110, H⟩ := H
            replace H : (if 1 + t178.size + t179.size + t180.size + t181.size ≤ 9223372036854775807 then (sphragisref10_Encode.l0 k (((((⟨#[2]⟩ : ByteArray) ++ t178) ++ t179) ++ t180) ++ t181) 0 a0_0 a0_1 a0_2 a0_3 l0_4 l0_5 a0_6 a0_7) else (none)) = some (r1, r2) := H
            have A11 := Aside0.mk A110
            clear A110
            by_cases c12 : 1 + t178.size + t179.size + t180.size + t181.size ≤ 9223372036854775807
            · rw [if_pos c12] at H
              have c12b0 := eq_true c12
              have c12b1 : decide (1 + t178.size + t179.size + t180.size + t181.size ≤ 9223372036854775807) = true := decide_eq_true c12
              try have c12b2 : (9223372036854775807 < 1 + t178.size + t179.size + t180.size + t181.size) = False := eq_false (Nat.not_lt.2 c12)
              have H' := Aside0.mk H
              clear H
              go_enter Try.func17, Try.ntmps17
              try go_wp2_with (first | ((with_reducible refine gate_dst (N := 1) rfl ?_); refine box_event ?hg (N := 1) ?hd (cs := #[.int .i64 a0_0, .int .u32 a0_1, .int .u32 a0_2, .int .i64 a0_3, .slice A0_4 l0_4.length c0_4, .slice A0_5 l0_5.length c0_5, .int .u32 a0_6, .string a0_7]) (t := 30) ?hr ?_; (case hd => rfl); (case hg => rfl); (case hr => first | (go_simp; done) | (go_simp; rfl)); intro gb176 hg w13 hbox hb; have n0_ := Aside0.mk (below_step (by repeat (first | (with_reducible first | exact HB.out | apply below_alloc | apply pw_below_drewN | apply below_drew1) | exact HB.out)) hb); have n1_ := Aside0.mk (hbox); have n2_ := Aside0.mk ((by rw [hg]; exact (below_size (by repeat (first | (with_reducible first | exact HB.out | apply below_alloc | apply pw_below_drewN | apply below_drew1) | exact HB.out))) : w.heap.size ≤ gb176)); have n3_ := Aside0.mk ((by rw [hg]; exact (below_size (by repeat (first | (with_reducible first | exact HB.out | apply below_alloc | apply pw_below_drewN | apply below_drew1) | exact HB.out))) : w.heap.size ≤ gb176)); clear HB; have HB := n0_; have BK176 := n1_; have GW176 := n2_; have GE176 := n3_; clear n0_ n1_ n2_ n3_; clear hb hbox hg; have hcz14_0 : w13.cell? ⟨gb176, 0, none⟩ = some (.int .i64 a0_0) := (blk_cell BK176.out 0).trans rfl; have hcz14_1 : w13.cell? ⟨gb176, 1, none⟩ = some (.int .u32 a0_1) := (blk_cell BK176.out 1).trans rfl; have hcz14_2 : w13.cell? ⟨gb176, 2, none⟩ = some (.int .u32 a0_2) := (blk_cell BK176.out 2).trans rfl; have hcz14_3 : w13.cell? ⟨gb176, 3, none⟩ = some (.int .i64 a0_3) := (blk_cell BK176.out 3).trans rfl; have hcz14_4 : w13.cell? ⟨gb176, 4, none⟩ = some (.slice A0_4 l0_4.length c0_4) := (blk_cell BK176.out 4).trans rfl; have hcz14_5 : w13.cell? ⟨gb176, 5, none⟩ = some (.slice A0_5 l0_5.length c0_5) := (blk_cell BK176.out 5).trans rfl; have hcz14_6 : w13.cell? ⟨gb176, 6, none⟩ = some (.int .u32 a0_6) := (blk_cell BK176.out 6).trans rfl; have hcz14_7 : w13.cell? ⟨gb176, 7, none⟩ = some (.string a0_7) := (blk_cell BK176.out 7).trans rfl; have hfz14_0 := blk_frozen BK176.out 0; have hfz14_1 := blk_frozen BK176.out 1; have hfz14_2 := blk_frozen BK176.out 2; have hfz14_3 := blk_frozen BK176.out 3; have hfz14_4 := blk_frozen BK176.out 4; have hfz14_5 := blk_frozen BK176.out 5; have hfz14_6 := blk_frozen BK176.out 6; have hfz14_7 := blk_frozen BK176.out 7) | ((with_reducible refine gate_callee (f := 15) rfl ?_); refine goesL_ (some 12) rfl rfl Try.func15 (by kernel_rfl) rfl #[.agg #[.int .i64 a0_0, .int .u32 a0_1, .int .u32 a0_2, .int .i64 a0_3, .slice A0_4 l0_4.length c0_4, .slice A0_5 l0_5.length c0_5, .int .u32 a0_6, .string a0_7]] rfl (by (try simp only [List.map_toArray, List.map_cons, List.map_nil]); first | done | rfl | (simp only [List.length_drop, List.length_take]; rfl)) ?_; (with_reducible refine (sphragisref10_Right.calls k a0_0 a0_1 a0_2 a0_3 _ _ l0_4 _ _ l0_5 a0_6 a0_7 true _ ?side1 ?side2 ?side3 ?side4 A2.out).mono ?_); (case side1 => repeat (first | exact (Kd.C_below HR0_4.out HB.out) | (with_reducible refine Kd.C_alloc ?_ _) | (with_reducible refine Kd.C_drewN ?_ _) | (with_reducible refine Kd.C_drew ?_))); (case side2 => exact HC0_4.out); (case side3 => repeat (first | exact (Kd.C_below HR0_5.out HB.out) | (with_reducible refine Kd.C_alloc ?_ _) | (with_reducible refine Kd.C_drewN ?_ _) | (with_reducible refine Kd.C_drew ?_))); (case side4 => exact HC0_5.out); rintro e w15 ⟨rfl, hb⟩; refine ⟨_, rfl, ?_⟩; have n0_ := Aside0.mk (blk_below (g := gb176) (o := .cells #[.int .i64 a0_0, .int .u32 a0_1, .int .u32 a0_2, .int .i64 a0_3, .slice A0_4 l0_4.length c0_4, .slice A0_5 l0_5.length c0_5, .int .u32 a0_6, .string a0_7] 30 (0, 0)) (by (with_reducible repeat (first | refine blk_drewN ?_ _ | refine blk_drew ?_ | refine blk_alloc ?_ _)); exact BK176.out) hb); have n1_ := Aside0.mk (below_step (by repeat (first | (with_reducible first | exact HB.out | apply below_alloc | apply pw_below_drewN | apply below_drew1 | refine below_set ?_ GE176.out) | exact HB.out)) hb); clear BK176; clear HB; have BK176 := n0_; have HB := n1_; clear n0_ n1_; (try clear hb); (try clear hb2); (try clear hk); (try clear hi); have hcz16_0 : w15.cell? ⟨gb176, 0, none⟩ = some (.int .i64 a0_0) := (blk_cell BK176.out 0).trans rfl; have hcz16_1 : w15.cell? ⟨gb176, 1, none⟩ = some (.int .u32 a0_1) := (blk_cell BK176.out 1).trans rfl; have hcz16_2 : w15.cell? ⟨gb176, 2, none⟩ = some (.int .u32 a0_2) := (blk_cell BK176.out 2).trans rfl; have hcz16_3 : w15.cell? ⟨gb176, 3, none⟩ = some (.int .i64 a0_3) := (blk_cell BK176.out 3).trans rfl; have hcz16_4 : w15.cell? ⟨gb176, 4, none⟩ = some (.slice A0_4 l0_4.length c0_4) := (blk_cell BK176.out 4).trans rfl; have hcz16_5 : w15.cell? ⟨gb176, 5, none⟩ = some (.slice A0_5 l0_5.length c0_5) := (blk_cell BK176.out 5).trans rfl; have hcz16_6 : w15.cell? ⟨gb176, 6, none⟩ = some (.int .u32 a0_6) := (blk_cell BK176.out 6).trans rfl; have hcz16_7 : w15.cell? ⟨gb176, 7, none⟩ = some (.string a0_7) := (blk_cell BK176.out 7).trans rfl; have hfz16_0 := blk_frozen BK176.out 0; have hfz16_1 := blk_frozen BK176.out 1; have hfz16_2 := blk_frozen BK176.out 2; have hfz16_3 := blk_frozen BK176.out 3; have hfz16_4 := blk_frozen BK176.out 4; have hfz16_5 := blk_frozen BK176.out 5; have hfz16_6 := blk_frozen BK176.out 6; have hfz16_7 := blk_frozen BK176.out 7))
              have n0_ := Aside0.mk (blk_drew BK176.out)
              have n1_ := Aside0.mk (below_drew1 HB.out)
              clear BK176
              clear HB
              have BK176 := n0_
              have HB := n1_
              clear n0_ n1_
              refine start_ (n := 25) (S := fun w' => w'.cell? ⟨gb176, 0, none⟩ = some (.int .i64 a0_0) ∧ w'.cell? ⟨gb176, 1, none⟩ = some (.int .u32 a0_1) ∧ w'.cell? ⟨gb176, 2, none⟩ = some (.int .u32 a0_2) ∧ w'.cell? ⟨gb176, 3, none⟩ = some (.int .i64 a0_3) ∧ w'.cell? ⟨gb176, 4, none⟩ = some (.slice A0_4 l0_4.length c0_4) ∧ w'.cell? ⟨gb176, 5, none⟩ = some (.slice A0_5 l0_5.length c0_5) ∧ w'.cell? ⟨gb176, 6, none⟩ = some (.int .u32 a0_6) ∧ w'.cell? ⟨gb176, 7, none⟩ = some (.string a0_7)) (ds := []) #[false, false, false, false, false, false, false, false, false, false, false, false, false, false, false, false, false, false, false, false, false, false, false, false, false] (by kernel_rfl) rfl rfl ⟨(blk_cell BK176.out 0).trans rfl, (blk_cell BK176.out 1).trans rfl, (blk_cell BK176.out 2).trans rfl, (blk_cell BK176.out 3).trans rfl, (blk_cell BK176.out 4).trans rfl, (blk_cell BK176.out 5).trans rfl, (blk_cell BK176.out 6).trans rfl, (blk_cell BK176.out 7).trans rfl⟩ (fun hHeld => ?_); refine with_tabW sphragisref10_Encode.tab5 sphragisref10_Encode.bits5 (fun HT_ HW_ => ?_)
              generalize w15.drew = w17 at BK176 HB hHeld ⊢
              refine pure_ (i := 0) (N := some 18) (v := ?_) (a' := ?_) #[true, false, false, false, false, false, false, false, false, false, false, false, false, false, false, false, false, false, false, false, false, false, false, false, false] rfl rfl (any_of HT_.out (by kernel_rfl)) (fun _ _ _ h => h) (Or.inl ⟨by rfl, ?_⟩) ?_ ?_
              rotate_left
              · intro w'
                go_simp
                with_reducible rfl
              rotate_left
              · simp only [Act.put, List.setIfInBounds_toArray, List.set_cons_zero, List.set_cons_succ, i64_w, i32_w]
                rfl
              refine pure_ (i := 6) (N := some 24) (v := ?_) (a' := ?_) #[true, false, false, false, false, false, true, false, false, false, false, false, false, false, false, false, false, false, false, false, false, false, false, false, false] rfl rfl (any_of HT_.out (by kernel_rfl)) (fun _ _ _ h => h) (Or.inl ⟨by rfl, ?_⟩) ?_ ?_
              rotate_left
              · intro w'
                go_simp
                with_reducible rfl
              rotate_left
              · simp only [Act.put, List.setIfInBounds_toArray, List.set_cons_zero, List.set_cons_succ, i64_w, i32_w]
                rfl
              refine pure_ (i := 7) (N := some 25) (v := ?_) (a' := ?_) #[true, false, false, false, false, false, true, true, false, false, false, false, false, false, false, false, false, false, false, false, false, false, false, false, false] rfl rfl (any_of HT_.out (by kernel_rfl)) (fun _ _ _ h => h) (Or.inl ⟨by rfl, ?_⟩) ?_ ?_
              rotate_left
              · intro w'
                go_simp
                with_reducible rfl
              rotate_left
              · simp only [Act.put, List.setIfInBounds_toArray, List.set_cons_zero, List.set_cons_succ, i64_w, i32_w]
                rfl
              refine pure_ (i := 12) (N := some 30) (v := ?_) (a' := ?_) #[true, false, false, false, false, false, true, true, false, false, false, false, true, false, false, false, false, false, false, false, false, false, false, false, false] rfl rfl (any_of HT_.out (by kernel_rfl)) (fun _ _ _ h => h) (Or.inl ⟨by rfl, ?_⟩) ?_ ?_
              rotate_left
              · intro w'
                go_simp
                with_reducible rfl
              rotate_left
              · simp only [Act.put, List.setIfInBounds_toArray, List.set_cons_zero, List.set_cons_succ, i64_w, i32_w]
                rfl
              refine pure_ (i := 13) (N := some 31) (v := ?_) (a' := ?_) #[true, false, false, false, false, false, true, true, false, false, false, false, true, true, false, false, false, false, false, false, false, false, false, false, false] rfl rfl (any_of HT_.out (by kernel_rfl)) (fun _ _ _ h => h) (Or.inl ⟨by rfl, ?_⟩) ?_ ?_
              rotate_left
              · intro w'
                go_simp
                with_reducible rfl
              rotate_left
              · simp only [Act.put, List.setIfInBounds_toArray, List.set_cons_zero, List.set_cons_succ, i64_w, i32_w]
                rfl
              refine pure_ (i := 18) (N := some 36) (v := ?_) (a' := ?_) #[true, false, false, false, false, false, true, true, false, false, false, false, true, true, false, false, false, false, true, false, false, false, false, false, false] rfl rfl (any_of HT_.out (by kernel_rfl)) (fun _ _ _ h => h) (Or.inl ⟨by rfl, ?_⟩) ?_ ?_
              rotate_left
              · intro w'
                go_simp
                with_reducible rfl
              rotate_left
              · simp only [Act.put, List.setIfInBounds_toArray, List.set_cons_zero, List.set_cons_succ, i64_w, i32_w]
                rfl
              refine pure_ (i := 19) (N := some 37) (v := ?_) (a' := ?_) #[true, false, false, false, false, false, true, true, false, false, false, false, true, true, false, false, false, false, true, true, false, false, false, false, false] rfl rfl (any_of HT_.out (by kernel_rfl)) (fun _ _ _ h => h) (Or.inl ⟨by rfl, ?_⟩) ?_ ?_
              rotate_left
              · intro w'
                go_simp
                with_reducible rfl
              rotate_left
              · simp only [Act.put, List.setIfInBounds_toArray, List.set_cons_zero, List.set_cons_succ, i64_w, i32_w]
                rfl
              refine take_ (i := 1) (N := some 19) (v := ?_) (a' := ?_) #[true, true, false, false, false, false, true, true, false, false, false, false, true, true, false, false, false, false, true, true, false, false, false, false, false] rfl rfl (take_ofW HT_.out HW_.out (by kernel_rfl)) (fun _ _ _ h => h) (Or.inl ⟨by rfl, ?_⟩) hHeld ?_ ?_
              rotate_left
              · rintro w' ⟨s0, s1, s2, s3, s4, s5, s6, s7⟩
                go_simp
                with_reducible rfl
              rotate_left
              · simp only [Act.put, List.setIfInBounds_toArray, List.set_cons_zero, List.set_cons_succ, i64_w, i32_w]
                rfl
              refine pure_ (i := 2) (N := some 20) (v := ?_) (a' := ?_) #[true, true, true, false, false, false, true, true, false, false, false, false, true, true, false, false, false, false, true, true, false, false, false, false, false] rfl rfl (any_of HT_.out (by kernel_rfl)) (fun _ _ _ h => h) (Or.inl ⟨by rfl, ?_⟩) ?_ ?_
              rotate_left
              · intro w'
                go_simp
                with_reducible rfl
              rotate_left
              · simp only [Act.put, List.setIfInBounds_toArray, List.set_cons_zero, List.set_cons_succ, i64_w, i32_w]
                rfl
              refine pure_ (i := 3) (N := some 21) (v := ?_) (a' := ?_) #[true, true, true, true, false, false, true, true, false, false, false, false, true, true, false, false, false, false, true, true, false, false, false, false, false] rfl rfl (any_of HT_.out (by kernel_rfl)) (fun _ _ _ h => h) (Or.inl ⟨by rfl, ?_⟩) ?_ ?_
              rotate_left
              · intro w'
                go_simp
                with_reducible rfl
              rotate_left
              · simp only [Act.put, List.setIfInBounds_toArray, List.set_cons_zero, List.set_cons_succ, i64_w, i32_w]
                rfl
              refine take_ (i := 8) (N := some 26) (v := ?_) (a' := ?_) #[true, true, true, true, false, false, true, true, true, false, false, false, true, true, false, false, false, false, true, true, false, false, false, false, false] rfl rfl (take_ofW HT_.out HW_.out (by kernel_rfl)) (fun _ _ _ h => h) (Or.inl ⟨by rfl, ?_⟩) hHeld ?_ ?_
              rotate_left
              · rintro w' ⟨s0, s1, s2, s3, s4, s5, s6, s7⟩
                go_simp
                with_reducible rfl
              rotate_left
              · simp only [Act.put, List.setIfInBounds_toArray, List.set_cons_zero, List.set_cons_succ, i64_w, i32_w]
                rfl
              refine pure_ (i := 9) (N := some 27) (v := ?_) (a' := ?_) #[true, true, true, true, false, false, true, true, true, true, false, false, true, true, false, false, false, false, true, true, false, false, false, false, false] rfl rfl (any_of HT_.out (by kernel_rfl)) (fun _ _ _ h => h) (Or.inl ⟨by rfl, ?_⟩) ?_ ?_
              rotate_left
              · intro w'
                go_simp
                with_reducible rfl
              rotate_left
              · simp only [Act.put, List.setIfInBounds_toArray, List.set_cons_zero, List.set_cons_succ, i64_w, i32_w]
                rfl
              refine take_ (i := 14) (N := some 32) (v := ?_) (a' := ?_) #[true, true, true, true, false, false, true, true, true, true, false, false, true, true, true, false, false, false, true, true, false, false, false, false, false] rfl rfl (take_ofW HT_.out HW_.out (by kernel_rfl)) (fun _ _ _ h => h) (Or.inl ⟨by rfl, ?_⟩) hHeld ?_ ?_
              rotate_left
              · rintro w' ⟨s0, s1, s2, s3, s4, s5, s6, s7⟩
                go_simp
                with_reducible rfl
              rotate_left
              · simp only [Act.put, List.setIfInBounds_toArray, List.set_cons_zero, List.set_cons_succ, i64_w, i32_w]
                rfl
              refine pure_ (i := 15) (N := some 33) (v := ?_) (a' := ?_) #[true, true, true, true, false, false, true, true, true, true, false, false, true, true, true, true, false, false, true, true, false, false, false, false, false] rfl rfl (any_of HT_.out (by kernel_rfl)) (fun _ _ _ h => h) (Or.inl ⟨by rfl, ?_⟩) ?_ ?_
              rotate_left
              · intro w'
                go_simp
                with_reducible rfl
              rotate_left
              · simp only [Act.put, List.setIfInBounds_toArray, List.set_cons_zero, List.set_cons_succ, i64_w, i32_w]
                rfl
              refine take_ (i := 20) (N := some 38) (v := ?_) (a' := ?_) #[true, true, true, true, false, false, true, true, true, true, false, false, true, true, true, true, false, false, true, true, true, false, false, false, false] rfl rfl (take_ofW HT_.out HW_.out (by kernel_rfl)) (fun _ _ _ h => h) (Or.inl ⟨by rfl, ?_⟩) hHeld ?_ ?_
              rotate_left
              · rintro w' ⟨s0, s1, s2, s3, s4, s5, s6, s7⟩
                go_simp
                with_reducible rfl
              rotate_left
              · simp only [Act.put, List.setIfInBounds_toArray, List.set_cons_zero, List.set_cons_succ, i64_w, i32_w]
                rfl
              refine pure_ (i := 21) (N := some 39) (v := ?_) (a' := ?_) #[true, true, true, true, false, false, true, true, true, true, false, false, true, true, true, true, false, false, true, true, true, true, false, false, false] rfl rfl (any_of HT_.out (by kernel_rfl)) (fun _ _ _ h => h) (Or.inl ⟨by rfl, ?_⟩) ?_ ?_
              rotate_left
              · intro w'
                go_simp
                with_reducible rfl
              rotate_left
              · simp only [Act.put, List.setIfInBounds_toArray, List.set_cons_zero, List.set_cons_succ, i64_w, i32_w]
                rfl
              refine one_ (i := 4) (N := some 22) #[true, true, true, true, true, false, true, true, true, true, false, false, true, true, true, true, false, false, true, true, true, true, false, false, false] rfl rfl (one_of HT_.out (by kernel_rfl)) (by decide) (fun K hK => ?_)
              refine goes_ Try.func33 (by kernel_rfl) rfl #[.int .u64 (IntKind.u64.wrap ((l0_5.length : Int))), .int .i64 1] (by rfl) rfl rfl (by (try simp only [List.map_toArray, List.map_cons, List.map_nil]); first | done | rfl | (simp only [List.length_drop, List.length_take]; rfl)) ?_
              with_reducible refine (sphragisref10_put.calls k (IntKind.u64.wrap ((l0_5.length : Int))) 1 t178 _ A5.out).mono ?_
              rintro e w18 ⟨rfl, hb⟩
              refine ⟨_, rfl, ?_⟩
              have n0_ := Aside0.mk (blk_below (g := gb176) (o := .cells #[.int .i64 a0_0, .int .u32 a0_1, .int .u32 a0_2, .int .i64 a0_3, .slice A0_4 l0_4.length c0_4, .slice A0_5 l0_5.length c0_5, .int .u32 a0_6, .string a0_7] 30 (0, 0)) (by (with_reducible repeat (first | refine blk_drewN ?_ _ | refine blk_drew ?_ | refine blk_alloc ?_ _)); exact BK176.out) hb)
              have n1_ := Aside0.mk (below_step (by repeat (first | (with_reducible first | exact HB.out | apply below_alloc | apply pw_below_drewN | apply below_drew1 | refine below_set ?_ GE176.out) | exact HB.out)) hb)
              clear BK176
              clear HB
              have BK176 := n0_
              have HB := n1_
              clear n0_ n1_
              (try clear hb)
              (try clear hb2)
              (try clear hk)
              (try clear hi)
              refine hK.out _ _ ⟨(blk_cell BK176.out 0).trans rfl, (blk_cell BK176.out 1).trans rfl, (blk_cell BK176.out 2).trans rfl, (blk_cell BK176.out 3).trans rfl, (blk_cell BK176.out 4).trans rfl, (blk_cell BK176.out 5).trans rfl, (blk_cell BK176.out 6).trans rfl, (blk_cell BK176.out 7).trans rfl⟩ (fun hHeld => ?_)
              clear hK K
              refine norm_ (a' := ?_) ?_ ?_
              rotate_left
              · show Act.put _ (some 22) _ = _
                simp only [Act.put, List.setIfInBounds_toArray, List.set_cons_zero, List.set_cons_succ, i64_w, i32_w]
                rfl
              refine pure_ (i := 5) (N := some 23) (v := ?_) (a' := ?_) #[true, true, true, true, true, true, true, true, true, true, false, false, true, true, true, true, false, false, true, true, true, true, false, false, false] rfl rfl (any_of HT_.out (by kernel_rfl)) (fun _ _ _ h => h) (Or.inl ⟨by rfl, ?_⟩) ?_ ?_
              rotate_left
              · intro w'
                go_simp
                with_reducible rfl
              rotate_left
              · simp only [Act.put, List.setIfInBounds_toArray, List.set_cons_zero, List.set_cons_succ, i64_w, i32_w]
                rfl
              refine one_ (i := 10) (N := some 28) #[true, true, true, true, true, true, true, true, true, true, true, false, true, true, true, true, false, false, true, true, true, true, false, false, false] rfl rfl (one_of HT_.out (by kernel_rfl)) (by decide) (fun K hK => ?_)
              refine goes_ Try.func33 (by kernel_rfl) rfl #[.int .u64 (IntKind.u64.wrap (a0_3)), .int .i64 1] (by rfl) rfl rfl (by (try simp only [List.map_toArray, List.map_cons, List.map_nil]); first | done | rfl | (simp only [List.length_drop, List.length_take]; rfl)) ?_
              with_reducible refine (sphragisref10_put.calls k (IntKind.u64.wrap (a0_3)) 1 t179 _ A7.out).mono ?_
              rintro e w19 ⟨rfl, hb⟩
              refine ⟨_, rfl, ?_⟩
              have n0_ := Aside0.mk (blk_below (g := gb176) (o := .cells #[.int .i64 a0_0, .int .u32 a0_1, .int .u32 a0_2, .int .i64 a0_3, .slice A0_4 l0_4.length c0_4, .slice A0_5 l0_5.length c0_5, .int .u32 a0_6, .string a0_7] 30 (0, 0)) (by (with_reducible repeat (first | refine blk_drewN ?_ _ | refine blk_drew ?_ | refine blk_alloc ?_ _)); exact BK176.out) hb)
              have n1_ := Aside0.mk (below_step (by repeat (first | (with_reducible first | exact HB.out | apply below_alloc | apply pw_below_drewN | apply below_drew1 | refine below_set ?_ GE176.out) | exact HB.out)) hb)
              clear BK176
              clear HB
              have BK176 := n0_
              have HB := n1_
              clear n0_ n1_
              (try clear hb)
              (try clear hb2)
              (try clear hk)
              (try clear hi)
              refine hK.out _ _ ⟨(blk_cell BK176.out 0).trans rfl, (blk_cell BK176.out 1).trans rfl, (blk_cell BK176.out 2).trans rfl, (blk_cell BK176.out 3).trans rfl, (blk_cell BK176.out 4).trans rfl, (blk_cell BK176.out 5).trans rfl, (blk_cell BK176.out 6).trans rfl, (blk_cell BK176.out 7).trans rfl⟩ (fun hHeld => ?_)
              clear hK K
              refine norm_ (a' := ?_) ?_ ?_
              rotate_left
              · show Act.put _ (some 28) _ = _
                simp only [Act.put, List.setIfInBounds_toArray, List.set_cons_zero, List.set_cons_succ, i64_w, i32_w]
                rfl
              refine pure_ (i := 11) (N := some 29) (v := ?_) (a' := ?_) #[true, true, true, true, true, true, true, true, true, true, true, true, true, true, true, true, false, false, true, true, true, true, false, false, false] rfl rfl (any_of HT_.out (by kernel_rfl)) (fun _ _ _ h => h) (Or.inl ⟨by rfl, ?_⟩) ?_ ?_
              rotate_left
              · intro w'
                go_simp
                with_reducible rfl
              rotate_left
              · simp only [Act.put, List.setIfInBounds_toArray, List.set_cons_zero, List.set_cons_succ, i64_w, i32_w]
                rfl
              refine one_ (i := 16) (N := some 34) #[true, true, true, true, true, true, true, true, true, true, true, true, true, true, true, true, true, false, true, true, true, true, false, false, false] rfl rfl (one_of HT_.out (by kernel_rfl)) (by decide) (fun K hK => ?_)
              refine goes_ Try.func33 (by kernel_rfl) rfl #[.int .u64 (IntKind.u64.wrap (a0_1)), .int .i64 4] (by rfl) rfl rfl (by (try simp only [List.map_toArray, List.map_cons, List.map_nil]); first | done | rfl | (simp only [List.length_drop, List.length_take]; rfl)) ?_
              with_reducible refine (sphragisref10_put.calls k (IntKind.u64.wrap (a0_1)) 4 t180 _ A9.out).mono ?_
              rintro e w20 ⟨rfl, hb⟩
              refine ⟨_, rfl, ?_⟩
              have n0_ := Aside0.mk (blk_below (g := gb176) (o := .cells #[.int .i64 a0_0, .int .u32 a0_1, .int .u32 a0_2, .int .i64 a0_3, .slice A0_4 l0_4.length c0_4, .slice A0_5 l0_5.length c0_5, .int .u32 a0_6, .string a0_7] 30 (0, 0)) (by (with_reducible repeat (first | refine blk_drewN ?_ _ | refine blk_drew ?_ | refine blk_alloc ?_ _)); exact BK176.out) hb)
              have n1_ := Aside0.mk (below_step (by repeat (first | (with_reducible first | exact HB.out | apply below_alloc | apply pw_below_drewN | apply below_drew1 | refine below_set ?_ GE176.out) | exact HB.out)) hb)
              clear BK176
              clear HB
              have BK176 := n0_
              have HB := n1_
              clear n0_ n1_
              (try clear hb)
              (try clear hb2)
              (try clear hk)
              (try clear hi)
              refine hK.out _ _ ⟨(blk_cell BK176.out 0).trans rfl, (blk_cell BK176.out 1).trans rfl, (blk_cell BK176.out 2).trans rfl, (blk_cell BK176.out 3).trans rfl, (blk_cell BK176.out 4).trans rfl, (blk_cell BK176.out 5).trans rfl, (blk_cell BK176.out 6).trans rfl, (blk_cell BK176.out 7).trans rfl⟩ (fun hHeld => ?_)
              clear hK K
              refine norm_ (a' := ?_) ?_ ?_
              rotate_left
              · show Act.put _ (some 34) _ = _
                simp only [Act.put, List.setIfInBounds_toArray, List.set_cons_zero, List.set_cons_succ, i64_w, i32_w]
                rfl
              refine pure_ (i := 17) (N := some 35) (v := ?_) (a' := ?_) #[true, true, true, true, true, true, true, true, true, true, true, true, true, true, true, true, true, true, true, true, true, true, false, false, false] rfl rfl (any_of HT_.out (by kernel_rfl)) (fun _ _ _ h => h) (Or.inl ⟨by rfl, ?_⟩) ?_ ?_
              rotate_left
              · intro w'
                go_simp
                with_reducible rfl
              rotate_left
              · simp only [Act.put, List.setIfInBounds_toArray, List.set_cons_zero, List.set_cons_succ, i64_w, i32_w]
                rfl
              refine one_ (i := 22) (N := some 40) #[true, true, true, true, true, true, true, true, true, true, true, true, true, true, true, true, true, true, true, true, true, true, true, false, false] rfl rfl (one_of HT_.out (by kernel_rfl)) (by decide) (fun K hK => ?_)
              refine goes_ Try.func33 (by kernel_rfl) rfl #[.int .u64 (IntKind.u64.wrap (a0_2)), .int .i64 4] (by rfl) rfl rfl (by (try simp only [List.map_toArray, List.map_cons, List.map_nil]); first | done | rfl | (simp only [List.length_drop, List.length_take]; rfl)) ?_
              with_reducible refine (sphragisref10_put.calls k (IntKind.u64.wrap (a0_2)) 4 t181 _ A11.out).mono ?_
              rintro e w21 ⟨rfl, hb⟩
              refine ⟨_, rfl, ?_⟩
              have n0_ := Aside0.mk (blk_below (g := gb176) (o := .cells #[.int .i64 a0_0, .int .u32 a0_1, .int .u32 a0_2, .int .i64 a0_3, .slice A0_4 l0_4.length c0_4, .slice A0_5 l0_5.length c0_5, .int .u32 a0_6, .string a0_7] 30 (0, 0)) (by (with_reducible repeat (first | refine blk_drewN ?_ _ | refine blk_drew ?_ | refine blk_alloc ?_ _)); exact BK176.out) hb)
              have n1_ := Aside0.mk (below_step (by repeat (first | (with_reducible first | exact HB.out | apply below_alloc | apply pw_below_drewN | apply below_drew1 | refine below_set ?_ GE176.out) | exact HB.out)) hb)
              clear BK176
              clear HB
              have BK176 := n0_
              have HB := n1_
              clear n0_ n1_
              (try clear hb)
              (try clear hb2)
              (try clear hk)
              (try clear hi)
              refine hK.out _ _ ⟨(blk_cell BK176.out 0).trans rfl, (blk_cell BK176.out 1).trans rfl, (blk_cell BK176.out 2).trans rfl, (blk_cell BK176.out 3).trans rfl, (blk_cell BK176.out 4).trans rfl, (blk_cell BK176.out 5).trans rfl, (blk_cell BK176.out 6).trans rfl, (blk_cell BK176.out 7).trans rfl⟩ (fun hHeld => ?_)
              clear hK K
              refine norm_ (a' := ?_) ?_ ?_
              rotate_left
              · show Act.put _ (some 40) _ = _
                simp only [Act.put, List.setIfInBounds_toArray, List.set_cons_zero, List.set_cons_succ, i64_w, i32_w]
                rfl
              refine pure_ (i := 23) (N := some 41) (v := ?_) (a' := ?_) #[true, true, true, true, true, true, true, true, true, true, true, true, true, true, true, true, true, true, true, true, true, true, true, true, false] rfl rfl (any_of HT_.out (by kernel_rfl)) (fun _ _ _ h => h) (Or.inl ⟨by rfl, ?_⟩) ?_ ?_
              rotate_left
              · intro w'
                go_simp
                with_reducible rfl
              rotate_left
              · simp only [Act.put, List.setIfInBounds_toArray, List.set_cons_zero, List.set_cons_succ, i64_w, i32_w]
                rfl
              refine pure_ (i := 24) (N := some 5) (v := ?_) (a' := ?_) #[true, true, true, true, true, true, true, true, true, true, true, true, true, true, true, true, true, true, true, true, true, true, true, true, true] rfl rfl (any_of HT_.out (by kernel_rfl)) (fun _ _ _ h => h) (Or.inl ⟨by rfl, ?_⟩) ?_ ?_
              rotate_left
              · intro w'
                go_simp
                with_reducible rfl
              rotate_left
              · simp only [Act.put, List.setIfInBounds_toArray, List.set_cons_zero, List.set_cons_succ, i64_w, i32_w]
                rfl
              refine done_ (done_of HT_.out (by kernel_rfl)) ?_
              try go_wp2
              go_loopg [5, 6] k (fun kq v5 v6 w' => ∃ (x5_1 : ByteArray) (x6_1 : Int), v5 = .string x5_1 ∧ v6 = .int .i64 x6_1 ∧ Aside0 (sphragisref10_Encode.l0 kq x5_1 x6_1 a0_0 a0_1 a0_2 a0_3 l0_4 l0_5 a0_6 a0_7 = some (r1, r2)) ∧ Aside0 (kq ≤ k) ∧ Aside0 (w'.heap[gb176]? = some (.cells #[.int .i64 a0_0, .int .u32 a0_1, .int .u32 a0_2, .int .i64 a0_3, (.slice A0_4 l0_4.length c0_4), (.slice A0_5 l0_5.length c0_5), .int .u32 a0_6, .string a0_7] 30 (0, 0))) ∧ Aside0 (Below w.heap.size w w'))
              case atStart => exact ⟨(((((⟨#[2]⟩ : ByteArray) ++ t178) ++ t179) ++ t180) ++ t181), (0), (by first | rfl | (simp; done) | (simp [*]; done)), (by first | rfl | (simp; done) | (simp [*]; done)), H', ⟨Nat.le_refl _⟩, ⟨by (with_reducible repeat (first | refine blk_drewN ?_ _ | refine blk_drew ?_ | refine blk_alloc ?_ _)); exact BK176.out⟩, ⟨by repeat (first | (with_reducible first | exact HB.out | apply below_alloc | apply pw_below_drewN | apply below_drew1 | refine below_set ?_ GE176.out) | exact HB.out)⟩⟩
              case round =>
                clear H'
                try clear c1
                try clear p2
                try clear c3
                try clear c4
                try clear c4b0
                try clear c4b1
                try clear c6
                try clear c6b0
                try clear c6b1
                try clear c6b2
                try clear c8
                try clear c8b0
                try clear c8b1
                try clear c8b2
                try clear c10
                try clear c10b0
                try clear c10b1
                try clear c10b2
                try clear c12
                try clear c12b0
                try clear c12b1
                try clear c12b2
                try clear c15
                try clear c17
                try clear hcz14_0
                try clear hcz14_1
                try clear hcz14_2
                try clear hcz14_3
                try clear hcz14_4
                try clear hcz14_5
                try clear hcz14_6
                try clear hcz14_7
                try clear hcz16_0
                try clear hcz16_1
                try clear hcz16_2
                try clear hcz16_3
                try clear hcz16_4
                try clear hcz16_5
                try clear hcz16_6
                try clear hcz16_7
                try clear hfz14_0
                try clear hfz14_1
                try clear hfz14_2
                try clear hfz14_3
                try clear hfz14_4
                try clear hfz14_5
                try clear hfz14_6
                try clear hfz14_7
                try clear hfz16_0
                try clear hfz16_1
                try clear hfz16_2
                try clear hfz16_3
                try clear hfz16_4
                try clear hfz16_5
                try clear hfz16_6
                try clear hfz16_7
                obtain ⟨x5_1, x6_1, rfl, rfl, HA, HK1, BK176, HB⟩ := hrel
                cases gk with
                | zero => exact absurd HA.out (by simp [sphragisref10_Encode.l0])
                | succ k1 =>
                  have H := HA.out
                  clear HA
                  simp only [sphragisref10_Encode.l0] at H
                  by_cases c22 : x6_1 < (l0_5.length : Int)
                  · rw [if_pos c22] at H
                    have c22b0 : decide (x6_1 < (l0_5.length : Int)) = true := decide_eq_true c22
                    clear c22
                    by_cases c23 : 0 ≤ x6_1
                    · rw [if_pos c23] at H
                      have c23b0 : decide (0 ≤ x6_1) = true := decide_eq_true c23
                      clear c23
                      replace H := Option.bind_eq_some_iff.mp H
                      obtain ⟨t183, A240, H⟩ := H
                      replace H : (if x5_1.size + t183.size ≤ 9223372036854775807 then (if x5_1.size + t183.size + ((rd_T28 l0_5 x6_1).f1).size ≤ 9223372036854775807 then (sphragisref10_Encode.l0 k1 ((x5_1 ++ t183) ++ ((rd_T28 l0_5 x6_1).f1)) (wrap64 (x6_1 + 1)) a0_0 a0_1 a0_2 a0_3 l0_4 l0_5 a0_6 a0_7) else (none)) else (none)) = some (r1, r2) := H
                      have A24 := Aside0.mk A240
                      clear A240
                      by_cases c25 : x5_1.size + t183.size ≤ 9223372036854775807
                      · rw [if_pos c25] at H
                        have c25b0 := eq_true c25
                        have c25b1 : decide (x5_1.size + t183.size ≤ 9223372036854775807) = true := decide_eq_true c25
                        try have c25b2 : (9223372036854775807 < x5_1.size + t183.size) = False := eq_false (Nat.not_lt.2 c25)
                        by_cases c26 : x5_1.size + t183.size + ((rd_T28 l0_5 x6_1).f1).size ≤ 9223372036854775807
                        · rw [if_pos c26] at H
                          have c26b0 := eq_true c26
                          have c26b1 : decide (x5_1.size + t183.size + ((rd_T28 l0_5 x6_1).f1).size ≤ 9223372036854775807) = true := decide_eq_true c26
                          try have c26b2 : (9223372036854775807 < x5_1.size + t183.size + ((rd_T28 l0_5 x6_1).f1).size) = False := eq_false (Nat.not_lt.2 c26)
                          have H' := Aside0.mk H
                          clear H
                          have hcz27_0 : wr.cell? ⟨gb176, 0, none⟩ = some (.int .i64 a0_0) := (blk_cell BK176.out 0).trans rfl
                          have hcz27_1 : wr.cell? ⟨gb176, 1, none⟩ = some (.int .u32 a0_1) := (blk_cell BK176.out 1).trans rfl
                          have hcz27_2 : wr.cell? ⟨gb176, 2, none⟩ = some (.int .u32 a0_2) := (blk_cell BK176.out 2).trans rfl
                          have hcz27_3 : wr.cell? ⟨gb176, 3, none⟩ = some (.int .i64 a0_3) := (blk_cell BK176.out 3).trans rfl
                          have hcz27_4 : wr.cell? ⟨gb176, 4, none⟩ = some (.slice A0_4 l0_4.length c0_4) := (blk_cell BK176.out 4).trans rfl
                          have hcz27_5 : wr.cell? ⟨gb176, 5, none⟩ = some (.slice A0_5 l0_5.length c0_5) := (blk_cell BK176.out 5).trans rfl
                          have hcz27_6 : wr.cell? ⟨gb176, 6, none⟩ = some (.int .u32 a0_6) := (blk_cell BK176.out 6).trans rfl
                          have hcz27_7 : wr.cell? ⟨gb176, 7, none⟩ = some (.string a0_7) := (blk_cell BK176.out 7).trans rfl
                          have hfz27_0 := blk_frozen BK176.out 0
                          have hfz27_1 := blk_frozen BK176.out 1
                          have hfz27_2 := blk_frozen BK176.out 2
                          have hfz27_3 := blk_frozen BK176.out 3
                          have hfz27_4 := blk_frozen BK176.out 4
                          have hfz27_5 := blk_frozen BK176.out 5
                          have hfz27_6 := blk_frozen BK176.out 6
                          have hfz27_7 := blk_frozen BK176.out 7
                          try go_wp2
                          have n0_ := Aside0.mk (blk_drew BK176.out)
                          have n1_ := Aside0.mk (below_drew1 HB.out)
                          clear BK176
                          clear HB
                          have BK176 := n0_
                          have HB := n1_
                          clear n0_ n1_
                          have p182 : 0 ≤ (x6_1 : Int) := of_decide_eq_true (by first | (with_reducible assumption) | assumption)
                          have q182 : x6_1 < (l0_5.length : Int) := of_decide_eq_true (by first | (with_reducible assumption) | assumption)
                          obtain ⟨ad182, e182, hx182_0, hx182_1⟩ := at_T28 HR0_5.out x6_1 p182 q182
                          have hw182_1 := hx182_1
                          have hw182_0 := hx182_0
                          cases e182
                          replace hx182_0 := (HB.out.cell (World.block_lt_of_cell? w _ hx182_0)).trans hx182_0
                          replace hx182_1 := (HB.out.cell (World.block_lt_of_cell? w _ hx182_1)).trans hx182_1
                          replace p182 := eq_true p182
                          replace q182 := eq_true q182
                          have p184 : 0 ≤ (x6_1 : Int) := of_decide_eq_true (by first | (with_reducible assumption) | assumption)
                          have q184 : x6_1 < (l0_5.length : Int) := of_decide_eq_true (by first | (with_reducible assumption) | assumption)
                          obtain ⟨ad184, e184, hx184_0, hx184_1⟩ := at_T28 HR0_5.out x6_1 p184 q184
                          have hw184_1 := hx184_1
                          have hw184_0 := hx184_0
                          obtain rfl : ad182 = ad184 := (by injection e184)
                          replace hx184_0 := (HB.out.cell (World.block_lt_of_cell? w _ hx184_0)).trans hx184_0
                          replace hx184_1 := (HB.out.cell (World.block_lt_of_cell? w _ hx184_1)).trans hx184_1
                          replace p184 := eq_true p184
                          replace q184 := eq_true q184
                          refine start_ (n := 18) (S := fun w' => w'.cell? ⟨gb176, 0, none⟩ = some (.int .i64 a0_0) ∧ w'.cell? ⟨gb176, 1, none⟩ = some (.int .u32 a0_1) ∧ w'.cell? ⟨gb176, 2, none⟩ = some (.int .u32 a0_2) ∧ w'.cell? ⟨gb176, 3, none⟩ = some (.int .i64 a0_3) ∧ w'.cell? ⟨gb176, 4, none⟩ = some (.slice A0_4 l0_4.length c0_4) ∧ w'.cell? ⟨gb176, 5, none⟩ = some (.slice (some ad182) l0_5.length c0_5) ∧ w'.cell? ⟨gb176, 6, none⟩ = some (.int .u32 a0_6) ∧ w'.cell? ⟨gb176, 7, none⟩ = some (.string a0_7) ∧ w'.cell? (ad182.add ((x6_1).toNat * 2)) = some (.int .u32 ((rd_T28 l0_5 x6_1).f0)) ∧ w'.cell? ⟨(ad182.add ((x6_1).toNat * 2)).block, (ad182.add ((x6_1).toNat * 2)).off + 1, none⟩ = some (.string ((rd_T28 l0_5 x6_1).f1)) ∧ w'.cell? (ad182.add ((x6_1).toNat * 2)) = some (.int .u32 ((rd_T28 l0_5 x6_1).f0)) ∧ w'.cell? ⟨(ad182.add ((x6_1).toNat * 2)).block, (ad182.add ((x6_1).toNat * 2)).off + 1, none⟩ = some (.string ((rd_T28 l0_5 x6_1).f1))) (ds := []) #[false, false, false, false, false, false, false, false, false, false, false, false, false, false, false, false, false, false] (by kernel_rfl) rfl rfl ⟨(blk_cell BK176.out 0).trans rfl, (blk_cell BK176.out 1).trans rfl, (blk_cell BK176.out 2).trans rfl, (blk_cell BK176.out 3).trans rfl, (blk_cell BK176.out 4).trans rfl, (blk_cell BK176.out 5).trans rfl, (blk_cell BK176.out 6).trans rfl, (blk_cell BK176.out 7).trans rfl, ((HB.out.cell (World.block_lt_of_cell? w _ hw182_0)).trans hw182_0), ((HB.out.cell (World.block_lt_of_cell? w _ hw182_1)).trans hw182_1), ((HB.out.cell (World.block_lt_of_cell? w _ hw184_0)).trans hw184_0), ((HB.out.cell (World.block_lt_of_cell? w _ hw184_1)).trans hw184_1)⟩ (fun hHeld => ?_); refine with_tabW sphragisref10_Encode.tab9 sphragisref10_Encode.bits9 (fun HT_ HW_ => ?_)
                          generalize wr.drew = w28 at BK176 HB hx182_0 hx182_1 hx184_0 hx184_1 hHeld ⊢
                          refine pure_ (i := 0) (N := some 49) (v := ?_) (a' := ?_) #[true, false, false, false, false, false, false, false, false, false, false, false, false, false, false, false, false, false] rfl rfl (any_of HT_.out (by kernel_rfl)) (fun _ _ _ h => h) (Or.inl ⟨by rfl, ?_⟩) ?_ ?_
                          rotate_left
                          · intro w'
                            go_simp
                            with_reducible rfl
                          rotate_left
                          · simp only [Act.put, List.setIfInBounds_toArray, List.set_cons_zero, List.set_cons_succ, i64_w, i32_w]
                            rfl
                          refine pure_ (i := 1) (N := some 50) (v := ?_) (a' := ?_) #[true, true, false, false, false, false, false, false, false, false, false, false, false, false, false, false, false, false] rfl rfl (any_of HT_.out (by kernel_rfl)) (fun _ _ _ h => h) (Or.inl ⟨by rfl, ?_⟩) ?_ ?_
                          rotate_left
                          · intro w'
                            go_simp
                            with_reducible rfl
                          rotate_left
                          · simp only [Act.put, List.setIfInBounds_toArray, List.set_cons_zero, List.set_cons_succ, i64_w, i32_w]
                            rfl
                          refine pure_ (i := 3) (N := some 52) (v := ?_) (a' := ?_) #[true, true, false, true, false, false, false, false, false, false, false, false, false, false, false, false, false, false] rfl rfl (any_of HT_.out (by kernel_rfl)) (fun _ _ _ h => h) (Or.inl ⟨by rfl, ?_⟩) ?_ ?_
                          rotate_left
                          · intro w'
                            go_simp
                            with_reducible rfl
                          rotate_left
                          · simp only [Act.put, List.setIfInBounds_toArray, List.set_cons_zero, List.set_cons_succ, i64_w, i32_w]
                            rfl
                          refine pure_ (i := 10) (N := some 59) (v := ?_) (a' := ?_) #[true, true, false, true, false, false, false, false, false, false, true, false, false, false, false, false, false, false] rfl rfl (any_of HT_.out (by kernel_rfl)) (fun _ _ _ h => h) (Or.inl ⟨by rfl, ?_⟩) ?_ ?_
                          rotate_left
                          · intro w'
                            go_simp
                            with_reducible rfl
                          rotate_left
                          · simp only [Act.put, List.setIfInBounds_toArray, List.set_cons_zero, List.set_cons_succ, i64_w, i32_w]
                            rfl
                          refine pure_ (i := 12) (N := some 61) (v := ?_) (a' := ?_) #[true, true, false, true, false, false, false, false, false, false, true, false, true, false, false, false, false, false] rfl rfl (any_of HT_.out (by kernel_rfl)) (fun _ _ _ h => h) (Or.inl ⟨by rfl, ?_⟩) ?_ ?_
                          rotate_left
                          · intro w'
                            go_simp
                            with_reducible rfl
                          rotate_left
                          · simp only [Act.put, List.setIfInBounds_toArray, List.set_cons_zero, List.set_cons_succ, i64_w, i32_w]
                            rfl
                          refine take_ (i := 2) (N := some 51) (v := ?_) (a' := ?_) #[true, true, true, true, false, false, false, false, false, false, true, false, true, false, false, false, false, false] rfl rfl (take_ofW HT_.out HW_.out (by kernel_rfl)) (fun _ _ _ h => h) (Or.inl ⟨by rfl, ?_⟩) hHeld ?_ ?_
                          rotate_left
                          · rintro w' ⟨s0, s1, s2, s3, s4, s5, s6, s7, s8, s9, s10, s11⟩
                            go_simp
                            with_reducible rfl
                          rotate_left
                          · simp only [Act.put, List.setIfInBounds_toArray, List.set_cons_zero, List.set_cons_succ, i64_w, i32_w]
                            rfl
                          refine pure_ (i := 4) (N := some 53) (v := ?_) (a' := ?_) #[true, true, true, true, true, false, false, false, false, false, true, false, true, false, false, false, false, false] rfl rfl (any_of HT_.out (by kernel_rfl)) (fun _ _ _ h => h) (Or.inl ⟨by rfl, ?_⟩) ?_ ?_
                          rotate_left
                          · intro w'
                            go_simp
                            with_reducible rfl
                          rotate_left
                          · simp only [Act.put, List.setIfInBounds_toArray, List.set_cons_zero, List.set_cons_succ, i64_w, i32_w]
                            rfl
                          refine pure_ (i := 5) (N := some 54) (v := ?_) (a' := ?_) #[true, true, true, true, true, true, false, false, false, false, true, false, true, false, false, false, false, false] rfl rfl (any_of HT_.out (by kernel_rfl)) (fun _ _ _ h => h) (Or.inl ⟨by rfl, ?_⟩) ?_ ?_
                          rotate_left
                          · intro w'
                            go_simp
                            with_reducible rfl
                          rotate_left
                          · simp only [Act.put, List.setIfInBounds_toArray, List.set_cons_zero, List.set_cons_succ, i64_w, i32_w]
                            rfl
                          refine take_ (i := 6) (N := some 55) (v := ?_) (a' := ?_) #[true, true, true, true, true, true, true, false, false, false, true, false, true, false, false, false, false, false] rfl rfl (take_ofW HT_.out HW_.out (by kernel_rfl)) (fun _ _ _ h => h) (Or.inl ⟨by rfl, ?_⟩) hHeld ?_ ?_
                          rotate_left
                          · rintro w' ⟨s0, s1, s2, s3, s4, s5, s6, s7, s8, s9, s10, s11⟩
                            go_simp
                            with_reducible rfl
                          rotate_left
                          · simp only [Act.put, List.setIfInBounds_toArray, List.set_cons_zero, List.set_cons_succ, i64_w, i32_w]
                            rfl
                          refine pure_ (i := 7) (N := some 56) (v := ?_) (a' := ?_) #[true, true, true, true, true, true, true, true, false, false, true, false, true, false, false, false, false, false] rfl rfl (any_of HT_.out (by kernel_rfl)) (fun _ _ _ h => h) (Or.inl ⟨by rfl, ?_⟩) ?_ ?_
                          rotate_left
                          · intro w'
                            go_simp
                            with_reducible rfl
                          rotate_left
                          · simp only [Act.put, List.setIfInBounds_toArray, List.set_cons_zero, List.set_cons_succ, i64_w, i32_w]
                            rfl
                          refine take_ (i := 11) (N := some 60) (v := ?_) (a' := ?_) #[true, true, true, true, true, true, true, true, false, false, true, true, true, false, false, false, false, false] rfl rfl (take_ofW HT_.out HW_.out (by kernel_rfl)) (fun _ _ _ h => h) (Or.inl ⟨by rfl, ?_⟩) hHeld ?_ ?_
                          rotate_left
                          · rintro w' ⟨s0, s1, s2, s3, s4, s5, s6, s7, s8, s9, s10, s11⟩
                            go_simp
                            with_reducible rfl
                          rotate_left
                          · simp only [Act.put, List.setIfInBounds_toArray, List.set_cons_zero, List.set_cons_succ, i64_w, i32_w]
                            rfl
                          refine pure_ (i := 13) (N := some 62) (v := ?_) (a' := ?_) #[true, true, true, true, true, true, true, true, false, false, true, true, true, true, false, false, false, false] rfl rfl (any_of HT_.out (by kernel_rfl)) (fun _ _ _ h => h) (Or.inl ⟨by rfl, ?_⟩) ?_ ?_
                          rotate_left
                          · intro w'
                            go_simp
                            with_reducible rfl
                          rotate_left
                          · simp only [Act.put, List.setIfInBounds_toArray, List.set_cons_zero, List.set_cons_succ, i64_w, i32_w]
                            rfl
                          refine pure_ (i := 14) (N := some 63) (v := ?_) (a' := ?_) #[true, true, true, true, true, true, true, true, false, false, true, true, true, true, true, false, false, false] rfl rfl (any_of HT_.out (by kernel_rfl)) (fun _ _ _ h => h) (Or.inl ⟨by rfl, ?_⟩) ?_ ?_
                          rotate_left
                          · intro w'
                            go_simp
                            with_reducible rfl
                          rotate_left
                          · simp only [Act.put, List.setIfInBounds_toArray, List.set_cons_zero, List.set_cons_succ, i64_w, i32_w]
                            rfl
                          refine take_ (i := 15) (N := some 64) (v := ?_) (a' := ?_) #[true, true, true, true, true, true, true, true, false, false, true, true, true, true, true, true, false, false] rfl rfl (take_ofW HT_.out HW_.out (by kernel_rfl)) (fun _ _ _ h => h) (Or.inl ⟨by rfl, ?_⟩) hHeld ?_ ?_
                          rotate_left
                          · rintro w' ⟨s0, s1, s2, s3, s4, s5, s6, s7, s8, s9, s10, s11⟩
                            go_simp
                            with_reducible rfl
                          rotate_left
                          · simp only [Act.put, List.setIfInBounds_toArray, List.set_cons_zero, List.set_cons_succ, i64_w, i32_w]
                            rfl
                          refine one_ (i := 8) (N := some 57) #[true, true, true, true, true, true, true, true, true, false, true, true, true, true, true, true, false, false] rfl rfl (one_of HT_.out (by kernel_rfl)) (by decide) (fun K hK => ?_)
                          refine goes_ Try.func33 (by kernel_rfl) rfl #[.int .u64 (IntKind.u64.wrap ((rd_T28 l0_5 x6_1).f0)), .int .i64 4] (by rfl) rfl rfl (by (try simp only [List.map_toArray, List.map_cons, List.map_nil]); first | done | rfl | (simp only [List.length_drop, List.length_take]; rfl)) ?_
                          with_reducible refine (sphragisref10_put.calls k1 (IntKind.u64.wrap ((rd_T28 l0_5 x6_1).f0)) 4 t183 _ A24.out).mono ?_
                          rintro e w29 ⟨rfl, hb⟩
                          refine ⟨_, rfl, ?_⟩
                          have n0_ := Aside0.mk (blk_below (g := gb176) (o := .cells #[.int .i64 a0_0, .int .u32 a0_1, .int .u32 a0_2, .int .i64 a0_3, .slice A0_4 l0_4.length c0_4, .slice (some ad182) l0_5.length c0_5, .int .u32 a0_6, .string a0_7] 30 (0, 0)) (by (with_reducible repeat (first | refine blk_drewN ?_ _ | refine blk_drew ?_ | refine blk_alloc ?_ _)); exact BK176.out) hb)
                          have n1_ := Aside0.mk (below_step (by repeat (first | (with_reducible first | exact HB.out | apply below_alloc | apply pw_below_drewN | apply below_drew1 | refine below_set ?_ GE176.out) | exact HB.out)) hb)
                          clear BK176
                          clear HB
                          have BK176 := n0_
                          have HB := n1_
                          clear n0_ n1_
                          (try clear hb)
                          (try clear hb2)
                          (try clear hk)
                          (try clear hi)
                          refine hK.out _ _ ⟨(blk_cell BK176.out 0).trans rfl, (blk_cell BK176.out 1).trans rfl, (blk_cell BK176.out 2).trans rfl, (blk_cell BK176.out 3).trans rfl, (blk_cell BK176.out 4).trans rfl, (blk_cell BK176.out 5).trans rfl, (blk_cell BK176.out 6).trans rfl, (blk_cell BK176.out 7).trans rfl, ((HB.out.cell (World.block_lt_of_cell? w _ hw182_0)).trans hw182_0), ((HB.out.cell (World.block_lt_of_cell? w _ hw182_1)).trans hw182_1), ((HB.out.cell (World.block_lt_of_cell? w _ hw184_0)).trans hw184_0), ((HB.out.cell (World.block_lt_of_cell? w _ hw184_1)).trans hw184_1)⟩ (fun hHeld => ?_)
                          clear hK K
                          refine norm_ (a' := ?_) ?_ ?_
                          rotate_left
                          · show Act.put _ (some 57) _ = _
                            simp only [Act.put, List.setIfInBounds_toArray, List.set_cons_zero, List.set_cons_succ, i64_w, i32_w]
                            rfl
                          refine pure_ (i := 9) (N := some 58) (v := ?_) (a' := ?_) #[true, true, true, true, true, true, true, true, true, true, true, true, true, true, true, true, false, false] rfl rfl (any_of HT_.out (by kernel_rfl)) (fun _ _ _ h => h) (Or.inl ⟨by rfl, ?_⟩) ?_ ?_
                          rotate_left
                          · intro w'
                            go_simp
                            with_reducible rfl
                          rotate_left
                          · simp only [Act.put, List.setIfInBounds_toArray, List.set_cons_zero, List.set_cons_succ, i64_w, i32_w]
                            rfl
                          refine pure_ (i := 16) (N := some 65) (v := ?_) (a' := ?_) #[true, true, true, true, true, true, true, true, true, true, true, true, true, true, true, true, true, false] rfl rfl (any_of HT_.out (by kernel_rfl)) (fun _ _ _ h => h) (Or.inl ⟨by rfl, ?_⟩) ?_ ?_
                          rotate_left
                          · intro w'
                            go_simp
                            with_reducible rfl
                          rotate_left
                          · simp only [Act.put, List.setIfInBounds_toArray, List.set_cons_zero, List.set_cons_succ, i64_w, i32_w]
                            rfl
                          refine pure_ (i := 17) (N := some 5) (v := ?_) (a' := ?_) #[true, true, true, true, true, true, true, true, true, true, true, true, true, true, true, true, true, true] rfl rfl (any_of HT_.out (by kernel_rfl)) (fun _ _ _ h => h) (Or.inl ⟨by rfl, ?_⟩) ?_ ?_
                          rotate_left
                          · intro w'
                            go_simp
                            with_reducible rfl
                          rotate_left
                          · simp only [Act.put, List.setIfInBounds_toArray, List.set_cons_zero, List.set_cons_succ, i64_w, i32_w]
                            rfl
                          refine done_ (done_of HT_.out (by kernel_rfl)) ?_
                          try go_wp2
                          go_roundg k1
                          case measure => have := HK1.out; omega
                          case rel => exact ⟨((x5_1 ++ t183) ++ ((rd_T28 l0_5 x6_1).f1)), (wrap64 (x6_1 + 1)), (by first | rfl | (simp; done) | (simp [*]; done)), (by first | rfl | (simp; done) | (simp [*]; done)), H', ⟨by have := HK1.out; omega⟩, ⟨by (with_reducible repeat (first | refine blk_drewN ?_ _ | refine blk_drew ?_ | refine blk_alloc ?_ _)); exact BK176.out⟩, ⟨by repeat (first | (with_reducible first | exact HB.out | apply below_alloc | apply pw_below_drewN | apply below_drew1 | refine below_set ?_ GE176.out) | exact HB.out)⟩⟩
                        · rw [if_neg c26] at H
                          exact absurd H (by simp)
                      · rw [if_neg c25] at H
                        exact absurd H (by simp)
                    · rw [if_neg c23] at H
                      exact absurd H (by simp)
                  · rw [if_neg c22] at H
                    have c22b0 : decide (x6_1 < (l0_5.length : Int)) = false := decide_eq_false c22
                    clear c22
                    simp only [Option.some.injEq, Prod.mk.injEq] at H
                    obtain ⟨rfl, rfl⟩ := H
                    have hcz30_0 : wr.cell? ⟨gb176, 0, none⟩ = some (.int .i64 a0_0) := (blk_cell BK176.out 0).trans rfl
                    have hcz30_1 : wr.cell? ⟨gb176, 1, none⟩ = some (.int .u32 a0_1) := (blk_cell BK176.out 1).trans rfl
                    have hcz30_2 : wr.cell? ⟨gb176, 2, none⟩ = some (.int .u32 a0_2) := (blk_cell BK176.out 2).trans rfl
                    have hcz30_3 : wr.cell? ⟨gb176, 3, none⟩ = some (.int .i64 a0_3) := (blk_cell BK176.out 3).trans rfl
                    have hcz30_4 : wr.cell? ⟨gb176, 4, none⟩ = some (.slice A0_4 l0_4.length c0_4) := (blk_cell BK176.out 4).trans rfl
                    have hcz30_5 : wr.cell? ⟨gb176, 5, none⟩ = some (.slice A0_5 l0_5.length c0_5) := (blk_cell BK176.out 5).trans rfl
                    have hcz30_6 : wr.cell? ⟨gb176, 6, none⟩ = some (.int .u32 a0_6) := (blk_cell BK176.out 6).trans rfl
                    have hcz30_7 : wr.cell? ⟨gb176, 7, none⟩ = some (.string a0_7) := (blk_cell BK176.out 7).trans rfl
                    have hfz30_0 := blk_frozen BK176.out 0
                    have hfz30_1 := blk_frozen BK176.out 1
                    have hfz30_2 := blk_frozen BK176.out 2
                    have hfz30_3 := blk_frozen BK176.out 3
                    have hfz30_4 := blk_frozen BK176.out 4
                    have hfz30_5 := blk_frozen BK176.out 5
                    have hfz30_6 := blk_frozen BK176.out 6
                    have hfz30_7 := blk_frozen BK176.out 7
                    go_wp2
                    go_ret2
                    exact ⟨by first | rfl | (simp [errW_none, errW_some] <;> rfl) | (simp [*, errW_none, errW_some] <;> rfl), by repeat (first | (with_reducible first | exact HB.out | apply below_alloc | apply pw_below_drewN | apply below_drew1 | refine below_set ?_ GE176.out) | exact HB.out)⟩
            · rw [if_neg c12] at H
              exact absurd H (by simp)
          · rw [if_neg c10] at H
            exact absurd H (by simp)
        · rw [if_neg c8] at H
          exact absurd H (by simp)
      · rw [if_neg c6] at H
        exact absurd H (by simp)
    · rw [if_neg c4] at H
      have c4b0 : (a0_0 == 2) = false := beq_eq_false_iff_ne.mpr c4
      have c4b1 : (a0_0 != 2) = true := bne_iff_ne.mpr c4
      have HC31 := Aside0.mk H
      clear H
      go_enter Try.func17, Try.ntmps17
      go_upto_if 71 with (first | ((with_reducible refine gate_dst (N := 1) rfl ?_); refine box_event ?hg (N := 1) ?hd (cs := #[.int .i64 a0_0, .int .u32 a0_1, .int .u32 a0_2, .int .i64 a0_3, .slice A0_4 l0_4.length c0_4, .slice A0_5 l0_5.length c0_5, .int .u32 a0_6, .string a0_7]) (t := 30) ?hr ?_; (case hd => rfl); (case hg => rfl); (case hr => first | (go_simp; done) | (go_simp; rfl)); intro gb176 hg w32 hbox hb; have n0_ := Aside0.mk (below_step (by repeat (first | (with_reducible first | exact HB.out | apply below_alloc | apply pw_below_drewN | apply below_drew1) | exact HB.out)) hb); have n1_ := Aside0.mk (hbox); have n2_ := Aside0.mk ((by rw [hg]; exact (below_size (by repeat (first | (with_reducible first | exact HB.out | apply below_alloc | apply pw_below_drewN | apply below_drew1) | exact HB.out))) : w.heap.size ≤ gb176)); have n3_ := Aside0.mk ((by rw [hg]; exact (below_size (by repeat (first | (with_reducible first | exact HB.out | apply below_alloc | apply pw_below_drewN | apply below_drew1) | exact HB.out))) : w.heap.size ≤ gb176)); clear HB; have HB := n0_; have BK176 := n1_; have GW176 := n2_; have GE176 := n3_; clear n0_ n1_ n2_ n3_; clear hb hbox hg; have hcz33_0 : w32.cell? ⟨gb176, 0, none⟩ = some (.int .i64 a0_0) := (blk_cell BK176.out 0).trans rfl; have hcz33_1 : w32.cell? ⟨gb176, 1, none⟩ = some (.int .u32 a0_1) := (blk_cell BK176.out 1).trans rfl; have hcz33_2 : w32.cell? ⟨gb176, 2, none⟩ = some (.int .u32 a0_2) := (blk_cell BK176.out 2).trans rfl; have hcz33_3 : w32.cell? ⟨gb176, 3, none⟩ = some (.int .i64 a0_3) := (blk_cell BK176.out 3).trans rfl; have hcz33_4 : w32.cell? ⟨gb176, 4, none⟩ = some (.slice A0_4 l0_4.length c0_4) := (blk_cell BK176.out 4).trans rfl; have hcz33_5 : w32.cell? ⟨gb176, 5, none⟩ = some (.slice A0_5 l0_5.length c0_5) := (blk_cell BK176.out 5).trans rfl; have hcz33_6 : w32.cell? ⟨gb176, 6, none⟩ = some (.int .u32 a0_6) := (blk_cell BK176.out 6).trans rfl; have hcz33_7 : w32.cell? ⟨gb176, 7, none⟩ = some (.string a0_7) := (blk_cell BK176.out 7).trans rfl; have hfz33_0 := blk_frozen BK176.out 0; have hfz33_1 := blk_frozen BK176.out 1; have hfz33_2 := blk_frozen BK176.out 2; have hfz33_3 := blk_frozen BK176.out 3; have hfz33_4 := blk_frozen BK176.out 4; have hfz33_5 := blk_frozen BK176.out 5; have hfz33_6 := blk_frozen BK176.out 6; have hfz33_7 := blk_frozen BK176.out 7) | ((with_reducible refine gate_callee (f := 15) rfl ?_); refine goesL_ (some 12) rfl rfl Try.func15 (by kernel_rfl) rfl #[.agg #[.int .i64 a0_0, .int .u32 a0_1, .int .u32 a0_2, .int .i64 a0_3, .slice A0_4 l0_4.length c0_4, .slice A0_5 l0_5.length c0_5, .int .u32 a0_6, .string a0_7]] rfl (by (try simp only [List.map_toArray, List.map_cons, List.map_nil]); first | done | rfl | (simp only [List.length_drop, List.length_take]; rfl)) ?_; (with_reducible refine (sphragisref10_Right.calls k a0_0 a0_1 a0_2 a0_3 _ _ l0_4 _ _ l0_5 a0_6 a0_7 true _ ?side1 ?side2 ?side3 ?side4 A2.out).mono ?_); (case side1 => repeat (first | exact (Kd.C_below HR0_4.out HB.out) | (with_reducible refine Kd.C_alloc ?_ _) | (with_reducible refine Kd.C_drewN ?_ _) | (with_reducible refine Kd.C_drew ?_))); (case side2 => exact HC0_4.out); (case side3 => repeat (first | exact (Kd.C_below HR0_5.out HB.out) | (with_reducible refine Kd.C_alloc ?_ _) | (with_reducible refine Kd.C_drewN ?_ _) | (with_reducible refine Kd.C_drew ?_))); (case side4 => exact HC0_5.out); rintro e w34 ⟨rfl, hb⟩; refine ⟨_, rfl, ?_⟩; have n0_ := Aside0.mk (blk_below (g := gb176) (o := .cells #[.int .i64 a0_0, .int .u32 a0_1, .int .u32 a0_2, .int .i64 a0_3, .slice A0_4 l0_4.length c0_4, .slice A0_5 l0_5.length c0_5, .int .u32 a0_6, .string a0_7] 30 (0, 0)) (by (with_reducible repeat (first | refine blk_drewN ?_ _ | refine blk_drew ?_ | refine blk_alloc ?_ _)); exact BK176.out) hb); have n1_ := Aside0.mk (below_step (by repeat (first | (with_reducible first | exact HB.out | apply below_alloc | apply pw_below_drewN | apply below_drew1 | refine below_set ?_ GE176.out) | exact HB.out)) hb); clear BK176; clear HB; have BK176 := n0_; have HB := n1_; clear n0_ n1_; (try clear hb); (try clear hb2); (try clear hk); (try clear hi); have hcz35_0 : w34.cell? ⟨gb176, 0, none⟩ = some (.int .i64 a0_0) := (blk_cell BK176.out 0).trans rfl; have hcz35_1 : w34.cell? ⟨gb176, 1, none⟩ = some (.int .u32 a0_1) := (blk_cell BK176.out 1).trans rfl; have hcz35_2 : w34.cell? ⟨gb176, 2, none⟩ = some (.int .u32 a0_2) := (blk_cell BK176.out 2).trans rfl; have hcz35_3 : w34.cell? ⟨gb176, 3, none⟩ = some (.int .i64 a0_3) := (blk_cell BK176.out 3).trans rfl; have hcz35_4 : w34.cell? ⟨gb176, 4, none⟩ = some (.slice A0_4 l0_4.length c0_4) := (blk_cell BK176.out 4).trans rfl; have hcz35_5 : w34.cell? ⟨gb176, 5, none⟩ = some (.slice A0_5 l0_5.length c0_5) := (blk_cell BK176.out 5).trans rfl; have hcz35_6 : w34.cell? ⟨gb176, 6, none⟩ = some (.int .u32 a0_6) := (blk_cell BK176.out 6).trans rfl; have hcz35_7 : w34.cell? ⟨gb176, 7, none⟩ = some (.string a0_7) := (blk_cell BK176.out 7).trans rfl; have hfz35_0 := blk_frozen BK176.out 0; have hfz35_1 := blk_frozen BK176.out 1; have hfz35_2 := blk_frozen BK176.out 2; have hfz35_3 := blk_frozen BK176.out 3; have hfz35_4 := blk_frozen BK176.out 4; have hfz35_5 := blk_frozen BK176.out 5; have hfz35_6 := blk_frozen BK176.out 6; have hfz35_7 := blk_frozen BK176.out 7))
      (try simp only [Act.put, List.setIfInBounds_toArray, List.set_cons_zero, List.set_cons_succ])
      go_cut [7] (fun v7 wc => ∃ (kq : Nat) (x7_30 : ByteArray), v7 = .string x7_30 ∧ Aside0 (sphragisref10_Encode.j1 kq x7_30 a0_0 a0_1 a0_2 a0_3 l0_4 l0_5 a0_6 a0_7 = some (r1, r2)) ∧ Aside0 (kq ≤ k) ∧ Aside0 (wc.heap[gb176]? = some (.cells #[.int .i64 a0_0, .int .u32 a0_1, .int .u32 a0_2, .int .i64 a0_3, (.slice A0_4 l0_4.length c0_4), (.slice A0_5 l0_5.length c0_5), .int .u32 a0_6, .string a0_7] 30 (0, 0))) ∧ Aside0 (Below w.heap.size w wc))
      case first =>
        have H := HC31.out
        clear HC31
        by_cases c36 : a0_7.toList = ([] : List UInt8)
        · rw [if_pos c36] at H
          have c36b0 : (a0_7.toList == ([] : List UInt8)) = true := beq_iff_eq.mpr c36
          have c36b1 : (a0_7.toList != ([] : List UInt8)) = false := bne_eq_false_iff_eq.mpr c36
          clear c36
          (first | rw [c36b0] | (simp only [i64_w, i32_w]; rw [c36b0]) | (rw [List.beq_nil_eq] at c36b0; rw [c36b0]) | skip)
          by_cases c37 : 32 ≤ 281474976710656
          · rw [if_pos c37] at H
            have c37b0 := eq_true c37
            have c37b1 : decide (32 ≤ 281474976710656) = true := decide_eq_true c37
            clear c37
            obtain ⟨y185, hy185⟩ : ∃ y_ : List Int, y_ = (List.replicate 32 0) := ⟨_, rfl⟩
            replace H : (sphragisref10_Encode.j1 k (strOfNums y185) a0_0 a0_1 a0_2 a0_3 l0_4 l0_5 a0_6 a0_7) = some (r1, r2) := by first | (rw [hy185]; with_reducible exact H) | (have H2_ := (Option.bind_some _ _).symm.trans H; rw [hy185]; with_reducible exact H2_) | (have H2_ := (Option.bind_some _ _).symm.trans H; with_reducible exact H2_) | with_reducible exact H | (rw [hy185]; exact H) | exact H
            have Ny185 := Aside0.mk hy185
            clear hy185
            have H' := Aside0.mk H
            clear H
            go_wp2_with (first | ((with_reducible refine gate_dst (N := 72) rfl ?_); refine Kd.R_make (Kd.int .u8) _ 5 rfl (N := 72) rfl 43 _ _ rfl 32 rfl rfl Try.underlying43 (.int .u8 0) 1 info5 rfl (by decide) (by omega) 0 (ok := fun _ => True) (okp := fun _ => True) rfl (fun _ hk => hk) trivial (by omega) (by omega) (Below.refl _ _) (Nat.le_refl _) ?_; intro v186 w38 ho39 hb hg_ hnew_; clear hg_ hnew_; (first | rw [← Ny185.out] at ho39 | (simp only [Int.reduceToNat] at ho39; rw [← Ny185.out] at ho39)); have n0_ := Aside0.mk (Kd.R_lower ho39 (below_size (by repeat (first | (with_reducible first | exact HB.out | apply below_alloc | apply pw_below_drewN | apply below_drew1 | refine below_set ?_ GE176.out) | exact HB.out)))); have n1_ := Aside0.mk (blk_below (g := gb176) (o := .cells #[.int .i64 a0_0, .int .u32 a0_1, .int .u32 a0_2, .int .i64 a0_3, .slice A0_4 l0_4.length c0_4, .slice A0_5 l0_5.length c0_5, .int .u32 a0_6, .string a0_7] 30 (0, 0)) (by (with_reducible repeat (first | refine blk_drewN ?_ _ | refine blk_drew ?_ | refine blk_alloc ?_ _)); exact BK176.out) hb); have n2_ := Aside0.mk (below_step (by repeat (first | (with_reducible first | exact HB.out | apply below_alloc | apply pw_below_drewN | apply below_drew1 | refine below_set ?_ GE176.out) | exact HB.out)) hb); clear BK176; clear HB; have HO187 := n0_; have BK176 := n1_; have HB := n2_; clear n0_ n1_ n2_; clear hb ho39; have hcv40 := own_string (P := Try.prog) Try.underlying43 Try.underlying5 Try.underlying9 (Kd.own_of_R HO187.out)))
            go_meet
            case rel => exact ⟨_, (strOfNums y185), (by first | rfl | (simp; done) | (simp [*]; done)), H', ⟨by first | omega | exact Nat.le_refl _⟩, ⟨by (with_reducible repeat (first | refine blk_drewN ?_ _ | refine blk_drew ?_ | refine blk_alloc ?_ _)); exact BK176.out⟩, ⟨by repeat (first | (with_reducible first | exact HB.out | apply below_alloc | apply pw_below_drewN | apply below_drew1 | refine below_set ?_ GE176.out) | exact HB.out)⟩⟩
          · rw [if_neg c37] at H
            exact absurd H (by simp)
        · rw [if_neg c36] at H
          have c36b0 : (a0_7.toList == ([] : List UInt8)) = false := beq_eq_false_iff_ne.mpr c36
          have c36b1 : (a0_7.toList != ([] : List UInt8)) = true := bne_iff_ne.mpr c36
          (first | rw [c36b0] | (simp only [i64_w, i32_w]; rw [c36b0]) | (rw [List.beq_nil_eq] at c36b0; rw [c36b0]) | skip)
          have H' := Aside0.mk H
          clear H
          go_wp2
          go_meet
          case rel => exact ⟨_, (a0_7), (by first | rfl | (simp; done) | (simp [*]; done)), H', ⟨by first | omega | exact Nat.le_refl _⟩, ⟨by (with_reducible repeat (first | refine blk_drewN ?_ _ | refine blk_drew ?_ | refine blk_alloc ?_ _)); exact BK176.out⟩, ⟨by repeat (first | (with_reducible first | exact HB.out | apply below_alloc | apply pw_below_drewN | apply below_drew1 | refine below_set ?_ GE176.out) | exact HB.out)⟩⟩
      case rest =>
        clear HC31
        try clear c1
        try clear p1
        try clear q1
        try clear hx1
        try clear c2
        try clear p2
        try clear c3
        try clear c4
        try clear c4b0
        try clear c4b1
        try clear hcv4
        try clear c6
        try clear c6b0
        try clear c6b1
        try clear c6b2
        try clear p6
        try clear c8
        try clear c8b0
        try clear c8b1
        try clear c8b2
        try clear c10
        try clear c10b0
        try clear c10b1
        try clear c10b2
        try clear c12
        try clear c12b0
        try clear c12b1
        try clear c12b2
        try clear c15
        try clear c17
        try clear p18
        try clear q18
        try clear hx18
        try clear c22
        try clear c22b0
        try clear c23
        try clear c23b0
        try clear c25
        try clear c25b0
        try clear c25b1
        try clear c25b2
        try clear c26
        try clear c26b0
        try clear c26b1
        try clear c26b2
        try clear c33
        try clear c36
        try clear c36b0
        try clear c36b1
        try clear c37
        try clear c37b0
        try clear c37b1
        try clear hcv40
        try clear hcz14_0
        try clear hcz14_1
        try clear hcz14_2
        try clear hcz14_3
        try clear hcz14_4
        try clear hcz14_5
        try clear hcz14_6
        try clear hcz14_7
        try clear hcz16_0
        try clear hcz16_1
        try clear hcz16_2
        try clear hcz16_3
        try clear hcz16_4
        try clear hcz16_5
        try clear hcz16_6
        try clear hcz16_7
        try clear hcz27_0
        try clear hcz27_1
        try clear hcz27_2
        try clear hcz27_3
        try clear hcz27_4
        try clear hcz27_5
        try clear hcz27_6
        try clear hcz27_7
        try clear hcz30_0
        try clear hcz30_1
        try clear hcz30_2
        try clear hcz30_3
        try clear hcz30_4
        try clear hcz30_5
        try clear hcz30_6
        try clear hcz30_7
        try clear hcz33_0
        try clear hcz33_1
        try clear hcz33_2
        try clear hcz33_3
        try clear hcz33_4
        try clear hcz33_5
        try clear hcz33_6
        try clear hcz33_7
        try clear hcz35_0
        try clear hcz35_1
        try clear hcz35_2
        try clear hcz35_3
        try clear hcz35_4
        try clear hcz35_5
        try clear hcz35_6
        try clear hcz35_7
        try clear hfz14_0
        try clear hfz14_1
        try clear hfz14_2
        try clear hfz14_3
        try clear hfz14_4
        try clear hfz14_5
        try clear hfz14_6
        try clear hfz14_7
        try clear hfz16_0
        try clear hfz16_1
        try clear hfz16_2
        try clear hfz16_3
        try clear hfz16_4
        try clear hfz16_5
        try clear hfz16_6
        try clear hfz16_7
        try clear hfz27_0
        try clear hfz27_1
        try clear hfz27_2
        try clear hfz27_3
        try clear hfz27_4
        try clear hfz27_5
        try clear hfz27_6
        try clear hfz27_7
        try clear hfz30_0
        try clear hfz30_1
        try clear hfz30_2
        try clear hfz30_3
        try clear hfz30_4
        try clear hfz30_5
        try clear hfz30_6
        try clear hfz30_7
        try clear hfz33_0
        try clear hfz33_1
        try clear hfz33_2
        try clear hfz33_3
        try clear hfz33_4
        try clear hfz33_5
        try clear hfz33_6
        try clear hfz33_7
        try clear hfz35_0
        try clear hfz35_1
        try clear hfz35_2
        try clear hfz35_3
        try clear hfz35_4
        try clear hfz35_5
        try clear hfz35_6
        try clear hfz35_7
        try clear hx182_0
        try clear hx182_1
        try clear hx184_0
        try clear hx184_1
        try clear p182
        try clear p184
        try clear p2
        try clear q182
        try clear q184
        obtain ⟨kq, x7_30, rfl, HA, HJ30, BK176, HB⟩ := hcut
        cases kq with
        | zero => exact absurd HA.out (by simp [sphragisref10_Encode.j1])
        | succ kj30 =>
          have H := HA.out
          clear HA
          simp only [sphragisref10_Encode.j1] at H
          replace H := Option.bind_eq_some_iff.mp H
          obtain ⟨t188, A410, H⟩ := H
          replace H : (if 1 + t188.size ≤ 9223372036854775807 then ((sphragisref10_put.f kj30 (IntKind.u64.wrap (a0_6)) 4).bind fun t189 => (if 1 + t188.size + t189.size ≤ 9223372036854775807 then (if 1 + t188.size + t189.size + x7_30.size ≤ 9223372036854775807 then (sphragisref10_Encode.l1 kj30 ((((⟨#[1]⟩ : ByteArray) ++ t188) ++ t189) ++ x7_30) 0 a0_0 a0_1 a0_2 a0_3 l0_4 l0_5 a0_6 a0_7) else (none)) else (none))) else (none)) = some (r1, r2) := H
          have A41 := Aside0.mk A410
          clear A410
          by_cases c42 : 1 + t188.size ≤ 9223372036854775807
          · rw [if_pos c42] at H
            have c42b0 := eq_true c42
            have c42b1 : decide (1 + t188.size ≤ 9223372036854775807) = true := decide_eq_true c42
            try have c42b2 : (9223372036854775807 < 1 + t188.size) = False := eq_false (Nat.not_lt.2 c42)
            replace H := Option.bind_eq_some_iff.mp H
            obtain ⟨t189, A430, H⟩ := H
            replace H : (if 1 + t188.size + t189.size ≤ 9223372036854775807 then (if 1 + t188.size + t189.size + x7_30.size ≤ 9223372036854775807 then (sphragisref10_Encode.l1 kj30 ((((⟨#[1]⟩ : ByteArray) ++ t188) ++ t189) ++ x7_30) 0 a0_0 a0_1 a0_2 a0_3 l0_4 l0_5 a0_6 a0_7) else (none)) else (none)) = some (r1, r2) := H
            have A43 := Aside0.mk A430
            clear A430
            by_cases c44 : 1 + t188.size + t189.size ≤ 9223372036854775807
            · rw [if_pos c44] at H
              have c44b0 := eq_true c44
              have c44b1 : decide (1 + t188.size + t189.size ≤ 9223372036854775807) = true := decide_eq_true c44
              try have c44b2 : (9223372036854775807 < 1 + t188.size + t189.size) = False := eq_false (Nat.not_lt.2 c44)
              by_cases c45 : 1 + t188.size + t189.size + x7_30.size ≤ 9223372036854775807
              · rw [if_pos c45] at H
                have c45b0 := eq_true c45
                have c45b1 : decide (1 + t188.size + t189.size + x7_30.size ≤ 9223372036854775807) = true := decide_eq_true c45
                try have c45b2 : (9223372036854775807 < 1 + t188.size + t189.size + x7_30.size) = False := eq_false (Nat.not_lt.2 c45)
                have H' := Aside0.mk H
                clear H
                try go_wp2
                have n0_ := Aside0.mk (blk_drew BK176.out)
                have n1_ := Aside0.mk (below_drew1 HB.out)
                clear BK176
                clear HB
                have BK176 := n0_
                have HB := n1_
                clear n0_ n1_
                refine start_ (n := 15) (S := fun w' => w'.cell? ⟨gb176, 0, none⟩ = some (.int .i64 a0_0) ∧ w'.cell? ⟨gb176, 1, none⟩ = some (.int .u32 a0_1) ∧ w'.cell? ⟨gb176, 2, none⟩ = some (.int .u32 a0_2) ∧ w'.cell? ⟨gb176, 3, none⟩ = some (.int .i64 a0_3) ∧ w'.cell? ⟨gb176, 4, none⟩ = some (.slice A0_4 l0_4.length c0_4) ∧ w'.cell? ⟨gb176, 5, none⟩ = some (.slice A0_5 l0_5.length c0_5) ∧ w'.cell? ⟨gb176, 6, none⟩ = some (.int .u32 a0_6) ∧ w'.cell? ⟨gb176, 7, none⟩ = some (.string a0_7)) (ds := []) #[false, false, false, false, false, false, false, false, false, false, false, false, false, false, false] (by kernel_rfl) rfl rfl ⟨(blk_cell BK176.out 0).trans rfl, (blk_cell BK176.out 1).trans rfl, (blk_cell BK176.out 2).trans rfl, (blk_cell BK176.out 3).trans rfl, (blk_cell BK176.out 4).trans rfl, (blk_cell BK176.out 5).trans rfl, (blk_cell BK176.out 6).trans rfl, (blk_cell BK176.out 7).trans rfl⟩ (fun hHeld => ?_); refine with_tabW sphragisref10_Encode.tab14 sphragisref10_Encode.bits14 (fun HT_ HW_ => ?_)
                generalize wc.drew = w46 at BK176 HB hHeld ⊢
                refine pure_ (i := 0) (N := some 74) (v := ?_) (a' := ?_) #[true, false, false, false, false, false, false, false, false, false, false, false, false, false, false] rfl rfl (any_of HT_.out (by kernel_rfl)) (fun _ _ _ h => h) (Or.inl ⟨by rfl, ?_⟩) ?_ ?_
                rotate_left
                · intro w'
                  go_simp
                  with_reducible rfl
                rotate_left
                · simp only [Act.put, List.setIfInBounds_toArray, List.set_cons_zero, List.set_cons_succ, i64_w, i32_w]
                  rfl
                refine pure_ (i := 6) (N := some 80) (v := ?_) (a' := ?_) #[true, false, false, false, false, false, true, false, false, false, false, false, false, false, false] rfl rfl (any_of HT_.out (by kernel_rfl)) (fun _ _ _ h => h) (Or.inl ⟨by rfl, ?_⟩) ?_ ?_
                rotate_left
                · intro w'
                  go_simp
                  with_reducible rfl
                rotate_left
                · simp only [Act.put, List.setIfInBounds_toArray, List.set_cons_zero, List.set_cons_succ, i64_w, i32_w]
                  rfl
                refine pure_ (i := 7) (N := some 81) (v := ?_) (a' := ?_) #[true, false, false, false, false, false, true, true, false, false, false, false, false, false, false] rfl rfl (any_of HT_.out (by kernel_rfl)) (fun _ _ _ h => h) (Or.inl ⟨by rfl, ?_⟩) ?_ ?_
                rotate_left
                · intro w'
                  go_simp
                  with_reducible rfl
                rotate_left
                · simp only [Act.put, List.setIfInBounds_toArray, List.set_cons_zero, List.set_cons_succ, i64_w, i32_w]
                  rfl
                refine pure_ (i := 12) (N := some 86) (v := ?_) (a' := ?_) #[true, false, false, false, false, false, true, true, false, false, false, false, true, false, false] rfl rfl (any_of HT_.out (by kernel_rfl)) (fun _ _ _ h => h) (Or.inl ⟨by rfl, ?_⟩) ?_ ?_
                rotate_left
                · intro w'
                  go_simp
                  with_reducible rfl
                rotate_left
                · simp only [Act.put, List.setIfInBounds_toArray, List.set_cons_zero, List.set_cons_succ, i64_w, i32_w]
                  rfl
                refine take_ (i := 1) (N := some 75) (v := ?_) (a' := ?_) #[true, true, false, false, false, false, true, true, false, false, false, false, true, false, false] rfl rfl (take_ofW HT_.out HW_.out (by kernel_rfl)) (fun _ _ _ h => h) (Or.inl ⟨by rfl, ?_⟩) hHeld ?_ ?_
                rotate_left
                · rintro w' ⟨s0, s1, s2, s3, s4, s5, s6, s7⟩
                  go_simp
                  with_reducible rfl
                rotate_left
                · simp only [Act.put, List.setIfInBounds_toArray, List.set_cons_zero, List.set_cons_succ, i64_w, i32_w]
                  rfl
                refine pure_ (i := 2) (N := some 76) (v := ?_) (a' := ?_) #[true, true, true, false, false, false, true, true, false, false, false, false, true, false, false] rfl rfl (any_of HT_.out (by kernel_rfl)) (fun _ _ _ h => h) (Or.inl ⟨by rfl, ?_⟩) ?_ ?_
                rotate_left
                · intro w'
                  go_simp
                  with_reducible rfl
                rotate_left
                · simp only [Act.put, List.setIfInBounds_toArray, List.set_cons_zero, List.set_cons_succ, i64_w, i32_w]
                  rfl
                refine pure_ (i := 3) (N := some 77) (v := ?_) (a' := ?_) #[true, true, true, true, false, false, true, true, false, false, false, false, true, false, false] rfl rfl (any_of HT_.out (by kernel_rfl)) (fun _ _ _ h => h) (Or.inl ⟨by rfl, ?_⟩) ?_ ?_
                rotate_left
                · intro w'
                  go_simp
                  with_reducible rfl
                rotate_left
                · simp only [Act.put, List.setIfInBounds_toArray, List.set_cons_zero, List.set_cons_succ, i64_w, i32_w]
                  rfl
                refine take_ (i := 8) (N := some 82) (v := ?_) (a' := ?_) #[true, true, true, true, false, false, true, true, true, false, false, false, true, false, false] rfl rfl (take_ofW HT_.out HW_.out (by kernel_rfl)) (fun _ _ _ h => h) (Or.inl ⟨by rfl, ?_⟩) hHeld ?_ ?_
                rotate_left
                · rintro w' ⟨s0, s1, s2, s3, s4, s5, s6, s7⟩
                  go_simp
                  with_reducible rfl
                rotate_left
                · simp only [Act.put, List.setIfInBounds_toArray, List.set_cons_zero, List.set_cons_succ, i64_w, i32_w]
                  rfl
                refine pure_ (i := 9) (N := some 83) (v := ?_) (a' := ?_) #[true, true, true, true, false, false, true, true, true, true, false, false, true, false, false] rfl rfl (any_of HT_.out (by kernel_rfl)) (fun _ _ _ h => h) (Or.inl ⟨by rfl, ?_⟩) ?_ ?_
                rotate_left
                · intro w'
                  go_simp
                  with_reducible rfl
                rotate_left
                · simp only [Act.put, List.setIfInBounds_toArray, List.set_cons_zero, List.set_cons_succ, i64_w, i32_w]
                  rfl
                refine one_ (i := 4) (N := some 78) #[true, true, true, true, true, false, true, true, true, true, false, false, true, false, false] rfl rfl (one_of HT_.out (by kernel_rfl)) (by decide) (fun K hK => ?_)
                refine goes_ Try.func33 (by kernel_rfl) rfl #[.int .u64 (IntKind.u64.wrap ((l0_4.length : Int))), .int .i64 1] (by rfl) rfl rfl (by (try simp only [List.map_toArray, List.map_cons, List.map_nil]); first | done | rfl | (simp only [List.length_drop, List.length_take]; rfl)) ?_
                with_reducible refine (sphragisref10_put.calls kj30 (IntKind.u64.wrap ((l0_4.length : Int))) 1 t188 _ A41.out).mono ?_
                rintro e w47 ⟨rfl, hb⟩
                refine ⟨_, rfl, ?_⟩
                have n0_ := Aside0.mk (blk_below (g := gb176) (o := .cells #[.int .i64 a0_0, .int .u32 a0_1, .int .u32 a0_2, .int .i64 a0_3, .slice A0_4 l0_4.length c0_4, .slice A0_5 l0_5.length c0_5, .int .u32 a0_6, .string a0_7] 30 (0, 0)) (by (with_reducible repeat (first | refine blk_drewN ?_ _ | refine blk_drew ?_ | refine blk_alloc ?_ _)); exact BK176.out) hb)
                have n1_ := Aside0.mk (below_step (by repeat (first | (with_reducible first | exact HB.out | apply below_alloc | apply pw_below_drewN | apply below_drew1 | refine below_set ?_ GE176.out) | exact HB.out)) hb)
                clear BK176
                clear HB
                have BK176 := n0_
                have HB := n1_
                clear n0_ n1_
                (try clear hb)
                (try clear hb2)
                (try clear hk)
                (try clear hi)
                refine hK.out _ _ ⟨(blk_cell BK176.out 0).trans rfl, (blk_cell BK176.out 1).trans rfl, (blk_cell BK176.out 2).trans rfl, (blk_cell BK176.out 3).trans rfl, (blk_cell BK176.out 4).trans rfl, (blk_cell BK176.out 5).trans rfl, (blk_cell BK176.out 6).trans rfl, (blk_cell BK176.out 7).trans rfl⟩ (fun hHeld => ?_)
                clear hK K
                refine norm_ (a' := ?_) ?_ ?_
                rotate_left
                · show Act.put _ (some 78) _ = _
                  simp only [Act.put, List.setIfInBounds_toArray, List.set_cons_zero, List.set_cons_succ, i64_w, i32_w]
                  rfl
                refine pure_ (i := 5) (N := some 79) (v := ?_) (a' := ?_) #[true, true, true, true, true, true, true, true, true, true, false, false, true, false, false] rfl rfl (any_of HT_.out (by kernel_rfl)) (fun _ _ _ h => h) (Or.inl ⟨by rfl, ?_⟩) ?_ ?_
                rotate_left
                · intro w'
                  go_simp
                  with_reducible rfl
                rotate_left
                · simp only [Act.put, List.setIfInBounds_toArray, List.set_cons_zero, List.set_cons_succ, i64_w, i32_w]
                  rfl
                refine one_ (i := 10) (N := some 84) #[true, true, true, true, true, true, true, true, true, true, true, false, true, false, false] rfl rfl (one_of HT_.out (by kernel_rfl)) (by decide) (fun K hK => ?_)
                refine goes_ Try.func33 (by kernel_rfl) rfl #[.int .u64 (IntKind.u64.wrap (a0_6)), .int .i64 4] (by rfl) rfl rfl (by (try simp only [List.map_toArray, List.map_cons, List.map_nil]); first | done | rfl | (simp only [List.length_drop, List.length_take]; rfl)) ?_
                with_reducible refine (sphragisref10_put.calls kj30 (IntKind.u64.wrap (a0_6)) 4 t189 _ A43.out).mono ?_
                rintro e w48 ⟨rfl, hb⟩
                refine ⟨_, rfl, ?_⟩
                have n0_ := Aside0.mk (blk_below (g := gb176) (o := .cells #[.int .i64 a0_0, .int .u32 a0_1, .int .u32 a0_2, .int .i64 a0_3, .slice A0_4 l0_4.length c0_4, .slice A0_5 l0_5.length c0_5, .int .u32 a0_6, .string a0_7] 30 (0, 0)) (by (with_reducible repeat (first | refine blk_drewN ?_ _ | refine blk_drew ?_ | refine blk_alloc ?_ _)); exact BK176.out) hb)
                have n1_ := Aside0.mk (below_step (by repeat (first | (with_reducible first | exact HB.out | apply below_alloc | apply pw_below_drewN | apply below_drew1 | refine below_set ?_ GE176.out) | exact HB.out)) hb)
                clear BK176
                clear HB
                have BK176 := n0_
                have HB := n1_
                clear n0_ n1_
                (try clear hb)
                (try clear hb2)
                (try clear hk)
                (try clear hi)
                refine hK.out _ _ ⟨(blk_cell BK176.out 0).trans rfl, (blk_cell BK176.out 1).trans rfl, (blk_cell BK176.out 2).trans rfl, (blk_cell BK176.out 3).trans rfl, (blk_cell BK176.out 4).trans rfl, (blk_cell BK176.out 5).trans rfl, (blk_cell BK176.out 6).trans rfl, (blk_cell BK176.out 7).trans rfl⟩ (fun hHeld => ?_)
                clear hK K
                refine norm_ (a' := ?_) ?_ ?_
                rotate_left
                · show Act.put _ (some 84) _ = _
                  simp only [Act.put, List.setIfInBounds_toArray, List.set_cons_zero, List.set_cons_succ, i64_w, i32_w]
                  rfl
                refine pure_ (i := 11) (N := some 85) (v := ?_) (a' := ?_) #[true, true, true, true, true, true, true, true, true, true, true, true, true, false, false] rfl rfl (any_of HT_.out (by kernel_rfl)) (fun _ _ _ h => h) (Or.inl ⟨by rfl, ?_⟩) ?_ ?_
                rotate_left
                · intro w'
                  go_simp
                  with_reducible rfl
                rotate_left
                · simp only [Act.put, List.setIfInBounds_toArray, List.set_cons_zero, List.set_cons_succ, i64_w, i32_w]
                  rfl
                refine pure_ (i := 13) (N := some 87) (v := ?_) (a' := ?_) #[true, true, true, true, true, true, true, true, true, true, true, true, true, true, false] rfl rfl (any_of HT_.out (by kernel_rfl)) (fun _ _ _ h => h) (Or.inl ⟨by rfl, ?_⟩) ?_ ?_
                rotate_left
                · intro w'
                  go_simp
                  with_reducible rfl
                rotate_left
                · simp only [Act.put, List.setIfInBounds_toArray, List.set_cons_zero, List.set_cons_succ, i64_w, i32_w]
                  rfl
                refine pure_ (i := 14) (N := some 8) (v := ?_) (a' := ?_) #[true, true, true, true, true, true, true, true, true, true, true, true, true, true, true] rfl rfl (any_of HT_.out (by kernel_rfl)) (fun _ _ _ h => h) (Or.inl ⟨by rfl, ?_⟩) ?_ ?_
                rotate_left
                · intro w'
                  go_simp
                  with_reducible rfl
                rotate_left
                · simp only [Act.put, List.setIfInBounds_toArray, List.set_cons_zero, List.set_cons_succ, i64_w, i32_w]
                  rfl
                refine done_ (done_of HT_.out (by kernel_rfl)) ?_
                try go_wp2
                go_loopg [8, 9] kj30 (fun kq v8 v9 w' => ∃ (x8_2 : ByteArray) (x9_2 : Int), v8 = .string x8_2 ∧ v9 = .int .i64 x9_2 ∧ Aside0 (sphragisref10_Encode.l1 kq x8_2 x9_2 a0_0 a0_1 a0_2 a0_3 l0_4 l0_5 a0_6 a0_7 = some (r1, r2)) ∧ Aside0 (kq ≤ kj30) ∧ Aside0 (w'.heap[gb176]? = some (.cells #[.int .i64 a0_0, .int .u32 a0_1, .int .u32 a0_2, .int .i64 a0_3, (.slice A0_4 l0_4.length c0_4), (.slice A0_5 l0_5.length c0_5), .int .u32 a0_6, .string a0_7] 30 (0, 0))) ∧ Aside0 (Below w.heap.size w w'))
                case atStart => exact ⟨((((⟨#[1]⟩ : ByteArray) ++ t188) ++ t189) ++ x7_30), (0), (by first | rfl | (simp; done) | (simp [*]; done)), (by first | rfl | (simp; done) | (simp [*]; done)), H', ⟨Nat.le_refl _⟩, ⟨by (with_reducible repeat (first | refine blk_drewN ?_ _ | refine blk_drew ?_ | refine blk_alloc ?_ _)); exact BK176.out⟩, ⟨by repeat (first | (with_reducible first | exact HB.out | apply below_alloc | apply pw_below_drewN | apply below_drew1 | refine below_set ?_ GE176.out) | exact HB.out)⟩⟩
                case round =>
                  clear H'
                  try clear c1
                  try clear p1
                  try clear q1
                  try clear hx1
                  try clear c2
                  try clear p2
                  try clear c3
                  try clear c4
                  try clear c4b0
                  try clear c4b1
                  try clear hcv4
                  try clear c6
                  try clear c6b0
                  try clear c6b1
                  try clear c6b2
                  try clear p6
                  try clear c8
                  try clear c8b0
                  try clear c8b1
                  try clear c8b2
                  try clear c10
                  try clear c10b0
                  try clear c10b1
                  try clear c10b2
                  try clear c12
                  try clear c12b0
                  try clear c12b1
                  try clear c12b2
                  try clear c15
                  try clear c17
                  try clear p18
                  try clear q18
                  try clear hx18
                  try clear c22
                  try clear c22b0
                  try clear c23
                  try clear c23b0
                  try clear c25
                  try clear c25b0
                  try clear c25b1
                  try clear c25b2
                  try clear c26
                  try clear c26b0
                  try clear c26b1
                  try clear c26b2
                  try clear c33
                  try clear c36
                  try clear c36b0
                  try clear c36b1
                  try clear c37
                  try clear c37b0
                  try clear c37b1
                  try clear hcv40
                  try clear c42
                  try clear c42b0
                  try clear c42b1
                  try clear c42b2
                  try clear c44
                  try clear c44b0
                  try clear c44b1
                  try clear c44b2
                  try clear c45
                  try clear c45b0
                  try clear c45b1
                  try clear c45b2
                  try clear hcz14_0
                  try clear hcz14_1
                  try clear hcz14_2
                  try clear hcz14_3
                  try clear hcz14_4
                  try clear hcz14_5
                  try clear hcz14_6
                  try clear hcz14_7
                  try clear hcz16_0
                  try clear hcz16_1
                  try clear hcz16_2
                  try clear hcz16_3
                  try clear hcz16_4
                  try clear hcz16_5
                  try clear hcz16_6
                  try clear hcz16_7
                  try clear hcz27_0
                  try clear hcz27_1
                  try clear hcz27_2
                  try clear hcz27_3
                  try clear hcz27_4
                  try clear hcz27_5
                  try clear hcz27_6
                  try clear hcz27_7
                  try clear hcz30_0
                  try clear hcz30_1
                  try clear hcz30_2
                  try clear hcz30_3
                  try clear hcz30_4
                  try clear hcz30_5
                  try clear hcz30_6
                  try clear hcz30_7
                  try clear hcz33_0
                  try clear hcz33_1
                  try clear hcz33_2
                  try clear hcz33_3
                  try clear hcz33_4
                  try clear hcz33_5
                  try clear hcz33_6
                  try clear hcz33_7
                  try clear hcz35_0
                  try clear hcz35_1
                  try clear hcz35_2
                  try clear hcz35_3
                  try clear hcz35_4
                  try clear hcz35_5
                  try clear hcz35_6
                  try clear hcz35_7
                  try clear hfz14_0
                  try clear hfz14_1
                  try clear hfz14_2
                  try clear hfz14_3
                  try clear hfz14_4
                  try clear hfz14_5
                  try clear hfz14_6
                  try clear hfz14_7
                  try clear hfz16_0
                  try clear hfz16_1
                  try clear hfz16_2
                  try clear hfz16_3
                  try clear hfz16_4
                  try clear hfz16_5
                  try clear hfz16_6
                  try clear hfz16_7
                  try clear hfz27_0
                  try clear hfz27_1
                  try clear hfz27_2
                  try clear hfz27_3
                  try clear hfz27_4
                  try clear hfz27_5
                  try clear hfz27_6
                  try clear hfz27_7
                  try clear hfz30_0
                  try clear hfz30_1
                  try clear hfz30_2
                  try clear hfz30_3
                  try clear hfz30_4
                  try clear hfz30_5
                  try clear hfz30_6
                  try clear hfz30_7
                  try clear hfz33_0
                  try clear hfz33_1
                  try clear hfz33_2
                  try clear hfz33_3
                  try clear hfz33_4
                  try clear hfz33_5
                  try clear hfz33_6
                  try clear hfz33_7
                  try clear hfz35_0
                  try clear hfz35_1
                  try clear hfz35_2
                  try clear hfz35_3
                  try clear hfz35_4
                  try clear hfz35_5
                  try clear hfz35_6
                  try clear hfz35_7
                  try clear hx182_0
                  try clear hx182_1
                  try clear hx184_0
                  try clear hx184_1
                  try clear p1
                  try clear p18
                  try clear p182
                  try clear p184
                  try clear p2
                  try clear p6
                  try clear q1
                  try clear q18
                  try clear q182
                  try clear q184
                  obtain ⟨x8_2, x9_2, rfl, rfl, HA, HK2, BK176, HB⟩ := hrel
                  cases gk with
                  | zero => exact absurd HA.out (by simp [sphragisref10_Encode.l1])
                  | succ k2 =>
                    have H := HA.out
                    clear HA
                    simp only [sphragisref10_Encode.l1] at H
                    by_cases c49 : x9_2 < (l0_4.length : Int)
                    · rw [if_pos c49] at H
                      have c49b0 : decide (x9_2 < (l0_4.length : Int)) = true := decide_eq_true c49
                      clear c49
                      by_cases c50 : 0 ≤ x9_2
                      · rw [if_pos c50] at H
                        have c50b0 : decide (0 ≤ x9_2) = true := decide_eq_true c50
                        clear c50
                        replace H := Option.bind_eq_some_iff.mp H
                        obtain ⟨t192, A510, H⟩ := H
                        replace H : (if x8_2.size + t192.size ≤ 9223372036854775807 then ((sphragisref10_put.f k2 (IntKind.u64.wrap ((rd_T47 l0_4 x9_2).f1)) 4).bind fun t193 => (if x8_2.size + t192.size + t193.size ≤ 9223372036854775807 then ((sphragisref10_put.f k2 (IntKind.u64.wrap ((rd_T47 l0_4 x9_2).f2)) 4).bind fun t194 => (if x8_2.size + t192.size + t193.size + t194.size ≤ 9223372036854775807 then ((sphragisref10_put.f k2 (IntKind.u64.wrap ((((rd_T47 l0_4 x9_2).f3).size : Int))) 1).bind fun t195 => (if x8_2.size + t192.size + t193.size + t194.size + t195.size ≤ 9223372036854775807 then (if x8_2.size + t192.size + t193.size + t194.size + t195.size + ((rd_T47 l0_4 x9_2).f3).size ≤ 9223372036854775807 then (sphragisref10_Encode.l1 k2 (((((x8_2 ++ t192) ++ t193) ++ t194) ++ t195) ++ ((rd_T47 l0_4 x9_2).f3)) (wrap64 (x9_2 + 1)) a0_0 a0_1 a0_2 a0_3 l0_4 l0_5 a0_6 a0_7) else (none)) else (none))) else (none))) else (none))) else (none)) = some (r1, r2) := H
                        have A51 := Aside0.mk A510
                        clear A510
                        by_cases c52 : x8_2.size + t192.size ≤ 9223372036854775807
                        · rw [if_pos c52] at H
                          have c52b0 := eq_true c52
                          have c52b1 : decide (x8_2.size + t192.size ≤ 9223372036854775807) = true := decide_eq_true c52
                          try have c52b2 : (9223372036854775807 < x8_2.size + t192.size) = False := eq_false (Nat.not_lt.2 c52)
                          replace H := Option.bind_eq_some_iff.mp H
                          obtain ⟨t193, A530, H⟩ := H
                          replace H : (if x8_2.size + t192.size + t193.size ≤ 9223372036854775807 then ((sphragisref10_put.f k2 (IntKind.u64.wrap ((rd_T47 l0_4 x9_2).f2)) 4).bind fun t194 => (if x8_2.size + t192.size + t193.size + t194.size ≤ 9223372036854775807 then ((sphragisref10_put.f k2 (IntKind.u64.wrap ((((rd_T47 l0_4 x9_2).f3).size : Int))) 1).bind fun t195 => (if x8_2.size + t192.size + t193.size + t194.size + t195.size ≤ 9223372036854775807 then (if x8_2.size + t192.size + t193.size + t194.size + t195.size + ((rd_T47 l0_4 x9_2).f3).size ≤ 9223372036854775807 then (sphragisref10_Encode.l1 k2 (((((x8_2 ++ t192) ++ t193) ++ t194) ++ t195) ++ ((rd_T47 l0_4 x9_2).f3)) (wrap64 (x9_2 + 1)) a0_0 a0_1 a0_2 a0_3 l0_4 l0_5 a0_6 a0_7) else (none)) else (none))) else (none))) else (none)) = some (r1, r2) := H
                          have A53 := Aside0.mk A530
                          clear A530
                          by_cases c54 : x8_2.size + t192.size + t193.size ≤ 9223372036854775807
                          · rw [if_pos c54] at H
                            have c54b0 := eq_true c54
                            have c54b1 : decide (x8_2.size + t192.size + t193.size ≤ 9223372036854775807) = true := decide_eq_true c54
                            try have c54b2 : (9223372036854775807 < x8_2.size + t192.size + t193.size) = False := eq_false (Nat.not_lt.2 c54)
                            replace H := Option.bind_eq_some_iff.mp H
                            obtain ⟨t194, A550, H⟩ := H
                            replace H : (if x8_2.size + t192.size + t193.size + t194.size ≤ 9223372036854775807 then ((sphragisref10_put.f k2 (IntKind.u64.wrap ((((rd_T47 l0_4 x9_2).f3).size : Int))) 1).bind fun t195 => (if x8_2.size + t192.size + t193.size + t194.size + t195.size ≤ 9223372036854775807 then (if x8_2.size + t192.size + t193.size + t194.size + t195.size + ((rd_T47 l0_4 x9_2).f3).size ≤ 9223372036854775807 then (sphragisref10_Encode.l1 k2 (((((x8_2 ++ t192) ++ t193) ++ t194) ++ t195) ++ ((rd_T47 l0_4 x9_2).f3)) (wrap64 (x9_2 + 1)) a0_0 a0_1 a0_2 a0_3 l0_4 l0_5 a0_6 a0_7) else (none)) else (none))) else (none)) = some (r1, r2) := H
                            have A55 := Aside0.mk A550
                            clear A550
                            by_cases c56 : x8_2.size + t192.size + t193.size + t194.size ≤ 9223372036854775807
                            · rw [if_pos c56] at H
                              have c56b0 := eq_true c56
                              have c56b1 : decide (x8_2.size + t192.size + t193.size + t194.size ≤ 9223372036854775807) = true := decide_eq_true c56
                              try have c56b2 : (9223372036854775807 < x8_2.size + t192.size + t193.size + t194.size) = False := eq_false (Nat.not_lt.2 c56)
                              replace H := Option.bind_eq_some_iff.mp H
                              obtain ⟨t195, A570, H⟩ := H
                              replace H : (if x8_2.size + t192.size + t193.size + t194.size + t195.size ≤ 9223372036854775807 then (if x8_2.size + t192.size + t193.size + t194.size + t195.size + ((rd_T47 l0_4 x9_2).f3).size ≤ 9223372036854775807 then (sphragisref10_Encode.l1 k2 (((((x8_2 ++ t192) ++ t193) ++ t194) ++ t195) ++ ((rd_T47 l0_4 x9_2).f3)) (wrap64 (x9_2 + 1)) a0_0 a0_1 a0_2 a0_3 l0_4 l0_5 a0_6 a0_7) else (none)) else (none)) = some (r1, r2) := H
                              have A57 := Aside0.mk A570
                              clear A570
                              by_cases c58 : x8_2.size + t192.size + t193.size + t194.size + t195.size ≤ 9223372036854775807
                              · rw [if_pos c58] at H
                                have c58b0 := eq_true c58
                                have c58b1 : decide (x8_2.size + t192.size + t193.size + t194.size + t195.size ≤ 9223372036854775807) = true := decide_eq_true c58
                                try have c58b2 : (9223372036854775807 < x8_2.size + t192.size + t193.size + t194.size + t195.size) = False := eq_false (Nat.not_lt.2 c58)
                                by_cases c59 : x8_2.size + t192.size + t193.size + t194.size + t195.size + ((rd_T47 l0_4 x9_2).f3).size ≤ 9223372036854775807
                                · rw [if_pos c59] at H
                                  have c59b0 := eq_true c59
                                  have c59b1 : decide (x8_2.size + t192.size + t193.size + t194.size + t195.size + ((rd_T47 l0_4 x9_2).f3).size ≤ 9223372036854775807) = true := decide_eq_true c59
                                  try have c59b2 : (9223372036854775807 < x8_2.size + t192.size + t193.size + t194.size + t195.size + ((rd_T47 l0_4 x9_2).f3).size) = False := eq_false (Nat.not_lt.2 c59)
                                  have H' := Aside0.mk H
                                  clear H
                                  have hcz60_0 : wr.cell? ⟨gb176, 0, none⟩ = some (.int .i64 a0_0) := (blk_cell BK176.out 0).trans rfl
                                  have hcz60_1 : wr.cell? ⟨gb176, 1, none⟩ = some (.int .u32 a0_1) := (blk_cell BK176.out 1).trans rfl
                                  have hcz60_2 : wr.cell? ⟨gb176, 2, none⟩ = some (.int .u32 a0_2) := (blk_cell BK176.out 2).trans rfl
                                  have hcz60_3 : wr.cell? ⟨gb176, 3, none⟩ = some (.int .i64 a0_3) := (blk_cell BK176.out 3).trans rfl
                                  have hcz60_4 : wr.cell? ⟨gb176, 4, none⟩ = some (.slice A0_4 l0_4.length c0_4) := (blk_cell BK176.out 4).trans rfl
                                  have hcz60_5 : wr.cell? ⟨gb176, 5, none⟩ = some (.slice A0_5 l0_5.length c0_5) := (blk_cell BK176.out 5).trans rfl
                                  have hcz60_6 : wr.cell? ⟨gb176, 6, none⟩ = some (.int .u32 a0_6) := (blk_cell BK176.out 6).trans rfl
                                  have hcz60_7 : wr.cell? ⟨gb176, 7, none⟩ = some (.string a0_7) := (blk_cell BK176.out 7).trans rfl
                                  have hfz60_0 := blk_frozen BK176.out 0
                                  have hfz60_1 := blk_frozen BK176.out 1
                                  have hfz60_2 := blk_frozen BK176.out 2
                                  have hfz60_3 := blk_frozen BK176.out 3
                                  have hfz60_4 := blk_frozen BK176.out 4
                                  have hfz60_5 := blk_frozen BK176.out 5
                                  have hfz60_6 := blk_frozen BK176.out 6
                                  have hfz60_7 := blk_frozen BK176.out 7
                                  have p190 : 0 ≤ (x9_2 : Int) := of_decide_eq_true (by first | (with_reducible assumption) | assumption)
                                  have q190 : x9_2 < (l0_4.length : Int) := of_decide_eq_true (by first | (with_reducible assumption) | assumption)
                                  obtain ⟨ad190, e190, hx190_0, hx190_1, hx190_2, hx190_3⟩ := at_T47 HR0_4.out x9_2 p190 q190
                                  cases e190
                                  replace hx190_0 := (HB.out.cell (World.block_lt_of_cell? w _ hx190_0)).trans hx190_0
                                  replace hx190_1 := (HB.out.cell (World.block_lt_of_cell? w _ hx190_1)).trans hx190_1
                                  replace hx190_2 := (HB.out.cell (World.block_lt_of_cell? w _ hx190_2)).trans hx190_2
                                  replace hx190_3 := (HB.out.cell (World.block_lt_of_cell? w _ hx190_3)).trans hx190_3
                                  replace p190 := eq_true p190
                                  replace q190 := eq_true q190
                                  try go_wp2_with (first | ((with_reducible refine gate_dst (N := 10) rfl ?_); refine box_event ?hg (N := 10) ?hd (cs := #[.int .u64 0, .int .u32 0, .int .u32 0, .string (⟨#[]⟩ : ByteArray)]) (t := 47) ?hr ?_; (case hd => rfl); (case hg => rfl); (case hr => first | (go_simp; done) | (go_simp; rfl)); intro gb191 hg w61 hbox hb; have n0_ := Aside0.mk (blk_below (g := gb176) (o := .cells #[.int .i64 a0_0, .int .u32 a0_1, .int .u32 a0_2, .int .i64 a0_3, .slice (some ad190) l0_4.length c0_4, .slice A0_5 l0_5.length c0_5, .int .u32 a0_6, .string a0_7] 30 (0, 0)) (by (with_reducible repeat (first | refine blk_drewN ?_ _ | refine blk_drew ?_ | refine blk_alloc ?_ _)); exact BK176.out) hb); have n1_ := Aside0.mk (below_step (by repeat (first | (with_reducible first | exact HB.out | apply below_alloc | apply pw_below_drewN | apply below_drew1 | refine below_set ?_ GE176.out) | exact HB.out)) hb); have n2_ := Aside0.mk (hbox); have n3_ := Aside0.mk ((by rw [hg]; exact (below_size (by repeat (first | (with_reducible first | exact HB.out | apply below_alloc | apply pw_below_drewN | apply below_drew1 | refine below_set ?_ GE176.out) | exact HB.out))) : w.heap.size ≤ gb191)); have n4_ := Aside0.mk ((by rw [hg]; exact (below_size (by repeat (first | (with_reducible first | exact HB.out | apply below_alloc | apply pw_below_drewN | apply below_drew1 | refine below_set ?_ GE176.out) | exact HB.out))) : w.heap.size ≤ gb191)); have n5_ := Aside0.mk ((by rw [hg]; exact Nat.ne_of_lt (blk_lt (g := gb176) (o := .cells #[.int .i64 a0_0, .int .u32 a0_1, .int .u32 a0_2, .int .i64 a0_3, .slice (some ad190) l0_4.length c0_4, .slice A0_5 l0_5.length c0_5, .int .u32 a0_6, .string a0_7] 30 (0, 0)) (by (with_reducible repeat (first | refine blk_drewN ?_ _ | refine blk_drew ?_ | refine blk_alloc ?_ _)); exact BK176.out)) : gb176 ≠ gb191)); have n6_ := Aside0.mk ((by rw [hg]; exact Nat.ne_of_gt (blk_lt (g := gb176) (o := .cells #[.int .i64 a0_0, .int .u32 a0_1, .int .u32 a0_2, .int .i64 a0_3, .slice (some ad190) l0_4.length c0_4, .slice A0_5 l0_5.length c0_5, .int .u32 a0_6, .string a0_7] 30 (0, 0)) (by (with_reducible repeat (first | refine blk_drewN ?_ _ | refine blk_drew ?_ | refine blk_alloc ?_ _)); exact BK176.out)) : gb191 ≠ gb176)); clear BK176; clear HB; have BK176 := n0_; have HB := n1_; have BK191 := n2_; have GW191 := n3_; have GE191 := n4_; have NB176_191 := n5_; have NB191_176 := n6_; clear n0_ n1_ n2_ n3_ n4_ n5_ n6_; clear hb hbox hg; have hnb62 := NB191_176.out; have hnc62 := NB176_191.out; have hcz63_0 : w61.cell? ⟨gb191, 0, none⟩ = some (.int .u64 0) := (blk_cell BK191.out 0).trans rfl; have hcz63_1 : w61.cell? ⟨gb191, 1, none⟩ = some (.int .u32 0) := (blk_cell BK191.out 1).trans rfl; have hcz63_2 : w61.cell? ⟨gb191, 2, none⟩ = some (.int .u32 0) := (blk_cell BK191.out 2).trans rfl; have hcz63_3 : w61.cell? ⟨gb191, 3, none⟩ = some (.string (⟨#[]⟩ : ByteArray)) := (blk_cell BK191.out 3).trans rfl; have hfz63_0 := blk_frozen BK191.out 0; have hfz63_1 := blk_frozen BK191.out 1; have hfz63_2 := blk_frozen BK191.out 2; have hfz63_3 := blk_frozen BK191.out 3))
                                  have n0_ : Aside0 (((((w61.setCell ⟨gb191, 0, none⟩ (.int .u64 ((rd_T47 l0_4 x9_2).f0))).setCell ⟨gb191, 1, none⟩ (.int .u32 ((rd_T47 l0_4 x9_2).f1))).setCell ⟨gb191, 2, none⟩ (.int .u32 ((rd_T47 l0_4 x9_2).f2))).setCell ⟨gb191, 3, none⟩ (.string ((rd_T47 l0_4 x9_2).f3))).heap[gb176]? = some (.cells #[.int .i64 a0_0, .int .u32 a0_1, .int .u32 a0_2, .int .i64 a0_3, .slice (some ad190) l0_4.length c0_4, .slice A0_5 l0_5.length c0_5, .int .u32 a0_6, .string a0_7] 30 (0, 0))) := ⟨by (with_reducible repeat (first | refine blk_drewN ?_ _ | refine blk_drew ?_ | refine blk_alloc ?_ _)); refine blk_far ?_ NB176_191.out _; (with_reducible repeat (first | refine blk_drewN ?_ _ | refine blk_drew ?_ | refine blk_alloc ?_ _)); refine blk_far ?_ NB176_191.out _; (with_reducible repeat (first | refine blk_drewN ?_ _ | refine blk_drew ?_ | refine blk_alloc ?_ _)); refine blk_far ?_ NB176_191.out _; (with_reducible repeat (first | refine blk_drewN ?_ _ | refine blk_drew ?_ | refine blk_alloc ?_ _)); refine blk_far ?_ NB176_191.out _; (with_reducible repeat (first | refine blk_drewN ?_ _ | refine blk_drew ?_ | refine blk_alloc ?_ _)); exact BK176.out⟩
                                  have n1_ : Aside0 (((((w61.setCell ⟨gb191, 0, none⟩ (.int .u64 ((rd_T47 l0_4 x9_2).f0))).setCell ⟨gb191, 1, none⟩ (.int .u32 ((rd_T47 l0_4 x9_2).f1))).setCell ⟨gb191, 2, none⟩ (.int .u32 ((rd_T47 l0_4 x9_2).f2))).setCell ⟨gb191, 3, none⟩ (.string ((rd_T47 l0_4 x9_2).f3))).heap[gb191]? = some (.cells #[.int .u64 ((rd_T47 l0_4 x9_2).f0), .int .u32 ((rd_T47 l0_4 x9_2).f1), .int .u32 ((rd_T47 l0_4 x9_2).f2), .string ((rd_T47 l0_4 x9_2).f3)] 47 (0, 0))) := ⟨by (with_reducible repeat (first | refine blk_drewN ?_ _ | refine blk_drew ?_ | refine blk_alloc ?_ _)); refine blk_put (cs := #[.int .u64 ((rd_T47 l0_4 x9_2).f0), .int .u32 ((rd_T47 l0_4 x9_2).f1), .int .u32 ((rd_T47 l0_4 x9_2).f2), .string (⟨#[]⟩ : ByteArray)]) ?_ 3 _ rfl; (with_reducible repeat (first | refine blk_drewN ?_ _ | refine blk_drew ?_ | refine blk_alloc ?_ _)); refine blk_put (cs := #[.int .u64 ((rd_T47 l0_4 x9_2).f0), .int .u32 ((rd_T47 l0_4 x9_2).f1), .int .u32 0, .string (⟨#[]⟩ : ByteArray)]) ?_ 2 _ rfl; (with_reducible repeat (first | refine blk_drewN ?_ _ | refine blk_drew ?_ | refine blk_alloc ?_ _)); refine blk_put (cs := #[.int .u64 ((rd_T47 l0_4 x9_2).f0), .int .u32 0, .int .u32 0, .string (⟨#[]⟩ : ByteArray)]) ?_ 1 _ rfl; (with_reducible repeat (first | refine blk_drewN ?_ _ | refine blk_drew ?_ | refine blk_alloc ?_ _)); refine blk_put (cs := #[.int .u64 0, .int .u32 0, .int .u32 0, .string (⟨#[]⟩ : ByteArray)]) ?_ 0 _ rfl; (with_reducible repeat (first | refine blk_drewN ?_ _ | refine blk_drew ?_ | refine blk_alloc ?_ _)); exact BK191.out⟩
                                  have n2_ : Aside0 (Below w.heap.size w ((((w61.setCell ⟨gb191, 0, none⟩ (.int .u64 ((rd_T47 l0_4 x9_2).f0))).setCell ⟨gb191, 1, none⟩ (.int .u32 ((rd_T47 l0_4 x9_2).f1))).setCell ⟨gb191, 2, none⟩ (.int .u32 ((rd_T47 l0_4 x9_2).f2))).setCell ⟨gb191, 3, none⟩ (.string ((rd_T47 l0_4 x9_2).f3)))) := ⟨by repeat (first | (with_reducible first | exact HB.out | apply below_alloc | apply pw_below_drewN | apply below_drew1 | refine below_set ?_ GE176.out | refine below_set ?_ GE191.out) | exact HB.out)⟩
                                  (try clear BK176)
                                  (try clear BK191)
                                  (try clear HB)
                                  generalize ((((w61.setCell ⟨gb191, 0, none⟩ (.int .u64 ((rd_T47 l0_4 x9_2).f0))).setCell ⟨gb191, 1, none⟩ (.int .u32 ((rd_T47 l0_4 x9_2).f1))).setCell ⟨gb191, 2, none⟩ (.int .u32 ((rd_T47 l0_4 x9_2).f2))).setCell ⟨gb191, 3, none⟩ (.string ((rd_T47 l0_4 x9_2).f3))) = w64 at n0_ n1_ n2_ ⊢
                                  have BK176 := n0_
                                  have BK191 := n1_
                                  have HB := n2_
                                  clear n0_ n1_ n2_
                                  have n0_ := Aside0.mk (blk_drew BK176.out)
                                  have n1_ := Aside0.mk (blk_drew BK191.out)
                                  have n2_ := Aside0.mk (below_drew1 HB.out)
                                  clear BK176
                                  clear BK191
                                  clear HB
                                  have BK176 := n0_
                                  have BK191 := n1_
                                  have HB := n2_
                                  clear n0_ n1_ n2_
                                  refine start_ (n := 25) (S := fun w' => w'.cell? ⟨gb191, 0, none⟩ = some (.int .u64 ((rd_T47 l0_4 x9_2).f0)) ∧ w'.cell? ⟨gb191, 1, none⟩ = some (.int .u32 ((rd_T47 l0_4 x9_2).f1)) ∧ w'.cell? ⟨gb191, 2, none⟩ = some (.int .u32 ((rd_T47 l0_4 x9_2).f2)) ∧ w'.cell? ⟨gb191, 3, none⟩ = some (.string ((rd_T47 l0_4 x9_2).f3))) (ds := []) #[false, false, false, false, false, false, false, false, false, false, false, false, false, false, false, false, false, false, false, false, false, false, false, false, false] (by kernel_rfl) rfl rfl ⟨(blk_cell BK191.out 0).trans rfl, (blk_cell BK191.out 1).trans rfl, (blk_cell BK191.out 2).trans rfl, (blk_cell BK191.out 3).trans rfl⟩ (fun hHeld => ?_); refine with_tabW sphragisref10_Encode.tab19 sphragisref10_Encode.bits19 (fun HT_ HW_ => ?_)
                                  generalize w64.drew = w65 at BK176 BK191 HB hHeld ⊢
                                  refine pure_ (i := 0) (N := some 100) (v := ?_) (a' := ?_) #[true, false, false, false, false, false, false, false, false, false, false, false, false, false, false, false, false, false, false, false, false, false, false, false, false] rfl rfl (any_of HT_.out (by kernel_rfl)) (fun _ _ _ h => h) (Or.inl ⟨by rfl, ?_⟩) ?_ ?_
                                  rotate_left
                                  · intro w'
                                    go_simp
                                    with_reducible rfl
                                  rotate_left
                                  · simp only [Act.put, List.setIfInBounds_toArray, List.set_cons_zero, List.set_cons_succ, i64_w, i32_w]
                                    rfl
                                  refine pure_ (i := 1) (N := some 101) (v := ?_) (a' := ?_) #[true, true, false, false, false, false, false, false, false, false, false, false, false, false, false, false, false, false, false, false, false, false, false, false, false] rfl rfl (any_of HT_.out (by kernel_rfl)) (fun _ _ _ h => h) (Or.inl ⟨by rfl, ?_⟩) ?_ ?_
                                  rotate_left
                                  · intro w'
                                    go_simp
                                    with_reducible rfl
                                  rotate_left
                                  · simp only [Act.put, List.setIfInBounds_toArray, List.set_cons_zero, List.set_cons_succ, i64_w, i32_w]
                                    rfl
                                  refine pure_ (i := 5) (N := some 105) (v := ?_) (a' := ?_) #[true, true, false, false, false, true, false, false, false, false, false, false, false, false, false, false, false, false, false, false, false, false, false, false, false] rfl rfl (any_of HT_.out (by kernel_rfl)) (fun _ _ _ h => h) (Or.inl ⟨by rfl, ?_⟩) ?_ ?_
                                  rotate_left
                                  · intro w'
                                    go_simp
                                    with_reducible rfl
                                  rotate_left
                                  · simp only [Act.put, List.setIfInBounds_toArray, List.set_cons_zero, List.set_cons_succ, i64_w, i32_w]
                                    rfl
                                  refine pure_ (i := 10) (N := some 110) (v := ?_) (a' := ?_) #[true, true, false, false, false, true, false, false, false, false, true, false, false, false, false, false, false, false, false, false, false, false, false, false, false] rfl rfl (any_of HT_.out (by kernel_rfl)) (fun _ _ _ h => h) (Or.inl ⟨by rfl, ?_⟩) ?_ ?_
                                  rotate_left
                                  · intro w'
                                    go_simp
                                    with_reducible rfl
                                  rotate_left
                                  · simp only [Act.put, List.setIfInBounds_toArray, List.set_cons_zero, List.set_cons_succ, i64_w, i32_w]
                                    rfl
                                  refine pure_ (i := 15) (N := some 115) (v := ?_) (a' := ?_) #[true, true, false, false, false, true, false, false, false, false, true, false, false, false, false, true, false, false, false, false, false, false, false, false, false] rfl rfl (any_of HT_.out (by kernel_rfl)) (fun _ _ _ h => h) (Or.inl ⟨by rfl, ?_⟩) ?_ ?_
                                  rotate_left
                                  · intro w'
                                    go_simp
                                    with_reducible rfl
                                  rotate_left
                                  · simp only [Act.put, List.setIfInBounds_toArray, List.set_cons_zero, List.set_cons_succ, i64_w, i32_w]
                                    rfl
                                  refine pure_ (i := 21) (N := some 121) (v := ?_) (a' := ?_) #[true, true, false, false, false, true, false, false, false, false, true, false, false, false, false, true, false, false, false, false, false, true, false, false, false] rfl rfl (any_of HT_.out (by kernel_rfl)) (fun _ _ _ h => h) (Or.inl ⟨by rfl, ?_⟩) ?_ ?_
                                  rotate_left
                                  · intro w'
                                    go_simp
                                    with_reducible rfl
                                  rotate_left
                                  · simp only [Act.put, List.setIfInBounds_toArray, List.set_cons_zero, List.set_cons_succ, i64_w, i32_w]
                                    rfl
                                  refine take_ (i := 2) (N := some 102) (v := ?_) (a' := ?_) #[true, true, true, false, false, true, false, false, false, false, true, false, false, false, false, true, false, false, false, false, false, true, false, false, false] rfl rfl (take_ofW HT_.out HW_.out (by kernel_rfl)) (fun _ _ _ h => h) (Or.inl ⟨by rfl, ?_⟩) hHeld ?_ ?_
                                  rotate_left
                                  · rintro w' ⟨s0, s1, s2, s3⟩
                                    go_simp
                                    with_reducible rfl
                                  rotate_left
                                  · simp only [Act.put, List.setIfInBounds_toArray, List.set_cons_zero, List.set_cons_succ, i64_w, i32_w]
                                    rfl
                                  refine take_ (i := 6) (N := some 106) (v := ?_) (a' := ?_) #[true, true, true, false, false, true, true, false, false, false, true, false, false, false, false, true, false, false, false, false, false, true, false, false, false] rfl rfl (take_ofW HT_.out HW_.out (by kernel_rfl)) (fun _ _ _ h => h) (Or.inl ⟨by rfl, ?_⟩) hHeld ?_ ?_
                                  rotate_left
                                  · rintro w' ⟨s0, s1, s2, s3⟩
                                    go_simp
                                    with_reducible rfl
                                  rotate_left
                                  · simp only [Act.put, List.setIfInBounds_toArray, List.set_cons_zero, List.set_cons_succ, i64_w, i32_w]
                                    rfl
                                  refine pure_ (i := 7) (N := some 107) (v := ?_) (a' := ?_) #[true, true, true, false, false, true, true, true, false, false, true, false, false, false, false, true, false, false, false, false, false, true, false, false, false] rfl rfl (any_of HT_.out (by kernel_rfl)) (fun _ _ _ h => h) (Or.inl ⟨by rfl, ?_⟩) ?_ ?_
                                  rotate_left
                                  · intro w'
                                    go_simp
                                    with_reducible rfl
                                  rotate_left
                                  · simp only [Act.put, List.setIfInBounds_toArray, List.set_cons_zero, List.set_cons_succ, i64_w, i32_w]
                                    rfl
                                  refine take_ (i := 11) (N := some 111) (v := ?_) (a' := ?_) #[true, true, true, false, false, true, true, true, false, false, true, true, false, false, false, true, false, false, false, false, false, true, false, false, false] rfl rfl (take_ofW HT_.out HW_.out (by kernel_rfl)) (fun _ _ _ h => h) (Or.inl ⟨by rfl, ?_⟩) hHeld ?_ ?_
                                  rotate_left
                                  · rintro w' ⟨s0, s1, s2, s3⟩
                                    go_simp
                                    with_reducible rfl
                                  rotate_left
                                  · simp only [Act.put, List.setIfInBounds_toArray, List.set_cons_zero, List.set_cons_succ, i64_w, i32_w]
                                    rfl
                                  refine pure_ (i := 12) (N := some 112) (v := ?_) (a' := ?_) #[true, true, true, false, false, true, true, true, false, false, true, true, true, false, false, true, false, false, false, false, false, true, false, false, false] rfl rfl (any_of HT_.out (by kernel_rfl)) (fun _ _ _ h => h) (Or.inl ⟨by rfl, ?_⟩) ?_ ?_
                                  rotate_left
                                  · intro w'
                                    go_simp
                                    with_reducible rfl
                                  rotate_left
                                  · simp only [Act.put, List.setIfInBounds_toArray, List.set_cons_zero, List.set_cons_succ, i64_w, i32_w]
                                    rfl
                                  refine take_ (i := 16) (N := some 116) (v := ?_) (a' := ?_) #[true, true, true, false, false, true, true, true, false, false, true, true, true, false, false, true, true, false, false, false, false, true, false, false, false] rfl rfl (take_ofW HT_.out HW_.out (by kernel_rfl)) (fun _ _ _ h => h) (Or.inl ⟨by rfl, ?_⟩) hHeld ?_ ?_
                                  rotate_left
                                  · rintro w' ⟨s0, s1, s2, s3⟩
                                    go_simp
                                    with_reducible rfl
                                  rotate_left
                                  · simp only [Act.put, List.setIfInBounds_toArray, List.set_cons_zero, List.set_cons_succ, i64_w, i32_w]
                                    rfl
                                  refine pure_ (i := 17) (N := some 117) (v := ?_) (a' := ?_) #[true, true, true, false, false, true, true, true, false, false, true, true, true, false, false, true, true, true, false, false, false, true, false, false, false] rfl rfl (any_of HT_.out (by kernel_rfl)) (fun _ _ _ h => h) (Or.inl ⟨by rfl, ?_⟩) ?_ ?_
                                  rotate_left
                                  · intro w'
                                    go_simp
                                    with_reducible rfl
                                  rotate_left
                                  · simp only [Act.put, List.setIfInBounds_toArray, List.set_cons_zero, List.set_cons_succ, i64_w, i32_w]
                                    rfl
                                  refine pure_ (i := 18) (N := some 118) (v := ?_) (a' := ?_) #[true, true, true, false, false, true, true, true, false, false, true, true, true, false, false, true, true, true, true, false, false, true, false, false, false] rfl rfl (any_of HT_.out (by kernel_rfl)) (fun _ _ _ h => h) (Or.inl ⟨by rfl, ?_⟩) ?_ ?_
                                  rotate_left
                                  · intro w'
                                    go_simp
                                    with_reducible rfl
                                  rotate_left
                                  · simp only [Act.put, List.setIfInBounds_toArray, List.set_cons_zero, List.set_cons_succ, i64_w, i32_w]
                                    rfl
                                  refine take_ (i := 22) (N := some 122) (v := ?_) (a' := ?_) #[true, true, true, false, false, true, true, true, false, false, true, true, true, false, false, true, true, true, true, false, false, true, true, false, false] rfl rfl (take_ofW HT_.out HW_.out (by kernel_rfl)) (fun _ _ _ h => h) (Or.inl ⟨by rfl, ?_⟩) hHeld ?_ ?_
                                  rotate_left
                                  · rintro w' ⟨s0, s1, s2, s3⟩
                                    go_simp
                                    with_reducible rfl
                                  rotate_left
                                  · simp only [Act.put, List.setIfInBounds_toArray, List.set_cons_zero, List.set_cons_succ, i64_w, i32_w]
                                    rfl
                                  refine one_ (i := 3) (N := some 103) #[true, true, true, true, false, true, true, true, false, false, true, true, true, false, false, true, true, true, true, false, false, true, true, false, false] rfl rfl (one_of HT_.out (by kernel_rfl)) (by decide) (fun K hK => ?_)
                                  refine goes_ Try.func33 (by kernel_rfl) rfl #[.int .u64 ((rd_T47 l0_4 x9_2).f0), .int .i64 8] (by rfl) rfl rfl (by (try simp only [List.map_toArray, List.map_cons, List.map_nil]); first | done | rfl | (simp only [List.length_drop, List.length_take]; rfl)) ?_
                                  with_reducible refine (sphragisref10_put.calls k2 ((rd_T47 l0_4 x9_2).f0) 8 t192 _ A51.out).mono ?_
                                  rintro e w66 ⟨rfl, hb⟩
                                  refine ⟨_, rfl, ?_⟩
                                  have n0_ := Aside0.mk (blk_below (g := gb176) (o := .cells #[.int .i64 a0_0, .int .u32 a0_1, .int .u32 a0_2, .int .i64 a0_3, .slice (some ad190) l0_4.length c0_4, .slice A0_5 l0_5.length c0_5, .int .u32 a0_6, .string a0_7] 30 (0, 0)) (by (with_reducible repeat (first | refine blk_drewN ?_ _ | refine blk_drew ?_ | refine blk_alloc ?_ _)); exact BK176.out) hb)
                                  have n1_ := Aside0.mk (blk_below (g := gb191) (o := .cells #[.int .u64 ((rd_T47 l0_4 x9_2).f0), .int .u32 ((rd_T47 l0_4 x9_2).f1), .int .u32 ((rd_T47 l0_4 x9_2).f2), .string ((rd_T47 l0_4 x9_2).f3)] 47 (0, 0)) (by (with_reducible repeat (first | refine blk_drewN ?_ _ | refine blk_drew ?_ | refine blk_alloc ?_ _)); exact BK191.out) hb)
                                  have n2_ := Aside0.mk (below_step (by repeat (first | (with_reducible first | exact HB.out | apply below_alloc | apply pw_below_drewN | apply below_drew1 | refine below_set ?_ GE176.out | refine below_set ?_ GE191.out) | exact HB.out)) hb)
                                  clear BK176
                                  clear BK191
                                  clear HB
                                  have BK176 := n0_
                                  have BK191 := n1_
                                  have HB := n2_
                                  clear n0_ n1_ n2_
                                  (try clear hb)
                                  (try clear hb2)
                                  (try clear hk)
                                  (try clear hi)
                                  refine hK.out _ _ ⟨(blk_cell BK191.out 0).trans rfl, (blk_cell BK191.out 1).trans rfl, (blk_cell BK191.out 2).trans rfl, (blk_cell BK191.out 3).trans rfl⟩ (fun hHeld => ?_)
                                  clear hK K
                                  refine norm_ (a' := ?_) ?_ ?_
                                  rotate_left
                                  · show Act.put _ (some 103) _ = _
                                    simp only [Act.put, List.setIfInBounds_toArray, List.set_cons_zero, List.set_cons_succ, i64_w, i32_w]
                                    rfl
                                  refine pure_ (i := 4) (N := some 104) (v := ?_) (a' := ?_) #[true, true, true, true, true, true, true, true, false, false, true, true, true, false, false, true, true, true, true, false, false, true, true, false, false] rfl rfl (any_of HT_.out (by kernel_rfl)) (fun _ _ _ h => h) (Or.inl ⟨by rfl, ?_⟩) ?_ ?_
                                  rotate_left
                                  · intro w'
                                    go_simp
                                    with_reducible rfl
                                  rotate_left
                                  · simp only [Act.put, List.setIfInBounds_toArray, List.set_cons_zero, List.set_cons_succ, i64_w, i32_w]
                                    rfl
                                  refine one_ (i := 8) (N := some 108) #[true, true, true, true, true, true, true, true, true, false, true, true, true, false, false, true, true, true, true, false, false, true, true, false, false] rfl rfl (one_of HT_.out (by kernel_rfl)) (by decide) (fun K hK => ?_)
                                  refine goes_ Try.func33 (by kernel_rfl) rfl #[.int .u64 (IntKind.u64.wrap ((rd_T47 l0_4 x9_2).f1)), .int .i64 4] (by rfl) rfl rfl (by (try simp only [List.map_toArray, List.map_cons, List.map_nil]); first | done | rfl | (simp only [List.length_drop, List.length_take]; rfl)) ?_
                                  with_reducible refine (sphragisref10_put.calls k2 (IntKind.u64.wrap ((rd_T47 l0_4 x9_2).f1)) 4 t193 _ A53.out).mono ?_
                                  rintro e w67 ⟨rfl, hb⟩
                                  refine ⟨_, rfl, ?_⟩
                                  have n0_ := Aside0.mk (blk_below (g := gb176) (o := .cells #[.int .i64 a0_0, .int .u32 a0_1, .int .u32 a0_2, .int .i64 a0_3, .slice (some ad190) l0_4.length c0_4, .slice A0_5 l0_5.length c0_5, .int .u32 a0_6, .string a0_7] 30 (0, 0)) (by (with_reducible repeat (first | refine blk_drewN ?_ _ | refine blk_drew ?_ | refine blk_alloc ?_ _)); exact BK176.out) hb)
                                  have n1_ := Aside0.mk (blk_below (g := gb191) (o := .cells #[.int .u64 ((rd_T47 l0_4 x9_2).f0), .int .u32 ((rd_T47 l0_4 x9_2).f1), .int .u32 ((rd_T47 l0_4 x9_2).f2), .string ((rd_T47 l0_4 x9_2).f3)] 47 (0, 0)) (by (with_reducible repeat (first | refine blk_drewN ?_ _ | refine blk_drew ?_ | refine blk_alloc ?_ _)); exact BK191.out) hb)
                                  have n2_ := Aside0.mk (below_step (by repeat (first | (with_reducible first | exact HB.out | apply below_alloc | apply pw_below_drewN | apply below_drew1 | refine below_set ?_ GE176.out | refine below_set ?_ GE191.out) | exact HB.out)) hb)
                                  clear BK176
                                  clear BK191
                                  clear HB
                                  have BK176 := n0_
                                  have BK191 := n1_
                                  have HB := n2_
                                  clear n0_ n1_ n2_
                                  (try clear hb)
                                  (try clear hb2)
                                  (try clear hk)
                                  (try clear hi)
                                  refine hK.out _ _ ⟨(blk_cell BK191.out 0).trans rfl, (blk_cell BK191.out 1).trans rfl, (blk_cell BK191.out 2).trans rfl, (blk_cell BK191.out 3).trans rfl⟩ (fun hHeld => ?_)
                                  clear hK K
                                  refine norm_ (a' := ?_) ?_ ?_
                                  rotate_left
                                  · show Act.put _ (some 108) _ = _
                                    simp only [Act.put, List.setIfInBounds_toArray, List.set_cons_zero, List.set_cons_succ, i64_w, i32_w]
                                    rfl
                                  refine pure_ (i := 9) (N := some 109) (v := ?_) (a' := ?_) #[true, true, true, true, true, true, true, true, true, true, true, true, true, false, false, true, true, true, true, false, false, true, true, false, false] rfl rfl (any_of HT_.out (by kernel_rfl)) (fun _ _ _ h => h) (Or.inl ⟨by rfl, ?_⟩) ?_ ?_
                                  rotate_left
                                  · intro w'
                                    go_simp
                                    with_reducible rfl
                                  rotate_left
                                  · simp only [Act.put, List.setIfInBounds_toArray, List.set_cons_zero, List.set_cons_succ, i64_w, i32_w]
                                    rfl
                                  refine one_ (i := 13) (N := some 113) #[true, true, true, true, true, true, true, true, true, true, true, true, true, true, false, true, true, true, true, false, false, true, true, false, false] rfl rfl (one_of HT_.out (by kernel_rfl)) (by decide) (fun K hK => ?_)
                                  refine goes_ Try.func33 (by kernel_rfl) rfl #[.int .u64 (IntKind.u64.wrap ((rd_T47 l0_4 x9_2).f2)), .int .i64 4] (by rfl) rfl rfl (by (try simp only [List.map_toArray, List.map_cons, List.map_nil]); first | done | rfl | (simp only [List.length_drop, List.length_take]; rfl)) ?_
                                  with_reducible refine (sphragisref10_put.calls k2 (IntKind.u64.wrap ((rd_T47 l0_4 x9_2).f2)) 4 t194 _ A55.out).mono ?_
                                  rintro e w68 ⟨rfl, hb⟩
                                  refine ⟨_, rfl, ?_⟩
                                  have n0_ := Aside0.mk (blk_below (g := gb176) (o := .cells #[.int .i64 a0_0, .int .u32 a0_1, .int .u32 a0_2, .int .i64 a0_3, .slice (some ad190) l0_4.length c0_4, .slice A0_5 l0_5.length c0_5, .int .u32 a0_6, .string a0_7] 30 (0, 0)) (by (with_reducible repeat (first | refine blk_drewN ?_ _ | refine blk_drew ?_ | refine blk_alloc ?_ _)); exact BK176.out) hb)
                                  have n1_ := Aside0.mk (blk_below (g := gb191) (o := .cells #[.int .u64 ((rd_T47 l0_4 x9_2).f0), .int .u32 ((rd_T47 l0_4 x9_2).f1), .int .u32 ((rd_T47 l0_4 x9_2).f2), .string ((rd_T47 l0_4 x9_2).f3)] 47 (0, 0)) (by (with_reducible repeat (first | refine blk_drewN ?_ _ | refine blk_drew ?_ | refine blk_alloc ?_ _)); exact BK191.out) hb)
                                  have n2_ := Aside0.mk (below_step (by repeat (first | (with_reducible first | exact HB.out | apply below_alloc | apply pw_below_drewN | apply below_drew1 | refine below_set ?_ GE176.out | refine below_set ?_ GE191.out) | exact HB.out)) hb)
                                  clear BK176
                                  clear BK191
                                  clear HB
                                  have BK176 := n0_
                                  have BK191 := n1_
                                  have HB := n2_
                                  clear n0_ n1_ n2_
                                  (try clear hb)
                                  (try clear hb2)
                                  (try clear hk)
                                  (try clear hi)
                                  refine hK.out _ _ ⟨(blk_cell BK191.out 0).trans rfl, (blk_cell BK191.out 1).trans rfl, (blk_cell BK191.out 2).trans rfl, (blk_cell BK191.out 3).trans rfl⟩ (fun hHeld => ?_)
                                  clear hK K
                                  refine norm_ (a' := ?_) ?_ ?_
                                  rotate_left
                                  · show Act.put _ (some 113) _ = _
                                    simp only [Act.put, List.setIfInBounds_toArray, List.set_cons_zero, List.set_cons_succ, i64_w, i32_w]
                                    rfl
                                  refine pure_ (i := 14) (N := some 114) (v := ?_) (a' := ?_) #[true, true, true, true, true, true, true, true, true, true, true, true, true, true, true, true, true, true, true, false, false, true, true, false, false] rfl rfl (any_of HT_.out (by kernel_rfl)) (fun _ _ _ h => h) (Or.inl ⟨by rfl, ?_⟩) ?_ ?_
                                  rotate_left
                                  · intro w'
                                    go_simp
                                    with_reducible rfl
                                  rotate_left
                                  · simp only [Act.put, List.setIfInBounds_toArray, List.set_cons_zero, List.set_cons_succ, i64_w, i32_w]
                                    rfl
                                  refine one_ (i := 19) (N := some 119) #[true, true, true, true, true, true, true, true, true, true, true, true, true, true, true, true, true, true, true, true, false, true, true, false, false] rfl rfl (one_of HT_.out (by kernel_rfl)) (by decide) (fun K hK => ?_)
                                  refine goes_ Try.func33 (by kernel_rfl) rfl #[.int .u64 (IntKind.u64.wrap ((((rd_T47 l0_4 x9_2).f3).size : Int))), .int .i64 1] (by rfl) rfl rfl (by (try simp only [List.map_toArray, List.map_cons, List.map_nil]); first | done | rfl | (simp only [List.length_drop, List.length_take]; rfl)) ?_
                                  with_reducible refine (sphragisref10_put.calls k2 (IntKind.u64.wrap ((((rd_T47 l0_4 x9_2).f3).size : Int))) 1 t195 _ A57.out).mono ?_
                                  rintro e w69 ⟨rfl, hb⟩
                                  refine ⟨_, rfl, ?_⟩
                                  have n0_ := Aside0.mk (blk_below (g := gb176) (o := .cells #[.int .i64 a0_0, .int .u32 a0_1, .int .u32 a0_2, .int .i64 a0_3, .slice (some ad190) l0_4.length c0_4, .slice A0_5 l0_5.length c0_5, .int .u32 a0_6, .string a0_7] 30 (0, 0)) (by (with_reducible repeat (first | refine blk_drewN ?_ _ | refine blk_drew ?_ | refine blk_alloc ?_ _)); exact BK176.out) hb)
                                  have n1_ := Aside0.mk (blk_below (g := gb191) (o := .cells #[.int .u64 ((rd_T47 l0_4 x9_2).f0), .int .u32 ((rd_T47 l0_4 x9_2).f1), .int .u32 ((rd_T47 l0_4 x9_2).f2), .string ((rd_T47 l0_4 x9_2).f3)] 47 (0, 0)) (by (with_reducible repeat (first | refine blk_drewN ?_ _ | refine blk_drew ?_ | refine blk_alloc ?_ _)); exact BK191.out) hb)
                                  have n2_ := Aside0.mk (below_step (by repeat (first | (with_reducible first | exact HB.out | apply below_alloc | apply pw_below_drewN | apply below_drew1 | refine below_set ?_ GE176.out | refine below_set ?_ GE191.out) | exact HB.out)) hb)
                                  clear BK176
                                  clear BK191
                                  clear HB
                                  have BK176 := n0_
                                  have BK191 := n1_
                                  have HB := n2_
                                  clear n0_ n1_ n2_
                                  (try clear hb)
                                  (try clear hb2)
                                  (try clear hk)
                                  (try clear hi)
                                  refine hK.out _ _ ⟨(blk_cell BK191.out 0).trans rfl, (blk_cell BK191.out 1).trans rfl, (blk_cell BK191.out 2).trans rfl, (blk_cell BK191.out 3).trans rfl⟩ (fun hHeld => ?_)
                                  clear hK K
                                  refine norm_ (a' := ?_) ?_ ?_
                                  rotate_left
                                  · show Act.put _ (some 119) _ = _
                                    simp only [Act.put, List.setIfInBounds_toArray, List.set_cons_zero, List.set_cons_succ, i64_w, i32_w]
                                    rfl
                                  refine pure_ (i := 20) (N := some 120) (v := ?_) (a' := ?_) #[true, true, true, true, true, true, true, true, true, true, true, true, true, true, true, true, true, true, true, true, true, true, true, false, false] rfl rfl (any_of HT_.out (by kernel_rfl)) (fun _ _ _ h => h) (Or.inl ⟨by rfl, ?_⟩) ?_ ?_
                                  rotate_left
                                  · intro w'
                                    go_simp
                                    with_reducible rfl
                                  rotate_left
                                  · simp only [Act.put, List.setIfInBounds_toArray, List.set_cons_zero, List.set_cons_succ, i64_w, i32_w]
                                    rfl
                                  refine pure_ (i := 23) (N := some 123) (v := ?_) (a' := ?_) #[true, true, true, true, true, true, true, true, true, true, true, true, true, true, true, true, true, true, true, true, true, true, true, true, false] rfl rfl (any_of HT_.out (by kernel_rfl)) (fun _ _ _ h => h) (Or.inl ⟨by rfl, ?_⟩) ?_ ?_
                                  rotate_left
                                  · intro w'
                                    go_simp
                                    with_reducible rfl
                                  rotate_left
                                  · simp only [Act.put, List.setIfInBounds_toArray, List.set_cons_zero, List.set_cons_succ, i64_w, i32_w]
                                    rfl
                                  refine pure_ (i := 24) (N := some 8) (v := ?_) (a' := ?_) #[true, true, true, true, true, true, true, true, true, true, true, true, true, true, true, true, true, true, true, true, true, true, true, true, true] rfl rfl (any_of HT_.out (by kernel_rfl)) (fun _ _ _ h => h) (Or.inl ⟨by rfl, ?_⟩) ?_ ?_
                                  rotate_left
                                  · intro w'
                                    go_simp
                                    with_reducible rfl
                                  rotate_left
                                  · simp only [Act.put, List.setIfInBounds_toArray, List.set_cons_zero, List.set_cons_succ, i64_w, i32_w]
                                    rfl
                                  refine done_ (done_of HT_.out (by kernel_rfl)) ?_
                                  try go_wp2
                                  go_roundg k2
                                  case measure => have := HJ30.out; have := HK2.out; omega
                                  case rel => exact ⟨(((((x8_2 ++ t192) ++ t193) ++ t194) ++ t195) ++ ((rd_T47 l0_4 x9_2).f3)), (wrap64 (x9_2 + 1)), (by first | rfl | (simp; done) | (simp [*]; done)), (by first | rfl | (simp; done) | (simp [*]; done)), H', ⟨by have := HJ30.out; have := HK2.out; omega⟩, ⟨by (with_reducible repeat (first | refine blk_drewN ?_ _ | refine blk_drew ?_ | refine blk_alloc ?_ _)); exact BK176.out⟩, ⟨by repeat (first | (with_reducible first | exact HB.out | apply below_alloc | apply pw_below_drewN | apply below_drew1 | refine below_set ?_ GE176.out | refine below_set ?_ GE191.out) | exact HB.out)⟩⟩
                                · rw [if_neg c59] at H
                                  exact absurd H (by simp)
                              · rw [if_neg c58] at H
                                exact absurd H (by simp)
                            · rw [if_neg c56] at H
                              exact absurd H (by simp)
                          · rw [if_neg c54] at H
                            exact absurd H (by simp)
                        · rw [if_neg c52] at H
                          exact absurd H (by simp)
                      · rw [if_neg c50] at H
                        exact absurd H (by simp)
                    · rw [if_neg c49] at H
                      have c49b0 : decide (x9_2 < (l0_4.length : Int)) = false := decide_eq_false c49
                      clear c49
                      simp only [Option.some.injEq, Prod.mk.injEq] at H
                      obtain ⟨rfl, rfl⟩ := H
                      have hcz70_0 : wr.cell? ⟨gb176, 0, none⟩ = some (.int .i64 a0_0) := (blk_cell BK176.out 0).trans rfl
                      have hcz70_1 : wr.cell? ⟨gb176, 1, none⟩ = some (.int .u32 a0_1) := (blk_cell BK176.out 1).trans rfl
                      have hcz70_2 : wr.cell? ⟨gb176, 2, none⟩ = some (.int .u32 a0_2) := (blk_cell BK176.out 2).trans rfl
                      have hcz70_3 : wr.cell? ⟨gb176, 3, none⟩ = some (.int .i64 a0_3) := (blk_cell BK176.out 3).trans rfl
                      have hcz70_4 : wr.cell? ⟨gb176, 4, none⟩ = some (.slice A0_4 l0_4.length c0_4) := (blk_cell BK176.out 4).trans rfl
                      have hcz70_5 : wr.cell? ⟨gb176, 5, none⟩ = some (.slice A0_5 l0_5.length c0_5) := (blk_cell BK176.out 5).trans rfl
                      have hcz70_6 : wr.cell? ⟨gb176, 6, none⟩ = some (.int .u32 a0_6) := (blk_cell BK176.out 6).trans rfl
                      have hcz70_7 : wr.cell? ⟨gb176, 7, none⟩ = some (.string a0_7) := (blk_cell BK176.out 7).trans rfl
                      have hfz70_0 := blk_frozen BK176.out 0
                      have hfz70_1 := blk_frozen BK176.out 1
                      have hfz70_2 := blk_frozen BK176.out 2
                      have hfz70_3 := blk_frozen BK176.out 3
                      have hfz70_4 := blk_frozen BK176.out 4
                      have hfz70_5 := blk_frozen BK176.out 5
                      have hfz70_6 := blk_frozen BK176.out 6
                      have hfz70_7 := blk_frozen BK176.out 7
                      go_wp2
                      go_ret2
                      exact ⟨by first | rfl | (simp [errW_none, errW_some] <;> rfl) | (simp [*, errW_none, errW_some] <;> rfl), by repeat (first | (with_reducible first | exact HB.out | apply below_alloc | apply pw_below_drewN | apply below_drew1 | refine below_set ?_ GE176.out) | exact HB.out)⟩
              · rw [if_neg c45] at H
                exact absurd H (by simp)
            · rw [if_neg c44] at H
              exact absurd H (by simp)
          · rw [if_neg c42] at H
            exact absurd H (by simp)
  · replace c3 := Bool.eq_false_iff.mpr c3
    subst c3
    have H1 : (some ((⟨#[]⟩ : ByteArray), 90)) = some (r1, r2) := by rw [if_neg (show ¬ (false = true) by decide)] at H; exact H
    clear H
    have H := H1
    clear H1
    simp only [Option.some.injEq, Prod.mk.injEq] at H
    obtain ⟨rfl, rfl⟩ := H
    go_enter Try.func17, Try.ntmps17
    go_wp2_with (first | ((with_reducible refine gate_dst (N := 1) rfl ?_); refine box_event ?hg (N := 1) ?hd (cs := #[.int .i64 a0_0, .int .u32 a0_1, .int .u32 a0_2, .int .i64 a0_3, .slice A0_4 l0_4.length c0_4, .slice A0_5 l0_5.length c0_5, .int .u32 a0_6, .string a0_7]) (t := 30) ?hr ?_; (case hd => rfl); (case hg => rfl); (case hr => first | (go_simp; done) | (go_simp; rfl)); intro gb176 hg w71 hbox hb; have n0_ := Aside0.mk (below_step (by repeat (first | (with_reducible first | exact HB.out | apply below_alloc | apply pw_below_drewN | apply below_drew1) | exact HB.out)) hb); have n1_ := Aside0.mk (hbox); have n2_ := Aside0.mk ((by rw [hg]; exact (below_size (by repeat (first | (with_reducible first | exact HB.out | apply below_alloc | apply pw_below_drewN | apply below_drew1) | exact HB.out))) : w.heap.size ≤ gb176)); have n3_ := Aside0.mk ((by rw [hg]; exact (below_size (by repeat (first | (with_reducible first | exact HB.out | apply below_alloc | apply pw_below_drewN | apply below_drew1) | exact HB.out))) : w.heap.size ≤ gb176)); clear HB; have HB := n0_; have BK176 := n1_; have GW176 := n2_; have GE176 := n3_; clear n0_ n1_ n2_ n3_; clear hb hbox hg; have hcz72_0 : w71.cell? ⟨gb176, 0, none⟩ = some (.int .i64 a0_0) := (blk_cell BK176.out 0).trans rfl; have hcz72_1 : w71.cell? ⟨gb176, 1, none⟩ = some (.int .u32 a0_1) := (blk_cell BK176.out 1).trans rfl; have hcz72_2 : w71.cell? ⟨gb176, 2, none⟩ = some (.int .u32 a0_2) := (blk_cell BK176.out 2).trans rfl; have hcz72_3 : w71.cell? ⟨gb176, 3, none⟩ = some (.int .i64 a0_3) := (blk_cell BK176.out 3).trans rfl; have hcz72_4 : w71.cell? ⟨gb176, 4, none⟩ = some (.slice A0_4 l0_4.length c0_4) := (blk_cell BK176.out 4).trans rfl; have hcz72_5 : w71.cell? ⟨gb176, 5, none⟩ = some (.slice A0_5 l0_5.length c0_5) := (blk_cell BK176.out 5).trans rfl; have hcz72_6 : w71.cell? ⟨gb176, 6, none⟩ = some (.int .u32 a0_6) := (blk_cell BK176.out 6).trans rfl; have hcz72_7 : w71.cell? ⟨gb176, 7, none⟩ = some (.string a0_7) := (blk_cell BK176.out 7).trans rfl; have hfz72_0 := blk_frozen BK176.out 0; have hfz72_1 := blk_frozen BK176.out 1; have hfz72_2 := blk_frozen BK176.out 2; have hfz72_3 := blk_frozen BK176.out 3; have hfz72_4 := blk_frozen BK176.out 4; have hfz72_5 := blk_frozen BK176.out 5; have hfz72_6 := blk_frozen BK176.out 6; have hfz72_7 := blk_frozen BK176.out 7) | ((with_reducible refine gate_callee (f := 15) rfl ?_); refine goesL_ (some 12) rfl rfl Try.func15 (by kernel_rfl) rfl #[.agg #[.int .i64 a0_0, .int .u32 a0_1, .int .u32 a0_2, .int .i64 a0_3, .slice A0_4 l0_4.length c0_4, .slice A0_5 l0_5.length c0_5, .int .u32 a0_6, .string a0_7]] rfl (by (try simp only [List.map_toArray, List.map_cons, List.map_nil]); first | done | rfl | (simp only [List.length_drop, List.length_take]; rfl)) ?_; (with_reducible refine (sphragisref10_Right.calls k a0_0 a0_1 a0_2 a0_3 _ _ l0_4 _ _ l0_5 a0_6 a0_7 false _ ?side1 ?side2 ?side3 ?side4 A2.out).mono ?_); (case side1 => repeat (first | exact (Kd.C_below HR0_4.out HB.out) | (with_reducible refine Kd.C_alloc ?_ _) | (with_reducible refine Kd.C_drewN ?_ _) | (with_reducible refine Kd.C_drew ?_))); (case side2 => exact HC0_4.out); (case side3 => repeat (first | exact (Kd.C_below HR0_5.out HB.out) | (with_reducible refine Kd.C_alloc ?_ _) | (with_reducible refine Kd.C_drewN ?_ _) | (with_reducible refine Kd.C_drew ?_))); (case side4 => exact HC0_5.out); rintro e w73 ⟨rfl, hb⟩; refine ⟨_, rfl, ?_⟩; have n0_ := Aside0.mk (blk_below (g := gb176) (o := .cells #[.int .i64 a0_0, .int .u32 a0_1, .int .u32 a0_2, .int .i64 a0_3, .slice A0_4 l0_4.length c0_4, .slice A0_5 l0_5.length c0_5, .int .u32 a0_6, .string a0_7] 30 (0, 0)) (by (with_reducible repeat (first | refine blk_drewN ?_ _ | refine blk_drew ?_ | refine blk_alloc ?_ _)); exact BK176.out) hb); have n1_ := Aside0.mk (below_step (by repeat (first | (with_reducible first | exact HB.out | apply below_alloc | apply pw_below_drewN | apply below_drew1 | refine below_set ?_ GE176.out) | exact HB.out)) hb); clear BK176; clear HB; have BK176 := n0_; have HB := n1_; clear n0_ n1_; (try clear hb); (try clear hb2); (try clear hk); (try clear hi)))
    go_ret2
    exact ⟨by first | rfl | (simp [errW_none, errW_some] <;> rfl) | (simp [*, errW_none, errW_some] <;> rfl), by repeat (first | (with_reducible first | exact HB.out | apply below_alloc | apply pw_below_drewN | apply below_drew1 | refine below_set ?_ GE176.out) | exact HB.out)⟩

end Go.Proofs.Ytmeaiancebgkoaa.H
