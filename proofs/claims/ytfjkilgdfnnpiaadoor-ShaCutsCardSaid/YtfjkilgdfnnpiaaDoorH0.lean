-- Written by a program of this session (hyb.py), which drives the print over functions some of which are proved by hand.
import Derived.Test.YtfjkilgdfnnpiaaDoorProg
import Derived.Below
import Derived.Deep.Draws
import Derived.Deep.AppendLies
import Derived.Maps.AppendAt
import Derived.OwnWalk
import Derived.Laws.BytesArg
import Derived.Laws.MakeOwn
import Derived.Laws.OwnMore
import Derived.Deep.OwnRows
import Derived.Tactics
import Derived.Lib.ConvBytes
import Derived.Laws.Slices
import Derived.WalkKit
import Derived.KernelRfl
import Derived.RowKit3
import Derived.Deep.LoopGhost
import Derived.Deep.QuietTactic
import Derived.BigQuiet
import Derived.WideLaws
import Derived.Deep.DeepCutAuto
import Derived.Deep.CutBlock
import Derived.Deep.RegionHeld3
import Derived.Laws.Rows
import Derived.Lib.AppendStr
import Derived.ArgAppend
import Derived.Laws.IdiomCopy
import Derived.OrdersHeld
import Derived.Laws.BitsLemmas
import Derived.RowKit
import Derived.Test.YtfjkilgdfnnpiaaDoorWWords
import Derived.Test.YtfjkilgdfnnpiaaDoorWLast
import Derived.Test.YtfjkilgdfnnpiaaDoorWTab
import Derived.Test.YtfjkilgdfnnpiaaDoorWFour
import Derived.Test.YtfjkilgdfnnpiaaDoorWQPut
import Derived.Test.YtfjkilgdfnnpiaaDoorWApart
import Derived.Test.YtfjkilgdfnnpiaaDoorWArr
import Derived.Test.YtfjkilgdfnnpiaaDoorWZeros
import Derived.Test.YtfjkilgdfnnpiaaDoorWFoot
import Derived.Test.YtfjkilgdfnnpiaaDoorWKept
import Derived.Test.YtfjkilgdfnnpiaaDoorWShare
import Derived.Test.YtfjkilgdfnnpiaaDoorWN
import Derived.Test.YtfjkilgdfnnpiaaDoorWFootNe
import Derived.Test.YtfjkilgdfnnpiaaDoorWAt
import Derived.Test.YtfjkilgdfnnpiaaDoorWEqStruct
import Derived.Test.YtfjkilgdfnnpiaaDoorWRepsOne
import Derived.Test.YtfjkilgdfnnpiaaDoorWInv
import Derived.Test.YtfjkilgdfnnpiaaDoorWInvWords
import Derived.Test.YtfjkilgdfnnpiaaDoorWGuard
import Derived.Test.YtfjkilgdfnnpiaaDoorWNEv
import Derived.Test.YtfjkilgdfnnpiaaDoorWMore
namespace Go.Proofs.YtfjkilgdfnnpiaaDoor.H
open Go.RowKit Go.Proofs.YtfjkilgdfnnpiaaDoorW.PrintWords Go.Proofs.YtfjkilgdfnnpiaaDoorW.PrintLast Go.Proofs.YtfjkilgdfnnpiaaDoorW.PrintMore
attribute [local go_sem] max2_int min2_int max_two min_two max_three min_three max_four min_four   -- for this text's walks alone
set_option linter.unusedVariables false
set_option linter.unusedSimpArgs false



def errW : Option Int → Value
  | none => .nilIface
  | some c => .iface 0 (.int .i64 c)
theorem errW_none : errW none = .nilIface := rfl
theorem errW_some (c : Int) : errW (some c) = .iface 0 (.int .i64 c) := rfl

theorem info5 : (Tryd.prog.info? 5).map (fun i => (i.zero, i.size, i.bytes)) = some (some (.int .u8 0), 1, 1) := by kernel_rfl
theorem info41 : (Tryd.prog.info? 41).map (fun i => (i.zero, i.size, i.bytes)) = some (some (.int .u32 0), 1, 4) := by kernel_rfl
-- the values' own types

end Go.Proofs.YtfjkilgdfnnpiaaDoor.H
