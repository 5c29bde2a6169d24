-- Written by a program of this session (wip/tools/drive.py) for this seat, partly by the kit's print.py; some functions by hand.
import Derived.Test.YtlipjbdigpoacaaProg
import Derived.Below
import Derived.Deep.Draws
import Derived.Deep.AppendLies
import Derived.Maps.AppendAt
import Derived.OwnWalk
import Derived.Laws.BytesArg
import Derived.Laws.MakeOwn
import Derived.Laws.OwnMore
import Derived.Deep.OwnRows
import Derived.Tactics
import Derived.Lib.ConvBytes
import Derived.Laws.Slices
import Derived.WalkKit
import Derived.KernelRfl
import Derived.RowKit3
import Derived.Deep.LoopGhost
import Derived.Deep.QuietTactic
import Derived.BigQuiet
import Derived.WideLaws
import Derived.Deep.DeepCutAuto
import Derived.Deep.CutBlock
import Derived.Deep.RegionHeld3
import Derived.Laws.Rows
import Derived.Lib.AppendStr
import Derived.ArgAppend
import Derived.Laws.IdiomCopy
import Derived.OrdersHeld
import Derived.Laws.BitsLemmas
import Derived.RowKit
import Derived.Test.YtlipjbdigpoacaaWWords
import Derived.Test.YtlipjbdigpoacaaWLast
import Derived.Test.YtlipjbdigpoacaaWTab
import Derived.Test.YtlipjbdigpoacaaWFour
import Derived.Test.YtlipjbdigpoacaaWQPut
import Derived.Test.YtlipjbdigpoacaaWApart
import Derived.Test.YtlipjbdigpoacaaWArr
import Derived.Test.YtlipjbdigpoacaaWZeros
import Derived.Test.YtlipjbdigpoacaaWFoot
import Derived.Test.YtlipjbdigpoacaaWKept
import Derived.Test.YtlipjbdigpoacaaWShare
import Derived.Test.YtlipjbdigpoacaaWN
import Derived.Test.YtlipjbdigpoacaaWFootNe
import Derived.Test.YtlipjbdigpoacaaWAt
import Derived.Test.YtlipjbdigpoacaaWEqStruct
import Derived.Test.YtlipjbdigpoacaaWRepsOne
import Derived.Test.YtlipjbdigpoacaaWInv
import Derived.Test.YtlipjbdigpoacaaWInvWords
import Derived.Test.YtlipjbdigpoacaaWGuard
import Derived.Test.YtlipjbdigpoacaaWNEv
import Derived.Test.YtlipjbdigpoacaaWMore
namespace Go.Proofs.Ytlipjbdigpoacaa.X
open Go.RowKit Go.Proofs.YtlipjbdigpoacaaW.PrintWords Go.Proofs.YtlipjbdigpoacaaW.PrintLast Go.Proofs.YtlipjbdigpoacaaW.PrintMore
attribute [local go_sem] max2_int min2_int max_two min_two max_three min_three max_four min_four   -- for this text's walks alone
set_option linter.unusedVariables false
set_option linter.unusedSimpArgs false



def errW : Option Int → Value
  | none => .nilIface
  | some c => .iface 0 (.int .i64 c)
theorem errW_none : errW none = .nilIface := rfl
theorem errW_some (c : Int) : errW (some c) = .iface 0 (.int .i64 c) := rfl

theorem info3 : (Try.prog.info? 3).map (fun i => (i.zero, i.size, i.bytes)) = some (some (.int .i64 0), 1, 8) := by kernel_rfl
theorem info5 : (Try.prog.info? 5).map (fun i => (i.zero, i.size, i.bytes)) = some (some (.int .u8 0), 1, 1) := by kernel_rfl
-- the values' own types

end Go.Proofs.Ytlipjbdigpoacaa.X
