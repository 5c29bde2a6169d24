-- Written by a program of this session (wip/tools/drive.py) for this seat, partly by the kit's print.py; some functions by hand.
import Derived.Test.YtkgnhghaiopgcaaDoorProg
import Derived.Below
import Derived.Deep.Draws
import Derived.Deep.AppendLies
import Derived.Maps.AppendAt
import Derived.OwnWalk
import Derived.Laws.BytesArg
import Derived.Laws.MakeOwn
import Derived.Laws.OwnMore
import Derived.Deep.OwnRows
import Derived.Tactics
import Derived.Lib.ConvBytes
import Derived.Laws.Slices
import Derived.WalkKit
import Derived.KernelRfl
import Derived.RowKit3
import Derived.Deep.LoopGhost
import Derived.Deep.QuietTactic
import Derived.BigQuiet
import Derived.WideLaws
import Derived.Deep.DeepCutAuto
import Derived.Deep.CutBlock
import Derived.Deep.RegionHeld3
import Derived.Laws.Rows
import Derived.Lib.AppendStr
import Derived.ArgAppend
import Derived.Laws.IdiomCopy
import Derived.OrdersHeld
import Derived.Laws.BitsLemmas
import Derived.RowKit
import Derived.Test.YtkgnhghaiopgcaaDoorKd
import Derived.Test.YtkgnhghaiopgcaaDoorWWords
import Derived.Test.YtkgnhghaiopgcaaDoorWLast
import Derived.Test.YtkgnhghaiopgcaaDoorWTab
import Derived.Test.YtkgnhghaiopgcaaDoorWFour
import Derived.Test.YtkgnhghaiopgcaaDoorWQPut
import Derived.Test.YtkgnhghaiopgcaaDoorWApart
import Derived.Test.YtkgnhghaiopgcaaDoorWArr
import Derived.Test.YtkgnhghaiopgcaaDoorWZeros
import Derived.Test.YtkgnhghaiopgcaaDoorWFoot
import Derived.Test.YtkgnhghaiopgcaaDoorWKept
import Derived.Test.YtkgnhghaiopgcaaDoorWShare
import Derived.Test.YtkgnhghaiopgcaaDoorWN
import Derived.Test.YtkgnhghaiopgcaaDoorWFootNe
import Derived.Test.YtkgnhghaiopgcaaDoorWAt
import Derived.Test.YtkgnhghaiopgcaaDoorWEqStruct
import Derived.Test.YtkgnhghaiopgcaaDoorWRepsOne
import Derived.Test.YtkgnhghaiopgcaaDoorWInv
import Derived.Test.YtkgnhghaiopgcaaDoorWInvWords
import Derived.Test.YtkgnhghaiopgcaaDoorWGuard
import Derived.Test.YtkgnhghaiopgcaaDoorWNEv
import Derived.Test.YtkgnhghaiopgcaaDoorWMore
namespace Go.Proofs.YtkgnhghaiopgcaaDoor.Nm
open Go.RowKit Go.Proofs.YtkgnhghaiopgcaaDoorW.PrintWords Go.Proofs.YtkgnhghaiopgcaaDoorW.PrintLast Go.Proofs.YtkgnhghaiopgcaaDoorW.PrintMore
attribute [local go_sem] max2_int min2_int max_two min_two max_three min_three max_four min_four   -- for this text's walks alone
open Go.Proofs.YtkgnhghaiopgcaaDoor.Kx
set_option linter.unusedVariables false
set_option linter.unusedSimpArgs false



def errW : Option Int → Value
  | none => .nilIface
  | some c => .iface 0 (.int .i64 c)
theorem errW_none : errW none = .nilIface := rfl
theorem errW_some (c : Int) : errW (some c) = .iface 0 (.int .i64 c) := rfl

-- the values' own types

end Go.Proofs.YtkgnhghaiopgcaaDoor.Nm
