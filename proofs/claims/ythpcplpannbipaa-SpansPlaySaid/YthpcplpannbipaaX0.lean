-- Written by a program of this session (wip/tools/drive.py) for this seat, partly by the kit's print.py; some functions by hand.
import Derived.Test.YthpcplpannbipaaProg
import Derived.Below
import Derived.Deep.Draws
import Derived.Deep.AppendLies
import Derived.Maps.AppendAt
import Derived.OwnWalk
import Derived.Laws.BytesArg
import Derived.Laws.MakeOwn
import Derived.Laws.OwnMore
import Derived.Deep.OwnRows
import Derived.Tactics
import Derived.Lib.ConvBytes
import Derived.Laws.Slices
import Derived.WalkKit
import Derived.KernelRfl
import Derived.RowKit3
import Derived.Deep.LoopGhost
import Derived.Deep.QuietTactic
import Derived.BigQuiet
import Derived.WideLaws
import Derived.Deep.DeepCutAuto
import Derived.Deep.CutBlock
import Derived.Deep.RegionHeld3
import Derived.Laws.Rows
import Derived.Lib.AppendStr
import Derived.ArgAppend
import Derived.Laws.IdiomCopy
import Derived.OrdersHeld
import Derived.Laws.BitsLemmas
import Derived.RowKit
import Derived.Test.YthpcplpannbipaaWWords
import Derived.Test.YthpcplpannbipaaWLast
import Derived.Test.YthpcplpannbipaaWTab
import Derived.Test.YthpcplpannbipaaWEqStruct
namespace Go.Proofs.Ythpcplpannbipaa.X
open Go.RowKit Go.Proofs.YthpcplpannbipaaW.PrintWords Go.Proofs.YthpcplpannbipaaW.PrintLast
set_option linter.unusedVariables false
set_option linter.unusedSimpArgs false



section
variable {P : Program} {ops : Array Oper} {rest : List Oper} {o : Oper} {a : Act} {Q : Exit → Act → World → Prop} {W : World}
theorem gate_callee {f : FuncId} {l : Array Operand} {u : Array TypeId} (_h : o.op = .call ⟨.value (.func f), l, u⟩) : wpList P ops Q (o :: rest) a W → wpList P ops Q (o :: rest) a W := id
theorem gate_builtin {b : Builtin} {xs : Array Operand} {u : Array TypeId} (_h : o.op = .call ⟨.builtin b, xs, u⟩) : wpList P ops Q (o :: rest) a W → wpList P ops Q (o :: rest) a W := id
end
def errW : Option Int → Value
  | none => .nilIface
  | some c => .iface 0 (.int .i64 c)
theorem errW_none : errW none = .nilIface := rfl
theorem errW_some (c : Int) : errW (some c) = .iface 0 (.int .i64 c) := rfl

-- the values' own types

end Go.Proofs.Ythpcplpannbipaa.X
