/- For every input MatchSets returns true: a set is the same whatever the order, and however often; its keys rise; it has just those that were told. No condition. -/
import Derived.Test.YthpcplpannbipaaPureMatchSets
import Derived.Test.YthpcplpannbipaaWkArgM
set_option linter.unusedVariables false
set_option linter.unusedSimpArgs false
namespace Go.Proofs.Ythpcplpannbipaa.Wk
open Go.RowKit Go.Proofs.YthpcplpannbipaaW.PrintWords Go.Proofs.YthpcplpannbipaaW.PrintLast

theorem MatchSets (a0 : Option Addr) (len0 cap0 : Nat) (z0 : List ByteArray) (a1 : ByteArray) (w : World) (w0 : StrRow w a0 len0 cap0 z0) (w1 : a1.size ≤ 140737488351232) :
    Calls Try.prog 6 #[.slice a0 len0 cap0, .string a1] w fun e w' => e = .returned (.bool true) ∧ Below w.heap.size w w' := by
  obtain rfl := w0.hl
  exact Y.doormanlaw13_MatchSets.calls 2000 a0 cap0 z0 a1 true w w0.kd w0.hc (Mr.sets_f z0 a1)
end Go.Proofs.Ythpcplpannbipaa.Wk
