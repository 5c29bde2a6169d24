/- For every input MatchDiffs returns true: a set with its differences to another one is that; they rise, and are as few as may be. No condition. -/
import Derived.Test.YthpcplpannbipaaPureMatchDiffs
import Derived.Test.YthpcplpannbipaaWkArgM
set_option linter.unusedVariables false
set_option linter.unusedSimpArgs false
namespace Go.Proofs.Ythpcplpannbipaa.Wk
open Go.RowKit Go.Proofs.YthpcplpannbipaaW.PrintWords Go.Proofs.YthpcplpannbipaaW.PrintLast

theorem MatchDiffs (a0 : Option Addr) (len0 cap0 : Nat) (z0 : List ByteArray) (a1 : Option Addr) (len1 cap1 : Nat) (z1 : List ByteArray) (w : World) (w0 : StrRow w a0 len0 cap0 z0) (w1 : StrRow w a1 len1 cap1 z1) :
    Calls Try.prog 4 #[.slice a0 len0 cap0, .slice a1 len1 cap1] w fun e w' => e = .returned (.bool true) ∧ Below w.heap.size w w' := by
  obtain rfl := w0.hl
  obtain rfl := w1.hl
  exact Y.doormanlaw13_MatchDiffs.calls 2000 a0 cap0 z0 a1 cap1 z1 true w w0.kd w0.hc w1.kd w1.hc (Mr.diffs_f z0 z1)
end Go.Proofs.Ythpcplpannbipaa.Wk
