/- For every input MatchUndone returns true: changes that were done, done the other way round from the last one on, lead back; those that fail change nothing. No condition. -/
import Derived.Test.YthpcplpannbipaaPureMatchUndone
import Derived.Test.YthpcplpannbipaaWkArgM
import Derived.Test.YthpcplpannbipaaRp
set_option linter.unusedVariables false
set_option linter.unusedSimpArgs false
namespace Go.Proofs.Ythpcplpannbipaa.Wk
open Go.RowKit Go.Proofs.YthpcplpannbipaaW.PrintWords Go.Proofs.YthpcplpannbipaaW.PrintLast Go.Proofs.Ythpcplpannbipaa.Kx

theorem MatchUndone (a0 : Option Addr) (len0 cap0 : Nat) (z0 : List ByteArray) (a1 : Option Addr) (len1 cap1 : Nat) (z1 : List S40) (w : World) (w0 : StrRow w a0 len0 cap0 z0) (w1 : Ro.Row k40 (fun x => x.f0.size ≤ 140737488351232 ∧ True) w a1 len1 cap1 z1) :
    Calls Try.prog 5 #[.slice a0 len0 cap0, .slice a1 len1 cap1] w fun e w' => e = .returned (.bool true) ∧ Below w.heap.size w w' := by
  obtain rfl := w0.hl
  obtain rfl := w1.hl
  exact Y.doormanlaw13_MatchUndone.calls 2000 a0 cap0 z0 a1 cap1 z1 true w w0.kd w0.hc w1.hC w1.hc (Mr.undone_f z0 z1)
end Go.Proofs.Ythpcplpannbipaa.Wk
