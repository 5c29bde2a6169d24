/- For every input MatchPres returns true: what is asked is asked of the set as it is, ahead of all changes, in order; the first one that isn't so is told. No condition. -/
import Derived.Test.YthpcplpannbipaaPureMatchPres
import Derived.Test.YthpcplpannbipaaWkArgM
import Derived.Test.YthpcplpannbipaaRp
set_option linter.unusedVariables false
set_option linter.unusedSimpArgs false
namespace Go.Proofs.Ythpcplpannbipaa.Wk
open Go.RowKit Go.Proofs.YthpcplpannbipaaW.PrintWords Go.Proofs.YthpcplpannbipaaW.PrintLast Go.Proofs.Ythpcplpannbipaa.Kx

theorem MatchPres (a0 : Option Addr) (len0 cap0 : Nat) (z0 : List ByteArray) (a1 : Option Addr) (len1 cap1 : Nat) (z1 : List S46) (a2 : Option Addr) (len2 cap2 : Nat) (z2 : List S40) (w : World) (w0 : StrRow w a0 len0 cap0 z0) (w1 : Ro.Row k46 (fun x => x.f0.size ≤ 140737488351232 ∧ True) w a1 len1 cap1 z1) (w2 : Ro.Row k40 (fun x => x.f0.size ≤ 140737488351232 ∧ True) w a2 len2 cap2 z2) :
    Calls Try.prog 7 #[.slice a0 len0 cap0, .slice a1 len1 cap1, .slice a2 len2 cap2] w fun e w' => e = .returned (.bool true) ∧ Below w.heap.size w w' := by
  obtain rfl := w0.hl
  obtain rfl := w1.hl
  obtain rfl := w2.hl
  exact Y.doormanlaw13_MatchPres.calls 2000 a0 cap0 z0 a1 cap1 z1 a2 cap2 z2 true w w0.kd w0.hc w1.hC w1.hc w2.hC w2.hc (Mr.pres_f z0 z1 z2)
end Go.Proofs.Ythpcplpannbipaa.Wk
