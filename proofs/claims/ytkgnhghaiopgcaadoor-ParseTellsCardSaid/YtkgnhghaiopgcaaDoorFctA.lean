/- One closed fact on the program that wants much memory: a text of its own. -/
import Derived.Test.YtkgnhghaiopgcaaDoorRows
import Derived.JoinedOf
namespace Go.Proofs.YtkgnhghaiopgcaaDoor.Fct
set_option maxRecDepth 100000
theorem mayEnter : ((Tryd.pinned.checked.prog.mayEnter)) = true := by kernel_rfl
end Go.Proofs.YtkgnhghaiopgcaaDoor.Fct
