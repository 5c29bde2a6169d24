/- One closed fact on the program that wants much memory: a text of its own. -/
import Derived.Test.YtkgnhghaiopgcaaDoorRows
import Derived.JoinedOf
namespace Go.Proofs.YtkgnhghaiopgcaaDoor.Fct
set_option maxRecDepth 100000
theorem make_ : ((Tryd.pinned.checked.prog.make == some Rows.tokenTellsRow.make)) = true := by kernel_rfl
end Go.Proofs.YtkgnhghaiopgcaaDoor.Fct
