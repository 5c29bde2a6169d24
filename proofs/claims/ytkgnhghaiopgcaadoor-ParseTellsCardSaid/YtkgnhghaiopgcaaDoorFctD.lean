/- One closed fact on the program that wants much memory: a text of its own. -/
import Derived.Test.YtkgnhghaiopgcaaDoorRows
import Derived.SevenTiedAt
namespace Go.Proofs.YtkgnhghaiopgcaaDoor.Fct
set_option maxRecDepth 100000
theorem looks_ : true = Tryd.pinned.checked.prog.looks [] := by kernel_rfl
end Go.Proofs.YtkgnhghaiopgcaaDoor.Fct
