/- Sets of keys, as package match has them: plain Lean, no program walked; no condition. -/
import Derived.Test.YthpcplpannbipaaMp
import Derived.Lib.SlicesCompact
import Derived.Sort.Walk0
import Derived.Laws.Cover1
set_option linter.unusedVariables false
set_option linter.unusedSimpArgs false
namespace Go.Proofs.Ythpcplpannbipaa.Mq
open Go.Proofs.Ythpcplpannbipaa.Mp

/-- A key ahead of another one: byte by byte. -/
def blt (x y : ByteArray) : Bool := Op.bytesLess x.toList y.toList
/-- Keys as a set. -/
def ofB (l : List ByteArray) : List ByteArray := (Lib.compact ((l.map fun s => s.data.toList).mergeSort fun x y => decide (x ≤ y))).map fun b => ⟨b.toArray⟩
/-- What is asked, and changed: the set, the error, and which one it is. -/
def applyB (s : List ByteArray) (pres changes : List (ByteArray × Bool)) : List ByteArray × Int × Int :=
  match preF s pres 0 with
  | some i => ([], 41, (i : Int))
  | none => match apC blt s changes 0 with
    | .ok t => (t, 0, 0)
    | .error (add, i) => ([], if add then 32 else 41, ((pres.length + i : Nat) : Int))
instance decMem (x : ByteArray) (s : List ByteArray) : Decidable (x ∈ s) := @List.instDecidableMemOfLawfulBEq ByteArray instBEqOfDecidableEq inferInstance x s
instance : DecidablePred (Srt blt) := fun s => by unfold Srt; exact inferInstance
end Go.Proofs.Ythpcplpannbipaa.Mq
