/-
  No cell of these rows narrows 'for every input' (looked for: loops, veiled, ifaces, maps, wideKeys, modest, calm, conditions, laid).
  DERIVED. THE GIVEN ROWS OF THIS SEAT. 10 by the template 'for every input the law returns true; each argument reads behind the call as it read before'; 0 by the template 'total and deterministic' (their statements: YthpcplpannbipaaTotals.lean).
  GIVEN WITH THE SEED: the statements are not yours to turn. If you find one false, say at which input.
  Laid BY PROGRAM, IN A SANDBOX (cutbox-rows.mjs): the forced cells as the released guide's own fill.sh prints them over the translation 63be6c7e8255cab3… (all of the seat's roots in one cut). By AI agents, Wed Nov 11 2026. No macro, syntax, notation, axiom, sorry.
-/
import Derived.Test.YthpcplpannbipaaChecked
import GoSem.Claim
import GoSem.ClaimJoined
import GoSem.ClaimMapViews
import Derived.JoinedTies
import Derived.KernelRfl
namespace Go.Proofs.Ythpcplpannbipaa
/- THE CELL 'sum', in the pinned program and in every row, IS THE sha256 OF THE DUMP (.gsa) THAT YthpcplpannbipaaProg.lean LOADS. Nothing in Lean hashes anything: it is a label: what it is worth is what the hold of that sum in a sandbox is worth. -/
noncomputable def Try.pinned : Pinned := { name := "ythpcplpannbipaa", sum := "63be6c7e8255cab3a0fafd408a1812c41791fffdaf539348d0d4cc074cd85463", checked := Try.checked }
namespace Rows
def none {H : Type} : Left H := { results := [], args := [] }

/-- 'doormanlaw13.MatchApplies': WHATEVER THE INPUT: true; the input reads as it did. -/
def matchAppliesSpec : ChangeSpec := { name := "matchApplies", fn := fun _ => fun
  | [d1, d2, d3] => { results := [.lit (.bool true)], args := [d1, d2, d3] }
  | _ => none }
def matchAppliesRow : OpenClaim := { program := "ythpcplpannbipaa", sum := "63be6c7e8255cab3a0fafd408a1812c41791fffdaf539348d0d4cc074cd85463", func := "doorman/doormanlaw13.MatchApplies", spec := "matchApplies", inPlace := ["slices.overlaps[string]"], unfollowed := true, recurses := true, apart := false }
def MatchAppliesSaid : Prop := matchAppliesRow.holds Try.pinned (OpenSpec.ofChange matchAppliesSpec)

/-- ITS FALSE NEIGHBOUR: 'it returns false'. Refute it at one input. -/
def matchAppliesWrong : ChangeSpec := { name := "matchApplies", fn := fun _ => fun
  | [d1, d2, d3] => { results := [.lit (.bool false)], args := [d1, d2, d3] }
  | _ => none }
def MatchAppliesWrongFalsely : Prop := matchAppliesRow.holds Try.pinned (OpenSpec.ofChange matchAppliesWrong)

/-- 'doormanlaw13.MatchDiffs': WHATEVER THE INPUT: true; the input reads as it did. -/
def matchDiffsSpec : ChangeSpec := { name := "matchDiffs", fn := fun _ => fun
  | [d1, d2] => { results := [.lit (.bool true)], args := [d1, d2] }
  | _ => none }
def matchDiffsRow : OpenClaim := { program := "ythpcplpannbipaa", sum := "63be6c7e8255cab3a0fafd408a1812c41791fffdaf539348d0d4cc074cd85463", func := "doorman/doormanlaw13.MatchDiffs", spec := "matchDiffs", inPlace := ["slices.overlaps[string]"], unfollowed := true, recurses := true, apart := false }
def MatchDiffsSaid : Prop := matchDiffsRow.holds Try.pinned (OpenSpec.ofChange matchDiffsSpec)

/-- ITS FALSE NEIGHBOUR: 'it returns false'. Refute it at one input. -/
def matchDiffsWrong : ChangeSpec := { name := "matchDiffs", fn := fun _ => fun
  | [d1, d2] => { results := [.lit (.bool false)], args := [d1, d2] }
  | _ => none }
def MatchDiffsWrongFalsely : Prop := matchDiffsRow.holds Try.pinned (OpenSpec.ofChange matchDiffsWrong)

/-- 'doormanlaw13.MatchUndone': WHATEVER THE INPUT: true; the input reads as it did. -/
def matchUndoneSpec : ChangeSpec := { name := "matchUndone", fn := fun _ => fun
  | [d1, d2] => { results := [.lit (.bool true)], args := [d1, d2] }
  | _ => none }
def matchUndoneRow : OpenClaim := { program := "ythpcplpannbipaa", sum := "63be6c7e8255cab3a0fafd408a1812c41791fffdaf539348d0d4cc074cd85463", func := "doorman/doormanlaw13.MatchUndone", spec := "matchUndone", inPlace := ["slices.overlaps[string]"], unfollowed := true, recurses := true, apart := false }
def MatchUndoneSaid : Prop := matchUndoneRow.holds Try.pinned (OpenSpec.ofChange matchUndoneSpec)

/-- ITS FALSE NEIGHBOUR: 'it returns false'. Refute it at one input. -/
def matchUndoneWrong : ChangeSpec := { name := "matchUndone", fn := fun _ => fun
  | [d1, d2] => { results := [.lit (.bool false)], args := [d1, d2] }
  | _ => none }
def MatchUndoneWrongFalsely : Prop := matchUndoneRow.holds Try.pinned (OpenSpec.ofChange matchUndoneWrong)

/-- 'doormanlaw13.MatchSets': WHATEVER THE INPUT: true; the input reads as it did. -/
def matchSetsSpec : ChangeSpec := { name := "matchSets", fn := fun _ => fun
  | [d1, d2] => { results := [.lit (.bool true)], args := [d1, d2] }
  | _ => none }
def matchSetsRow : OpenClaim := { program := "ythpcplpannbipaa", sum := "63be6c7e8255cab3a0fafd408a1812c41791fffdaf539348d0d4cc074cd85463", func := "doorman/doormanlaw13.MatchSets", spec := "matchSets", inPlace := ["slices.overlaps[string]"], unfollowed := true, recurses := true, apart := false }
def MatchSetsSaid : Prop := matchSetsRow.holds Try.pinned (OpenSpec.ofChange matchSetsSpec)

/-- ITS FALSE NEIGHBOUR: 'it returns false'. Refute it at one input. -/
def matchSetsWrong : ChangeSpec := { name := "matchSets", fn := fun _ => fun
  | [d1, d2] => { results := [.lit (.bool false)], args := [d1, d2] }
  | _ => none }
def MatchSetsWrongFalsely : Prop := matchSetsRow.holds Try.pinned (OpenSpec.ofChange matchSetsWrong)

/-- 'doormanlaw13.MatchPres': WHATEVER THE INPUT: true; the input reads as it did. -/
def matchPresSpec : ChangeSpec := { name := "matchPres", fn := fun _ => fun
  | [d1, d2, d3] => { results := [.lit (.bool true)], args := [d1, d2, d3] }
  | _ => none }
def matchPresRow : OpenClaim := { program := "ythpcplpannbipaa", sum := "63be6c7e8255cab3a0fafd408a1812c41791fffdaf539348d0d4cc074cd85463", func := "doorman/doormanlaw13.MatchPres", spec := "matchPres", inPlace := ["slices.overlaps[string]"], unfollowed := true, recurses := true, apart := false }
def MatchPresSaid : Prop := matchPresRow.holds Try.pinned (OpenSpec.ofChange matchPresSpec)

/-- ITS FALSE NEIGHBOUR: 'it returns false'. Refute it at one input. -/
def matchPresWrong : ChangeSpec := { name := "matchPres", fn := fun _ => fun
  | [d1, d2, d3] => { results := [.lit (.bool false)], args := [d1, d2, d3] }
  | _ => none }
def MatchPresWrongFalsely : Prop := matchPresRow.holds Try.pinned (OpenSpec.ofChange matchPresWrong)

/-- 'doormanlaw14.SpansPlay': WHATEVER THE INPUT: true; the input reads as it did. -/
def spansPlaySpec : ChangeSpec := { name := "spansPlay", fn := fun _ => fun
  | [d1, d2, d3, d4, d5] => { results := [.lit (.bool true)], args := [d1, d2, d3, d4, d5] }
  | _ => none }
def spansPlayRow : OpenClaim := { program := "ythpcplpannbipaa", sum := "63be6c7e8255cab3a0fafd408a1812c41791fffdaf539348d0d4cc074cd85463", func := "doorman/doormanlaw14.SpansPlay", spec := "spansPlay", inPlace := ["slices.overlaps[string]", "internal/bytealg.abigen_runtime_cmpstring"], unfollowed := true, recurses := true, apart := false }
def SpansPlaySaid : Prop := spansPlayRow.holds Try.pinned (OpenSpec.ofChange spansPlaySpec)

/-- ITS FALSE NEIGHBOUR: 'it returns false'. Refute it at one input. -/
def spansPlayWrong : ChangeSpec := { name := "spansPlay", fn := fun _ => fun
  | [d1, d2, d3, d4, d5] => { results := [.lit (.bool false)], args := [d1, d2, d3, d4, d5] }
  | _ => none }
def SpansPlayWrongFalsely : Prop := spansPlayRow.holds Try.pinned (OpenSpec.ofChange spansPlayWrong)

/-- 'doormanlaw14.SpansLead': WHATEVER THE INPUT: true; the input reads as it did. -/
def spansLeadSpec : ChangeSpec := { name := "spansLead", fn := fun _ => fun
  | [d1, d2, d3] => { results := [.lit (.bool true)], args := [d1, d2, d3] }
  | _ => none }
def spansLeadRow : OpenClaim := { program := "ythpcplpannbipaa", sum := "63be6c7e8255cab3a0fafd408a1812c41791fffdaf539348d0d4cc074cd85463", func := "doorman/doormanlaw14.SpansLead", spec := "spansLead", inPlace := ["slices.overlaps[string]", "internal/bytealg.abigen_runtime_cmpstring"], unfollowed := true, recurses := true, apart := false }
def SpansLeadSaid : Prop := spansLeadRow.holds Try.pinned (OpenSpec.ofChange spansLeadSpec)

/-- ITS FALSE NEIGHBOUR: 'it returns false'. Refute it at one input. -/
def spansLeadWrong : ChangeSpec := { name := "spansLead", fn := fun _ => fun
  | [d1, d2, d3] => { results := [.lit (.bool false)], args := [d1, d2, d3] }
  | _ => none }
def SpansLeadWrongFalsely : Prop := spansLeadRow.holds Try.pinned (OpenSpec.ofChange spansLeadWrong)

/-- 'doormanlaw14.SpansTrim': WHATEVER THE INPUT: true; the input reads as it did. -/
def spansTrimSpec : ChangeSpec := { name := "spansTrim", fn := fun _ => fun
  | [d1, d2, d3] => { results := [.lit (.bool true)], args := [d1, d2, d3] }
  | _ => none }
def spansTrimRow : OpenClaim := { program := "ythpcplpannbipaa", sum := "63be6c7e8255cab3a0fafd408a1812c41791fffdaf539348d0d4cc074cd85463", func := "doorman/doormanlaw14.SpansTrim", spec := "spansTrim", inPlace := ["slices.overlaps[string]", "internal/bytealg.abigen_runtime_cmpstring"], unfollowed := true, recurses := true, apart := false }
def SpansTrimSaid : Prop := spansTrimRow.holds Try.pinned (OpenSpec.ofChange spansTrimSpec)

/-- ITS FALSE NEIGHBOUR: 'it returns false'. Refute it at one input. -/
def spansTrimWrong : ChangeSpec := { name := "spansTrim", fn := fun _ => fun
  | [d1, d2, d3] => { results := [.lit (.bool false)], args := [d1, d2, d3] }
  | _ => none }
def SpansTrimWrongFalsely : Prop := spansTrimRow.holds Try.pinned (OpenSpec.ofChange spansTrimWrong)

/-- 'doormanlaw14.SpansOnce': WHATEVER THE INPUT: true; the input reads as it did. -/
def spansOnceSpec : ChangeSpec := { name := "spansOnce", fn := fun _ => fun
  | [d1, d2, d3, d4] => { results := [.lit (.bool true)], args := [d1, d2, d3, d4] }
  | _ => none }
def spansOnceRow : OpenClaim := { program := "ythpcplpannbipaa", sum := "63be6c7e8255cab3a0fafd408a1812c41791fffdaf539348d0d4cc074cd85463", func := "doorman/doormanlaw14.SpansOnce", spec := "spansOnce", inPlace := ["slices.overlaps[string]", "internal/bytealg.abigen_runtime_cmpstring"], unfollowed := true, recurses := true, apart := false }
def SpansOnceSaid : Prop := spansOnceRow.holds Try.pinned (OpenSpec.ofChange spansOnceSpec)

/-- ITS FALSE NEIGHBOUR: 'it returns false'. Refute it at one input. -/
def spansOnceWrong : ChangeSpec := { name := "spansOnce", fn := fun _ => fun
  | [d1, d2, d3, d4] => { results := [.lit (.bool false)], args := [d1, d2, d3, d4] }
  | _ => none }
def SpansOnceWrongFalsely : Prop := spansOnceRow.holds Try.pinned (OpenSpec.ofChange spansOnceWrong)

/-- 'doormanlaw14.SpansEvents': WHATEVER THE INPUT: true; the input reads as it did. -/
def spansEventsSpec : ChangeSpec := { name := "spansEvents", fn := fun _ => fun
  | [d1, d2, d3, d4] => { results := [.lit (.bool true)], args := [d1, d2, d3, d4] }
  | _ => none }
def spansEventsRow : OpenClaim := { program := "ythpcplpannbipaa", sum := "63be6c7e8255cab3a0fafd408a1812c41791fffdaf539348d0d4cc074cd85463", func := "doorman/doormanlaw14.SpansEvents", spec := "spansEvents", inPlace := ["slices.overlaps[string]", "internal/bytealg.abigen_runtime_cmpstring"], unfollowed := true, recurses := true, apart := false }
def SpansEventsSaid : Prop := spansEventsRow.holds Try.pinned (OpenSpec.ofChange spansEventsSpec)

/-- ITS FALSE NEIGHBOUR: 'it returns false'. Refute it at one input. -/
def spansEventsWrong : ChangeSpec := { name := "spansEvents", fn := fun _ => fun
  | [d1, d2, d3, d4] => { results := [.lit (.bool false)], args := [d1, d2, d3, d4] }
  | _ => none }
def SpansEventsWrongFalsely : Prop := spansEventsRow.holds Try.pinned (OpenSpec.ofChange spansEventsWrong)

/- THE SECOND FORM. 'bulk': how many values and letters a reading holds, each counted each time it is reached (what is shared counts as often as it is met; a slice's spare places count too). A statement '..UptoSaid' is the law's where the arguments, and the package variables that the reading takes, are together of bulk at most 1048576: NARROWER than '..Said'. Prove '..Said' where nothing that the law and all that it calls make is longer than what came in: it says more and counts as full. Else prove '..UptoSaid'. A law counts once. -/
mutual
def uptoBulk {H : Type} : DataW H → Nat
  | .lit (.string bytes) => bytes.length + 1
  | .lit _ => 1
  | .nil => 1
  | .ptr d => uptoBulk d + 1
  | .slice elems spare => uptoBulkAll elems + uptoBulkAll spare + 1
  | .agg parts => uptoBulkAll parts + 1
  | .iface _ d => uptoBulk d + 1
  | .map entries => uptoBulkEntries entries + 1
  | .held _ => 1
def uptoBulkAll {H : Type} : List (DataW H) → Nat
  | [] => 0
  | d :: r => uptoBulk d + uptoBulkAll r
def uptoBulkEntries {H : Type} : List (Lit × DataW H) → Nat
  | [] => 0
  | x :: r => uptoBulkEntry x + uptoBulkEntries r
def uptoBulkEntry {H : Type} : Lit × DataW H → Nat
  | (.string bytes, d) => bytes.length + uptoBulk d + 1
  | (_, d) => uptoBulk d + 1
 end
def uptoSmall : (H : Type) → List (DataW H) → Bool := fun _ ds => decide (uptoBulkAll ds ≤ 1048576)
def OpenSpec.upto (s : _root_.Go.ChangeSpec) : _root_.Go.OpenSpec := { _root_.Go.OpenSpec.ofChange s with cond := some uptoSmall }

/-- 'doormanlaw13.MatchApplies', WHERE WHAT IT READS IS OF BULK AT MOST 1048576: true; the input reads as it did. -/
def matchAppliesUptoRow : OpenClaim := { program := "ythpcplpannbipaa", sum := "63be6c7e8255cab3a0fafd408a1812c41791fffdaf539348d0d4cc074cd85463", func := "doorman/doormanlaw13.MatchApplies", spec := "matchApplies", inPlace := ["slices.overlaps[string]"], unfollowed := true, recurses := true, apart := false, narrowed := true }
def MatchAppliesUptoSaid : Prop := matchAppliesUptoRow.holds Try.pinned (OpenSpec.upto matchAppliesSpec)

/-- 'doormanlaw13.MatchDiffs', WHERE WHAT IT READS IS OF BULK AT MOST 1048576: true; the input reads as it did. -/
def matchDiffsUptoRow : OpenClaim := { program := "ythpcplpannbipaa", sum := "63be6c7e8255cab3a0fafd408a1812c41791fffdaf539348d0d4cc074cd85463", func := "doorman/doormanlaw13.MatchDiffs", spec := "matchDiffs", inPlace := ["slices.overlaps[string]"], unfollowed := true, recurses := true, apart := false, narrowed := true }
def MatchDiffsUptoSaid : Prop := matchDiffsUptoRow.holds Try.pinned (OpenSpec.upto matchDiffsSpec)

/-- 'doormanlaw13.MatchUndone', WHERE WHAT IT READS IS OF BULK AT MOST 1048576: true; the input reads as it did. -/
def matchUndoneUptoRow : OpenClaim := { program := "ythpcplpannbipaa", sum := "63be6c7e8255cab3a0fafd408a1812c41791fffdaf539348d0d4cc074cd85463", func := "doorman/doormanlaw13.MatchUndone", spec := "matchUndone", inPlace := ["slices.overlaps[string]"], unfollowed := true, recurses := true, apart := false, narrowed := true }
def MatchUndoneUptoSaid : Prop := matchUndoneUptoRow.holds Try.pinned (OpenSpec.upto matchUndoneSpec)

/-- 'doormanlaw13.MatchSets', WHERE WHAT IT READS IS OF BULK AT MOST 1048576: true; the input reads as it did. -/
def matchSetsUptoRow : OpenClaim := { program := "ythpcplpannbipaa", sum := "63be6c7e8255cab3a0fafd408a1812c41791fffdaf539348d0d4cc074cd85463", func := "doorman/doormanlaw13.MatchSets", spec := "matchSets", inPlace := ["slices.overlaps[string]"], unfollowed := true, recurses := true, apart := false, narrowed := true }
def MatchSetsUptoSaid : Prop := matchSetsUptoRow.holds Try.pinned (OpenSpec.upto matchSetsSpec)

/-- 'doormanlaw13.MatchPres', WHERE WHAT IT READS IS OF BULK AT MOST 1048576: true; the input reads as it did. -/
def matchPresUptoRow : OpenClaim := { program := "ythpcplpannbipaa", sum := "63be6c7e8255cab3a0fafd408a1812c41791fffdaf539348d0d4cc074cd85463", func := "doorman/doormanlaw13.MatchPres", spec := "matchPres", inPlace := ["slices.overlaps[string]"], unfollowed := true, recurses := true, apart := false, narrowed := true }
def MatchPresUptoSaid : Prop := matchPresUptoRow.holds Try.pinned (OpenSpec.upto matchPresSpec)

/-- 'doormanlaw14.SpansPlay', WHERE WHAT IT READS IS OF BULK AT MOST 1048576: true; the input reads as it did. -/
def spansPlayUptoRow : OpenClaim := { program := "ythpcplpannbipaa", sum := "63be6c7e8255cab3a0fafd408a1812c41791fffdaf539348d0d4cc074cd85463", func := "doorman/doormanlaw14.SpansPlay", spec := "spansPlay", inPlace := ["slices.overlaps[string]", "internal/bytealg.abigen_runtime_cmpstring"], unfollowed := true, recurses := true, apart := false, narrowed := true }
def SpansPlayUptoSaid : Prop := spansPlayUptoRow.holds Try.pinned (OpenSpec.upto spansPlaySpec)

/-- 'doormanlaw14.SpansLead', WHERE WHAT IT READS IS OF BULK AT MOST 1048576: true; the input reads as it did. -/
def spansLeadUptoRow : OpenClaim := { program := "ythpcplpannbipaa", sum := "63be6c7e8255cab3a0fafd408a1812c41791fffdaf539348d0d4cc074cd85463", func := "doorman/doormanlaw14.SpansLead", spec := "spansLead", inPlace := ["slices.overlaps[string]", "internal/bytealg.abigen_runtime_cmpstring"], unfollowed := true, recurses := true, apart := false, narrowed := true }
def SpansLeadUptoSaid : Prop := spansLeadUptoRow.holds Try.pinned (OpenSpec.upto spansLeadSpec)

/-- 'doormanlaw14.SpansTrim', WHERE WHAT IT READS IS OF BULK AT MOST 1048576: true; the input reads as it did. -/
def spansTrimUptoRow : OpenClaim := { program := "ythpcplpannbipaa", sum := "63be6c7e8255cab3a0fafd408a1812c41791fffdaf539348d0d4cc074cd85463", func := "doorman/doormanlaw14.SpansTrim", spec := "spansTrim", inPlace := ["slices.overlaps[string]", "internal/bytealg.abigen_runtime_cmpstring"], unfollowed := true, recurses := true, apart := false, narrowed := true }
def SpansTrimUptoSaid : Prop := spansTrimUptoRow.holds Try.pinned (OpenSpec.upto spansTrimSpec)

/-- 'doormanlaw14.SpansOnce', WHERE WHAT IT READS IS OF BULK AT MOST 1048576: true; the input reads as it did. -/
def spansOnceUptoRow : OpenClaim := { program := "ythpcplpannbipaa", sum := "63be6c7e8255cab3a0fafd408a1812c41791fffdaf539348d0d4cc074cd85463", func := "doorman/doormanlaw14.SpansOnce", spec := "spansOnce", inPlace := ["slices.overlaps[string]", "internal/bytealg.abigen_runtime_cmpstring"], unfollowed := true, recurses := true, apart := false, narrowed := true }
def SpansOnceUptoSaid : Prop := spansOnceUptoRow.holds Try.pinned (OpenSpec.upto spansOnceSpec)

/-- 'doormanlaw14.SpansEvents', WHERE WHAT IT READS IS OF BULK AT MOST 1048576: true; the input reads as it did. -/
def spansEventsUptoRow : OpenClaim := { program := "ythpcplpannbipaa", sum := "63be6c7e8255cab3a0fafd408a1812c41791fffdaf539348d0d4cc074cd85463", func := "doorman/doormanlaw14.SpansEvents", spec := "spansEvents", inPlace := ["slices.overlaps[string]", "internal/bytealg.abigen_runtime_cmpstring"], unfollowed := true, recurses := true, apart := false, narrowed := true }
def SpansEventsUptoSaid : Prop := spansEventsUptoRow.holds Try.pinned (OpenSpec.upto spansEventsSpec)

end Rows
end Go.Proofs.Ythpcplpannbipaa
