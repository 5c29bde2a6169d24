/-
  No cell of these rows narrows 'for every input' (looked for: loops, veiled, ifaces, maps, wideKeys, modest, calm, conditions, laid).
  DERIVED. THE GIVEN ROWS OF THIS SEAT. 6 by the template 'for every input the law returns true; each argument reads behind the call as it read before'; 0 by the template 'total and deterministic' (their statements: YtlipjbdigpoacaaTotals.lean).
  GIVEN WITH THE SEED: the statements are not yours to turn. If you find one false, say at which input.
  Laid BY PROGRAM, IN A SANDBOX (cutbox-rows.mjs): the forced cells as the released guide's own fill.sh prints them over the translation e5ce655afc5d6abc… (all of the seat's roots in one cut). By AI agents, Wed Nov 11 2026. No macro, syntax, notation, axiom, sorry.
-/
import Derived.Test.YtlipjbdigpoacaaChecked
import GoSem.Claim
import GoSem.ClaimJoined
import GoSem.ClaimMapViews
import Derived.JoinedTies
import Derived.KernelRfl
namespace Go.Proofs.Ytlipjbdigpoacaa
/- THE CELL 'sum', in the pinned program and in every row, IS THE sha256 OF THE DUMP (.gsa) THAT YtlipjbdigpoacaaProg.lean LOADS. Nothing in Lean hashes anything: it is a label: what it is worth is what the hold of that sum in a sandbox is worth. -/
noncomputable def Try.pinned : Pinned := { name := "ytlipjbdigpoacaa", sum := "e5ce655afc5d6abc8dca3dcdfa5907aea389b68275246fc13e599af976987d81", checked := Try.checked }
namespace Rows
def none {H : Type} : Left H := { results := [], args := [] }

/-- 'doormanlaw02.GlyphTells': WHATEVER THE INPUT: true; the input reads as it did. -/
def glyphTellsSpec : ChangeSpec := { name := "glyphTells", fn := fun _ => fun
  | [d1, d2, d3] => { results := [.lit (.bool true)], args := [d1, d2, d3] }
  | _ => none }
def glyphTellsRow : OpenClaim := { program := "ytlipjbdigpoacaa", sum := "e5ce655afc5d6abc8dca3dcdfa5907aea389b68275246fc13e599af976987d81", func := "doorman/doormanlaw02.GlyphTells", spec := "glyphTells", inPlace := ["internal/bytealg.IndexByteString", "internal/bytealg.IndexString"], named := ["internal/bytealg.MaxLen"], apart := false }
def GlyphTellsSaid : Prop := glyphTellsRow.holds Try.pinned (OpenSpec.ofChange glyphTellsSpec)

/-- ITS FALSE NEIGHBOUR: 'it returns false'. Refute it at one input. -/
def glyphTellsWrong : ChangeSpec := { name := "glyphTells", fn := fun _ => fun
  | [d1, d2, d3] => { results := [.lit (.bool false)], args := [d1, d2, d3] }
  | _ => none }
def GlyphTellsWrongFalsely : Prop := glyphTellsRow.holds Try.pinned (OpenSpec.ofChange glyphTellsWrong)

/-- 'doormanlaw02.GlyphJoins': WHATEVER THE INPUT: true; the input reads as it did. -/
def glyphJoinsSpec : ChangeSpec := { name := "glyphJoins", fn := fun _ => fun
  | [d1, d2, d3] => { results := [.lit (.bool true)], args := [d1, d2, d3] }
  | _ => none }
def glyphJoinsRow : OpenClaim := { program := "ytlipjbdigpoacaa", sum := "e5ce655afc5d6abc8dca3dcdfa5907aea389b68275246fc13e599af976987d81", func := "doorman/doormanlaw02.GlyphJoins", spec := "glyphJoins", inPlace := ["internal/bytealg.IndexByteString", "internal/bytealg.IndexString"], named := ["internal/bytealg.MaxLen"], apart := false }
def GlyphJoinsSaid : Prop := glyphJoinsRow.holds Try.pinned (OpenSpec.ofChange glyphJoinsSpec)

/-- ITS FALSE NEIGHBOUR: 'it returns false'. Refute it at one input. -/
def glyphJoinsWrong : ChangeSpec := { name := "glyphJoins", fn := fun _ => fun
  | [d1, d2, d3] => { results := [.lit (.bool false)], args := [d1, d2, d3] }
  | _ => none }
def GlyphJoinsWrongFalsely : Prop := glyphJoinsRow.holds Try.pinned (OpenSpec.ofChange glyphJoinsWrong)

/-- 'doormanlaw02.GlyphOrder': WHATEVER THE INPUT: true; the input reads as it did. -/
def glyphOrderSpec : ChangeSpec := { name := "glyphOrder", fn := fun _ => fun
  | [d1, d2] => { results := [.lit (.bool true)], args := [d1, d2] }
  | _ => none }
def glyphOrderRow : OpenClaim := { program := "ytlipjbdigpoacaa", sum := "e5ce655afc5d6abc8dca3dcdfa5907aea389b68275246fc13e599af976987d81", func := "doorman/doormanlaw02.GlyphOrder", spec := "glyphOrder", inPlace := ["internal/bytealg.IndexByteString", "internal/bytealg.IndexString"], named := ["internal/bytealg.MaxLen"], apart := false }
def GlyphOrderSaid : Prop := glyphOrderRow.holds Try.pinned (OpenSpec.ofChange glyphOrderSpec)

/-- ITS FALSE NEIGHBOUR: 'it returns false'. Refute it at one input. -/
def glyphOrderWrong : ChangeSpec := { name := "glyphOrder", fn := fun _ => fun
  | [d1, d2] => { results := [.lit (.bool false)], args := [d1, d2] }
  | _ => none }
def GlyphOrderWrongFalsely : Prop := glyphOrderRow.holds Try.pinned (OpenSpec.ofChange glyphOrderWrong)

/-- 'doormanlaw02.GlyphNames': WHATEVER THE INPUT: true; the input reads as it did. -/
def glyphNamesSpec : ChangeSpec := { name := "glyphNames", fn := fun _ => fun
  | [d1, d2, d3] => { results := [.lit (.bool true)], args := [d1, d2, d3] }
  | _ => none }
def glyphNamesRow : OpenClaim := { program := "ytlipjbdigpoacaa", sum := "e5ce655afc5d6abc8dca3dcdfa5907aea389b68275246fc13e599af976987d81", func := "doorman/doormanlaw02.GlyphNames", spec := "glyphNames", inPlace := ["internal/bytealg.IndexByteString", "internal/bytealg.IndexString"], named := ["internal/bytealg.MaxLen"], apart := false }
def GlyphNamesSaid : Prop := glyphNamesRow.holds Try.pinned (OpenSpec.ofChange glyphNamesSpec)

/-- ITS FALSE NEIGHBOUR: 'it returns false'. Refute it at one input. -/
def glyphNamesWrong : ChangeSpec := { name := "glyphNames", fn := fun _ => fun
  | [d1, d2, d3] => { results := [.lit (.bool false)], args := [d1, d2, d3] }
  | _ => none }
def GlyphNamesWrongFalsely : Prop := glyphNamesRow.holds Try.pinned (OpenSpec.ofChange glyphNamesWrong)

/-- 'doormanlaw02.GlyphWhere': WHATEVER THE INPUT: true; the input reads as it did. -/
def glyphWhereSpec : ChangeSpec := { name := "glyphWhere", fn := fun _ => fun
  | [d1, d2] => { results := [.lit (.bool true)], args := [d1, d2] }
  | _ => none }
def glyphWhereRow : OpenClaim := { program := "ytlipjbdigpoacaa", sum := "e5ce655afc5d6abc8dca3dcdfa5907aea389b68275246fc13e599af976987d81", func := "doorman/doormanlaw02.GlyphWhere", spec := "glyphWhere", inPlace := ["internal/bytealg.IndexByteString", "internal/bytealg.IndexString"], named := ["internal/bytealg.MaxLen"], apart := false }
def GlyphWhereSaid : Prop := glyphWhereRow.holds Try.pinned (OpenSpec.ofChange glyphWhereSpec)

/-- ITS FALSE NEIGHBOUR: 'it returns false'. Refute it at one input. -/
def glyphWhereWrong : ChangeSpec := { name := "glyphWhere", fn := fun _ => fun
  | [d1, d2] => { results := [.lit (.bool false)], args := [d1, d2] }
  | _ => none }
def GlyphWhereWrongFalsely : Prop := glyphWhereRow.holds Try.pinned (OpenSpec.ofChange glyphWhereWrong)

/-- 'doormanlaw02.GlyphCuts': WHATEVER THE INPUT: true; the input reads as it did. -/
def glyphCutsSpec : ChangeSpec := { name := "glyphCuts", fn := fun _ => fun
  | [d1, d2, d3] => { results := [.lit (.bool true)], args := [d1, d2, d3] }
  | _ => none }
def glyphCutsRow : OpenClaim := { program := "ytlipjbdigpoacaa", sum := "e5ce655afc5d6abc8dca3dcdfa5907aea389b68275246fc13e599af976987d81", func := "doorman/doormanlaw02.GlyphCuts", spec := "glyphCuts", inPlace := ["internal/bytealg.IndexByteString", "internal/bytealg.IndexString"], named := ["internal/bytealg.MaxLen"], apart := false }
def GlyphCutsSaid : Prop := glyphCutsRow.holds Try.pinned (OpenSpec.ofChange glyphCutsSpec)

/-- ITS FALSE NEIGHBOUR: 'it returns false'. Refute it at one input. -/
def glyphCutsWrong : ChangeSpec := { name := "glyphCuts", fn := fun _ => fun
  | [d1, d2, d3] => { results := [.lit (.bool false)], args := [d1, d2, d3] }
  | _ => none }
def GlyphCutsWrongFalsely : Prop := glyphCutsRow.holds Try.pinned (OpenSpec.ofChange glyphCutsWrong)

/- THE SECOND FORM. 'bulk': how many values and letters a reading holds, each counted each time it is reached (what is shared counts as often as it is met; a slice's spare places count too). A statement '..UptoSaid' is the law's where the arguments, and the package variables that the reading takes, are together of bulk at most 1048576: NARROWER than '..Said'. Prove '..Said' where nothing that the law and all that it calls make is longer than what came in: it says more and counts as full. Else prove '..UptoSaid'. A law counts once. -/
mutual
def uptoBulk {H : Type} : DataW H → Nat
  | .lit (.string bytes) => bytes.length + 1
  | .lit _ => 1
  | .nil => 1
  | .ptr d => uptoBulk d + 1
  | .slice elems spare => uptoBulkAll elems + uptoBulkAll spare + 1
  | .agg parts => uptoBulkAll parts + 1
  | .iface _ d => uptoBulk d + 1
  | .map entries => uptoBulkEntries entries + 1
  | .held _ => 1
def uptoBulkAll {H : Type} : List (DataW H) → Nat
  | [] => 0
  | d :: r => uptoBulk d + uptoBulkAll r
def uptoBulkEntries {H : Type} : List (Lit × DataW H) → Nat
  | [] => 0
  | x :: r => uptoBulkEntry x + uptoBulkEntries r
def uptoBulkEntry {H : Type} : Lit × DataW H → Nat
  | (.string bytes, d) => bytes.length + uptoBulk d + 1
  | (_, d) => uptoBulk d + 1
 end
def uptoSmall : (H : Type) → List (DataW H) → Bool := fun _ ds => decide (uptoBulkAll ds ≤ 1048576)
def OpenSpec.upto (s : _root_.Go.ChangeSpec) : _root_.Go.OpenSpec := { _root_.Go.OpenSpec.ofChange s with cond := some uptoSmall }

/-- 'doormanlaw02.GlyphTells', WHERE WHAT IT READS IS OF BULK AT MOST 1048576: true; the input reads as it did. -/
def glyphTellsUptoRow : OpenClaim := { program := "ytlipjbdigpoacaa", sum := "e5ce655afc5d6abc8dca3dcdfa5907aea389b68275246fc13e599af976987d81", func := "doorman/doormanlaw02.GlyphTells", spec := "glyphTells", inPlace := ["internal/bytealg.IndexByteString", "internal/bytealg.IndexString"], named := ["internal/bytealg.MaxLen"], apart := false, narrowed := true }
def GlyphTellsUptoSaid : Prop := glyphTellsUptoRow.holds Try.pinned (OpenSpec.upto glyphTellsSpec)

/-- 'doormanlaw02.GlyphJoins', WHERE WHAT IT READS IS OF BULK AT MOST 1048576: true; the input reads as it did. -/
def glyphJoinsUptoRow : OpenClaim := { program := "ytlipjbdigpoacaa", sum := "e5ce655afc5d6abc8dca3dcdfa5907aea389b68275246fc13e599af976987d81", func := "doorman/doormanlaw02.GlyphJoins", spec := "glyphJoins", inPlace := ["internal/bytealg.IndexByteString", "internal/bytealg.IndexString"], named := ["internal/bytealg.MaxLen"], apart := false, narrowed := true }
def GlyphJoinsUptoSaid : Prop := glyphJoinsUptoRow.holds Try.pinned (OpenSpec.upto glyphJoinsSpec)

/-- 'doormanlaw02.GlyphOrder', WHERE WHAT IT READS IS OF BULK AT MOST 1048576: true; the input reads as it did. -/
def glyphOrderUptoRow : OpenClaim := { program := "ytlipjbdigpoacaa", sum := "e5ce655afc5d6abc8dca3dcdfa5907aea389b68275246fc13e599af976987d81", func := "doorman/doormanlaw02.GlyphOrder", spec := "glyphOrder", inPlace := ["internal/bytealg.IndexByteString", "internal/bytealg.IndexString"], named := ["internal/bytealg.MaxLen"], apart := false, narrowed := true }
def GlyphOrderUptoSaid : Prop := glyphOrderUptoRow.holds Try.pinned (OpenSpec.upto glyphOrderSpec)

/-- 'doormanlaw02.GlyphNames', WHERE WHAT IT READS IS OF BULK AT MOST 1048576: true; the input reads as it did. -/
def glyphNamesUptoRow : OpenClaim := { program := "ytlipjbdigpoacaa", sum := "e5ce655afc5d6abc8dca3dcdfa5907aea389b68275246fc13e599af976987d81", func := "doorman/doormanlaw02.GlyphNames", spec := "glyphNames", inPlace := ["internal/bytealg.IndexByteString", "internal/bytealg.IndexString"], named := ["internal/bytealg.MaxLen"], apart := false, narrowed := true }
def GlyphNamesUptoSaid : Prop := glyphNamesUptoRow.holds Try.pinned (OpenSpec.upto glyphNamesSpec)

/-- 'doormanlaw02.GlyphWhere', WHERE WHAT IT READS IS OF BULK AT MOST 1048576: true; the input reads as it did. -/
def glyphWhereUptoRow : OpenClaim := { program := "ytlipjbdigpoacaa", sum := "e5ce655afc5d6abc8dca3dcdfa5907aea389b68275246fc13e599af976987d81", func := "doorman/doormanlaw02.GlyphWhere", spec := "glyphWhere", inPlace := ["internal/bytealg.IndexByteString", "internal/bytealg.IndexString"], named := ["internal/bytealg.MaxLen"], apart := false, narrowed := true }
def GlyphWhereUptoSaid : Prop := glyphWhereUptoRow.holds Try.pinned (OpenSpec.upto glyphWhereSpec)

/-- 'doormanlaw02.GlyphCuts', WHERE WHAT IT READS IS OF BULK AT MOST 1048576: true; the input reads as it did. -/
def glyphCutsUptoRow : OpenClaim := { program := "ytlipjbdigpoacaa", sum := "e5ce655afc5d6abc8dca3dcdfa5907aea389b68275246fc13e599af976987d81", func := "doorman/doormanlaw02.GlyphCuts", spec := "glyphCuts", inPlace := ["internal/bytealg.IndexByteString", "internal/bytealg.IndexString"], named := ["internal/bytealg.MaxLen"], apart := false, narrowed := true }
def GlyphCutsUptoSaid : Prop := glyphCutsUptoRow.holds Try.pinned (OpenSpec.upto glyphCutsSpec)

end Rows
end Go.Proofs.Ytlipjbdigpoacaa
