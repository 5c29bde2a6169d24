/-
  NARROWER THAN 'FOR EVERY INPUT', by the rows' own cells (each row's printed sentence says how): TokenTells: laid · TokenBlanks: laid · TokenPlaces: laid · TokenErrs: laid · TokenWords: laid · TokenNotes: laid · ParseTells: laid · ParseOps: laid · ParseDeep: laid · ParseTwo: laid · ParseNames: laid · ParseLeft: laid · CheckTells: laid · CheckPrefix: laid · CheckTwice: laid · CheckMore: laid · CheckFinds: laid · PrintShows: laid · PrintBack: laid · PrintSigns: laid · PrintOps: laid.
  DERIVED. THE GIVEN ROWS OF THIS SEAT. 21 by the template 'for every input the law returns true; each argument reads behind the call as it read before'; 0 by the template 'total and deterministic' (their statements: YtkgnhghaiopgcaaDoorTotals.lean).
  GIVEN WITH THE SEED: the statements are not yours to turn. If you find one false, say at which input.
  Laid BY PROGRAM, IN A SANDBOX (cutbox-rows.mjs): the forced cells as the released guide's own fill.sh prints them over the translation c006434b5a0de719… (all of the seat's roots in one cut). By AI agents, Wed Nov 11 2026. No macro, syntax, notation, axiom, sorry.
-/
import Derived.Test.YtkgnhghaiopgcaaDoorChecked
import GoSem.Claim
import GoSem.ClaimJoined
import GoSem.ClaimMapViews
import Derived.JoinedTies
import Derived.KernelRfl
namespace Go.Proofs.YtkgnhghaiopgcaaDoor
/- THE CELL 'sum', in the pinned program and in every row, IS THE sha256 OF THE DUMP (.gsa) THAT YtkgnhghaiopgcaaDoorProg.lean LOADS. Nothing in Lean hashes anything: it is a label: what it is worth is what the hold of that sum in a sandbox is worth. -/
noncomputable def Tryd.pinned : Pinned := { name := "ytkgnhghaiopgcaadoor", sum := "c006434b5a0de719c69fc494bca58d41abb0b260b841c6840635d04bec71ba4a", checked := Tryd.checked }
namespace Rows
def none {H : Type} : Left H := { results := [], args := [] }

/- WHAT THE LISTED PACKAGE-LEVEL VARIABLES READ AS WHEN THE CALL BEGINS. Each datum BY PROGRAM (the guide's laid-datum.mjs) off the statement by which the dump's own 'gosem.cut.vars' lays the variable. In a bare row this is a premise. The card (YtkgnhghaiopgcaaDoorCards.lean) ties it to the program's text. -/
def laid_doorman_token_keys {H : Type} : DataW H := .slice [.lit (.string [116, 121, 112, 101]), .lit (.string [114, 101, 108]), .lit (.string [105, 115]), .lit (.string [116, 104, 105, 115])] []

/-- 'doormanlaw06.TokenTells': WHATEVER THE INPUT: true; the input reads as it did. -/
def tokenTellsSpec : ChangeSpec := { name := "tokenTells", fn := fun _ => fun
  | [d] => { results := [.lit (.bool true)], args := [d] }
  | _ => none }
def tokenTellsRow : OpenClaim := { program := "ytkgnhghaiopgcaadoor", sum := "c006434b5a0de719c69fc494bca58d41abb0b260b841c6840635d04bec71ba4a", func := "doorman/doormanlaw06.TokenTells", spec := "tokenTells", inPlace := ["internal/bytealg.IndexByteString", "internal/bytealg.IndexString"], unfollowed := true, recurses := true, named := ["internal/bytealg.MaxLen", "doorman/token.keys"], apart := false, laid := [("doorman/token.keys", laid_doorman_token_keys)] }
def TokenTellsSaid : Prop := tokenTellsRow.holds Tryd.pinned (OpenSpec.ofChange tokenTellsSpec)

/-- ITS FALSE NEIGHBOUR: 'it returns false'. Refute it at one input. -/
def tokenTellsWrong : ChangeSpec := { name := "tokenTells", fn := fun _ => fun
  | [d] => { results := [.lit (.bool false)], args := [d] }
  | _ => none }
def TokenTellsWrongFalsely : Prop := tokenTellsRow.holds Tryd.pinned (OpenSpec.ofChange tokenTellsWrong)

/-- 'doormanlaw06.TokenBlanks': WHATEVER THE INPUT: true; the input reads as it did. -/
def tokenBlanksSpec : ChangeSpec := { name := "tokenBlanks", fn := fun _ => fun
  | [d1, d2] => { results := [.lit (.bool true)], args := [d1, d2] }
  | _ => none }
def tokenBlanksRow : OpenClaim := { program := "ytkgnhghaiopgcaadoor", sum := "c006434b5a0de719c69fc494bca58d41abb0b260b841c6840635d04bec71ba4a", func := "doorman/doormanlaw06.TokenBlanks", spec := "tokenBlanks", inPlace := ["internal/bytealg.IndexByteString", "internal/bytealg.IndexString"], unfollowed := true, recurses := true, named := ["internal/bytealg.MaxLen", "doorman/token.keys"], apart := false, laid := [("doorman/token.keys", laid_doorman_token_keys)] }
def TokenBlanksSaid : Prop := tokenBlanksRow.holds Tryd.pinned (OpenSpec.ofChange tokenBlanksSpec)

/-- ITS FALSE NEIGHBOUR: 'it returns false'. Refute it at one input. -/
def tokenBlanksWrong : ChangeSpec := { name := "tokenBlanks", fn := fun _ => fun
  | [d1, d2] => { results := [.lit (.bool false)], args := [d1, d2] }
  | _ => none }
def TokenBlanksWrongFalsely : Prop := tokenBlanksRow.holds Tryd.pinned (OpenSpec.ofChange tokenBlanksWrong)

/-- 'doormanlaw06.TokenPlaces': WHATEVER THE INPUT: true; the input reads as it did. -/
def tokenPlacesSpec : ChangeSpec := { name := "tokenPlaces", fn := fun _ => fun
  | [d] => { results := [.lit (.bool true)], args := [d] }
  | _ => none }
def tokenPlacesRow : OpenClaim := { program := "ytkgnhghaiopgcaadoor", sum := "c006434b5a0de719c69fc494bca58d41abb0b260b841c6840635d04bec71ba4a", func := "doorman/doormanlaw06.TokenPlaces", spec := "tokenPlaces", inPlace := ["internal/bytealg.IndexByteString", "internal/bytealg.IndexString"], unfollowed := true, recurses := true, named := ["internal/bytealg.MaxLen", "doorman/token.keys"], apart := false, laid := [("doorman/token.keys", laid_doorman_token_keys)] }
def TokenPlacesSaid : Prop := tokenPlacesRow.holds Tryd.pinned (OpenSpec.ofChange tokenPlacesSpec)

/-- ITS FALSE NEIGHBOUR: 'it returns false'. Refute it at one input. -/
def tokenPlacesWrong : ChangeSpec := { name := "tokenPlaces", fn := fun _ => fun
  | [d] => { results := [.lit (.bool false)], args := [d] }
  | _ => none }
def TokenPlacesWrongFalsely : Prop := tokenPlacesRow.holds Tryd.pinned (OpenSpec.ofChange tokenPlacesWrong)

/-- 'doormanlaw06.TokenErrs': WHATEVER THE INPUT: true; the input reads as it did. -/
def tokenErrsSpec : ChangeSpec := { name := "tokenErrs", fn := fun _ => fun
  | [d1, d2, d3, d4] => { results := [.lit (.bool true)], args := [d1, d2, d3, d4] }
  | _ => none }
def tokenErrsRow : OpenClaim := { program := "ytkgnhghaiopgcaadoor", sum := "c006434b5a0de719c69fc494bca58d41abb0b260b841c6840635d04bec71ba4a", func := "doorman/doormanlaw06.TokenErrs", spec := "tokenErrs", inPlace := ["internal/bytealg.IndexByteString", "internal/bytealg.IndexString"], unfollowed := true, recurses := true, named := ["internal/bytealg.MaxLen", "doorman/token.keys"], apart := false, laid := [("doorman/token.keys", laid_doorman_token_keys)] }
def TokenErrsSaid : Prop := tokenErrsRow.holds Tryd.pinned (OpenSpec.ofChange tokenErrsSpec)

/-- ITS FALSE NEIGHBOUR: 'it returns false'. Refute it at one input. -/
def tokenErrsWrong : ChangeSpec := { name := "tokenErrs", fn := fun _ => fun
  | [d1, d2, d3, d4] => { results := [.lit (.bool false)], args := [d1, d2, d3, d4] }
  | _ => none }
def TokenErrsWrongFalsely : Prop := tokenErrsRow.holds Tryd.pinned (OpenSpec.ofChange tokenErrsWrong)

/-- 'doormanlaw06.TokenWords': WHATEVER THE INPUT: true; the input reads as it did. -/
def tokenWordsSpec : ChangeSpec := { name := "tokenWords", fn := fun _ => fun
  | [d1, d2] => { results := [.lit (.bool true)], args := [d1, d2] }
  | _ => none }
def tokenWordsRow : OpenClaim := { program := "ytkgnhghaiopgcaadoor", sum := "c006434b5a0de719c69fc494bca58d41abb0b260b841c6840635d04bec71ba4a", func := "doorman/doormanlaw06.TokenWords", spec := "tokenWords", inPlace := ["internal/bytealg.IndexByteString", "internal/bytealg.IndexString"], unfollowed := true, recurses := true, named := ["internal/bytealg.MaxLen", "doorman/token.keys"], apart := false, laid := [("doorman/token.keys", laid_doorman_token_keys)] }
def TokenWordsSaid : Prop := tokenWordsRow.holds Tryd.pinned (OpenSpec.ofChange tokenWordsSpec)

/-- ITS FALSE NEIGHBOUR: 'it returns false'. Refute it at one input. -/
def tokenWordsWrong : ChangeSpec := { name := "tokenWords", fn := fun _ => fun
  | [d1, d2] => { results := [.lit (.bool false)], args := [d1, d2] }
  | _ => none }
def TokenWordsWrongFalsely : Prop := tokenWordsRow.holds Tryd.pinned (OpenSpec.ofChange tokenWordsWrong)

/-- 'doormanlaw06.TokenNotes': WHATEVER THE INPUT: true; the input reads as it did. -/
def tokenNotesSpec : ChangeSpec := { name := "tokenNotes", fn := fun _ => fun
  | [d1, d2] => { results := [.lit (.bool true)], args := [d1, d2] }
  | _ => none }
def tokenNotesRow : OpenClaim := { program := "ytkgnhghaiopgcaadoor", sum := "c006434b5a0de719c69fc494bca58d41abb0b260b841c6840635d04bec71ba4a", func := "doorman/doormanlaw06.TokenNotes", spec := "tokenNotes", inPlace := ["internal/bytealg.IndexByteString", "internal/bytealg.IndexString"], unfollowed := true, recurses := true, named := ["internal/bytealg.MaxLen", "doorman/token.keys"], apart := false, laid := [("doorman/token.keys", laid_doorman_token_keys)] }
def TokenNotesSaid : Prop := tokenNotesRow.holds Tryd.pinned (OpenSpec.ofChange tokenNotesSpec)

/-- ITS FALSE NEIGHBOUR: 'it returns false'. Refute it at one input. -/
def tokenNotesWrong : ChangeSpec := { name := "tokenNotes", fn := fun _ => fun
  | [d1, d2] => { results := [.lit (.bool false)], args := [d1, d2] }
  | _ => none }
def TokenNotesWrongFalsely : Prop := tokenNotesRow.holds Tryd.pinned (OpenSpec.ofChange tokenNotesWrong)

/-- 'doormanlaw07.ParseTells': WHATEVER THE INPUT: true; the input reads as it did. -/
def parseTellsSpec : ChangeSpec := { name := "parseTells", fn := fun _ => fun
  | [d] => { results := [.lit (.bool true)], args := [d] }
  | _ => none }
def parseTellsRow : OpenClaim := { program := "ytkgnhghaiopgcaadoor", sum := "c006434b5a0de719c69fc494bca58d41abb0b260b841c6840635d04bec71ba4a", func := "doorman/doormanlaw07.ParseTells", spec := "parseTells", inPlace := ["internal/bytealg.IndexByteString", "internal/bytealg.IndexString"], unfollowed := true, recurses := true, named := ["internal/bytealg.MaxLen", "doorman/token.keys"], apart := false, laid := [("doorman/token.keys", laid_doorman_token_keys)] }
def ParseTellsSaid : Prop := parseTellsRow.holds Tryd.pinned (OpenSpec.ofChange parseTellsSpec)

/-- ITS FALSE NEIGHBOUR: 'it returns false'. Refute it at one input. -/
def parseTellsWrong : ChangeSpec := { name := "parseTells", fn := fun _ => fun
  | [d] => { results := [.lit (.bool false)], args := [d] }
  | _ => none }
def ParseTellsWrongFalsely : Prop := parseTellsRow.holds Tryd.pinned (OpenSpec.ofChange parseTellsWrong)

/-- 'doormanlaw07.ParseOps': WHATEVER THE INPUT: true; the input reads as it did. -/
def parseOpsSpec : ChangeSpec := { name := "parseOps", fn := fun _ => fun
  | [d] => { results := [.lit (.bool true)], args := [d] }
  | _ => none }
def parseOpsRow : OpenClaim := { program := "ytkgnhghaiopgcaadoor", sum := "c006434b5a0de719c69fc494bca58d41abb0b260b841c6840635d04bec71ba4a", func := "doorman/doormanlaw07.ParseOps", spec := "parseOps", inPlace := ["internal/bytealg.IndexByteString", "internal/bytealg.IndexString"], unfollowed := true, recurses := true, named := ["internal/bytealg.MaxLen", "doorman/token.keys"], apart := false, laid := [("doorman/token.keys", laid_doorman_token_keys)] }
def ParseOpsSaid : Prop := parseOpsRow.holds Tryd.pinned (OpenSpec.ofChange parseOpsSpec)

/-- ITS FALSE NEIGHBOUR: 'it returns false'. Refute it at one input. -/
def parseOpsWrong : ChangeSpec := { name := "parseOps", fn := fun _ => fun
  | [d] => { results := [.lit (.bool false)], args := [d] }
  | _ => none }
def ParseOpsWrongFalsely : Prop := parseOpsRow.holds Tryd.pinned (OpenSpec.ofChange parseOpsWrong)

/-- 'doormanlaw07.ParseDeep': WHATEVER THE INPUT: true; the input reads as it did. -/
def parseDeepSpec : ChangeSpec := { name := "parseDeep", fn := fun _ => fun
  | [d1, d2] => { results := [.lit (.bool true)], args := [d1, d2] }
  | _ => none }
def parseDeepRow : OpenClaim := { program := "ytkgnhghaiopgcaadoor", sum := "c006434b5a0de719c69fc494bca58d41abb0b260b841c6840635d04bec71ba4a", func := "doorman/doormanlaw07.ParseDeep", spec := "parseDeep", inPlace := ["internal/bytealg.IndexByteString", "internal/bytealg.IndexString"], unfollowed := true, recurses := true, named := ["internal/bytealg.MaxLen", "doorman/token.keys"], apart := false, laid := [("doorman/token.keys", laid_doorman_token_keys)] }
def ParseDeepSaid : Prop := parseDeepRow.holds Tryd.pinned (OpenSpec.ofChange parseDeepSpec)

/-- ITS FALSE NEIGHBOUR: 'it returns false'. Refute it at one input. -/
def parseDeepWrong : ChangeSpec := { name := "parseDeep", fn := fun _ => fun
  | [d1, d2] => { results := [.lit (.bool false)], args := [d1, d2] }
  | _ => none }
def ParseDeepWrongFalsely : Prop := parseDeepRow.holds Tryd.pinned (OpenSpec.ofChange parseDeepWrong)

/-- 'doormanlaw07.ParseTwo': WHATEVER THE INPUT: true; the input reads as it did. -/
def parseTwoSpec : ChangeSpec := { name := "parseTwo", fn := fun _ => fun
  | [d1, d2] => { results := [.lit (.bool true)], args := [d1, d2] }
  | _ => none }
def parseTwoRow : OpenClaim := { program := "ytkgnhghaiopgcaadoor", sum := "c006434b5a0de719c69fc494bca58d41abb0b260b841c6840635d04bec71ba4a", func := "doorman/doormanlaw07.ParseTwo", spec := "parseTwo", inPlace := ["internal/bytealg.IndexByteString", "internal/bytealg.IndexString"], unfollowed := true, recurses := true, named := ["internal/bytealg.MaxLen", "doorman/token.keys"], apart := false, laid := [("doorman/token.keys", laid_doorman_token_keys)] }
def ParseTwoSaid : Prop := parseTwoRow.holds Tryd.pinned (OpenSpec.ofChange parseTwoSpec)

/-- ITS FALSE NEIGHBOUR: 'it returns false'. Refute it at one input. -/
def parseTwoWrong : ChangeSpec := { name := "parseTwo", fn := fun _ => fun
  | [d1, d2] => { results := [.lit (.bool false)], args := [d1, d2] }
  | _ => none }
def ParseTwoWrongFalsely : Prop := parseTwoRow.holds Tryd.pinned (OpenSpec.ofChange parseTwoWrong)

/-- 'doormanlaw07.ParseNames': WHATEVER THE INPUT: true; the input reads as it did. -/
def parseNamesSpec : ChangeSpec := { name := "parseNames", fn := fun _ => fun
  | [d1, d2] => { results := [.lit (.bool true)], args := [d1, d2] }
  | _ => none }
def parseNamesRow : OpenClaim := { program := "ytkgnhghaiopgcaadoor", sum := "c006434b5a0de719c69fc494bca58d41abb0b260b841c6840635d04bec71ba4a", func := "doorman/doormanlaw07.ParseNames", spec := "parseNames", inPlace := ["internal/bytealg.IndexByteString", "internal/bytealg.IndexString"], unfollowed := true, recurses := true, named := ["internal/bytealg.MaxLen", "doorman/token.keys"], apart := false, laid := [("doorman/token.keys", laid_doorman_token_keys)] }
def ParseNamesSaid : Prop := parseNamesRow.holds Tryd.pinned (OpenSpec.ofChange parseNamesSpec)

/-- ITS FALSE NEIGHBOUR: 'it returns false'. Refute it at one input. -/
def parseNamesWrong : ChangeSpec := { name := "parseNames", fn := fun _ => fun
  | [d1, d2] => { results := [.lit (.bool false)], args := [d1, d2] }
  | _ => none }
def ParseNamesWrongFalsely : Prop := parseNamesRow.holds Tryd.pinned (OpenSpec.ofChange parseNamesWrong)

/-- 'doormanlaw07.ParseLeft': WHATEVER THE INPUT: true; the input reads as it did. -/
def parseLeftSpec : ChangeSpec := { name := "parseLeft", fn := fun _ => fun
  | [d] => { results := [.lit (.bool true)], args := [d] }
  | _ => none }
def parseLeftRow : OpenClaim := { program := "ytkgnhghaiopgcaadoor", sum := "c006434b5a0de719c69fc494bca58d41abb0b260b841c6840635d04bec71ba4a", func := "doorman/doormanlaw07.ParseLeft", spec := "parseLeft", inPlace := ["internal/bytealg.IndexByteString", "internal/bytealg.IndexString"], unfollowed := true, recurses := true, named := ["internal/bytealg.MaxLen", "doorman/token.keys"], apart := false, laid := [("doorman/token.keys", laid_doorman_token_keys)] }
def ParseLeftSaid : Prop := parseLeftRow.holds Tryd.pinned (OpenSpec.ofChange parseLeftSpec)

/-- ITS FALSE NEIGHBOUR: 'it returns false'. Refute it at one input. -/
def parseLeftWrong : ChangeSpec := { name := "parseLeft", fn := fun _ => fun
  | [d] => { results := [.lit (.bool false)], args := [d] }
  | _ => none }
def ParseLeftWrongFalsely : Prop := parseLeftRow.holds Tryd.pinned (OpenSpec.ofChange parseLeftWrong)

/-- 'doormanlaw09.CheckTells': WHATEVER THE INPUT: true; the input reads as it did. -/
def checkTellsSpec : ChangeSpec := { name := "checkTells", fn := fun _ => fun
  | [d1, d2, d3] => { results := [.lit (.bool true)], args := [d1, d2, d3] }
  | _ => none }
def checkTellsRow : OpenClaim := { program := "ytkgnhghaiopgcaadoor", sum := "c006434b5a0de719c69fc494bca58d41abb0b260b841c6840635d04bec71ba4a", func := "doorman/doormanlaw09.CheckTells", spec := "checkTells", inPlace := ["internal/bytealg.IndexByteString", "internal/bytealg.IndexString"], unfollowed := true, recurses := true, named := ["internal/bytealg.MaxLen", "doorman/token.keys"], apart := false, laid := [("doorman/token.keys", laid_doorman_token_keys)] }
def CheckTellsSaid : Prop := checkTellsRow.holds Tryd.pinned (OpenSpec.ofChange checkTellsSpec)

/-- ITS FALSE NEIGHBOUR: 'it returns false'. Refute it at one input. -/
def checkTellsWrong : ChangeSpec := { name := "checkTells", fn := fun _ => fun
  | [d1, d2, d3] => { results := [.lit (.bool false)], args := [d1, d2, d3] }
  | _ => none }
def CheckTellsWrongFalsely : Prop := checkTellsRow.holds Tryd.pinned (OpenSpec.ofChange checkTellsWrong)

/-- 'doormanlaw09.CheckPrefix': WHATEVER THE INPUT: true; the input reads as it did. -/
def checkPrefixSpec : ChangeSpec := { name := "checkPrefix", fn := fun _ => fun
  | [d] => { results := [.lit (.bool true)], args := [d] }
  | _ => none }
def checkPrefixRow : OpenClaim := { program := "ytkgnhghaiopgcaadoor", sum := "c006434b5a0de719c69fc494bca58d41abb0b260b841c6840635d04bec71ba4a", func := "doorman/doormanlaw09.CheckPrefix", spec := "checkPrefix", inPlace := ["internal/bytealg.IndexByteString", "internal/bytealg.IndexString"], unfollowed := true, recurses := true, named := ["internal/bytealg.MaxLen", "doorman/token.keys"], apart := false, laid := [("doorman/token.keys", laid_doorman_token_keys)] }
def CheckPrefixSaid : Prop := checkPrefixRow.holds Tryd.pinned (OpenSpec.ofChange checkPrefixSpec)

/-- ITS FALSE NEIGHBOUR: 'it returns false'. Refute it at one input. -/
def checkPrefixWrong : ChangeSpec := { name := "checkPrefix", fn := fun _ => fun
  | [d] => { results := [.lit (.bool false)], args := [d] }
  | _ => none }
def CheckPrefixWrongFalsely : Prop := checkPrefixRow.holds Tryd.pinned (OpenSpec.ofChange checkPrefixWrong)

/-- 'doormanlaw09.CheckTwice': WHATEVER THE INPUT: true; the input reads as it did. -/
def checkTwiceSpec : ChangeSpec := { name := "checkTwice", fn := fun _ => fun
  | [d1, d2, d3] => { results := [.lit (.bool true)], args := [d1, d2, d3] }
  | _ => none }
def checkTwiceRow : OpenClaim := { program := "ytkgnhghaiopgcaadoor", sum := "c006434b5a0de719c69fc494bca58d41abb0b260b841c6840635d04bec71ba4a", func := "doorman/doormanlaw09.CheckTwice", spec := "checkTwice", inPlace := ["internal/bytealg.IndexByteString", "internal/bytealg.IndexString"], unfollowed := true, recurses := true, named := ["internal/bytealg.MaxLen", "doorman/token.keys"], apart := false, laid := [("doorman/token.keys", laid_doorman_token_keys)] }
def CheckTwiceSaid : Prop := checkTwiceRow.holds Tryd.pinned (OpenSpec.ofChange checkTwiceSpec)

/-- ITS FALSE NEIGHBOUR: 'it returns false'. Refute it at one input. -/
def checkTwiceWrong : ChangeSpec := { name := "checkTwice", fn := fun _ => fun
  | [d1, d2, d3] => { results := [.lit (.bool false)], args := [d1, d2, d3] }
  | _ => none }
def CheckTwiceWrongFalsely : Prop := checkTwiceRow.holds Tryd.pinned (OpenSpec.ofChange checkTwiceWrong)

/-- 'doormanlaw09.CheckMore': WHATEVER THE INPUT: true; the input reads as it did. -/
def checkMoreSpec : ChangeSpec := { name := "checkMore", fn := fun _ => fun
  | [d1, d2, d3] => { results := [.lit (.bool true)], args := [d1, d2, d3] }
  | _ => none }
def checkMoreRow : OpenClaim := { program := "ytkgnhghaiopgcaadoor", sum := "c006434b5a0de719c69fc494bca58d41abb0b260b841c6840635d04bec71ba4a", func := "doorman/doormanlaw09.CheckMore", spec := "checkMore", inPlace := ["internal/bytealg.IndexByteString", "internal/bytealg.IndexString"], unfollowed := true, recurses := true, named := ["internal/bytealg.MaxLen", "doorman/token.keys"], apart := false, laid := [("doorman/token.keys", laid_doorman_token_keys)] }
def CheckMoreSaid : Prop := checkMoreRow.holds Tryd.pinned (OpenSpec.ofChange checkMoreSpec)

/-- ITS FALSE NEIGHBOUR: 'it returns false'. Refute it at one input. -/
def checkMoreWrong : ChangeSpec := { name := "checkMore", fn := fun _ => fun
  | [d1, d2, d3] => { results := [.lit (.bool false)], args := [d1, d2, d3] }
  | _ => none }
def CheckMoreWrongFalsely : Prop := checkMoreRow.holds Tryd.pinned (OpenSpec.ofChange checkMoreWrong)

/-- 'doormanlaw09.CheckFinds': WHATEVER THE INPUT: true; the input reads as it did. -/
def checkFindsSpec : ChangeSpec := { name := "checkFinds", fn := fun _ => fun
  | [d1, d2, d3] => { results := [.lit (.bool true)], args := [d1, d2, d3] }
  | _ => none }
def checkFindsRow : OpenClaim := { program := "ytkgnhghaiopgcaadoor", sum := "c006434b5a0de719c69fc494bca58d41abb0b260b841c6840635d04bec71ba4a", func := "doorman/doormanlaw09.CheckFinds", spec := "checkFinds", inPlace := ["internal/bytealg.IndexByteString", "internal/bytealg.IndexString"], unfollowed := true, recurses := true, named := ["internal/bytealg.MaxLen", "doorman/token.keys"], apart := false, laid := [("doorman/token.keys", laid_doorman_token_keys)] }
def CheckFindsSaid : Prop := checkFindsRow.holds Tryd.pinned (OpenSpec.ofChange checkFindsSpec)

/-- ITS FALSE NEIGHBOUR: 'it returns false'. Refute it at one input. -/
def checkFindsWrong : ChangeSpec := { name := "checkFinds", fn := fun _ => fun
  | [d1, d2, d3] => { results := [.lit (.bool false)], args := [d1, d2, d3] }
  | _ => none }
def CheckFindsWrongFalsely : Prop := checkFindsRow.holds Tryd.pinned (OpenSpec.ofChange checkFindsWrong)

/-- 'doormanlaw08.PrintShows': WHATEVER THE INPUT: true; the input reads as it did. -/
def printShowsSpec : ChangeSpec := { name := "printShows", fn := fun _ => fun
  | [d] => { results := [.lit (.bool true)], args := [d] }
  | _ => none }
def printShowsRow : OpenClaim := { program := "ytkgnhghaiopgcaadoor", sum := "c006434b5a0de719c69fc494bca58d41abb0b260b841c6840635d04bec71ba4a", func := "doorman/doormanlaw08.PrintShows", spec := "printShows", inPlace := ["internal/bytealg.IndexByteString", "internal/bytealg.IndexString", "internal/abi.NoEscape", "internal/bytealg.MakeNoZero"], unfollowed := true, recurses := true, named := ["internal/bytealg.MaxLen", "doorman/token.keys"], apart := false, laid := [("doorman/token.keys", laid_doorman_token_keys)] }
def PrintShowsSaid : Prop := printShowsRow.holds Tryd.pinned (OpenSpec.ofChange printShowsSpec)

/-- ITS FALSE NEIGHBOUR: 'it returns false'. Refute it at one input. -/
def printShowsWrong : ChangeSpec := { name := "printShows", fn := fun _ => fun
  | [d] => { results := [.lit (.bool false)], args := [d] }
  | _ => none }
def PrintShowsWrongFalsely : Prop := printShowsRow.holds Tryd.pinned (OpenSpec.ofChange printShowsWrong)

/-- 'doormanlaw08.PrintBack': WHATEVER THE INPUT: true; the input reads as it did. -/
def printBackSpec : ChangeSpec := { name := "printBack", fn := fun _ => fun
  | [d] => { results := [.lit (.bool true)], args := [d] }
  | _ => none }
def printBackRow : OpenClaim := { program := "ytkgnhghaiopgcaadoor", sum := "c006434b5a0de719c69fc494bca58d41abb0b260b841c6840635d04bec71ba4a", func := "doorman/doormanlaw08.PrintBack", spec := "printBack", inPlace := ["internal/bytealg.IndexByteString", "internal/bytealg.IndexString", "internal/abi.NoEscape", "internal/bytealg.MakeNoZero"], unfollowed := true, recurses := true, named := ["internal/bytealg.MaxLen", "doorman/token.keys"], apart := false, laid := [("doorman/token.keys", laid_doorman_token_keys)] }
def PrintBackSaid : Prop := printBackRow.holds Tryd.pinned (OpenSpec.ofChange printBackSpec)

/-- ITS FALSE NEIGHBOUR: 'it returns false'. Refute it at one input. -/
def printBackWrong : ChangeSpec := { name := "printBack", fn := fun _ => fun
  | [d] => { results := [.lit (.bool false)], args := [d] }
  | _ => none }
def PrintBackWrongFalsely : Prop := printBackRow.holds Tryd.pinned (OpenSpec.ofChange printBackWrong)

/-- 'doormanlaw08.PrintSigns': WHATEVER THE INPUT: true; the input reads as it did. -/
def printSignsSpec : ChangeSpec := { name := "printSigns", fn := fun _ => fun
  | [d] => { results := [.lit (.bool true)], args := [d] }
  | _ => none }
def printSignsRow : OpenClaim := { program := "ytkgnhghaiopgcaadoor", sum := "c006434b5a0de719c69fc494bca58d41abb0b260b841c6840635d04bec71ba4a", func := "doorman/doormanlaw08.PrintSigns", spec := "printSigns", inPlace := ["internal/bytealg.IndexByteString", "internal/bytealg.IndexString", "internal/abi.NoEscape", "internal/bytealg.MakeNoZero"], unfollowed := true, recurses := true, named := ["internal/bytealg.MaxLen", "doorman/token.keys"], apart := false, laid := [("doorman/token.keys", laid_doorman_token_keys)] }
def PrintSignsSaid : Prop := printSignsRow.holds Tryd.pinned (OpenSpec.ofChange printSignsSpec)

/-- ITS FALSE NEIGHBOUR: 'it returns false'. Refute it at one input. -/
def printSignsWrong : ChangeSpec := { name := "printSigns", fn := fun _ => fun
  | [d] => { results := [.lit (.bool false)], args := [d] }
  | _ => none }
def PrintSignsWrongFalsely : Prop := printSignsRow.holds Tryd.pinned (OpenSpec.ofChange printSignsWrong)

/-- 'doormanlaw08.PrintOps': WHATEVER THE INPUT: true; the input reads as it did. -/
def printOpsSpec : ChangeSpec := { name := "printOps", fn := fun _ => fun
  | [d1, d2] => { results := [.lit (.bool true)], args := [d1, d2] }
  | _ => none }
def printOpsRow : OpenClaim := { program := "ytkgnhghaiopgcaadoor", sum := "c006434b5a0de719c69fc494bca58d41abb0b260b841c6840635d04bec71ba4a", func := "doorman/doormanlaw08.PrintOps", spec := "printOps", inPlace := ["internal/bytealg.IndexByteString", "internal/bytealg.IndexString", "internal/abi.NoEscape", "internal/bytealg.MakeNoZero"], unfollowed := true, recurses := true, named := ["internal/bytealg.MaxLen", "doorman/token.keys"], apart := false, laid := [("doorman/token.keys", laid_doorman_token_keys)] }
def PrintOpsSaid : Prop := printOpsRow.holds Tryd.pinned (OpenSpec.ofChange printOpsSpec)

/-- ITS FALSE NEIGHBOUR: 'it returns false'. Refute it at one input. -/
def printOpsWrong : ChangeSpec := { name := "printOps", fn := fun _ => fun
  | [d1, d2] => { results := [.lit (.bool false)], args := [d1, d2] }
  | _ => none }
def PrintOpsWrongFalsely : Prop := printOpsRow.holds Tryd.pinned (OpenSpec.ofChange printOpsWrong)

/- THE SECOND FORM. 'bulk': how many values and letters a reading holds, each counted each time it is reached (what is shared counts as often as it is met; a slice's spare places count too). A statement '..UptoSaid' is the law's where the arguments, and the package variables that the reading takes, are together of bulk at most 1048576: NARROWER than '..Said'. Prove '..Said' where nothing that the law and all that it calls make is longer than what came in: it says more and counts as full. Else prove '..UptoSaid'. A law counts once. -/
mutual
def uptoBulk {H : Type} : DataW H → Nat
  | .lit (.string bytes) => bytes.length + 1
  | .lit _ => 1
  | .nil => 1
  | .ptr d => uptoBulk d + 1
  | .slice elems spare => uptoBulkAll elems + uptoBulkAll spare + 1
  | .agg parts => uptoBulkAll parts + 1
  | .iface _ d => uptoBulk d + 1
  | .map entries => uptoBulkEntries entries + 1
  | .held _ => 1
def uptoBulkAll {H : Type} : List (DataW H) → Nat
  | [] => 0
  | d :: r => uptoBulk d + uptoBulkAll r
def uptoBulkEntries {H : Type} : List (Lit × DataW H) → Nat
  | [] => 0
  | x :: r => uptoBulkEntry x + uptoBulkEntries r
def uptoBulkEntry {H : Type} : Lit × DataW H → Nat
  | (.string bytes, d) => bytes.length + uptoBulk d + 1
  | (_, d) => uptoBulk d + 1
 end
def uptoSmall : (H : Type) → List (DataW H) → Bool := fun _ ds => decide (uptoBulkAll ds ≤ 1048576)
def OpenSpec.upto (s : _root_.Go.ChangeSpec) : _root_.Go.OpenSpec := { _root_.Go.OpenSpec.ofChange s with cond := some uptoSmall }

/-- 'doormanlaw06.TokenTells', WHERE WHAT IT READS IS OF BULK AT MOST 1048576: true; the input reads as it did. -/
def tokenTellsUptoRow : OpenClaim := { program := "ytkgnhghaiopgcaadoor", sum := "c006434b5a0de719c69fc494bca58d41abb0b260b841c6840635d04bec71ba4a", func := "doorman/doormanlaw06.TokenTells", spec := "tokenTells", inPlace := ["internal/bytealg.IndexByteString", "internal/bytealg.IndexString"], unfollowed := true, recurses := true, named := ["internal/bytealg.MaxLen", "doorman/token.keys"], apart := false, laid := [("doorman/token.keys", laid_doorman_token_keys)], narrowed := true }
def TokenTellsUptoSaid : Prop := tokenTellsUptoRow.holds Tryd.pinned (OpenSpec.upto tokenTellsSpec)

/-- 'doormanlaw06.TokenBlanks', WHERE WHAT IT READS IS OF BULK AT MOST 1048576: true; the input reads as it did. -/
def tokenBlanksUptoRow : OpenClaim := { program := "ytkgnhghaiopgcaadoor", sum := "c006434b5a0de719c69fc494bca58d41abb0b260b841c6840635d04bec71ba4a", func := "doorman/doormanlaw06.TokenBlanks", spec := "tokenBlanks", inPlace := ["internal/bytealg.IndexByteString", "internal/bytealg.IndexString"], unfollowed := true, recurses := true, named := ["internal/bytealg.MaxLen", "doorman/token.keys"], apart := false, laid := [("doorman/token.keys", laid_doorman_token_keys)], narrowed := true }
def TokenBlanksUptoSaid : Prop := tokenBlanksUptoRow.holds Tryd.pinned (OpenSpec.upto tokenBlanksSpec)

/-- 'doormanlaw06.TokenPlaces', WHERE WHAT IT READS IS OF BULK AT MOST 1048576: true; the input reads as it did. -/
def tokenPlacesUptoRow : OpenClaim := { program := "ytkgnhghaiopgcaadoor", sum := "c006434b5a0de719c69fc494bca58d41abb0b260b841c6840635d04bec71ba4a", func := "doorman/doormanlaw06.TokenPlaces", spec := "tokenPlaces", inPlace := ["internal/bytealg.IndexByteString", "internal/bytealg.IndexString"], unfollowed := true, recurses := true, named := ["internal/bytealg.MaxLen", "doorman/token.keys"], apart := false, laid := [("doorman/token.keys", laid_doorman_token_keys)], narrowed := true }
def TokenPlacesUptoSaid : Prop := tokenPlacesUptoRow.holds Tryd.pinned (OpenSpec.upto tokenPlacesSpec)

/-- 'doormanlaw06.TokenErrs', WHERE WHAT IT READS IS OF BULK AT MOST 1048576: true; the input reads as it did. -/
def tokenErrsUptoRow : OpenClaim := { program := "ytkgnhghaiopgcaadoor", sum := "c006434b5a0de719c69fc494bca58d41abb0b260b841c6840635d04bec71ba4a", func := "doorman/doormanlaw06.TokenErrs", spec := "tokenErrs", inPlace := ["internal/bytealg.IndexByteString", "internal/bytealg.IndexString"], unfollowed := true, recurses := true, named := ["internal/bytealg.MaxLen", "doorman/token.keys"], apart := false, laid := [("doorman/token.keys", laid_doorman_token_keys)], narrowed := true }
def TokenErrsUptoSaid : Prop := tokenErrsUptoRow.holds Tryd.pinned (OpenSpec.upto tokenErrsSpec)

/-- 'doormanlaw06.TokenWords', WHERE WHAT IT READS IS OF BULK AT MOST 1048576: true; the input reads as it did. -/
def tokenWordsUptoRow : OpenClaim := { program := "ytkgnhghaiopgcaadoor", sum := "c006434b5a0de719c69fc494bca58d41abb0b260b841c6840635d04bec71ba4a", func := "doorman/doormanlaw06.TokenWords", spec := "tokenWords", inPlace := ["internal/bytealg.IndexByteString", "internal/bytealg.IndexString"], unfollowed := true, recurses := true, named := ["internal/bytealg.MaxLen", "doorman/token.keys"], apart := false, laid := [("doorman/token.keys", laid_doorman_token_keys)], narrowed := true }
def TokenWordsUptoSaid : Prop := tokenWordsUptoRow.holds Tryd.pinned (OpenSpec.upto tokenWordsSpec)

/-- 'doormanlaw06.TokenNotes', WHERE WHAT IT READS IS OF BULK AT MOST 1048576: true; the input reads as it did. -/
def tokenNotesUptoRow : OpenClaim := { program := "ytkgnhghaiopgcaadoor", sum := "c006434b5a0de719c69fc494bca58d41abb0b260b841c6840635d04bec71ba4a", func := "doorman/doormanlaw06.TokenNotes", spec := "tokenNotes", inPlace := ["internal/bytealg.IndexByteString", "internal/bytealg.IndexString"], unfollowed := true, recurses := true, named := ["internal/bytealg.MaxLen", "doorman/token.keys"], apart := false, laid := [("doorman/token.keys", laid_doorman_token_keys)], narrowed := true }
def TokenNotesUptoSaid : Prop := tokenNotesUptoRow.holds Tryd.pinned (OpenSpec.upto tokenNotesSpec)

/-- 'doormanlaw07.ParseTells', WHERE WHAT IT READS IS OF BULK AT MOST 1048576: true; the input reads as it did. -/
def parseTellsUptoRow : OpenClaim := { program := "ytkgnhghaiopgcaadoor", sum := "c006434b5a0de719c69fc494bca58d41abb0b260b841c6840635d04bec71ba4a", func := "doorman/doormanlaw07.ParseTells", spec := "parseTells", inPlace := ["internal/bytealg.IndexByteString", "internal/bytealg.IndexString"], unfollowed := true, recurses := true, named := ["internal/bytealg.MaxLen", "doorman/token.keys"], apart := false, laid := [("doorman/token.keys", laid_doorman_token_keys)], narrowed := true }
def ParseTellsUptoSaid : Prop := parseTellsUptoRow.holds Tryd.pinned (OpenSpec.upto parseTellsSpec)

/-- 'doormanlaw07.ParseOps', WHERE WHAT IT READS IS OF BULK AT MOST 1048576: true; the input reads as it did. -/
def parseOpsUptoRow : OpenClaim := { program := "ytkgnhghaiopgcaadoor", sum := "c006434b5a0de719c69fc494bca58d41abb0b260b841c6840635d04bec71ba4a", func := "doorman/doormanlaw07.ParseOps", spec := "parseOps", inPlace := ["internal/bytealg.IndexByteString", "internal/bytealg.IndexString"], unfollowed := true, recurses := true, named := ["internal/bytealg.MaxLen", "doorman/token.keys"], apart := false, laid := [("doorman/token.keys", laid_doorman_token_keys)], narrowed := true }
def ParseOpsUptoSaid : Prop := parseOpsUptoRow.holds Tryd.pinned (OpenSpec.upto parseOpsSpec)

/-- 'doormanlaw07.ParseDeep', WHERE WHAT IT READS IS OF BULK AT MOST 1048576: true; the input reads as it did. -/
def parseDeepUptoRow : OpenClaim := { program := "ytkgnhghaiopgcaadoor", sum := "c006434b5a0de719c69fc494bca58d41abb0b260b841c6840635d04bec71ba4a", func := "doorman/doormanlaw07.ParseDeep", spec := "parseDeep", inPlace := ["internal/bytealg.IndexByteString", "internal/bytealg.IndexString"], unfollowed := true, recurses := true, named := ["internal/bytealg.MaxLen", "doorman/token.keys"], apart := false, laid := [("doorman/token.keys", laid_doorman_token_keys)], narrowed := true }
def ParseDeepUptoSaid : Prop := parseDeepUptoRow.holds Tryd.pinned (OpenSpec.upto parseDeepSpec)

/-- 'doormanlaw07.ParseTwo', WHERE WHAT IT READS IS OF BULK AT MOST 1048576: true; the input reads as it did. -/
def parseTwoUptoRow : OpenClaim := { program := "ytkgnhghaiopgcaadoor", sum := "c006434b5a0de719c69fc494bca58d41abb0b260b841c6840635d04bec71ba4a", func := "doorman/doormanlaw07.ParseTwo", spec := "parseTwo", inPlace := ["internal/bytealg.IndexByteString", "internal/bytealg.IndexString"], unfollowed := true, recurses := true, named := ["internal/bytealg.MaxLen", "doorman/token.keys"], apart := false, laid := [("doorman/token.keys", laid_doorman_token_keys)], narrowed := true }
def ParseTwoUptoSaid : Prop := parseTwoUptoRow.holds Tryd.pinned (OpenSpec.upto parseTwoSpec)

/-- 'doormanlaw07.ParseNames', WHERE WHAT IT READS IS OF BULK AT MOST 1048576: true; the input reads as it did. -/
def parseNamesUptoRow : OpenClaim := { program := "ytkgnhghaiopgcaadoor", sum := "c006434b5a0de719c69fc494bca58d41abb0b260b841c6840635d04bec71ba4a", func := "doorman/doormanlaw07.ParseNames", spec := "parseNames", inPlace := ["internal/bytealg.IndexByteString", "internal/bytealg.IndexString"], unfollowed := true, recurses := true, named := ["internal/bytealg.MaxLen", "doorman/token.keys"], apart := false, laid := [("doorman/token.keys", laid_doorman_token_keys)], narrowed := true }
def ParseNamesUptoSaid : Prop := parseNamesUptoRow.holds Tryd.pinned (OpenSpec.upto parseNamesSpec)

/-- 'doormanlaw07.ParseLeft', WHERE WHAT IT READS IS OF BULK AT MOST 1048576: true; the input reads as it did. -/
def parseLeftUptoRow : OpenClaim := { program := "ytkgnhghaiopgcaadoor", sum := "c006434b5a0de719c69fc494bca58d41abb0b260b841c6840635d04bec71ba4a", func := "doorman/doormanlaw07.ParseLeft", spec := "parseLeft", inPlace := ["internal/bytealg.IndexByteString", "internal/bytealg.IndexString"], unfollowed := true, recurses := true, named := ["internal/bytealg.MaxLen", "doorman/token.keys"], apart := false, laid := [("doorman/token.keys", laid_doorman_token_keys)], narrowed := true }
def ParseLeftUptoSaid : Prop := parseLeftUptoRow.holds Tryd.pinned (OpenSpec.upto parseLeftSpec)

/-- 'doormanlaw09.CheckTells', WHERE WHAT IT READS IS OF BULK AT MOST 1048576: true; the input reads as it did. -/
def checkTellsUptoRow : OpenClaim := { program := "ytkgnhghaiopgcaadoor", sum := "c006434b5a0de719c69fc494bca58d41abb0b260b841c6840635d04bec71ba4a", func := "doorman/doormanlaw09.CheckTells", spec := "checkTells", inPlace := ["internal/bytealg.IndexByteString", "internal/bytealg.IndexString"], unfollowed := true, recurses := true, named := ["internal/bytealg.MaxLen", "doorman/token.keys"], apart := false, laid := [("doorman/token.keys", laid_doorman_token_keys)], narrowed := true }
def CheckTellsUptoSaid : Prop := checkTellsUptoRow.holds Tryd.pinned (OpenSpec.upto checkTellsSpec)

/-- 'doormanlaw09.CheckPrefix', WHERE WHAT IT READS IS OF BULK AT MOST 1048576: true; the input reads as it did. -/
def checkPrefixUptoRow : OpenClaim := { program := "ytkgnhghaiopgcaadoor", sum := "c006434b5a0de719c69fc494bca58d41abb0b260b841c6840635d04bec71ba4a", func := "doorman/doormanlaw09.CheckPrefix", spec := "checkPrefix", inPlace := ["internal/bytealg.IndexByteString", "internal/bytealg.IndexString"], unfollowed := true, recurses := true, named := ["internal/bytealg.MaxLen", "doorman/token.keys"], apart := false, laid := [("doorman/token.keys", laid_doorman_token_keys)], narrowed := true }
def CheckPrefixUptoSaid : Prop := checkPrefixUptoRow.holds Tryd.pinned (OpenSpec.upto checkPrefixSpec)

/-- 'doormanlaw09.CheckTwice', WHERE WHAT IT READS IS OF BULK AT MOST 1048576: true; the input reads as it did. -/
def checkTwiceUptoRow : OpenClaim := { program := "ytkgnhghaiopgcaadoor", sum := "c006434b5a0de719c69fc494bca58d41abb0b260b841c6840635d04bec71ba4a", func := "doorman/doormanlaw09.CheckTwice", spec := "checkTwice", inPlace := ["internal/bytealg.IndexByteString", "internal/bytealg.IndexString"], unfollowed := true, recurses := true, named := ["internal/bytealg.MaxLen", "doorman/token.keys"], apart := false, laid := [("doorman/token.keys", laid_doorman_token_keys)], narrowed := true }
def CheckTwiceUptoSaid : Prop := checkTwiceUptoRow.holds Tryd.pinned (OpenSpec.upto checkTwiceSpec)

/-- 'doormanlaw09.CheckMore', WHERE WHAT IT READS IS OF BULK AT MOST 1048576: true; the input reads as it did. -/
def checkMoreUptoRow : OpenClaim := { program := "ytkgnhghaiopgcaadoor", sum := "c006434b5a0de719c69fc494bca58d41abb0b260b841c6840635d04bec71ba4a", func := "doorman/doormanlaw09.CheckMore", spec := "checkMore", inPlace := ["internal/bytealg.IndexByteString", "internal/bytealg.IndexString"], unfollowed := true, recurses := true, named := ["internal/bytealg.MaxLen", "doorman/token.keys"], apart := false, laid := [("doorman/token.keys", laid_doorman_token_keys)], narrowed := true }
def CheckMoreUptoSaid : Prop := checkMoreUptoRow.holds Tryd.pinned (OpenSpec.upto checkMoreSpec)

/-- 'doormanlaw09.CheckFinds', WHERE WHAT IT READS IS OF BULK AT MOST 1048576: true; the input reads as it did. -/
def checkFindsUptoRow : OpenClaim := { program := "ytkgnhghaiopgcaadoor", sum := "c006434b5a0de719c69fc494bca58d41abb0b260b841c6840635d04bec71ba4a", func := "doorman/doormanlaw09.CheckFinds", spec := "checkFinds", inPlace := ["internal/bytealg.IndexByteString", "internal/bytealg.IndexString"], unfollowed := true, recurses := true, named := ["internal/bytealg.MaxLen", "doorman/token.keys"], apart := false, laid := [("doorman/token.keys", laid_doorman_token_keys)], narrowed := true }
def CheckFindsUptoSaid : Prop := checkFindsUptoRow.holds Tryd.pinned (OpenSpec.upto checkFindsSpec)

/-- 'doormanlaw08.PrintShows', WHERE WHAT IT READS IS OF BULK AT MOST 1048576: true; the input reads as it did. -/
def printShowsUptoRow : OpenClaim := { program := "ytkgnhghaiopgcaadoor", sum := "c006434b5a0de719c69fc494bca58d41abb0b260b841c6840635d04bec71ba4a", func := "doorman/doormanlaw08.PrintShows", spec := "printShows", inPlace := ["internal/bytealg.IndexByteString", "internal/bytealg.IndexString", "internal/abi.NoEscape", "internal/bytealg.MakeNoZero"], unfollowed := true, recurses := true, named := ["internal/bytealg.MaxLen", "doorman/token.keys"], apart := false, laid := [("doorman/token.keys", laid_doorman_token_keys)], narrowed := true }
def PrintShowsUptoSaid : Prop := printShowsUptoRow.holds Tryd.pinned (OpenSpec.upto printShowsSpec)

/-- 'doormanlaw08.PrintBack', WHERE WHAT IT READS IS OF BULK AT MOST 1048576: true; the input reads as it did. -/
def printBackUptoRow : OpenClaim := { program := "ytkgnhghaiopgcaadoor", sum := "c006434b5a0de719c69fc494bca58d41abb0b260b841c6840635d04bec71ba4a", func := "doorman/doormanlaw08.PrintBack", spec := "printBack", inPlace := ["internal/bytealg.IndexByteString", "internal/bytealg.IndexString", "internal/abi.NoEscape", "internal/bytealg.MakeNoZero"], unfollowed := true, recurses := true, named := ["internal/bytealg.MaxLen", "doorman/token.keys"], apart := false, laid := [("doorman/token.keys", laid_doorman_token_keys)], narrowed := true }
def PrintBackUptoSaid : Prop := printBackUptoRow.holds Tryd.pinned (OpenSpec.upto printBackSpec)

/-- 'doormanlaw08.PrintSigns', WHERE WHAT IT READS IS OF BULK AT MOST 1048576: true; the input reads as it did. -/
def printSignsUptoRow : OpenClaim := { program := "ytkgnhghaiopgcaadoor", sum := "c006434b5a0de719c69fc494bca58d41abb0b260b841c6840635d04bec71ba4a", func := "doorman/doormanlaw08.PrintSigns", spec := "printSigns", inPlace := ["internal/bytealg.IndexByteString", "internal/bytealg.IndexString", "internal/abi.NoEscape", "internal/bytealg.MakeNoZero"], unfollowed := true, recurses := true, named := ["internal/bytealg.MaxLen", "doorman/token.keys"], apart := false, laid := [("doorman/token.keys", laid_doorman_token_keys)], narrowed := true }
def PrintSignsUptoSaid : Prop := printSignsUptoRow.holds Tryd.pinned (OpenSpec.upto printSignsSpec)

/-- 'doormanlaw08.PrintOps', WHERE WHAT IT READS IS OF BULK AT MOST 1048576: true; the input reads as it did. -/
def printOpsUptoRow : OpenClaim := { program := "ytkgnhghaiopgcaadoor", sum := "c006434b5a0de719c69fc494bca58d41abb0b260b841c6840635d04bec71ba4a", func := "doorman/doormanlaw08.PrintOps", spec := "printOps", inPlace := ["internal/bytealg.IndexByteString", "internal/bytealg.IndexString", "internal/abi.NoEscape", "internal/bytealg.MakeNoZero"], unfollowed := true, recurses := true, named := ["internal/bytealg.MaxLen", "doorman/token.keys"], apart := false, laid := [("doorman/token.keys", laid_doorman_token_keys)], narrowed := true }
def PrintOpsUptoSaid : Prop := printOpsUptoRow.holds Tryd.pinned (OpenSpec.upto printOpsSpec)

end Rows
end Go.Proofs.YtkgnhghaiopgcaaDoor
