/-
  DERIVED. GIVEN WITH THE SEED: THE CARDS: each row of YtkgnhghaiopgcaaDoorRows.lean that lists a variable, with what it lists TIED to the program's text (the seventh form; the later family's looks); each row that meets fmt, with fmt's text TOLD by the authors' own Lean function (tested against real Go, not proved from fmt's source: count such statements apart). THE CARD IS WHAT COUNTS. Prove the row's statement (the work); the ties are given (YtkgnhghaiopgcaaDoorTie.lean); close each card by the builder's one call (the guide's Derived/Test/ToyasCard.lean, 'card_holds'). Laid BY PROGRAM, IN A SANDBOX (cutbox-door.mjs). By AI agents, Wed Nov 11 2026. No macro, syntax, notation, axiom, sorry.
-/
import Derived.Test.YtkgnhghaiopgcaaDoorRows
import GoSem.ClaimSeven
namespace Go.Proofs.YtkgnhghaiopgcaaDoor
namespace Rows

/-- THE TIED CARD OF 'doormanlaw06.TokenTells'. -/
def tokenTellsCard : Claim7 := { stood := { row := tokenTellsRow, standIns := [], harness := (true, "7b661440b5aae90047754a37ea86839fd8a03a7f002c3a4a48eefa1bf2659ddf"), looks := true }, kinds := [], alts := [], laidByText := true, laidKinds := [.widerDeep], laidTests := true, laidLooks := .later }
def TokenTellsCardSaid : Prop := Claim7.holds Tryd.pinned (.plain (OpenSpec.ofChange tokenTellsSpec)) tokenTellsCard

/-- THE TIED CARD OF 'doormanlaw06.TokenBlanks'. -/
def tokenBlanksCard : Claim7 := { stood := { row := tokenBlanksRow, standIns := [], harness := (true, "7b661440b5aae90047754a37ea86839fd8a03a7f002c3a4a48eefa1bf2659ddf"), looks := true }, kinds := [], alts := [], laidByText := true, laidKinds := [.widerDeep], laidTests := true, laidLooks := .later }
def TokenBlanksCardSaid : Prop := Claim7.holds Tryd.pinned (.plain (OpenSpec.ofChange tokenBlanksSpec)) tokenBlanksCard

/-- THE TIED CARD OF 'doormanlaw06.TokenPlaces'. -/
def tokenPlacesCard : Claim7 := { stood := { row := tokenPlacesRow, standIns := [], harness := (true, "7b661440b5aae90047754a37ea86839fd8a03a7f002c3a4a48eefa1bf2659ddf"), looks := true }, kinds := [], alts := [], laidByText := true, laidKinds := [.widerDeep], laidTests := true, laidLooks := .later }
def TokenPlacesCardSaid : Prop := Claim7.holds Tryd.pinned (.plain (OpenSpec.ofChange tokenPlacesSpec)) tokenPlacesCard

/-- THE TIED CARD OF 'doormanlaw06.TokenErrs'. -/
def tokenErrsCard : Claim7 := { stood := { row := tokenErrsRow, standIns := [], harness := (true, "7b661440b5aae90047754a37ea86839fd8a03a7f002c3a4a48eefa1bf2659ddf"), looks := true }, kinds := [], alts := [], laidByText := true, laidKinds := [.widerDeep], laidTests := true, laidLooks := .later }
def TokenErrsCardSaid : Prop := Claim7.holds Tryd.pinned (.plain (OpenSpec.ofChange tokenErrsSpec)) tokenErrsCard

/-- THE TIED CARD OF 'doormanlaw06.TokenWords'. -/
def tokenWordsCard : Claim7 := { stood := { row := tokenWordsRow, standIns := [], harness := (true, "7b661440b5aae90047754a37ea86839fd8a03a7f002c3a4a48eefa1bf2659ddf"), looks := true }, kinds := [], alts := [], laidByText := true, laidKinds := [.widerDeep], laidTests := true, laidLooks := .later }
def TokenWordsCardSaid : Prop := Claim7.holds Tryd.pinned (.plain (OpenSpec.ofChange tokenWordsSpec)) tokenWordsCard

/-- THE TIED CARD OF 'doormanlaw06.TokenNotes'. -/
def tokenNotesCard : Claim7 := { stood := { row := tokenNotesRow, standIns := [], harness := (true, "7b661440b5aae90047754a37ea86839fd8a03a7f002c3a4a48eefa1bf2659ddf"), looks := true }, kinds := [], alts := [], laidByText := true, laidKinds := [.widerDeep], laidTests := true, laidLooks := .later }
def TokenNotesCardSaid : Prop := Claim7.holds Tryd.pinned (.plain (OpenSpec.ofChange tokenNotesSpec)) tokenNotesCard

/-- THE TIED CARD OF 'doormanlaw07.ParseTells'. -/
def parseTellsCard : Claim7 := { stood := { row := parseTellsRow, standIns := [], harness := (true, "7b661440b5aae90047754a37ea86839fd8a03a7f002c3a4a48eefa1bf2659ddf"), looks := true }, kinds := [], alts := [], laidByText := true, laidKinds := [.widerDeep], laidTests := true, laidLooks := .later }
def ParseTellsCardSaid : Prop := Claim7.holds Tryd.pinned (.plain (OpenSpec.ofChange parseTellsSpec)) parseTellsCard

/-- THE TIED CARD OF 'doormanlaw07.ParseOps'. -/
def parseOpsCard : Claim7 := { stood := { row := parseOpsRow, standIns := [], harness := (true, "7b661440b5aae90047754a37ea86839fd8a03a7f002c3a4a48eefa1bf2659ddf"), looks := true }, kinds := [], alts := [], laidByText := true, laidKinds := [.widerDeep], laidTests := true, laidLooks := .later }
def ParseOpsCardSaid : Prop := Claim7.holds Tryd.pinned (.plain (OpenSpec.ofChange parseOpsSpec)) parseOpsCard

/-- THE TIED CARD OF 'doormanlaw07.ParseDeep'. -/
def parseDeepCard : Claim7 := { stood := { row := parseDeepRow, standIns := [], harness := (true, "7b661440b5aae90047754a37ea86839fd8a03a7f002c3a4a48eefa1bf2659ddf"), looks := true }, kinds := [], alts := [], laidByText := true, laidKinds := [.widerDeep], laidTests := true, laidLooks := .later }
def ParseDeepCardSaid : Prop := Claim7.holds Tryd.pinned (.plain (OpenSpec.ofChange parseDeepSpec)) parseDeepCard

/-- THE TIED CARD OF 'doormanlaw07.ParseTwo'. -/
def parseTwoCard : Claim7 := { stood := { row := parseTwoRow, standIns := [], harness := (true, "7b661440b5aae90047754a37ea86839fd8a03a7f002c3a4a48eefa1bf2659ddf"), looks := true }, kinds := [], alts := [], laidByText := true, laidKinds := [.widerDeep], laidTests := true, laidLooks := .later }
def ParseTwoCardSaid : Prop := Claim7.holds Tryd.pinned (.plain (OpenSpec.ofChange parseTwoSpec)) parseTwoCard

/-- THE TIED CARD OF 'doormanlaw07.ParseNames'. -/
def parseNamesCard : Claim7 := { stood := { row := parseNamesRow, standIns := [], harness := (true, "7b661440b5aae90047754a37ea86839fd8a03a7f002c3a4a48eefa1bf2659ddf"), looks := true }, kinds := [], alts := [], laidByText := true, laidKinds := [.widerDeep], laidTests := true, laidLooks := .later }
def ParseNamesCardSaid : Prop := Claim7.holds Tryd.pinned (.plain (OpenSpec.ofChange parseNamesSpec)) parseNamesCard

/-- THE TIED CARD OF 'doormanlaw07.ParseLeft'. -/
def parseLeftCard : Claim7 := { stood := { row := parseLeftRow, standIns := [], harness := (true, "7b661440b5aae90047754a37ea86839fd8a03a7f002c3a4a48eefa1bf2659ddf"), looks := true }, kinds := [], alts := [], laidByText := true, laidKinds := [.widerDeep], laidTests := true, laidLooks := .later }
def ParseLeftCardSaid : Prop := Claim7.holds Tryd.pinned (.plain (OpenSpec.ofChange parseLeftSpec)) parseLeftCard

/-- THE TIED CARD OF 'doormanlaw09.CheckTells'. -/
def checkTellsCard : Claim7 := { stood := { row := checkTellsRow, standIns := [], harness := (true, "7b661440b5aae90047754a37ea86839fd8a03a7f002c3a4a48eefa1bf2659ddf"), looks := true }, kinds := [], alts := [], laidByText := true, laidKinds := [.widerDeep], laidTests := true, laidLooks := .later }
def CheckTellsCardSaid : Prop := Claim7.holds Tryd.pinned (.plain (OpenSpec.ofChange checkTellsSpec)) checkTellsCard

/-- THE TIED CARD OF 'doormanlaw09.CheckPrefix'. -/
def checkPrefixCard : Claim7 := { stood := { row := checkPrefixRow, standIns := [], harness := (true, "7b661440b5aae90047754a37ea86839fd8a03a7f002c3a4a48eefa1bf2659ddf"), looks := true }, kinds := [], alts := [], laidByText := true, laidKinds := [.widerDeep], laidTests := true, laidLooks := .later }
def CheckPrefixCardSaid : Prop := Claim7.holds Tryd.pinned (.plain (OpenSpec.ofChange checkPrefixSpec)) checkPrefixCard

/-- THE TIED CARD OF 'doormanlaw09.CheckTwice'. -/
def checkTwiceCard : Claim7 := { stood := { row := checkTwiceRow, standIns := [], harness := (true, "7b661440b5aae90047754a37ea86839fd8a03a7f002c3a4a48eefa1bf2659ddf"), looks := true }, kinds := [], alts := [], laidByText := true, laidKinds := [.widerDeep], laidTests := true, laidLooks := .later }
def CheckTwiceCardSaid : Prop := Claim7.holds Tryd.pinned (.plain (OpenSpec.ofChange checkTwiceSpec)) checkTwiceCard

/-- THE TIED CARD OF 'doormanlaw09.CheckMore'. -/
def checkMoreCard : Claim7 := { stood := { row := checkMoreRow, standIns := [], harness := (true, "7b661440b5aae90047754a37ea86839fd8a03a7f002c3a4a48eefa1bf2659ddf"), looks := true }, kinds := [], alts := [], laidByText := true, laidKinds := [.widerDeep], laidTests := true, laidLooks := .later }
def CheckMoreCardSaid : Prop := Claim7.holds Tryd.pinned (.plain (OpenSpec.ofChange checkMoreSpec)) checkMoreCard

/-- THE TIED CARD OF 'doormanlaw09.CheckFinds'. -/
def checkFindsCard : Claim7 := { stood := { row := checkFindsRow, standIns := [], harness := (true, "7b661440b5aae90047754a37ea86839fd8a03a7f002c3a4a48eefa1bf2659ddf"), looks := true }, kinds := [], alts := [], laidByText := true, laidKinds := [.widerDeep], laidTests := true, laidLooks := .later }
def CheckFindsCardSaid : Prop := Claim7.holds Tryd.pinned (.plain (OpenSpec.ofChange checkFindsSpec)) checkFindsCard

/-- THE TIED CARD OF 'doormanlaw08.PrintShows'. -/
def printShowsCard : Claim7 := { stood := { row := printShowsRow, standIns := [], harness := (true, "7b661440b5aae90047754a37ea86839fd8a03a7f002c3a4a48eefa1bf2659ddf"), looks := true }, kinds := [], alts := [], laidByText := true, laidKinds := [.widerDeep], laidTests := true, laidLooks := .later }
def PrintShowsCardSaid : Prop := Claim7.holds Tryd.pinned (.plain (OpenSpec.ofChange printShowsSpec)) printShowsCard

/-- THE TIED CARD OF 'doormanlaw08.PrintBack'. -/
def printBackCard : Claim7 := { stood := { row := printBackRow, standIns := [], harness := (true, "7b661440b5aae90047754a37ea86839fd8a03a7f002c3a4a48eefa1bf2659ddf"), looks := true }, kinds := [], alts := [], laidByText := true, laidKinds := [.widerDeep], laidTests := true, laidLooks := .later }
def PrintBackCardSaid : Prop := Claim7.holds Tryd.pinned (.plain (OpenSpec.ofChange printBackSpec)) printBackCard

/-- THE TIED CARD OF 'doormanlaw08.PrintSigns'. -/
def printSignsCard : Claim7 := { stood := { row := printSignsRow, standIns := [], harness := (true, "7b661440b5aae90047754a37ea86839fd8a03a7f002c3a4a48eefa1bf2659ddf"), looks := true }, kinds := [], alts := [], laidByText := true, laidKinds := [.widerDeep], laidTests := true, laidLooks := .later }
def PrintSignsCardSaid : Prop := Claim7.holds Tryd.pinned (.plain (OpenSpec.ofChange printSignsSpec)) printSignsCard

/-- THE TIED CARD OF 'doormanlaw08.PrintOps'. -/
def printOpsCard : Claim7 := { stood := { row := printOpsRow, standIns := [], harness := (true, "7b661440b5aae90047754a37ea86839fd8a03a7f002c3a4a48eefa1bf2659ddf"), looks := true }, kinds := [], alts := [], laidByText := true, laidKinds := [.widerDeep], laidTests := true, laidLooks := .later }
def PrintOpsCardSaid : Prop := Claim7.holds Tryd.pinned (.plain (OpenSpec.ofChange printOpsSpec)) printOpsCard

/-- THE SECOND FORM's CARD OF 'doormanlaw06.TokenTells'. -/
def tokenTellsUptoCard : Claim7 := { stood := { row := tokenTellsUptoRow, standIns := [], harness := (true, "7b661440b5aae90047754a37ea86839fd8a03a7f002c3a4a48eefa1bf2659ddf"), looks := true }, kinds := [], alts := [], laidByText := true, laidKinds := [.widerDeep], laidTests := true, laidLooks := .later }
def TokenTellsUptoCardSaid : Prop := Claim7.holds Tryd.pinned (.plain (OpenSpec.upto tokenTellsSpec)) tokenTellsUptoCard

/-- THE SECOND FORM's CARD OF 'doormanlaw06.TokenBlanks'. -/
def tokenBlanksUptoCard : Claim7 := { stood := { row := tokenBlanksUptoRow, standIns := [], harness := (true, "7b661440b5aae90047754a37ea86839fd8a03a7f002c3a4a48eefa1bf2659ddf"), looks := true }, kinds := [], alts := [], laidByText := true, laidKinds := [.widerDeep], laidTests := true, laidLooks := .later }
def TokenBlanksUptoCardSaid : Prop := Claim7.holds Tryd.pinned (.plain (OpenSpec.upto tokenBlanksSpec)) tokenBlanksUptoCard

/-- THE SECOND FORM's CARD OF 'doormanlaw06.TokenPlaces'. -/
def tokenPlacesUptoCard : Claim7 := { stood := { row := tokenPlacesUptoRow, standIns := [], harness := (true, "7b661440b5aae90047754a37ea86839fd8a03a7f002c3a4a48eefa1bf2659ddf"), looks := true }, kinds := [], alts := [], laidByText := true, laidKinds := [.widerDeep], laidTests := true, laidLooks := .later }
def TokenPlacesUptoCardSaid : Prop := Claim7.holds Tryd.pinned (.plain (OpenSpec.upto tokenPlacesSpec)) tokenPlacesUptoCard

/-- THE SECOND FORM's CARD OF 'doormanlaw06.TokenErrs'. -/
def tokenErrsUptoCard : Claim7 := { stood := { row := tokenErrsUptoRow, standIns := [], harness := (true, "7b661440b5aae90047754a37ea86839fd8a03a7f002c3a4a48eefa1bf2659ddf"), looks := true }, kinds := [], alts := [], laidByText := true, laidKinds := [.widerDeep], laidTests := true, laidLooks := .later }
def TokenErrsUptoCardSaid : Prop := Claim7.holds Tryd.pinned (.plain (OpenSpec.upto tokenErrsSpec)) tokenErrsUptoCard

/-- THE SECOND FORM's CARD OF 'doormanlaw06.TokenWords'. -/
def tokenWordsUptoCard : Claim7 := { stood := { row := tokenWordsUptoRow, standIns := [], harness := (true, "7b661440b5aae90047754a37ea86839fd8a03a7f002c3a4a48eefa1bf2659ddf"), looks := true }, kinds := [], alts := [], laidByText := true, laidKinds := [.widerDeep], laidTests := true, laidLooks := .later }
def TokenWordsUptoCardSaid : Prop := Claim7.holds Tryd.pinned (.plain (OpenSpec.upto tokenWordsSpec)) tokenWordsUptoCard

/-- THE SECOND FORM's CARD OF 'doormanlaw06.TokenNotes'. -/
def tokenNotesUptoCard : Claim7 := { stood := { row := tokenNotesUptoRow, standIns := [], harness := (true, "7b661440b5aae90047754a37ea86839fd8a03a7f002c3a4a48eefa1bf2659ddf"), looks := true }, kinds := [], alts := [], laidByText := true, laidKinds := [.widerDeep], laidTests := true, laidLooks := .later }
def TokenNotesUptoCardSaid : Prop := Claim7.holds Tryd.pinned (.plain (OpenSpec.upto tokenNotesSpec)) tokenNotesUptoCard

/-- THE SECOND FORM's CARD OF 'doormanlaw07.ParseTells'. -/
def parseTellsUptoCard : Claim7 := { stood := { row := parseTellsUptoRow, standIns := [], harness := (true, "7b661440b5aae90047754a37ea86839fd8a03a7f002c3a4a48eefa1bf2659ddf"), looks := true }, kinds := [], alts := [], laidByText := true, laidKinds := [.widerDeep], laidTests := true, laidLooks := .later }
def ParseTellsUptoCardSaid : Prop := Claim7.holds Tryd.pinned (.plain (OpenSpec.upto parseTellsSpec)) parseTellsUptoCard

/-- THE SECOND FORM's CARD OF 'doormanlaw07.ParseOps'. -/
def parseOpsUptoCard : Claim7 := { stood := { row := parseOpsUptoRow, standIns := [], harness := (true, "7b661440b5aae90047754a37ea86839fd8a03a7f002c3a4a48eefa1bf2659ddf"), looks := true }, kinds := [], alts := [], laidByText := true, laidKinds := [.widerDeep], laidTests := true, laidLooks := .later }
def ParseOpsUptoCardSaid : Prop := Claim7.holds Tryd.pinned (.plain (OpenSpec.upto parseOpsSpec)) parseOpsUptoCard

/-- THE SECOND FORM's CARD OF 'doormanlaw07.ParseDeep'. -/
def parseDeepUptoCard : Claim7 := { stood := { row := parseDeepUptoRow, standIns := [], harness := (true, "7b661440b5aae90047754a37ea86839fd8a03a7f002c3a4a48eefa1bf2659ddf"), looks := true }, kinds := [], alts := [], laidByText := true, laidKinds := [.widerDeep], laidTests := true, laidLooks := .later }
def ParseDeepUptoCardSaid : Prop := Claim7.holds Tryd.pinned (.plain (OpenSpec.upto parseDeepSpec)) parseDeepUptoCard

/-- THE SECOND FORM's CARD OF 'doormanlaw07.ParseTwo'. -/
def parseTwoUptoCard : Claim7 := { stood := { row := parseTwoUptoRow, standIns := [], harness := (true, "7b661440b5aae90047754a37ea86839fd8a03a7f002c3a4a48eefa1bf2659ddf"), looks := true }, kinds := [], alts := [], laidByText := true, laidKinds := [.widerDeep], laidTests := true, laidLooks := .later }
def ParseTwoUptoCardSaid : Prop := Claim7.holds Tryd.pinned (.plain (OpenSpec.upto parseTwoSpec)) parseTwoUptoCard

/-- THE SECOND FORM's CARD OF 'doormanlaw07.ParseNames'. -/
def parseNamesUptoCard : Claim7 := { stood := { row := parseNamesUptoRow, standIns := [], harness := (true, "7b661440b5aae90047754a37ea86839fd8a03a7f002c3a4a48eefa1bf2659ddf"), looks := true }, kinds := [], alts := [], laidByText := true, laidKinds := [.widerDeep], laidTests := true, laidLooks := .later }
def ParseNamesUptoCardSaid : Prop := Claim7.holds Tryd.pinned (.plain (OpenSpec.upto parseNamesSpec)) parseNamesUptoCard

/-- THE SECOND FORM's CARD OF 'doormanlaw07.ParseLeft'. -/
def parseLeftUptoCard : Claim7 := { stood := { row := parseLeftUptoRow, standIns := [], harness := (true, "7b661440b5aae90047754a37ea86839fd8a03a7f002c3a4a48eefa1bf2659ddf"), looks := true }, kinds := [], alts := [], laidByText := true, laidKinds := [.widerDeep], laidTests := true, laidLooks := .later }
def ParseLeftUptoCardSaid : Prop := Claim7.holds Tryd.pinned (.plain (OpenSpec.upto parseLeftSpec)) parseLeftUptoCard

/-- THE SECOND FORM's CARD OF 'doormanlaw09.CheckTells'. -/
def checkTellsUptoCard : Claim7 := { stood := { row := checkTellsUptoRow, standIns := [], harness := (true, "7b661440b5aae90047754a37ea86839fd8a03a7f002c3a4a48eefa1bf2659ddf"), looks := true }, kinds := [], alts := [], laidByText := true, laidKinds := [.widerDeep], laidTests := true, laidLooks := .later }
def CheckTellsUptoCardSaid : Prop := Claim7.holds Tryd.pinned (.plain (OpenSpec.upto checkTellsSpec)) checkTellsUptoCard

/-- THE SECOND FORM's CARD OF 'doormanlaw09.CheckPrefix'. -/
def checkPrefixUptoCard : Claim7 := { stood := { row := checkPrefixUptoRow, standIns := [], harness := (true, "7b661440b5aae90047754a37ea86839fd8a03a7f002c3a4a48eefa1bf2659ddf"), looks := true }, kinds := [], alts := [], laidByText := true, laidKinds := [.widerDeep], laidTests := true, laidLooks := .later }
def CheckPrefixUptoCardSaid : Prop := Claim7.holds Tryd.pinned (.plain (OpenSpec.upto checkPrefixSpec)) checkPrefixUptoCard

/-- THE SECOND FORM's CARD OF 'doormanlaw09.CheckTwice'. -/
def checkTwiceUptoCard : Claim7 := { stood := { row := checkTwiceUptoRow, standIns := [], harness := (true, "7b661440b5aae90047754a37ea86839fd8a03a7f002c3a4a48eefa1bf2659ddf"), looks := true }, kinds := [], alts := [], laidByText := true, laidKinds := [.widerDeep], laidTests := true, laidLooks := .later }
def CheckTwiceUptoCardSaid : Prop := Claim7.holds Tryd.pinned (.plain (OpenSpec.upto checkTwiceSpec)) checkTwiceUptoCard

/-- THE SECOND FORM's CARD OF 'doormanlaw09.CheckMore'. -/
def checkMoreUptoCard : Claim7 := { stood := { row := checkMoreUptoRow, standIns := [], harness := (true, "7b661440b5aae90047754a37ea86839fd8a03a7f002c3a4a48eefa1bf2659ddf"), looks := true }, kinds := [], alts := [], laidByText := true, laidKinds := [.widerDeep], laidTests := true, laidLooks := .later }
def CheckMoreUptoCardSaid : Prop := Claim7.holds Tryd.pinned (.plain (OpenSpec.upto checkMoreSpec)) checkMoreUptoCard

/-- THE SECOND FORM's CARD OF 'doormanlaw09.CheckFinds'. -/
def checkFindsUptoCard : Claim7 := { stood := { row := checkFindsUptoRow, standIns := [], harness := (true, "7b661440b5aae90047754a37ea86839fd8a03a7f002c3a4a48eefa1bf2659ddf"), looks := true }, kinds := [], alts := [], laidByText := true, laidKinds := [.widerDeep], laidTests := true, laidLooks := .later }
def CheckFindsUptoCardSaid : Prop := Claim7.holds Tryd.pinned (.plain (OpenSpec.upto checkFindsSpec)) checkFindsUptoCard

/-- THE SECOND FORM's CARD OF 'doormanlaw08.PrintShows'. -/
def printShowsUptoCard : Claim7 := { stood := { row := printShowsUptoRow, standIns := [], harness := (true, "7b661440b5aae90047754a37ea86839fd8a03a7f002c3a4a48eefa1bf2659ddf"), looks := true }, kinds := [], alts := [], laidByText := true, laidKinds := [.widerDeep], laidTests := true, laidLooks := .later }
def PrintShowsUptoCardSaid : Prop := Claim7.holds Tryd.pinned (.plain (OpenSpec.upto printShowsSpec)) printShowsUptoCard

/-- THE SECOND FORM's CARD OF 'doormanlaw08.PrintBack'. -/
def printBackUptoCard : Claim7 := { stood := { row := printBackUptoRow, standIns := [], harness := (true, "7b661440b5aae90047754a37ea86839fd8a03a7f002c3a4a48eefa1bf2659ddf"), looks := true }, kinds := [], alts := [], laidByText := true, laidKinds := [.widerDeep], laidTests := true, laidLooks := .later }
def PrintBackUptoCardSaid : Prop := Claim7.holds Tryd.pinned (.plain (OpenSpec.upto printBackSpec)) printBackUptoCard

/-- THE SECOND FORM's CARD OF 'doormanlaw08.PrintSigns'. -/
def printSignsUptoCard : Claim7 := { stood := { row := printSignsUptoRow, standIns := [], harness := (true, "7b661440b5aae90047754a37ea86839fd8a03a7f002c3a4a48eefa1bf2659ddf"), looks := true }, kinds := [], alts := [], laidByText := true, laidKinds := [.widerDeep], laidTests := true, laidLooks := .later }
def PrintSignsUptoCardSaid : Prop := Claim7.holds Tryd.pinned (.plain (OpenSpec.upto printSignsSpec)) printSignsUptoCard

/-- THE SECOND FORM's CARD OF 'doormanlaw08.PrintOps'. -/
def printOpsUptoCard : Claim7 := { stood := { row := printOpsUptoRow, standIns := [], harness := (true, "7b661440b5aae90047754a37ea86839fd8a03a7f002c3a4a48eefa1bf2659ddf"), looks := true }, kinds := [], alts := [], laidByText := true, laidKinds := [.widerDeep], laidTests := true, laidLooks := .later }
def PrintOpsUptoCardSaid : Prop := Claim7.holds Tryd.pinned (.plain (OpenSpec.upto printOpsSpec)) printOpsUptoCard
end Rows
end Go.Proofs.YtkgnhghaiopgcaaDoor
