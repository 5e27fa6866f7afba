/-
  DERIVED. GIVEN WITH THE SEED: THE CARDS: each row of YtnapjcnfgdkmcaaGreatDoorRows.lean that lists a variable, with what it lists TIED to the program's text (the seventh form; the later family's looks); each row that meets fmt, with fmt's text TOLD by the authors' own Lean function (tested against real Go, not proved from fmt's source: count such statements apart). THE CARD IS WHAT COUNTS. Prove the row's statement (the work); the ties are given (YtnapjcnfgdkmcaaGreatDoorTie.lean); close each card by the builder's one call (the guide's Derived/Test/ToyasCard.lean, 'card_holds'). Laid BY PROGRAM, IN A SANDBOX (cutbox-door.mjs). By AI agents, Wed Nov 11 2026. No macro, syntax, notation, axiom, sorry.
-/
import Derived.Test.YtnapjcnfgdkmcaaGreatDoorRows
import GoSem.ClaimSeven
namespace Go.Proofs.YtnapjcnfgdkmcaaGreatDoor
namespace Rows

/-- THE TIED CARD OF 'guipurelaw13.ShowParts'. -/
def showPartsCard : Claim7 := { stood := { row := showPartsRow, standIns := [], harness := (true, "0682363ccfb96f13e490e70265e0537982333471c0cc93ed3e7633d6a082eae6"), looks := false }, kinds := [], alts := [], laidByText := true, laidKinds := [.data, .data, .data, .listed, .data], laidTests := true, laidLooks := .later }
def ShowPartsCardSaid : Prop := Claim7.holds Tryz.pinned (.plain (OpenSpec.ofChange showPartsSpec)) showPartsCard

/-- THE TIED CARD OF 'guipurelaw13.ShowWords'. -/
def showWordsCard : Claim7 := { stood := { row := showWordsRow, standIns := [], harness := (true, "0682363ccfb96f13e490e70265e0537982333471c0cc93ed3e7633d6a082eae6"), looks := false }, kinds := [], alts := [], laidByText := true, laidKinds := [.data, .data, .data, .listed, .data], laidTests := true, laidLooks := .later }
def ShowWordsCardSaid : Prop := Claim7.holds Tryz.pinned (.plain (OpenSpec.ofChange showWordsSpec)) showWordsCard

/-- THE TIED CARD OF 'guipurelaw13.ShowParses'. -/
def showParsesCard : Claim7 := { stood := { row := showParsesRow, standIns := [], harness := (true, "0682363ccfb96f13e490e70265e0537982333471c0cc93ed3e7633d6a082eae6"), looks := false }, kinds := [], alts := [], laidByText := true, laidKinds := [.data, .data, .data, .listed, .data], laidTests := true, laidLooks := .later }
def ShowParsesCardSaid : Prop := Claim7.holds Tryz.pinned (.plain (OpenSpec.ofChange showParsesSpec)) showParsesCard

/-- THE TIED CARD OF 'guipurelaw13.ShowBack'. -/
def showBackCard : Claim7 := { stood := { row := showBackRow, standIns := [], harness := (true, "0682363ccfb96f13e490e70265e0537982333471c0cc93ed3e7633d6a082eae6"), looks := false }, kinds := [], alts := [], laidByText := true, laidKinds := [.data, .data, .data, .listed, .data], laidTests := true, laidLooks := .later }
def ShowBackCardSaid : Prop := Claim7.holds Tryz.pinned (.plain (OpenSpec.ofChange showBackSpec)) showBackCard

/-- THE TIED CARD OF 'guipurelaw15.RegChecks'. -/
def regChecksCard : Claim7 := { stood := { row := regChecksRow, standIns := [], harness := (true, "0682363ccfb96f13e490e70265e0537982333471c0cc93ed3e7633d6a082eae6"), looks := false }, kinds := [], alts := [], laidByText := true, laidKinds := [.data, .data, .data, .listed, .data], laidTests := true, laidLooks := .later }
def RegChecksCardSaid : Prop := Claim7.holds Tryz.pinned (.plain (OpenSpec.ofChange regChecksSpec)) regChecksCard

/-- THE TIED CARD OF 'guipurelaw15.RegLinks'. -/
def regLinksCard : Claim7 := { stood := { row := regLinksRow, standIns := [], harness := (true, "0682363ccfb96f13e490e70265e0537982333471c0cc93ed3e7633d6a082eae6"), looks := false }, kinds := [], alts := [], laidByText := true, laidKinds := [.data, .data, .data, .listed, .data], laidTests := true, laidLooks := .later }
def RegLinksCardSaid : Prop := Claim7.holds Tryz.pinned (.plain (OpenSpec.ofChange regLinksSpec)) regLinksCard

/-- THE TIED CARD OF 'guipurelaw15.RegAsked'. -/
def regAskedCard : Claim7 := { stood := { row := regAskedRow, standIns := [], harness := (true, "0682363ccfb96f13e490e70265e0537982333471c0cc93ed3e7633d6a082eae6"), looks := false }, kinds := [], alts := [], laidByText := true, laidKinds := [.data, .data, .data, .listed, .data], laidTests := true, laidLooks := .later }
def RegAskedCardSaid : Prop := Claim7.holds Tryz.pinned (.plain (OpenSpec.ofChange regAskedSpec)) regAskedCard

/-- THE TIED CARD OF 'guipurelaw15.RegDerived'. -/
def regDerivedCard : Claim7 := { stood := { row := regDerivedRow, standIns := [], harness := (true, "0682363ccfb96f13e490e70265e0537982333471c0cc93ed3e7633d6a082eae6"), looks := false }, kinds := [], alts := [], laidByText := true, laidKinds := [.data, .data, .data, .listed, .data], laidTests := true, laidLooks := .later }
def RegDerivedCardSaid : Prop := Claim7.holds Tryz.pinned (.plain (OpenSpec.ofChange regDerivedSpec)) regDerivedCard

/-- THE SECOND FORM's CARD OF 'guipurelaw13.ShowParts'. -/
def showPartsUptoCard : Claim7 := { stood := { row := showPartsUptoRow, standIns := [], harness := (true, "0682363ccfb96f13e490e70265e0537982333471c0cc93ed3e7633d6a082eae6"), looks := false }, kinds := [], alts := [], laidByText := true, laidKinds := [.data, .data, .data, .listed, .data], laidTests := true, laidLooks := .later }
def ShowPartsUptoCardSaid : Prop := Claim7.holds Tryz.pinned (.plain (OpenSpec.upto showPartsSpec)) showPartsUptoCard

/-- THE SECOND FORM's CARD OF 'guipurelaw13.ShowWords'. -/
def showWordsUptoCard : Claim7 := { stood := { row := showWordsUptoRow, standIns := [], harness := (true, "0682363ccfb96f13e490e70265e0537982333471c0cc93ed3e7633d6a082eae6"), looks := false }, kinds := [], alts := [], laidByText := true, laidKinds := [.data, .data, .data, .listed, .data], laidTests := true, laidLooks := .later }
def ShowWordsUptoCardSaid : Prop := Claim7.holds Tryz.pinned (.plain (OpenSpec.upto showWordsSpec)) showWordsUptoCard

/-- THE SECOND FORM's CARD OF 'guipurelaw13.ShowParses'. -/
def showParsesUptoCard : Claim7 := { stood := { row := showParsesUptoRow, standIns := [], harness := (true, "0682363ccfb96f13e490e70265e0537982333471c0cc93ed3e7633d6a082eae6"), looks := false }, kinds := [], alts := [], laidByText := true, laidKinds := [.data, .data, .data, .listed, .data], laidTests := true, laidLooks := .later }
def ShowParsesUptoCardSaid : Prop := Claim7.holds Tryz.pinned (.plain (OpenSpec.upto showParsesSpec)) showParsesUptoCard

/-- THE SECOND FORM's CARD OF 'guipurelaw13.ShowBack'. -/
def showBackUptoCard : Claim7 := { stood := { row := showBackUptoRow, standIns := [], harness := (true, "0682363ccfb96f13e490e70265e0537982333471c0cc93ed3e7633d6a082eae6"), looks := false }, kinds := [], alts := [], laidByText := true, laidKinds := [.data, .data, .data, .listed, .data], laidTests := true, laidLooks := .later }
def ShowBackUptoCardSaid : Prop := Claim7.holds Tryz.pinned (.plain (OpenSpec.upto showBackSpec)) showBackUptoCard

/-- THE SECOND FORM's CARD OF 'guipurelaw15.RegChecks'. -/
def regChecksUptoCard : Claim7 := { stood := { row := regChecksUptoRow, standIns := [], harness := (true, "0682363ccfb96f13e490e70265e0537982333471c0cc93ed3e7633d6a082eae6"), looks := false }, kinds := [], alts := [], laidByText := true, laidKinds := [.data, .data, .data, .listed, .data], laidTests := true, laidLooks := .later }
def RegChecksUptoCardSaid : Prop := Claim7.holds Tryz.pinned (.plain (OpenSpec.upto regChecksSpec)) regChecksUptoCard

/-- THE SECOND FORM's CARD OF 'guipurelaw15.RegLinks'. -/
def regLinksUptoCard : Claim7 := { stood := { row := regLinksUptoRow, standIns := [], harness := (true, "0682363ccfb96f13e490e70265e0537982333471c0cc93ed3e7633d6a082eae6"), looks := false }, kinds := [], alts := [], laidByText := true, laidKinds := [.data, .data, .data, .listed, .data], laidTests := true, laidLooks := .later }
def RegLinksUptoCardSaid : Prop := Claim7.holds Tryz.pinned (.plain (OpenSpec.upto regLinksSpec)) regLinksUptoCard

/-- THE SECOND FORM's CARD OF 'guipurelaw15.RegAsked'. -/
def regAskedUptoCard : Claim7 := { stood := { row := regAskedUptoRow, standIns := [], harness := (true, "0682363ccfb96f13e490e70265e0537982333471c0cc93ed3e7633d6a082eae6"), looks := false }, kinds := [], alts := [], laidByText := true, laidKinds := [.data, .data, .data, .listed, .data], laidTests := true, laidLooks := .later }
def RegAskedUptoCardSaid : Prop := Claim7.holds Tryz.pinned (.plain (OpenSpec.upto regAskedSpec)) regAskedUptoCard

/-- THE SECOND FORM's CARD OF 'guipurelaw15.RegDerived'. -/
def regDerivedUptoCard : Claim7 := { stood := { row := regDerivedUptoRow, standIns := [], harness := (true, "0682363ccfb96f13e490e70265e0537982333471c0cc93ed3e7633d6a082eae6"), looks := false }, kinds := [], alts := [], laidByText := true, laidKinds := [.data, .data, .data, .listed, .data], laidTests := true, laidLooks := .later }
def RegDerivedUptoCardSaid : Prop := Claim7.holds Tryz.pinned (.plain (OpenSpec.upto regDerivedSpec)) regDerivedUptoCard
end Rows
end Go.Proofs.YtnapjcnfgdkmcaaGreatDoor
