/-
  DERIVED. GIVEN WITH THE SEED: THE CARDS: each row of YtocliedpgdfkoaaDoorRows.lean that lists a variable, with what it lists TIED to the program's text (the seventh form; the later family's looks); each row that meets fmt, with fmt's text TOLD by the authors' own Lean function (tested against real Go, not proved from fmt's source: count such statements apart). THE CARD IS WHAT COUNTS. Prove the row's statement (the work); the ties are given (YtocliedpgdfkoaaDoorTie.lean); close each card by the builder's one call (the guide's Derived/Test/ToyasCard.lean, 'card_holds'). Laid BY PROGRAM, IN A SANDBOX (cutbox-door.mjs). By AI agents, Wed Nov 11 2026. No macro, syntax, notation, axiom, sorry.
-/
import Derived.Test.YtocliedpgdfkoaaDoorRows
import GoSem.ClaimSeven
namespace Go.Proofs.YtocliedpgdfkoaaDoor
namespace Rows

/-- THE TIED CARD OF 'guipurelaw05.ClassSets'. -/
def classSetsCard : Claim7 := { stood := { row := classSetsRow, standIns := [], harness := (true, "5d1a086b0aaf1d542e2d37b3bdd065570b3e91d2bffd550a2cf2c047995ef0db"), looks := false }, kinds := [], alts := [], laidByText := true, laidKinds := [.data], laidTests := true, laidLooks := .later }
def ClassSetsCardSaid : Prop := Claim7.holds Tryd.pinned (.plain (OpenSpec.ofChange classSetsSpec)) classSetsCard

/-- THE TIED CARD OF 'guipurelaw05.ClassSplits'. -/
def classSplitsCard : Claim7 := { stood := { row := classSplitsRow, standIns := [], harness := (true, "5d1a086b0aaf1d542e2d37b3bdd065570b3e91d2bffd550a2cf2c047995ef0db"), looks := false }, kinds := [], alts := [], laidByText := true, laidKinds := [.data], laidTests := true, laidLooks := .later }
def ClassSplitsCardSaid : Prop := Claim7.holds Tryd.pinned (.plain (OpenSpec.ofChange classSplitsSpec)) classSplitsCard

/-- THE TIED CARD OF 'guipurelaw05.ClassTexts'. -/
def classTextsCard : Claim7 := { stood := { row := classTextsRow, standIns := [], harness := (true, "5d1a086b0aaf1d542e2d37b3bdd065570b3e91d2bffd550a2cf2c047995ef0db"), looks := false }, kinds := [], alts := [], laidByText := true, laidKinds := [.data], laidTests := true, laidLooks := .later }
def ClassTextsCardSaid : Prop := Claim7.holds Tryd.pinned (.plain (OpenSpec.ofChange classTextsSpec)) classTextsCard

/-- THE TIED CARD OF 'guipurelaw05.ClassLists'. -/
def classListsCard : Claim7 := { stood := { row := classListsRow, standIns := [], harness := (true, "5d1a086b0aaf1d542e2d37b3bdd065570b3e91d2bffd550a2cf2c047995ef0db"), looks := false }, kinds := [], alts := [], laidByText := true, laidKinds := [.data], laidTests := true, laidLooks := .later }
def ClassListsCardSaid : Prop := Claim7.holds Tryd.pinned (.plain (OpenSpec.ofChange classListsSpec)) classListsCard

/-- THE TIED CARD OF 'guipurelaw05.ClassLaws'. -/
def classLawsCard : Claim7 := { stood := { row := classLawsRow, standIns := [], harness := (true, "5d1a086b0aaf1d542e2d37b3bdd065570b3e91d2bffd550a2cf2c047995ef0db"), looks := false }, kinds := [], alts := [], laidByText := true, laidKinds := [.data], laidTests := true, laidLooks := .later }
def ClassLawsCardSaid : Prop := Claim7.holds Tryd.pinned (.plain (OpenSpec.ofChange classLawsSpec)) classLawsCard

/-- THE TIED CARD OF 'guipurelaw10.LexScans'. -/
def lexScansCard : Claim7 := { stood := { row := lexScansRow, standIns := [], harness := (true, "5d1a086b0aaf1d542e2d37b3bdd065570b3e91d2bffd550a2cf2c047995ef0db"), looks := false }, kinds := [], alts := [], laidByText := true, laidKinds := [.listed, .data], laidTests := true, laidLooks := .later }
def LexScansCardSaid : Prop := Claim7.holds Tryd.pinned (.plain (OpenSpec.ofChange lexScansSpec)) lexScansCard

/-- THE TIED CARD OF 'guipurelaw10.LexWhole'. -/
def lexWholeCard : Claim7 := { stood := { row := lexWholeRow, standIns := [], harness := (true, "5d1a086b0aaf1d542e2d37b3bdd065570b3e91d2bffd550a2cf2c047995ef0db"), looks := false }, kinds := [], alts := [], laidByText := true, laidKinds := [.listed, .data], laidTests := true, laidLooks := .later }
def LexWholeCardSaid : Prop := Claim7.holds Tryd.pinned (.plain (OpenSpec.ofChange lexWholeSpec)) lexWholeCard

/-- THE TIED CARD OF 'guipurelaw10.LexBack'. -/
def lexBackCard : Claim7 := { stood := { row := lexBackRow, standIns := [], harness := (true, "5d1a086b0aaf1d542e2d37b3bdd065570b3e91d2bffd550a2cf2c047995ef0db"), looks := false }, kinds := [], alts := [], laidByText := true, laidKinds := [.listed, .data], laidTests := true, laidLooks := .later }
def LexBackCardSaid : Prop := Claim7.holds Tryd.pinned (.plain (OpenSpec.ofChange lexBackSpec)) lexBackCard

/-- THE TIED CARD OF 'guipurelaw10.LexPairs'. -/
def lexPairsCard : Claim7 := { stood := { row := lexPairsRow, standIns := [], harness := (true, "5d1a086b0aaf1d542e2d37b3bdd065570b3e91d2bffd550a2cf2c047995ef0db"), looks := false }, kinds := [], alts := [], laidByText := true, laidKinds := [.listed, .data], laidTests := true, laidLooks := .later }
def LexPairsCardSaid : Prop := Claim7.holds Tryd.pinned (.plain (OpenSpec.ofChange lexPairsSpec)) lexPairsCard

/-- THE TIED CARD OF 'guipurelaw10.LexGreat'. -/
def lexGreatCard : Claim7 := { stood := { row := lexGreatRow, standIns := [], harness := (true, "5d1a086b0aaf1d542e2d37b3bdd065570b3e91d2bffd550a2cf2c047995ef0db"), looks := false }, kinds := [], alts := [], laidByText := true, laidKinds := [.listed, .data], laidTests := true, laidLooks := .later }
def LexGreatCardSaid : Prop := Claim7.holds Tryd.pinned (.plain (OpenSpec.ofChange lexGreatSpec)) lexGreatCard

/-- THE SECOND FORM's CARD OF 'guipurelaw05.ClassSets'. -/
def classSetsUptoCard : Claim7 := { stood := { row := classSetsUptoRow, standIns := [], harness := (true, "5d1a086b0aaf1d542e2d37b3bdd065570b3e91d2bffd550a2cf2c047995ef0db"), looks := false }, kinds := [], alts := [], laidByText := true, laidKinds := [.data], laidTests := true, laidLooks := .later }
def ClassSetsUptoCardSaid : Prop := Claim7.holds Tryd.pinned (.plain (OpenSpec.upto classSetsSpec)) classSetsUptoCard

/-- THE SECOND FORM's CARD OF 'guipurelaw05.ClassSplits'. -/
def classSplitsUptoCard : Claim7 := { stood := { row := classSplitsUptoRow, standIns := [], harness := (true, "5d1a086b0aaf1d542e2d37b3bdd065570b3e91d2bffd550a2cf2c047995ef0db"), looks := false }, kinds := [], alts := [], laidByText := true, laidKinds := [.data], laidTests := true, laidLooks := .later }
def ClassSplitsUptoCardSaid : Prop := Claim7.holds Tryd.pinned (.plain (OpenSpec.upto classSplitsSpec)) classSplitsUptoCard

/-- THE SECOND FORM's CARD OF 'guipurelaw05.ClassTexts'. -/
def classTextsUptoCard : Claim7 := { stood := { row := classTextsUptoRow, standIns := [], harness := (true, "5d1a086b0aaf1d542e2d37b3bdd065570b3e91d2bffd550a2cf2c047995ef0db"), looks := false }, kinds := [], alts := [], laidByText := true, laidKinds := [.data], laidTests := true, laidLooks := .later }
def ClassTextsUptoCardSaid : Prop := Claim7.holds Tryd.pinned (.plain (OpenSpec.upto classTextsSpec)) classTextsUptoCard

/-- THE SECOND FORM's CARD OF 'guipurelaw05.ClassLists'. -/
def classListsUptoCard : Claim7 := { stood := { row := classListsUptoRow, standIns := [], harness := (true, "5d1a086b0aaf1d542e2d37b3bdd065570b3e91d2bffd550a2cf2c047995ef0db"), looks := false }, kinds := [], alts := [], laidByText := true, laidKinds := [.data], laidTests := true, laidLooks := .later }
def ClassListsUptoCardSaid : Prop := Claim7.holds Tryd.pinned (.plain (OpenSpec.upto classListsSpec)) classListsUptoCard

/-- THE SECOND FORM's CARD OF 'guipurelaw05.ClassLaws'. -/
def classLawsUptoCard : Claim7 := { stood := { row := classLawsUptoRow, standIns := [], harness := (true, "5d1a086b0aaf1d542e2d37b3bdd065570b3e91d2bffd550a2cf2c047995ef0db"), looks := false }, kinds := [], alts := [], laidByText := true, laidKinds := [.data], laidTests := true, laidLooks := .later }
def ClassLawsUptoCardSaid : Prop := Claim7.holds Tryd.pinned (.plain (OpenSpec.upto classLawsSpec)) classLawsUptoCard

/-- THE SECOND FORM's CARD OF 'guipurelaw10.LexScans'. -/
def lexScansUptoCard : Claim7 := { stood := { row := lexScansUptoRow, standIns := [], harness := (true, "5d1a086b0aaf1d542e2d37b3bdd065570b3e91d2bffd550a2cf2c047995ef0db"), looks := false }, kinds := [], alts := [], laidByText := true, laidKinds := [.listed, .data], laidTests := true, laidLooks := .later }
def LexScansUptoCardSaid : Prop := Claim7.holds Tryd.pinned (.plain (OpenSpec.upto lexScansSpec)) lexScansUptoCard

/-- THE SECOND FORM's CARD OF 'guipurelaw10.LexWhole'. -/
def lexWholeUptoCard : Claim7 := { stood := { row := lexWholeUptoRow, standIns := [], harness := (true, "5d1a086b0aaf1d542e2d37b3bdd065570b3e91d2bffd550a2cf2c047995ef0db"), looks := false }, kinds := [], alts := [], laidByText := true, laidKinds := [.listed, .data], laidTests := true, laidLooks := .later }
def LexWholeUptoCardSaid : Prop := Claim7.holds Tryd.pinned (.plain (OpenSpec.upto lexWholeSpec)) lexWholeUptoCard

/-- THE SECOND FORM's CARD OF 'guipurelaw10.LexBack'. -/
def lexBackUptoCard : Claim7 := { stood := { row := lexBackUptoRow, standIns := [], harness := (true, "5d1a086b0aaf1d542e2d37b3bdd065570b3e91d2bffd550a2cf2c047995ef0db"), looks := false }, kinds := [], alts := [], laidByText := true, laidKinds := [.listed, .data], laidTests := true, laidLooks := .later }
def LexBackUptoCardSaid : Prop := Claim7.holds Tryd.pinned (.plain (OpenSpec.upto lexBackSpec)) lexBackUptoCard

/-- THE SECOND FORM's CARD OF 'guipurelaw10.LexPairs'. -/
def lexPairsUptoCard : Claim7 := { stood := { row := lexPairsUptoRow, standIns := [], harness := (true, "5d1a086b0aaf1d542e2d37b3bdd065570b3e91d2bffd550a2cf2c047995ef0db"), looks := false }, kinds := [], alts := [], laidByText := true, laidKinds := [.listed, .data], laidTests := true, laidLooks := .later }
def LexPairsUptoCardSaid : Prop := Claim7.holds Tryd.pinned (.plain (OpenSpec.upto lexPairsSpec)) lexPairsUptoCard

/-- THE SECOND FORM's CARD OF 'guipurelaw10.LexGreat'. -/
def lexGreatUptoCard : Claim7 := { stood := { row := lexGreatUptoRow, standIns := [], harness := (true, "5d1a086b0aaf1d542e2d37b3bdd065570b3e91d2bffd550a2cf2c047995ef0db"), looks := false }, kinds := [], alts := [], laidByText := true, laidKinds := [.listed, .data], laidTests := true, laidLooks := .later }
def LexGreatUptoCardSaid : Prop := Claim7.holds Tryd.pinned (.plain (OpenSpec.upto lexGreatSpec)) lexGreatUptoCard
end Rows
end Go.Proofs.YtocliedpgdfkoaaDoor
