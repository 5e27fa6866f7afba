/-
  DERIVED. GIVEN WITH THE SEED: THE CARDS: each row of YtkmblecapclkmaaDoorRows.lean that lists a variable, with what it lists TIED to the program's text (the seventh form; the later family's looks); each row that meets fmt, with fmt's text TOLD by the authors' own Lean function (tested against real Go, not proved from fmt's source: count such statements apart). THE CARD IS WHAT COUNTS. Prove the row's statement (the work); the ties are given (YtkmblecapclkmaaDoorTie.lean); close each card by the builder's one call (the guide's Derived/Test/ToyasCard.lean, 'card_holds'). Laid BY PROGRAM, IN A SANDBOX (cutbox-door.mjs). By AI agents, Wed Nov 11 2026. No macro, syntax, notation, axiom, sorry.
-/
import Derived.Test.YtkmblecapclkmaaDoorRows
import GoSem.ClaimSeven
namespace Go.Proofs.YtkmblecapclkmaaDoor
namespace Rows

/-- THE TIED CARD OF 'guipurelaw19.CodeReached'. -/
def codeReachedCard : Claim7 := { stood := { row := codeReachedRow, standIns := [], harness := (true, "a3538f693b94fafac35412e88d8545074660beefc08141ac9ddd157de59a3a50"), looks := false }, kinds := [], alts := [], laidByText := true, laidKinds := [.data, .data, .data, .data, .pinned], laidTests := true, laidLooks := .later }
def CodeReachedCardSaid : Prop := Claim7.holds Tryd.pinned (.plain (OpenSpec.ofChange codeReachedSpec)) codeReachedCard

/-- THE TIED CARD OF 'guipurelaw19.CodeMakes'. -/
def codeMakesCard : Claim7 := { stood := { row := codeMakesRow, standIns := [], harness := (true, "a3538f693b94fafac35412e88d8545074660beefc08141ac9ddd157de59a3a50"), looks := false }, kinds := [], alts := [], laidByText := true, laidKinds := [.data, .data, .data, .data, .pinned], laidTests := true, laidLooks := .later }
def CodeMakesCardSaid : Prop := Claim7.holds Tryd.pinned (.plain (OpenSpec.ofChange codeMakesSpec)) codeMakesCard

/-- THE TIED CARD OF 'guipurelaw06.RegexChecks'. -/
def regexChecksCard : Claim7 := { stood := { row := regexChecksRow, standIns := [], harness := (true, "a3538f693b94fafac35412e88d8545074660beefc08141ac9ddd157de59a3a50"), looks := false }, kinds := [], alts := [], laidByText := true, laidKinds := [.data], laidTests := true, laidLooks := .later }
def RegexChecksCardSaid : Prop := Claim7.holds Tryd.pinned (.plain (OpenSpec.ofChange regexChecksSpec)) regexChecksCard

/-- THE TIED CARD OF 'guipuretop.WholeClasses'. -/
def wholeClassesCard : Claim7 := { stood := { row := wholeClassesRow, standIns := [], harness := (true, "a3538f693b94fafac35412e88d8545074660beefc08141ac9ddd157de59a3a50"), looks := false }, kinds := [], alts := [], laidByText := true, laidKinds := [.data], laidTests := true, laidLooks := .later }
def WholeClassesCardSaid : Prop := Claim7.holds Tryd.pinned (.plain (OpenSpec.ofChange wholeClassesSpec)) wholeClassesCard

/-- THE TIED CARD OF 'guipurelaw06.RegexBack'. -/
def regexBackCard : Claim7 := { stood := { row := regexBackRow, standIns := [], harness := (true, "a3538f693b94fafac35412e88d8545074660beefc08141ac9ddd157de59a3a50"), looks := false }, kinds := [], alts := [], laidByText := true, laidKinds := [.data], laidTests := true, laidLooks := .later }
def RegexBackCardSaid : Prop := Claim7.holds Tryd.pinned (.plain (OpenSpec.ofChange regexBackSpec)) regexBackCard

/-- THE TIED CARD OF 'guipurelaw06.RegexParses'. -/
def regexParsesCard : Claim7 := { stood := { row := regexParsesRow, standIns := [], harness := (true, "a3538f693b94fafac35412e88d8545074660beefc08141ac9ddd157de59a3a50"), looks := false }, kinds := [], alts := [], laidByText := true, laidKinds := [.data], laidTests := true, laidLooks := .later }
def RegexParsesCardSaid : Prop := Claim7.holds Tryd.pinned (.plain (OpenSpec.ofChange regexParsesSpec)) regexParsesCard

/-- THE TIED CARD OF 'guipurelaw06.RegexJoins'. -/
def regexJoinsCard : Claim7 := { stood := { row := regexJoinsRow, standIns := [], harness := (true, "a3538f693b94fafac35412e88d8545074660beefc08141ac9ddd157de59a3a50"), looks := false }, kinds := [], alts := [], laidByText := true, laidKinds := [.data], laidTests := true, laidLooks := .later }
def RegexJoinsCardSaid : Prop := Claim7.holds Tryd.pinned (.plain (OpenSpec.ofChange regexJoinsSpec)) regexJoinsCard

/-- THE TIED CARD OF 'guipurelaw06.RegexBytes'. -/
def regexBytesCard : Claim7 := { stood := { row := regexBytesRow, standIns := [], harness := (true, "a3538f693b94fafac35412e88d8545074660beefc08141ac9ddd157de59a3a50"), looks := false }, kinds := [], alts := [], laidByText := true, laidKinds := [.data], laidTests := true, laidLooks := .later }
def RegexBytesCardSaid : Prop := Claim7.holds Tryd.pinned (.plain (OpenSpec.ofChange regexBytesSpec)) regexBytesCard

/-- THE TIED CARD OF 'guipurelaw19.CodeAims'. -/
def codeAimsCard : Claim7 := { stood := { row := codeAimsRow, standIns := [], harness := (true, "a3538f693b94fafac35412e88d8545074660beefc08141ac9ddd157de59a3a50"), looks := false }, kinds := [], alts := [], laidByText := true, laidKinds := [.data, .data, .data, .data, .pinned], laidTests := true, laidLooks := .later }
def CodeAimsCardSaid : Prop := Claim7.holds Tryd.pinned (.plain (OpenSpec.ofChange codeAimsSpec)) codeAimsCard

/-- THE SECOND FORM's CARD OF 'guipurelaw19.CodeReached'. -/
def codeReachedUptoCard : Claim7 := { stood := { row := codeReachedUptoRow, standIns := [], harness := (true, "a3538f693b94fafac35412e88d8545074660beefc08141ac9ddd157de59a3a50"), looks := false }, kinds := [], alts := [], laidByText := true, laidKinds := [.data, .data, .data, .data, .pinned], laidTests := true, laidLooks := .later }
def CodeReachedUptoCardSaid : Prop := Claim7.holds Tryd.pinned (.plain (OpenSpec.upto codeReachedSpec)) codeReachedUptoCard

/-- THE SECOND FORM's CARD OF 'guipurelaw19.CodeMakes'. -/
def codeMakesUptoCard : Claim7 := { stood := { row := codeMakesUptoRow, standIns := [], harness := (true, "a3538f693b94fafac35412e88d8545074660beefc08141ac9ddd157de59a3a50"), looks := false }, kinds := [], alts := [], laidByText := true, laidKinds := [.data, .data, .data, .data, .pinned], laidTests := true, laidLooks := .later }
def CodeMakesUptoCardSaid : Prop := Claim7.holds Tryd.pinned (.plain (OpenSpec.upto codeMakesSpec)) codeMakesUptoCard

/-- THE SECOND FORM's CARD OF 'guipurelaw06.RegexChecks'. -/
def regexChecksUptoCard : Claim7 := { stood := { row := regexChecksUptoRow, standIns := [], harness := (true, "a3538f693b94fafac35412e88d8545074660beefc08141ac9ddd157de59a3a50"), looks := false }, kinds := [], alts := [], laidByText := true, laidKinds := [.data], laidTests := true, laidLooks := .later }
def RegexChecksUptoCardSaid : Prop := Claim7.holds Tryd.pinned (.plain (OpenSpec.upto regexChecksSpec)) regexChecksUptoCard

/-- THE SECOND FORM's CARD OF 'guipuretop.WholeClasses'. -/
def wholeClassesUptoCard : Claim7 := { stood := { row := wholeClassesUptoRow, standIns := [], harness := (true, "a3538f693b94fafac35412e88d8545074660beefc08141ac9ddd157de59a3a50"), looks := false }, kinds := [], alts := [], laidByText := true, laidKinds := [.data], laidTests := true, laidLooks := .later }
def WholeClassesUptoCardSaid : Prop := Claim7.holds Tryd.pinned (.plain (OpenSpec.upto wholeClassesSpec)) wholeClassesUptoCard

/-- THE SECOND FORM's CARD OF 'guipurelaw06.RegexBack'. -/
def regexBackUptoCard : Claim7 := { stood := { row := regexBackUptoRow, standIns := [], harness := (true, "a3538f693b94fafac35412e88d8545074660beefc08141ac9ddd157de59a3a50"), looks := false }, kinds := [], alts := [], laidByText := true, laidKinds := [.data], laidTests := true, laidLooks := .later }
def RegexBackUptoCardSaid : Prop := Claim7.holds Tryd.pinned (.plain (OpenSpec.upto regexBackSpec)) regexBackUptoCard

/-- THE SECOND FORM's CARD OF 'guipurelaw06.RegexParses'. -/
def regexParsesUptoCard : Claim7 := { stood := { row := regexParsesUptoRow, standIns := [], harness := (true, "a3538f693b94fafac35412e88d8545074660beefc08141ac9ddd157de59a3a50"), looks := false }, kinds := [], alts := [], laidByText := true, laidKinds := [.data], laidTests := true, laidLooks := .later }
def RegexParsesUptoCardSaid : Prop := Claim7.holds Tryd.pinned (.plain (OpenSpec.upto regexParsesSpec)) regexParsesUptoCard

/-- THE SECOND FORM's CARD OF 'guipurelaw06.RegexJoins'. -/
def regexJoinsUptoCard : Claim7 := { stood := { row := regexJoinsUptoRow, standIns := [], harness := (true, "a3538f693b94fafac35412e88d8545074660beefc08141ac9ddd157de59a3a50"), looks := false }, kinds := [], alts := [], laidByText := true, laidKinds := [.data], laidTests := true, laidLooks := .later }
def RegexJoinsUptoCardSaid : Prop := Claim7.holds Tryd.pinned (.plain (OpenSpec.upto regexJoinsSpec)) regexJoinsUptoCard

/-- THE SECOND FORM's CARD OF 'guipurelaw06.RegexBytes'. -/
def regexBytesUptoCard : Claim7 := { stood := { row := regexBytesUptoRow, standIns := [], harness := (true, "a3538f693b94fafac35412e88d8545074660beefc08141ac9ddd157de59a3a50"), looks := false }, kinds := [], alts := [], laidByText := true, laidKinds := [.data], laidTests := true, laidLooks := .later }
def RegexBytesUptoCardSaid : Prop := Claim7.holds Tryd.pinned (.plain (OpenSpec.upto regexBytesSpec)) regexBytesUptoCard

/-- THE SECOND FORM's CARD OF 'guipurelaw19.CodeAims'. -/
def codeAimsUptoCard : Claim7 := { stood := { row := codeAimsUptoRow, standIns := [], harness := (true, "a3538f693b94fafac35412e88d8545074660beefc08141ac9ddd157de59a3a50"), looks := false }, kinds := [], alts := [], laidByText := true, laidKinds := [.data, .data, .data, .data, .pinned], laidTests := true, laidLooks := .later }
def CodeAimsUptoCardSaid : Prop := Claim7.holds Tryd.pinned (.plain (OpenSpec.upto codeAimsSpec)) codeAimsUptoCard
end Rows
end Go.Proofs.YtkmblecapclkmaaDoor
