/-
  DERIVED. GIVEN WITH THE SEED: THE CARDS: each row of YtniofdklhlbphaaDoorRows.lean that lists a variable, with what it lists TIED to the program's text (the seventh form; the later family's looks); each row that meets fmt, with fmt's text TOLD by the authors' own Lean function (tested against real Go, not proved from fmt's source: count such statements apart). THE CARD IS WHAT COUNTS. Prove the row's statement (the work); the ties are given (YtniofdklhlbphaaDoorTie.lean); close each card by the builder's one call (the guide's Derived/Test/ToyasCard.lean, 'card_holds'). Laid BY PROGRAM, IN A SANDBOX (cutbox-door.mjs). By AI agents, Wed Nov 11 2026. No macro, syntax, notation, axiom, sorry.
-/
import Derived.Test.YtniofdklhlbphaaDoorRows
import GoSem.ClaimSeven
namespace Go.Proofs.YtniofdklhlbphaaDoor
namespace Rows

/-- THE TIED CARD OF 'guipurelaw10.LexGreat'. -/
def lexGreatCard : Claim7 := { stood := { row := lexGreatRow, standIns := [], harness := (true, "32bf7f67ef01eda8f392bd668cd2935952e5ea50bc5b2d73a117f8158fd02d63"), looks := false }, kinds := [], alts := [], laidByText := true, laidKinds := [.listed, .data], laidTests := true, laidLooks := .later }
def LexGreatCardSaid : Prop := Claim7.holds Tryd.pinned (.plain (OpenSpec.ofChange lexGreatSpec)) lexGreatCard

/-- THE TIED CARD OF 'guipurelaw19.CodeChecks'. -/
def codeChecksCard : Claim7 := { stood := { row := codeChecksRow, standIns := [], harness := (true, "32bf7f67ef01eda8f392bd668cd2935952e5ea50bc5b2d73a117f8158fd02d63"), looks := false }, kinds := [], alts := [], laidByText := true, laidKinds := [.data, .data, .data, .data, .pinned], laidTests := true, laidLooks := .later }
def CodeChecksCardSaid : Prop := Claim7.holds Tryd.pinned (.plain (OpenSpec.ofChange codeChecksSpec)) codeChecksCard

/-- THE TIED CARD OF 'guipurelaw19.CodeReached'. -/
def codeReachedCard : Claim7 := { stood := { row := codeReachedRow, standIns := [], harness := (true, "32bf7f67ef01eda8f392bd668cd2935952e5ea50bc5b2d73a117f8158fd02d63"), looks := false }, kinds := [], alts := [], laidByText := true, laidKinds := [.data, .data, .data, .data, .pinned], laidTests := true, laidLooks := .later }
def CodeReachedCardSaid : Prop := Claim7.holds Tryd.pinned (.plain (OpenSpec.ofChange codeReachedSpec)) codeReachedCard

/-- THE TIED CARD OF 'guipurelaw19.CodeMakes'. -/
def codeMakesCard : Claim7 := { stood := { row := codeMakesRow, standIns := [], harness := (true, "32bf7f67ef01eda8f392bd668cd2935952e5ea50bc5b2d73a117f8158fd02d63"), looks := false }, kinds := [], alts := [], laidByText := true, laidKinds := [.data, .data, .data, .data, .pinned], laidTests := true, laidLooks := .later }
def CodeMakesCardSaid : Prop := Claim7.holds Tryd.pinned (.plain (OpenSpec.ofChange codeMakesSpec)) codeMakesCard

/-- THE TIED CARD OF 'guipurelaw06.RegexParses'. -/
def regexParsesCard : Claim7 := { stood := { row := regexParsesRow, standIns := [], harness := (true, "32bf7f67ef01eda8f392bd668cd2935952e5ea50bc5b2d73a117f8158fd02d63"), looks := false }, kinds := [], alts := [], laidByText := true, laidKinds := [.data], laidTests := true, laidLooks := .later }
def RegexParsesCardSaid : Prop := Claim7.holds Tryd.pinned (.plain (OpenSpec.ofChange regexParsesSpec)) regexParsesCard

/-- THE TIED CARD OF 'guipurelaw19.CodeAims'. -/
def codeAimsCard : Claim7 := { stood := { row := codeAimsRow, standIns := [], harness := (true, "32bf7f67ef01eda8f392bd668cd2935952e5ea50bc5b2d73a117f8158fd02d63"), looks := false }, kinds := [], alts := [], laidByText := true, laidKinds := [.data, .data, .data, .data, .pinned], laidTests := true, laidLooks := .later }
def CodeAimsCardSaid : Prop := Claim7.holds Tryd.pinned (.plain (OpenSpec.ofChange codeAimsSpec)) codeAimsCard

/-- THE SECOND FORM's CARD OF 'guipurelaw10.LexGreat'. -/
def lexGreatUptoCard : Claim7 := { stood := { row := lexGreatUptoRow, standIns := [], harness := (true, "32bf7f67ef01eda8f392bd668cd2935952e5ea50bc5b2d73a117f8158fd02d63"), looks := false }, kinds := [], alts := [], laidByText := true, laidKinds := [.listed, .data], laidTests := true, laidLooks := .later }
def LexGreatUptoCardSaid : Prop := Claim7.holds Tryd.pinned (.plain (OpenSpec.upto lexGreatSpec)) lexGreatUptoCard

/-- THE SECOND FORM's CARD OF 'guipurelaw19.CodeChecks'. -/
def codeChecksUptoCard : Claim7 := { stood := { row := codeChecksUptoRow, standIns := [], harness := (true, "32bf7f67ef01eda8f392bd668cd2935952e5ea50bc5b2d73a117f8158fd02d63"), looks := false }, kinds := [], alts := [], laidByText := true, laidKinds := [.data, .data, .data, .data, .pinned], laidTests := true, laidLooks := .later }
def CodeChecksUptoCardSaid : Prop := Claim7.holds Tryd.pinned (.plain (OpenSpec.upto codeChecksSpec)) codeChecksUptoCard

/-- THE SECOND FORM's CARD OF 'guipurelaw19.CodeReached'. -/
def codeReachedUptoCard : Claim7 := { stood := { row := codeReachedUptoRow, standIns := [], harness := (true, "32bf7f67ef01eda8f392bd668cd2935952e5ea50bc5b2d73a117f8158fd02d63"), looks := false }, kinds := [], alts := [], laidByText := true, laidKinds := [.data, .data, .data, .data, .pinned], laidTests := true, laidLooks := .later }
def CodeReachedUptoCardSaid : Prop := Claim7.holds Tryd.pinned (.plain (OpenSpec.upto codeReachedSpec)) codeReachedUptoCard

/-- THE SECOND FORM's CARD OF 'guipurelaw19.CodeMakes'. -/
def codeMakesUptoCard : Claim7 := { stood := { row := codeMakesUptoRow, standIns := [], harness := (true, "32bf7f67ef01eda8f392bd668cd2935952e5ea50bc5b2d73a117f8158fd02d63"), looks := false }, kinds := [], alts := [], laidByText := true, laidKinds := [.data, .data, .data, .data, .pinned], laidTests := true, laidLooks := .later }
def CodeMakesUptoCardSaid : Prop := Claim7.holds Tryd.pinned (.plain (OpenSpec.upto codeMakesSpec)) codeMakesUptoCard

/-- THE SECOND FORM's CARD OF 'guipurelaw06.RegexParses'. -/
def regexParsesUptoCard : Claim7 := { stood := { row := regexParsesUptoRow, standIns := [], harness := (true, "32bf7f67ef01eda8f392bd668cd2935952e5ea50bc5b2d73a117f8158fd02d63"), looks := false }, kinds := [], alts := [], laidByText := true, laidKinds := [.data], laidTests := true, laidLooks := .later }
def RegexParsesUptoCardSaid : Prop := Claim7.holds Tryd.pinned (.plain (OpenSpec.upto regexParsesSpec)) regexParsesUptoCard

/-- THE SECOND FORM's CARD OF 'guipurelaw19.CodeAims'. -/
def codeAimsUptoCard : Claim7 := { stood := { row := codeAimsUptoRow, standIns := [], harness := (true, "32bf7f67ef01eda8f392bd668cd2935952e5ea50bc5b2d73a117f8158fd02d63"), looks := false }, kinds := [], alts := [], laidByText := true, laidKinds := [.data, .data, .data, .data, .pinned], laidTests := true, laidLooks := .later }
def CodeAimsUptoCardSaid : Prop := Claim7.holds Tryd.pinned (.plain (OpenSpec.upto codeAimsSpec)) codeAimsUptoCard
end Rows
end Go.Proofs.YtniofdklhlbphaaDoor
