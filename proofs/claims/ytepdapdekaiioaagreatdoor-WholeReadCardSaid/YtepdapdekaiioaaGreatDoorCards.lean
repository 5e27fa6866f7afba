/-
  DERIVED. GIVEN WITH THE SEED: THE CARDS: each row of YtepdapdekaiioaaGreatDoorRows.lean that lists a variable, with what it lists TIED to the program's text (the seventh form; the later family's looks); each row that meets fmt, with fmt's text TOLD by the authors' own Lean function (tested against real Go, not proved from fmt's source: count such statements apart). THE CARD IS WHAT COUNTS. Prove the row's statement (the work); the ties are given (YtepdapdekaiioaaGreatDoorTie.lean); close each card by the builder's one call (the guide's Derived/Test/ToyasCard.lean, 'card_holds'). Laid BY PROGRAM, IN A SANDBOX (cutbox-door.mjs). By AI agents, Wed Nov 11 2026. No macro, syntax, notation, axiom, sorry.
-/
import Derived.Test.YtepdapdekaiioaaGreatDoorRows
import GoSem.ClaimSeven
namespace Go.Proofs.YtepdapdekaiioaaGreatDoor
namespace Rows

/-- THE TIED CARD OF 'guipurelaw12.ParseReads'. -/
def parseReadsCard : Claim7 := { stood := { row := parseReadsRow, standIns := [], harness := (true, "58da0140facdfdb649f19c122aba4c2332b7b7d702fa228e2bd82bba298ffead"), looks := false }, kinds := [], alts := [], laidByText := true, laidKinds := [.data, .data, .data, .listed, .data], laidTests := true, laidLooks := .later }
def ParseReadsCardSaid : Prop := Claim7.holds Tryz.pinned (.plain (OpenSpec.ofChange parseReadsSpec)) parseReadsCard

/-- THE TIED CARD OF 'guipurelaw12.ParseJoins'. -/
def parseJoinsCard : Claim7 := { stood := { row := parseJoinsRow, standIns := [], harness := (true, "58da0140facdfdb649f19c122aba4c2332b7b7d702fa228e2bd82bba298ffead"), looks := false }, kinds := [], alts := [], laidByText := true, laidKinds := [.data, .data, .data, .listed, .data], laidTests := true, laidLooks := .later }
def ParseJoinsCardSaid : Prop := Claim7.holds Tryz.pinned (.plain (OpenSpec.ofChange parseJoinsSpec)) parseJoinsCard

/-- THE TIED CARD OF 'guipurelaw12.ParseTokens'. -/
def parseTokensCard : Claim7 := { stood := { row := parseTokensRow, standIns := [], harness := (true, "58da0140facdfdb649f19c122aba4c2332b7b7d702fa228e2bd82bba298ffead"), looks := false }, kinds := [], alts := [], laidByText := true, laidKinds := [.data, .data, .data, .listed, .data], laidTests := true, laidLooks := .later }
def ParseTokensCardSaid : Prop := Claim7.holds Tryz.pinned (.plain (OpenSpec.ofChange parseTokensSpec)) parseTokensCard

/-- THE TIED CARD OF 'guipuretop.WholeRead'. -/
def wholeReadCard : Claim7 := { stood := { row := wholeReadRow, standIns := [], harness := (true, "58da0140facdfdb649f19c122aba4c2332b7b7d702fa228e2bd82bba298ffead"), looks := false }, kinds := [], alts := [], laidByText := true, laidKinds := [.data, .data, .data, .listed, .data], laidTests := true, laidLooks := .later }
def WholeReadCardSaid : Prop := Claim7.holds Tryz.pinned (.plain (OpenSpec.ofChange wholeReadSpec)) wholeReadCard

/-- THE SECOND FORM's CARD OF 'guipurelaw12.ParseReads'. -/
def parseReadsUptoCard : Claim7 := { stood := { row := parseReadsUptoRow, standIns := [], harness := (true, "58da0140facdfdb649f19c122aba4c2332b7b7d702fa228e2bd82bba298ffead"), looks := false }, kinds := [], alts := [], laidByText := true, laidKinds := [.data, .data, .data, .listed, .data], laidTests := true, laidLooks := .later }
def ParseReadsUptoCardSaid : Prop := Claim7.holds Tryz.pinned (.plain (OpenSpec.upto parseReadsSpec)) parseReadsUptoCard

/-- THE SECOND FORM's CARD OF 'guipurelaw12.ParseJoins'. -/
def parseJoinsUptoCard : Claim7 := { stood := { row := parseJoinsUptoRow, standIns := [], harness := (true, "58da0140facdfdb649f19c122aba4c2332b7b7d702fa228e2bd82bba298ffead"), looks := false }, kinds := [], alts := [], laidByText := true, laidKinds := [.data, .data, .data, .listed, .data], laidTests := true, laidLooks := .later }
def ParseJoinsUptoCardSaid : Prop := Claim7.holds Tryz.pinned (.plain (OpenSpec.upto parseJoinsSpec)) parseJoinsUptoCard

/-- THE SECOND FORM's CARD OF 'guipurelaw12.ParseTokens'. -/
def parseTokensUptoCard : Claim7 := { stood := { row := parseTokensUptoRow, standIns := [], harness := (true, "58da0140facdfdb649f19c122aba4c2332b7b7d702fa228e2bd82bba298ffead"), looks := false }, kinds := [], alts := [], laidByText := true, laidKinds := [.data, .data, .data, .listed, .data], laidTests := true, laidLooks := .later }
def ParseTokensUptoCardSaid : Prop := Claim7.holds Tryz.pinned (.plain (OpenSpec.upto parseTokensSpec)) parseTokensUptoCard

/-- THE SECOND FORM's CARD OF 'guipuretop.WholeRead'. -/
def wholeReadUptoCard : Claim7 := { stood := { row := wholeReadUptoRow, standIns := [], harness := (true, "58da0140facdfdb649f19c122aba4c2332b7b7d702fa228e2bd82bba298ffead"), looks := false }, kinds := [], alts := [], laidByText := true, laidKinds := [.data, .data, .data, .listed, .data], laidTests := true, laidLooks := .later }
def WholeReadUptoCardSaid : Prop := Claim7.holds Tryz.pinned (.plain (OpenSpec.upto wholeReadSpec)) wholeReadUptoCard
end Rows
end Go.Proofs.YtepdapdekaiioaaGreatDoor
