/-
  DERIVED. GIVEN WITH THE SEED: THE CARDS: each row of YtmaennnkaoollaaGreatDoorRows.lean that lists a variable, with what it lists TIED to the program's text (the seventh form; the later family's looks); each row that meets fmt, with fmt's text TOLD by the authors' own Lean function (tested against real Go, not proved from fmt's source: count such statements apart). THE CARD IS WHAT COUNTS. Prove the row's statement (the work); the ties are given (YtmaennnkaoollaaGreatDoorTie.lean); close each card by the builder's one call (the guide's Derived/Test/ToyasCard.lean, 'card_holds'). Laid BY PROGRAM, IN A SANDBOX (cutbox-door.mjs). By AI agents, Wed Nov 11 2026. No macro, syntax, notation, axiom, sorry.
-/
import Derived.Test.YtmaennnkaoollaaGreatDoorRows
import GoSem.ClaimSeven
namespace Go.Proofs.YtmaennnkaoollaaGreatDoor
namespace Rows

/-- THE TIED CARD OF 'guipuretop.WholePatterns'. -/
def wholePatternsCard : Claim7 := { stood := { row := wholePatternsRow, standIns := [], harness := (true, "117eade0c0825168f10849e65776a7ed34c99c07a6cea3a9e84b1a5711ad7269"), looks := false }, kinds := [], alts := [], laidByText := true, laidKinds := [.data, .listed, .data], laidTests := true, laidLooks := .later }
def WholePatternsCardSaid : Prop := Claim7.holds Tryz.pinned (.plain (OpenSpec.ofChange wholePatternsSpec)) wholePatternsCard

/-- THE SECOND FORM's CARD OF 'guipuretop.WholePatterns'. -/
def wholePatternsUptoCard : Claim7 := { stood := { row := wholePatternsUptoRow, standIns := [], harness := (true, "117eade0c0825168f10849e65776a7ed34c99c07a6cea3a9e84b1a5711ad7269"), looks := false }, kinds := [], alts := [], laidByText := true, laidKinds := [.data, .listed, .data], laidTests := true, laidLooks := .later }
def WholePatternsUptoCardSaid : Prop := Claim7.holds Tryz.pinned (.plain (OpenSpec.upto wholePatternsSpec)) wholePatternsUptoCard
end Rows
end Go.Proofs.YtmaennnkaoollaaGreatDoor
