/-
  DERIVED. GIVEN WITH THE SEED: THE CARDS: each row of YtinbmhbfcoiefaaDoorRows.lean that lists a variable, with what it lists TIED to the program's text (the seventh form; the later family's looks); each row that meets fmt, with fmt's text TOLD by the authors' own Lean function (tested against real Go, not proved from fmt's source: count such statements apart). THE CARD IS WHAT COUNTS. Prove the row's statement (the work); the ties are given (YtinbmhbfcoiefaaDoorTie.lean); close each card by the builder's one call (the guide's Derived/Test/ToyasCard.lean, 'card_holds'). Laid BY PROGRAM, IN A SANDBOX (cutbox-door.mjs). By AI agents, Wed Nov 11 2026. No macro, syntax, notation, axiom, sorry.
-/
import Derived.Test.YtinbmhbfcoiefaaDoorRows
import GoSem.ClaimSeven
namespace Go.Proofs.YtinbmhbfcoiefaaDoor
namespace Rows

/-- THE TIED CARD OF 'guipuretop.WholeAutos'. -/
def wholeAutosCard : Claim7 := { stood := { row := wholeAutosRow, standIns := [], harness := (true, "eab34169fadd2ac25346f0536bb184b0e5bd2f4772bb099dfd1ba0a7af013607"), looks := false }, kinds := [], alts := [], laidByText := true, laidKinds := [.data], laidTests := true, laidLooks := .later }
def WholeAutosCardSaid : Prop := Claim7.holds Tryd.pinned (.plain (OpenSpec.ofChange wholeAutosSpec)) wholeAutosCard

/-- THE SECOND FORM's CARD OF 'guipuretop.WholeAutos'. -/
def wholeAutosUptoCard : Claim7 := { stood := { row := wholeAutosUptoRow, standIns := [], harness := (true, "eab34169fadd2ac25346f0536bb184b0e5bd2f4772bb099dfd1ba0a7af013607"), looks := false }, kinds := [], alts := [], laidByText := true, laidKinds := [.data], laidTests := true, laidLooks := .later }
def WholeAutosUptoCardSaid : Prop := Claim7.holds Tryd.pinned (.plain (OpenSpec.upto wholeAutosSpec)) wholeAutosUptoCard
end Rows
end Go.Proofs.YtinbmhbfcoiefaaDoor
