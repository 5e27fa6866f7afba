/-
  DERIVED. GIVEN WITH THE SEED: THE CARDS: each row of YtinbmhbfcoiefaaGreatDoorRows.lean that lists a variable, with what it lists TIED to the program's text (the seventh form; the later family's looks); each row that meets fmt, with fmt's text TOLD by the authors' own Lean function (tested against real Go, not proved from fmt's source: count such statements apart). THE CARD IS WHAT COUNTS. Prove the row's statement (the work); the ties are given (YtinbmhbfcoiefaaGreatDoorTie.lean); close each card by the builder's one call (the guide's Derived/Test/ToyasCard.lean, 'card_holds'). Laid BY PROGRAM, IN A SANDBOX (cutbox-door.mjs). By AI agents, Wed Nov 11 2026. No macro, syntax, notation, axiom, sorry.
-/
import Derived.Test.YtinbmhbfcoiefaaGreatDoorRows
import GoSem.ClaimSeven
namespace Go.Proofs.YtinbmhbfcoiefaaGreatDoor
namespace Rows

/-- THE TIED CARD OF 'guipurelaw08.DfaMatches'. -/
def dfaMatchesCard : Claim7 := { stood := { row := dfaMatchesRow, standIns := [], harness := (true, "dbe0a0aa452c7f279383b0f64eadf66c97959931ee2b3d5c9234a534ad67c57c"), looks := false }, kinds := [], alts := [], laidByText := true, laidKinds := [.data], laidTests := true, laidLooks := .later }
def DfaMatchesCardSaid : Prop := Claim7.holds Tryz.pinned (.plain (OpenSpec.ofChange dfaMatchesSpec)) dfaMatchesCard

/-- THE TIED CARD OF 'guipurelaw08.DfaLeast'. -/
def dfaLeastCard : Claim7 := { stood := { row := dfaLeastRow, standIns := [], harness := (true, "dbe0a0aa452c7f279383b0f64eadf66c97959931ee2b3d5c9234a534ad67c57c"), looks := false }, kinds := [], alts := [], laidByText := true, laidKinds := [.data], laidTests := true, laidLooks := .later }
def DfaLeastCardSaid : Prop := Claim7.holds Tryz.pinned (.plain (OpenSpec.ofChange dfaLeastSpec)) dfaLeastCard

/-- THE TIED CARD OF 'guipurelaw08.DfaOrder'. -/
def dfaOrderCard : Claim7 := { stood := { row := dfaOrderRow, standIns := [], harness := (true, "dbe0a0aa452c7f279383b0f64eadf66c97959931ee2b3d5c9234a534ad67c57c"), looks := false }, kinds := [], alts := [], laidByText := true, laidKinds := [.data], laidTests := true, laidLooks := .later }
def DfaOrderCardSaid : Prop := Claim7.holds Tryz.pinned (.plain (OpenSpec.ofChange dfaOrderSpec)) dfaOrderCard

/-- THE TIED CARD OF 'guipurelaw08.DfaClasses'. -/
def dfaClassesCard : Claim7 := { stood := { row := dfaClassesRow, standIns := [], harness := (true, "dbe0a0aa452c7f279383b0f64eadf66c97959931ee2b3d5c9234a534ad67c57c"), looks := false }, kinds := [], alts := [], laidByText := true, laidKinds := [.data], laidTests := true, laidLooks := .later }
def DfaClassesCardSaid : Prop := Claim7.holds Tryz.pinned (.plain (OpenSpec.ofChange dfaClassesSpec)) dfaClassesCard

/-- THE TIED CARD OF 'guipurelaw08.DfaLater'. -/
def dfaLaterCard : Claim7 := { stood := { row := dfaLaterRow, standIns := [], harness := (true, "dbe0a0aa452c7f279383b0f64eadf66c97959931ee2b3d5c9234a534ad67c57c"), looks := false }, kinds := [], alts := [], laidByText := true, laidKinds := [.data], laidTests := true, laidLooks := .later }
def DfaLaterCardSaid : Prop := Claim7.holds Tryz.pinned (.plain (OpenSpec.ofChange dfaLaterSpec)) dfaLaterCard

/-- THE SECOND FORM's CARD OF 'guipurelaw08.DfaMatches'. -/
def dfaMatchesUptoCard : Claim7 := { stood := { row := dfaMatchesUptoRow, standIns := [], harness := (true, "dbe0a0aa452c7f279383b0f64eadf66c97959931ee2b3d5c9234a534ad67c57c"), looks := false }, kinds := [], alts := [], laidByText := true, laidKinds := [.data], laidTests := true, laidLooks := .later }
def DfaMatchesUptoCardSaid : Prop := Claim7.holds Tryz.pinned (.plain (OpenSpec.upto dfaMatchesSpec)) dfaMatchesUptoCard

/-- THE SECOND FORM's CARD OF 'guipurelaw08.DfaLeast'. -/
def dfaLeastUptoCard : Claim7 := { stood := { row := dfaLeastUptoRow, standIns := [], harness := (true, "dbe0a0aa452c7f279383b0f64eadf66c97959931ee2b3d5c9234a534ad67c57c"), looks := false }, kinds := [], alts := [], laidByText := true, laidKinds := [.data], laidTests := true, laidLooks := .later }
def DfaLeastUptoCardSaid : Prop := Claim7.holds Tryz.pinned (.plain (OpenSpec.upto dfaLeastSpec)) dfaLeastUptoCard

/-- THE SECOND FORM's CARD OF 'guipurelaw08.DfaOrder'. -/
def dfaOrderUptoCard : Claim7 := { stood := { row := dfaOrderUptoRow, standIns := [], harness := (true, "dbe0a0aa452c7f279383b0f64eadf66c97959931ee2b3d5c9234a534ad67c57c"), looks := false }, kinds := [], alts := [], laidByText := true, laidKinds := [.data], laidTests := true, laidLooks := .later }
def DfaOrderUptoCardSaid : Prop := Claim7.holds Tryz.pinned (.plain (OpenSpec.upto dfaOrderSpec)) dfaOrderUptoCard

/-- THE SECOND FORM's CARD OF 'guipurelaw08.DfaClasses'. -/
def dfaClassesUptoCard : Claim7 := { stood := { row := dfaClassesUptoRow, standIns := [], harness := (true, "dbe0a0aa452c7f279383b0f64eadf66c97959931ee2b3d5c9234a534ad67c57c"), looks := false }, kinds := [], alts := [], laidByText := true, laidKinds := [.data], laidTests := true, laidLooks := .later }
def DfaClassesUptoCardSaid : Prop := Claim7.holds Tryz.pinned (.plain (OpenSpec.upto dfaClassesSpec)) dfaClassesUptoCard

/-- THE SECOND FORM's CARD OF 'guipurelaw08.DfaLater'. -/
def dfaLaterUptoCard : Claim7 := { stood := { row := dfaLaterUptoRow, standIns := [], harness := (true, "dbe0a0aa452c7f279383b0f64eadf66c97959931ee2b3d5c9234a534ad67c57c"), looks := false }, kinds := [], alts := [], laidByText := true, laidKinds := [.data], laidTests := true, laidLooks := .later }
def DfaLaterUptoCardSaid : Prop := Claim7.holds Tryz.pinned (.plain (OpenSpec.upto dfaLaterSpec)) dfaLaterUptoCard
end Rows
end Go.Proofs.YtinbmhbfcoiefaaGreatDoor
