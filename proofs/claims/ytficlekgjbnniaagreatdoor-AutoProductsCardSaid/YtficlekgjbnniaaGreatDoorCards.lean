/-
  DERIVED. GIVEN WITH THE SEED: THE CARDS: each row of YtficlekgjbnniaaGreatDoorRows.lean that lists a variable, with what it lists TIED to the program's text (the seventh form; the later family's looks); each row that meets fmt, with fmt's text TOLD by the authors' own Lean function (tested against real Go, not proved from fmt's source: count such statements apart). THE CARD IS WHAT COUNTS. Prove the row's statement (the work); the ties are given (YtficlekgjbnniaaGreatDoorTie.lean); close each card by the builder's one call (the guide's Derived/Test/ToyasCard.lean, 'card_holds'). Laid BY PROGRAM, IN A SANDBOX (cutbox-door.mjs). By AI agents, Wed Nov 11 2026. No macro, syntax, notation, axiom, sorry.
-/
import Derived.Test.YtficlekgjbnniaaGreatDoorRows
import GoSem.ClaimSeven
namespace Go.Proofs.YtficlekgjbnniaaGreatDoor
namespace Rows

/-- THE TIED CARD OF 'guipurelaw09.AutoShortest'. -/
def autoShortestCard : Claim7 := { stood := { row := autoShortestRow, standIns := [], harness := (true, "3090f55946f717f96c6d39bbb13f2ef9a64534f48a937cd31db89c6a49c23d18"), looks := false }, kinds := [], alts := [], laidByText := true, laidKinds := [.data], laidTests := true, laidLooks := .later }
def AutoShortestCardSaid : Prop := Claim7.holds Tryz.pinned (.plain (OpenSpec.ofChange autoShortestSpec)) autoShortestCard

/-- THE TIED CARD OF 'guipurelaw09.AutoPrefix'. -/
def autoPrefixCard : Claim7 := { stood := { row := autoPrefixRow, standIns := [], harness := (true, "3090f55946f717f96c6d39bbb13f2ef9a64534f48a937cd31db89c6a49c23d18"), looks := false }, kinds := [], alts := [], laidByText := true, laidKinds := [.data], laidTests := true, laidLooks := .later }
def AutoPrefixCardSaid : Prop := Claim7.holds Tryz.pinned (.plain (OpenSpec.ofChange autoPrefixSpec)) autoPrefixCard

/-- THE TIED CARD OF 'guipurelaw09.AutoFirst'. -/
def autoFirstCard : Claim7 := { stood := { row := autoFirstRow, standIns := [], harness := (true, "3090f55946f717f96c6d39bbb13f2ef9a64534f48a937cd31db89c6a49c23d18"), looks := false }, kinds := [], alts := [], laidByText := true, laidKinds := [.data], laidTests := true, laidLooks := .later }
def AutoFirstCardSaid : Prop := Claim7.holds Tryz.pinned (.plain (OpenSpec.ofChange autoFirstSpec)) autoFirstCard

/-- THE TIED CARD OF 'guipurelaw09.AutoWithin'. -/
def autoWithinCard : Claim7 := { stood := { row := autoWithinRow, standIns := [], harness := (true, "3090f55946f717f96c6d39bbb13f2ef9a64534f48a937cd31db89c6a49c23d18"), looks := false }, kinds := [], alts := [], laidByText := true, laidKinds := [.data], laidTests := true, laidLooks := .later }
def AutoWithinCardSaid : Prop := Claim7.holds Tryz.pinned (.plain (OpenSpec.ofChange autoWithinSpec)) autoWithinCard

/-- THE TIED CARD OF 'guipurelaw09.AutoLongest'. -/
def autoLongestCard : Claim7 := { stood := { row := autoLongestRow, standIns := [], harness := (true, "3090f55946f717f96c6d39bbb13f2ef9a64534f48a937cd31db89c6a49c23d18"), looks := false }, kinds := [], alts := [], laidByText := true, laidKinds := [.data], laidTests := true, laidLooks := .later }
def AutoLongestCardSaid : Prop := Claim7.holds Tryz.pinned (.plain (OpenSpec.ofChange autoLongestSpec)) autoLongestCard

/-- THE TIED CARD OF 'guipurelaw09.AutoProducts'. -/
def autoProductsCard : Claim7 := { stood := { row := autoProductsRow, standIns := [], harness := (true, "3090f55946f717f96c6d39bbb13f2ef9a64534f48a937cd31db89c6a49c23d18"), looks := false }, kinds := [], alts := [], laidByText := true, laidKinds := [.data], laidTests := true, laidLooks := .later }
def AutoProductsCardSaid : Prop := Claim7.holds Tryz.pinned (.plain (OpenSpec.ofChange autoProductsSpec)) autoProductsCard

/-- THE SECOND FORM's CARD OF 'guipurelaw09.AutoShortest'. -/
def autoShortestUptoCard : Claim7 := { stood := { row := autoShortestUptoRow, standIns := [], harness := (true, "3090f55946f717f96c6d39bbb13f2ef9a64534f48a937cd31db89c6a49c23d18"), looks := false }, kinds := [], alts := [], laidByText := true, laidKinds := [.data], laidTests := true, laidLooks := .later }
def AutoShortestUptoCardSaid : Prop := Claim7.holds Tryz.pinned (.plain (OpenSpec.upto autoShortestSpec)) autoShortestUptoCard

/-- THE SECOND FORM's CARD OF 'guipurelaw09.AutoPrefix'. -/
def autoPrefixUptoCard : Claim7 := { stood := { row := autoPrefixUptoRow, standIns := [], harness := (true, "3090f55946f717f96c6d39bbb13f2ef9a64534f48a937cd31db89c6a49c23d18"), looks := false }, kinds := [], alts := [], laidByText := true, laidKinds := [.data], laidTests := true, laidLooks := .later }
def AutoPrefixUptoCardSaid : Prop := Claim7.holds Tryz.pinned (.plain (OpenSpec.upto autoPrefixSpec)) autoPrefixUptoCard

/-- THE SECOND FORM's CARD OF 'guipurelaw09.AutoFirst'. -/
def autoFirstUptoCard : Claim7 := { stood := { row := autoFirstUptoRow, standIns := [], harness := (true, "3090f55946f717f96c6d39bbb13f2ef9a64534f48a937cd31db89c6a49c23d18"), looks := false }, kinds := [], alts := [], laidByText := true, laidKinds := [.data], laidTests := true, laidLooks := .later }
def AutoFirstUptoCardSaid : Prop := Claim7.holds Tryz.pinned (.plain (OpenSpec.upto autoFirstSpec)) autoFirstUptoCard

/-- THE SECOND FORM's CARD OF 'guipurelaw09.AutoWithin'. -/
def autoWithinUptoCard : Claim7 := { stood := { row := autoWithinUptoRow, standIns := [], harness := (true, "3090f55946f717f96c6d39bbb13f2ef9a64534f48a937cd31db89c6a49c23d18"), looks := false }, kinds := [], alts := [], laidByText := true, laidKinds := [.data], laidTests := true, laidLooks := .later }
def AutoWithinUptoCardSaid : Prop := Claim7.holds Tryz.pinned (.plain (OpenSpec.upto autoWithinSpec)) autoWithinUptoCard

/-- THE SECOND FORM's CARD OF 'guipurelaw09.AutoLongest'. -/
def autoLongestUptoCard : Claim7 := { stood := { row := autoLongestUptoRow, standIns := [], harness := (true, "3090f55946f717f96c6d39bbb13f2ef9a64534f48a937cd31db89c6a49c23d18"), looks := false }, kinds := [], alts := [], laidByText := true, laidKinds := [.data], laidTests := true, laidLooks := .later }
def AutoLongestUptoCardSaid : Prop := Claim7.holds Tryz.pinned (.plain (OpenSpec.upto autoLongestSpec)) autoLongestUptoCard

/-- THE SECOND FORM's CARD OF 'guipurelaw09.AutoProducts'. -/
def autoProductsUptoCard : Claim7 := { stood := { row := autoProductsUptoRow, standIns := [], harness := (true, "3090f55946f717f96c6d39bbb13f2ef9a64534f48a937cd31db89c6a49c23d18"), looks := false }, kinds := [], alts := [], laidByText := true, laidKinds := [.data], laidTests := true, laidLooks := .later }
def AutoProductsUptoCardSaid : Prop := Claim7.holds Tryz.pinned (.plain (OpenSpec.upto autoProductsSpec)) autoProductsUptoCard
end Rows
end Go.Proofs.YtficlekgjbnniaaGreatDoor
