/-
  DERIVED. GIVEN WITH THE SEED: THE PROGRAM's TIES (one call each: nine closed facts by the kernel) AND EACH ROW's TIE, after the 31st guide's Derived/Test/Toyas{Tie, Card}.lean. No idea stands in it: it is a product of the set-up. Laid BY PROGRAM, IN A SANDBOX (cutbox-door.mjs). By AI agents, Wed Nov 11 2026. No macro, syntax, notation, axiom, sorry.
-/
import Derived.Test.YtnapjcnfgdkmcaaGreatDoorRows
import Derived.LaidByTextLater
import Derived.SevenTiedAt
import Derived.LaidSub
import Derived.LaidOnce
namespace Go.Proofs.YtnapjcnfgdkmcaaGreatDoor
open Go
set_option maxRecDepth 100000
theorem seatTie1 : Tryz.prog.laidByTextLater [("math/bits.deBruijn32tab", Rows.laid_math_bits_deBruijn32tab), ("math/bits.deBruijn64tab", Rows.laid_math_bits_deBruijn64tab), ("internal/strconv.uint64pow10", Rows.laid_internal_strconv_uint64pow10), ("unicode.White_Space", Rows.laid_unicode_White_Space), ("strings.asciiSpace", Rows.laid_strings_asciiSpace)] [.data, .data, .data, .listed, .data] true :=
  Program.laidByTextLater_by_one 48 8 257 (by kernel_rfl) (by kernel_rfl) (by kernel_rfl) (by kernel_rfl) (by kernel_rfl) (by kernel_rfl) (fun _ _ => by kernel_rfl)
theorem noOwnUnsafe : Tryz.pinned.checked.prog.headLifts.contains "ownunsafe" = false := by kernel_rfl
theorem tie : Tryz.prog.laidByTextLater [("math/bits.deBruijn32tab", Rows.laid_math_bits_deBruijn32tab), ("math/bits.deBruijn64tab", Rows.laid_math_bits_deBruijn64tab), ("internal/strconv.uint64pow10", Rows.laid_internal_strconv_uint64pow10), ("unicode.White_Space", Rows.laid_unicode_White_Space), ("strings.asciiSpace", Rows.laid_strings_asciiSpace)] [.data, .data, .data, .listed, .data] true :=
  Program.laidByTextLater.sub seatTie1 ["math/bits.deBruijn32tab", "math/bits.deBruijn64tab", "internal/strconv.uint64pow10", "unicode.White_Space", "strings.asciiSpace"] (by kernel_rfl) (by kernel_rfl)
theorem showParts_row_tie : Rows.showPartsRow.laidByTextAt .later Tryz.pinned [.data, .data, .data, .listed, .data] true :=
  OpenClaim.laidByTextAt_later rfl rfl tie noOwnUnsafe
theorem showWords_row_tie : Rows.showWordsRow.laidByTextAt .later Tryz.pinned [.data, .data, .data, .listed, .data] true :=
  OpenClaim.laidByTextAt_later rfl rfl tie noOwnUnsafe
theorem showParses_row_tie : Rows.showParsesRow.laidByTextAt .later Tryz.pinned [.data, .data, .data, .listed, .data] true :=
  OpenClaim.laidByTextAt_later rfl rfl tie noOwnUnsafe
theorem showBack_row_tie : Rows.showBackRow.laidByTextAt .later Tryz.pinned [.data, .data, .data, .listed, .data] true :=
  OpenClaim.laidByTextAt_later rfl rfl tie noOwnUnsafe
theorem regChecks_row_tie : Rows.regChecksRow.laidByTextAt .later Tryz.pinned [.data, .data, .data, .listed, .data] true :=
  OpenClaim.laidByTextAt_later rfl rfl tie noOwnUnsafe
theorem regLinks_row_tie : Rows.regLinksRow.laidByTextAt .later Tryz.pinned [.data, .data, .data, .listed, .data] true :=
  OpenClaim.laidByTextAt_later rfl rfl tie noOwnUnsafe
theorem regAsked_row_tie : Rows.regAskedRow.laidByTextAt .later Tryz.pinned [.data, .data, .data, .listed, .data] true :=
  OpenClaim.laidByTextAt_later rfl rfl tie noOwnUnsafe
theorem regDerived_row_tie : Rows.regDerivedRow.laidByTextAt .later Tryz.pinned [.data, .data, .data, .listed, .data] true :=
  OpenClaim.laidByTextAt_later rfl rfl tie noOwnUnsafe
theorem showPartsUpto_row_tie : Rows.showPartsUptoRow.laidByTextAt .later Tryz.pinned [.data, .data, .data, .listed, .data] true :=
  OpenClaim.laidByTextAt_later rfl rfl tie noOwnUnsafe
theorem showWordsUpto_row_tie : Rows.showWordsUptoRow.laidByTextAt .later Tryz.pinned [.data, .data, .data, .listed, .data] true :=
  OpenClaim.laidByTextAt_later rfl rfl tie noOwnUnsafe
theorem showParsesUpto_row_tie : Rows.showParsesUptoRow.laidByTextAt .later Tryz.pinned [.data, .data, .data, .listed, .data] true :=
  OpenClaim.laidByTextAt_later rfl rfl tie noOwnUnsafe
theorem showBackUpto_row_tie : Rows.showBackUptoRow.laidByTextAt .later Tryz.pinned [.data, .data, .data, .listed, .data] true :=
  OpenClaim.laidByTextAt_later rfl rfl tie noOwnUnsafe
theorem regChecksUpto_row_tie : Rows.regChecksUptoRow.laidByTextAt .later Tryz.pinned [.data, .data, .data, .listed, .data] true :=
  OpenClaim.laidByTextAt_later rfl rfl tie noOwnUnsafe
theorem regLinksUpto_row_tie : Rows.regLinksUptoRow.laidByTextAt .later Tryz.pinned [.data, .data, .data, .listed, .data] true :=
  OpenClaim.laidByTextAt_later rfl rfl tie noOwnUnsafe
theorem regAskedUpto_row_tie : Rows.regAskedUptoRow.laidByTextAt .later Tryz.pinned [.data, .data, .data, .listed, .data] true :=
  OpenClaim.laidByTextAt_later rfl rfl tie noOwnUnsafe
theorem regDerivedUpto_row_tie : Rows.regDerivedUptoRow.laidByTextAt .later Tryz.pinned [.data, .data, .data, .listed, .data] true :=
  OpenClaim.laidByTextAt_later rfl rfl tie noOwnUnsafe
end Go.Proofs.YtnapjcnfgdkmcaaGreatDoor
