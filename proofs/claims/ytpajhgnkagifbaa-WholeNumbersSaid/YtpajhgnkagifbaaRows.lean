/-
  No cell of these rows narrows 'for every input' (looked for: loops, veiled, ifaces, maps, wideKeys, modest, calm, conditions, laid).
  DERIVED. THE GIVEN ROWS OF THIS SEAT. 12 by the template 'for every input the law returns true; each argument reads behind the call as it read before'; 0 by the template 'total and deterministic' (their statements: YtpajhgnkagifbaaTotals.lean).
  GIVEN WITH THE SEED: the statements are not yours to turn. If you find one false, say at which input.
  Laid BY PROGRAM, IN A SANDBOX (cutbox-rows.mjs): the forced cells as the released guide's own fill.sh prints them over the translation f15605012941c6f5… (all of the seat's roots in one cut). By AI agents, Wed Nov 11 2026. No macro, syntax, notation, axiom, sorry.
-/
import Derived.Test.YtpajhgnkagifbaaChecked
import GoSem.Claim
import GoSem.ClaimJoined
import GoSem.ClaimMapViews
import Derived.JoinedTies
import Derived.KernelRfl
namespace Go.Proofs.Ytpajhgnkagifbaa
/- THE CELL 'sum', in the pinned program and in every row, IS THE sha256 OF THE DUMP (.gsa) THAT YtpajhgnkagifbaaProg.lean LOADS. Nothing in Lean hashes anything: it is a label: what it is worth is what the hold of that sum in a sandbox is worth. -/
noncomputable def Try.pinned : Pinned := { name := "ytpajhgnkagifbaa", sum := "f15605012941c6f5807fcbfe4a048216830e2e7525e83cc16b32d539ac91399f", checked := Try.checked }
namespace Rows
def none {H : Type} : Left H := { results := [], args := [] }

/-- 'guipurelaw01.OctetNumbers': WHATEVER THE INPUT: true; the input reads as it did. -/
def octetNumbersSpec : ChangeSpec := { name := "octetNumbers", fn := fun _ => fun
  | [d1, d2, d3] => { results := [.lit (.bool true)], args := [d1, d2, d3] }
  | _ => none }
def octetNumbersRow : OpenClaim := { program := "ytpajhgnkagifbaa", sum := "f15605012941c6f5807fcbfe4a048216830e2e7525e83cc16b32d539ac91399f", func := "guipure/guipurelaw01.OctetNumbers", spec := "octetNumbers", apart := false }
def OctetNumbersSaid : Prop := octetNumbersRow.holds Try.pinned (OpenSpec.ofChange octetNumbersSpec)

/-- ITS FALSE NEIGHBOUR: 'it returns false'. Refute it at one input. -/
def octetNumbersWrong : ChangeSpec := { name := "octetNumbers", fn := fun _ => fun
  | [d1, d2, d3] => { results := [.lit (.bool false)], args := [d1, d2, d3] }
  | _ => none }
def OctetNumbersWrongFalsely : Prop := octetNumbersRow.holds Try.pinned (OpenSpec.ofChange octetNumbersWrong)

/-- 'guipurelaw01.OctetOf': WHATEVER THE INPUT: true; the input reads as it did. -/
def octetOfSpec : ChangeSpec := { name := "octetOf", fn := fun _ => fun
  | [d] => { results := [.lit (.bool true)], args := [d] }
  | _ => none }
def octetOfRow : OpenClaim := { program := "ytpajhgnkagifbaa", sum := "f15605012941c6f5807fcbfe4a048216830e2e7525e83cc16b32d539ac91399f", func := "guipure/guipurelaw01.OctetOf", spec := "octetOf", apart := false }
def OctetOfSaid : Prop := octetOfRow.holds Try.pinned (OpenSpec.ofChange octetOfSpec)

/-- ITS FALSE NEIGHBOUR: 'it returns false'. Refute it at one input. -/
def octetOfWrong : ChangeSpec := { name := "octetOf", fn := fun _ => fun
  | [d] => { results := [.lit (.bool false)], args := [d] }
  | _ => none }
def OctetOfWrongFalsely : Prop := octetOfRow.holds Try.pinned (OpenSpec.ofChange octetOfWrong)

/-- 'guipurelaw01.OctetReads': WHATEVER THE INPUT: true; the input reads as it did. -/
def octetReadsSpec : ChangeSpec := { name := "octetReads", fn := fun _ => fun
  | [d1, d2] => { results := [.lit (.bool true)], args := [d1, d2] }
  | _ => none }
def octetReadsRow : OpenClaim := { program := "ytpajhgnkagifbaa", sum := "f15605012941c6f5807fcbfe4a048216830e2e7525e83cc16b32d539ac91399f", func := "guipure/guipurelaw01.OctetReads", spec := "octetReads", apart := false }
def OctetReadsSaid : Prop := octetReadsRow.holds Try.pinned (OpenSpec.ofChange octetReadsSpec)

/-- ITS FALSE NEIGHBOUR: 'it returns false'. Refute it at one input. -/
def octetReadsWrong : ChangeSpec := { name := "octetReads", fn := fun _ => fun
  | [d1, d2] => { results := [.lit (.bool false)], args := [d1, d2] }
  | _ => none }
def OctetReadsWrongFalsely : Prop := octetReadsRow.holds Try.pinned (OpenSpec.ofChange octetReadsWrong)

/-- 'guipurelaw02.LebBack': WHATEVER THE INPUT: true; the input reads as it did. -/
def lebBackSpec : ChangeSpec := { name := "lebBack", fn := fun _ => fun
  | [d1, d2] => { results := [.lit (.bool true)], args := [d1, d2] }
  | _ => none }
def lebBackRow : OpenClaim := { program := "ytpajhgnkagifbaa", sum := "f15605012941c6f5807fcbfe4a048216830e2e7525e83cc16b32d539ac91399f", func := "guipure/guipurelaw02.LebBack", spec := "lebBack", apart := false }
def LebBackSaid : Prop := lebBackRow.holds Try.pinned (OpenSpec.ofChange lebBackSpec)

/-- ITS FALSE NEIGHBOUR: 'it returns false'. Refute it at one input. -/
def lebBackWrong : ChangeSpec := { name := "lebBack", fn := fun _ => fun
  | [d1, d2] => { results := [.lit (.bool false)], args := [d1, d2] }
  | _ => none }
def LebBackWrongFalsely : Prop := lebBackRow.holds Try.pinned (OpenSpec.ofChange lebBackWrong)

/-- 'guipurelaw02.LebFolds': WHATEVER THE INPUT: true; the input reads as it did. -/
def lebFoldsSpec : ChangeSpec := { name := "lebFolds", fn := fun _ => fun
  | [d1, d2] => { results := [.lit (.bool true)], args := [d1, d2] }
  | _ => none }
def lebFoldsRow : OpenClaim := { program := "ytpajhgnkagifbaa", sum := "f15605012941c6f5807fcbfe4a048216830e2e7525e83cc16b32d539ac91399f", func := "guipure/guipurelaw02.LebFolds", spec := "lebFolds", apart := false }
def LebFoldsSaid : Prop := lebFoldsRow.holds Try.pinned (OpenSpec.ofChange lebFoldsSpec)

/-- ITS FALSE NEIGHBOUR: 'it returns false'. Refute it at one input. -/
def lebFoldsWrong : ChangeSpec := { name := "lebFolds", fn := fun _ => fun
  | [d1, d2] => { results := [.lit (.bool false)], args := [d1, d2] }
  | _ => none }
def LebFoldsWrongFalsely : Prop := lebFoldsRow.holds Try.pinned (OpenSpec.ofChange lebFoldsWrong)

/-- 'guipurelaw02.LebReads': WHATEVER THE INPUT: true; the input reads as it did. -/
def lebReadsSpec : ChangeSpec := { name := "lebReads", fn := fun _ => fun
  | [d1, d2] => { results := [.lit (.bool true)], args := [d1, d2] }
  | _ => none }
def lebReadsRow : OpenClaim := { program := "ytpajhgnkagifbaa", sum := "f15605012941c6f5807fcbfe4a048216830e2e7525e83cc16b32d539ac91399f", func := "guipure/guipurelaw02.LebReads", spec := "lebReads", apart := false }
def LebReadsSaid : Prop := lebReadsRow.holds Try.pinned (OpenSpec.ofChange lebReadsSpec)

/-- ITS FALSE NEIGHBOUR: 'it returns false'. Refute it at one input. -/
def lebReadsWrong : ChangeSpec := { name := "lebReads", fn := fun _ => fun
  | [d1, d2] => { results := [.lit (.bool false)], args := [d1, d2] }
  | _ => none }
def LebReadsWrongFalsely : Prop := lebReadsRow.holds Try.pinned (OpenSpec.ofChange lebReadsWrong)

/-- 'guipurelaw02.LebMeters': WHATEVER THE INPUT: true; the input reads as it did. -/
def lebMetersSpec : ChangeSpec := { name := "lebMeters", fn := fun _ => fun
  | [d1, d2] => { results := [.lit (.bool true)], args := [d1, d2] }
  | _ => none }
def lebMetersRow : OpenClaim := { program := "ytpajhgnkagifbaa", sum := "f15605012941c6f5807fcbfe4a048216830e2e7525e83cc16b32d539ac91399f", func := "guipure/guipurelaw02.LebMeters", spec := "lebMeters", apart := false }
def LebMetersSaid : Prop := lebMetersRow.holds Try.pinned (OpenSpec.ofChange lebMetersSpec)

/-- ITS FALSE NEIGHBOUR: 'it returns false'. Refute it at one input. -/
def lebMetersWrong : ChangeSpec := { name := "lebMeters", fn := fun _ => fun
  | [d1, d2] => { results := [.lit (.bool false)], args := [d1, d2] }
  | _ => none }
def LebMetersWrongFalsely : Prop := lebMetersRow.holds Try.pinned (OpenSpec.ofChange lebMetersWrong)

/-- 'guipurelaw02.LebOne': WHATEVER THE INPUT: true; the input reads as it did. -/
def lebOneSpec : ChangeSpec := { name := "lebOne", fn := fun _ => fun
  | [d] => { results := [.lit (.bool true)], args := [d] }
  | _ => none }
def lebOneRow : OpenClaim := { program := "ytpajhgnkagifbaa", sum := "f15605012941c6f5807fcbfe4a048216830e2e7525e83cc16b32d539ac91399f", func := "guipure/guipurelaw02.LebOne", spec := "lebOne", apart := false }
def LebOneSaid : Prop := lebOneRow.holds Try.pinned (OpenSpec.ofChange lebOneSpec)

/-- ITS FALSE NEIGHBOUR: 'it returns false'. Refute it at one input. -/
def lebOneWrong : ChangeSpec := { name := "lebOne", fn := fun _ => fun
  | [d] => { results := [.lit (.bool false)], args := [d] }
  | _ => none }
def LebOneWrongFalsely : Prop := lebOneRow.holds Try.pinned (OpenSpec.ofChange lebOneWrong)

/-- 'guipurelaw01.OctetSets': WHATEVER THE INPUT: true; the input reads as it did. -/
def octetSetsSpec : ChangeSpec := { name := "octetSets", fn := fun _ => fun
  | [d1, d2, d3] => { results := [.lit (.bool true)], args := [d1, d2, d3] }
  | _ => none }
def octetSetsRow : OpenClaim := { program := "ytpajhgnkagifbaa", sum := "f15605012941c6f5807fcbfe4a048216830e2e7525e83cc16b32d539ac91399f", func := "guipure/guipurelaw01.OctetSets", spec := "octetSets", apart := false }
def OctetSetsSaid : Prop := octetSetsRow.holds Try.pinned (OpenSpec.ofChange octetSetsSpec)

/-- ITS FALSE NEIGHBOUR: 'it returns false'. Refute it at one input. -/
def octetSetsWrong : ChangeSpec := { name := "octetSets", fn := fun _ => fun
  | [d1, d2, d3] => { results := [.lit (.bool false)], args := [d1, d2, d3] }
  | _ => none }
def OctetSetsWrongFalsely : Prop := octetSetsRow.holds Try.pinned (OpenSpec.ofChange octetSetsWrong)

/-- 'guipurelaw01.OctetWrites': WHATEVER THE INPUT: true; the input reads as it did. -/
def octetWritesSpec : ChangeSpec := { name := "octetWrites", fn := fun _ => fun
  | [d1, d2] => { results := [.lit (.bool true)], args := [d1, d2] }
  | _ => none }
def octetWritesRow : OpenClaim := { program := "ytpajhgnkagifbaa", sum := "f15605012941c6f5807fcbfe4a048216830e2e7525e83cc16b32d539ac91399f", func := "guipure/guipurelaw01.OctetWrites", spec := "octetWrites", apart := false }
def OctetWritesSaid : Prop := octetWritesRow.holds Try.pinned (OpenSpec.ofChange octetWritesSpec)

/-- ITS FALSE NEIGHBOUR: 'it returns false'. Refute it at one input. -/
def octetWritesWrong : ChangeSpec := { name := "octetWrites", fn := fun _ => fun
  | [d1, d2] => { results := [.lit (.bool false)], args := [d1, d2] }
  | _ => none }
def OctetWritesWrongFalsely : Prop := octetWritesRow.holds Try.pinned (OpenSpec.ofChange octetWritesWrong)

/-- 'guipurelaw02.LebPads': WHATEVER THE INPUT: true; the input reads as it did. -/
def lebPadsSpec : ChangeSpec := { name := "lebPads", fn := fun _ => fun
  | [d1, d2] => { results := [.lit (.bool true)], args := [d1, d2] }
  | _ => none }
def lebPadsRow : OpenClaim := { program := "ytpajhgnkagifbaa", sum := "f15605012941c6f5807fcbfe4a048216830e2e7525e83cc16b32d539ac91399f", func := "guipure/guipurelaw02.LebPads", spec := "lebPads", apart := false }
def LebPadsSaid : Prop := lebPadsRow.holds Try.pinned (OpenSpec.ofChange lebPadsSpec)

/-- ITS FALSE NEIGHBOUR: 'it returns false'. Refute it at one input. -/
def lebPadsWrong : ChangeSpec := { name := "lebPads", fn := fun _ => fun
  | [d1, d2] => { results := [.lit (.bool false)], args := [d1, d2] }
  | _ => none }
def LebPadsWrongFalsely : Prop := lebPadsRow.holds Try.pinned (OpenSpec.ofChange lebPadsWrong)

/-- 'guipuretop.WholeNumbers': WHATEVER THE INPUT: true; the input reads as it did. -/
def wholeNumbersSpec : ChangeSpec := { name := "wholeNumbers", fn := fun _ => fun
  | [d1, d2] => { results := [.lit (.bool true)], args := [d1, d2] }
  | _ => none }
def wholeNumbersRow : OpenClaim := { program := "ytpajhgnkagifbaa", sum := "f15605012941c6f5807fcbfe4a048216830e2e7525e83cc16b32d539ac91399f", func := "guipure/guipuretop.WholeNumbers", spec := "wholeNumbers", apart := false }
def WholeNumbersSaid : Prop := wholeNumbersRow.holds Try.pinned (OpenSpec.ofChange wholeNumbersSpec)

/-- ITS FALSE NEIGHBOUR: 'it returns false'. Refute it at one input. -/
def wholeNumbersWrong : ChangeSpec := { name := "wholeNumbers", fn := fun _ => fun
  | [d1, d2] => { results := [.lit (.bool false)], args := [d1, d2] }
  | _ => none }
def WholeNumbersWrongFalsely : Prop := wholeNumbersRow.holds Try.pinned (OpenSpec.ofChange wholeNumbersWrong)

/- THE SECOND FORM. 'bulk': how many values and letters a reading holds, each counted each time it is reached (what is shared counts as often as it is met; a slice's spare places count too). A statement '..UptoSaid' is the law's where the arguments, and the package variables that the reading takes, are together of bulk at most 1048576: NARROWER than '..Said'. Prove '..Said' where nothing that the law and all that it calls make is longer than what came in: it says more and counts as full. Else prove '..UptoSaid'. A law counts once. -/
mutual
def uptoBulk {H : Type} : DataW H → Nat
  | .lit (.string bytes) => bytes.length + 1
  | .lit _ => 1
  | .nil => 1
  | .ptr d => uptoBulk d + 1
  | .slice elems spare => uptoBulkAll elems + uptoBulkAll spare + 1
  | .agg parts => uptoBulkAll parts + 1
  | .iface _ d => uptoBulk d + 1
  | .map entries => uptoBulkEntries entries + 1
  | .held _ => 1
def uptoBulkAll {H : Type} : List (DataW H) → Nat
  | [] => 0
  | d :: r => uptoBulk d + uptoBulkAll r
def uptoBulkEntries {H : Type} : List (Lit × DataW H) → Nat
  | [] => 0
  | x :: r => uptoBulkEntry x + uptoBulkEntries r
def uptoBulkEntry {H : Type} : Lit × DataW H → Nat
  | (.string bytes, d) => bytes.length + uptoBulk d + 1
  | (_, d) => uptoBulk d + 1
 end
def uptoSmall : (H : Type) → List (DataW H) → Bool := fun _ ds => decide (uptoBulkAll ds ≤ 1048576)
def OpenSpec.upto (s : _root_.Go.ChangeSpec) : _root_.Go.OpenSpec := { _root_.Go.OpenSpec.ofChange s with cond := some uptoSmall }

/-- 'guipurelaw01.OctetNumbers', WHERE WHAT IT READS IS OF BULK AT MOST 1048576: true; the input reads as it did. -/
def octetNumbersUptoRow : OpenClaim := { program := "ytpajhgnkagifbaa", sum := "f15605012941c6f5807fcbfe4a048216830e2e7525e83cc16b32d539ac91399f", func := "guipure/guipurelaw01.OctetNumbers", spec := "octetNumbers", apart := false, narrowed := true }
def OctetNumbersUptoSaid : Prop := octetNumbersUptoRow.holds Try.pinned (OpenSpec.upto octetNumbersSpec)

/-- 'guipurelaw01.OctetOf', WHERE WHAT IT READS IS OF BULK AT MOST 1048576: true; the input reads as it did. -/
def octetOfUptoRow : OpenClaim := { program := "ytpajhgnkagifbaa", sum := "f15605012941c6f5807fcbfe4a048216830e2e7525e83cc16b32d539ac91399f", func := "guipure/guipurelaw01.OctetOf", spec := "octetOf", apart := false, narrowed := true }
def OctetOfUptoSaid : Prop := octetOfUptoRow.holds Try.pinned (OpenSpec.upto octetOfSpec)

/-- 'guipurelaw01.OctetReads', WHERE WHAT IT READS IS OF BULK AT MOST 1048576: true; the input reads as it did. -/
def octetReadsUptoRow : OpenClaim := { program := "ytpajhgnkagifbaa", sum := "f15605012941c6f5807fcbfe4a048216830e2e7525e83cc16b32d539ac91399f", func := "guipure/guipurelaw01.OctetReads", spec := "octetReads", apart := false, narrowed := true }
def OctetReadsUptoSaid : Prop := octetReadsUptoRow.holds Try.pinned (OpenSpec.upto octetReadsSpec)

/-- 'guipurelaw02.LebBack', WHERE WHAT IT READS IS OF BULK AT MOST 1048576: true; the input reads as it did. -/
def lebBackUptoRow : OpenClaim := { program := "ytpajhgnkagifbaa", sum := "f15605012941c6f5807fcbfe4a048216830e2e7525e83cc16b32d539ac91399f", func := "guipure/guipurelaw02.LebBack", spec := "lebBack", apart := false, narrowed := true }
def LebBackUptoSaid : Prop := lebBackUptoRow.holds Try.pinned (OpenSpec.upto lebBackSpec)

/-- 'guipurelaw02.LebFolds', WHERE WHAT IT READS IS OF BULK AT MOST 1048576: true; the input reads as it did. -/
def lebFoldsUptoRow : OpenClaim := { program := "ytpajhgnkagifbaa", sum := "f15605012941c6f5807fcbfe4a048216830e2e7525e83cc16b32d539ac91399f", func := "guipure/guipurelaw02.LebFolds", spec := "lebFolds", apart := false, narrowed := true }
def LebFoldsUptoSaid : Prop := lebFoldsUptoRow.holds Try.pinned (OpenSpec.upto lebFoldsSpec)

/-- 'guipurelaw02.LebReads', WHERE WHAT IT READS IS OF BULK AT MOST 1048576: true; the input reads as it did. -/
def lebReadsUptoRow : OpenClaim := { program := "ytpajhgnkagifbaa", sum := "f15605012941c6f5807fcbfe4a048216830e2e7525e83cc16b32d539ac91399f", func := "guipure/guipurelaw02.LebReads", spec := "lebReads", apart := false, narrowed := true }
def LebReadsUptoSaid : Prop := lebReadsUptoRow.holds Try.pinned (OpenSpec.upto lebReadsSpec)

/-- 'guipurelaw02.LebMeters', WHERE WHAT IT READS IS OF BULK AT MOST 1048576: true; the input reads as it did. -/
def lebMetersUptoRow : OpenClaim := { program := "ytpajhgnkagifbaa", sum := "f15605012941c6f5807fcbfe4a048216830e2e7525e83cc16b32d539ac91399f", func := "guipure/guipurelaw02.LebMeters", spec := "lebMeters", apart := false, narrowed := true }
def LebMetersUptoSaid : Prop := lebMetersUptoRow.holds Try.pinned (OpenSpec.upto lebMetersSpec)

/-- 'guipurelaw02.LebOne', WHERE WHAT IT READS IS OF BULK AT MOST 1048576: true; the input reads as it did. -/
def lebOneUptoRow : OpenClaim := { program := "ytpajhgnkagifbaa", sum := "f15605012941c6f5807fcbfe4a048216830e2e7525e83cc16b32d539ac91399f", func := "guipure/guipurelaw02.LebOne", spec := "lebOne", apart := false, narrowed := true }
def LebOneUptoSaid : Prop := lebOneUptoRow.holds Try.pinned (OpenSpec.upto lebOneSpec)

/-- 'guipurelaw01.OctetSets', WHERE WHAT IT READS IS OF BULK AT MOST 1048576: true; the input reads as it did. -/
def octetSetsUptoRow : OpenClaim := { program := "ytpajhgnkagifbaa", sum := "f15605012941c6f5807fcbfe4a048216830e2e7525e83cc16b32d539ac91399f", func := "guipure/guipurelaw01.OctetSets", spec := "octetSets", apart := false, narrowed := true }
def OctetSetsUptoSaid : Prop := octetSetsUptoRow.holds Try.pinned (OpenSpec.upto octetSetsSpec)

/-- 'guipurelaw01.OctetWrites', WHERE WHAT IT READS IS OF BULK AT MOST 1048576: true; the input reads as it did. -/
def octetWritesUptoRow : OpenClaim := { program := "ytpajhgnkagifbaa", sum := "f15605012941c6f5807fcbfe4a048216830e2e7525e83cc16b32d539ac91399f", func := "guipure/guipurelaw01.OctetWrites", spec := "octetWrites", apart := false, narrowed := true }
def OctetWritesUptoSaid : Prop := octetWritesUptoRow.holds Try.pinned (OpenSpec.upto octetWritesSpec)

/-- 'guipurelaw02.LebPads', WHERE WHAT IT READS IS OF BULK AT MOST 1048576: true; the input reads as it did. -/
def lebPadsUptoRow : OpenClaim := { program := "ytpajhgnkagifbaa", sum := "f15605012941c6f5807fcbfe4a048216830e2e7525e83cc16b32d539ac91399f", func := "guipure/guipurelaw02.LebPads", spec := "lebPads", apart := false, narrowed := true }
def LebPadsUptoSaid : Prop := lebPadsUptoRow.holds Try.pinned (OpenSpec.upto lebPadsSpec)

/-- 'guipuretop.WholeNumbers', WHERE WHAT IT READS IS OF BULK AT MOST 1048576: true; the input reads as it did. -/
def wholeNumbersUptoRow : OpenClaim := { program := "ytpajhgnkagifbaa", sum := "f15605012941c6f5807fcbfe4a048216830e2e7525e83cc16b32d539ac91399f", func := "guipure/guipuretop.WholeNumbers", spec := "wholeNumbers", apart := false, narrowed := true }
def WholeNumbersUptoSaid : Prop := wholeNumbersUptoRow.holds Try.pinned (OpenSpec.upto wholeNumbersSpec)

end Rows
end Go.Proofs.Ytpajhgnkagifbaa
