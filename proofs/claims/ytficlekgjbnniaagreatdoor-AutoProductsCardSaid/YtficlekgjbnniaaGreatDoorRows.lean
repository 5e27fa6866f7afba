/-
  NARROWER THAN 'FOR EVERY INPUT', by the rows' own cells (each row's printed sentence says how): AutoShortest: loops, laid · AutoPrefix: loops, laid · AutoFirst: loops, laid · AutoWithin: loops, laid · AutoLongest: loops, laid · AutoProducts: loops, laid.
  DERIVED. THE GIVEN ROWS OF THIS SEAT. 6 by the template 'for every input the law returns true; each argument reads behind the call as it read before'; 0 by the template 'total and deterministic' (their statements: YtficlekgjbnniaaGreatDoorTotals.lean).
  GIVEN WITH THE SEED: the statements are not yours to turn. If you find one false, say at which input.
  Laid BY PROGRAM, IN A SANDBOX (cutbox-rows.mjs): the forced cells as the released guide's own fill.sh prints them over the translation 5dd73edc0a91184e… (all of the seat's roots in one cut). By AI agents, Wed Nov 11 2026. No macro, syntax, notation, axiom, sorry.
-/
import Derived.Test.YtficlekgjbnniaaGreatDoorChecked
import GoSem.Claim
import GoSem.ClaimJoined
import GoSem.ClaimMapViews
import Derived.JoinedTies
import Derived.KernelRfl
namespace Go.Proofs.YtficlekgjbnniaaGreatDoor
/- THE CELL 'sum', in the pinned program and in every row, IS THE sha256 OF THE DUMP (.gsa) THAT YtficlekgjbnniaaGreatDoorProg.lean LOADS. Nothing in Lean hashes anything: it is a label: what it is worth is what the hold of that sum in a sandbox is worth. -/
noncomputable def Tryz.pinned : Pinned := { name := "ytficlekgjbnniaagreatdoor", sum := "5dd73edc0a91184e1aa155c897acb56cd012851ee65e5cf1cc3d8a9074917bca", checked := Tryz.checked }
namespace Rows
def none {H : Type} : Left H := { results := [], args := [] }

/- WHAT THE LISTED PACKAGE-LEVEL VARIABLES READ AS WHEN THE CALL BEGINS. Each datum BY PROGRAM (the guide's laid-datum.mjs) off the statement by which the dump's own 'gosem.cut.vars' lays the variable. In a bare row this is a premise. The card (YtficlekgjbnniaaGreatDoorCards.lean) ties it to the program's text. -/
def laid_math_bits_deBruijn64tab {H : Type} : DataW H := .agg [.lit (.int .u8 0), .lit (.int .u8 1), .lit (.int .u8 56), .lit (.int .u8 2), .lit (.int .u8 57), .lit (.int .u8 49), .lit (.int .u8 28), .lit (.int .u8 3), .lit (.int .u8 61), .lit (.int .u8 58), .lit (.int .u8 42), .lit (.int .u8 50), .lit (.int .u8 38), .lit (.int .u8 29), .lit (.int .u8 17), .lit (.int .u8 4), .lit (.int .u8 62), .lit (.int .u8 47), .lit (.int .u8 59), .lit (.int .u8 36), .lit (.int .u8 45), .lit (.int .u8 43), .lit (.int .u8 51), .lit (.int .u8 22), .lit (.int .u8 53), .lit (.int .u8 39), .lit (.int .u8 33), .lit (.int .u8 30), .lit (.int .u8 24), .lit (.int .u8 18), .lit (.int .u8 12), .lit (.int .u8 5), .lit (.int .u8 63), .lit (.int .u8 55), .lit (.int .u8 48), .lit (.int .u8 27), .lit (.int .u8 60), .lit (.int .u8 41), .lit (.int .u8 37), .lit (.int .u8 16), .lit (.int .u8 46), .lit (.int .u8 35), .lit (.int .u8 44), .lit (.int .u8 21), .lit (.int .u8 52), .lit (.int .u8 32), .lit (.int .u8 23), .lit (.int .u8 11), .lit (.int .u8 54), .lit (.int .u8 26), .lit (.int .u8 40), .lit (.int .u8 15), .lit (.int .u8 34), .lit (.int .u8 20), .lit (.int .u8 31), .lit (.int .u8 10), .lit (.int .u8 25), .lit (.int .u8 14), .lit (.int .u8 19), .lit (.int .u8 9), .lit (.int .u8 13), .lit (.int .u8 8), .lit (.int .u8 7), .lit (.int .u8 6)]

/-- 'guipurelaw09.AutoShortest': WHATEVER THE INPUT: true; the input reads as it did. -/
def autoShortestSpec : ChangeSpec := { name := "autoShortest", fn := fun _ => fun
  | [d1, d2] => { results := [.lit (.bool true)], args := [d1, d2] }
  | _ => none }
def autoShortestRow : OpenClaim := { program := "ytficlekgjbnniaagreatdoor", sum := "5dd73edc0a91184e1aa155c897acb56cd012851ee65e5cf1cc3d8a9074917bca", func := "guipure/guipurelaw09.AutoShortest", spec := "autoShortest", inPlace := ["internal/bytealg.IndexByteString", "internal/bytealg.IndexString", "math/bits.Add64"], unfollowed := true, recurses := true, named := ["internal/bytealg.MaxLen", "math/bits.deBruijn64tab"], loops := true, plainKeys := false, apart := false, laid := [("math/bits.deBruijn64tab", laid_math_bits_deBruijn64tab)] }
def AutoShortestSaid : Prop := autoShortestRow.holds Tryz.pinned (OpenSpec.ofChange autoShortestSpec)

/-- ITS FALSE NEIGHBOUR: 'it returns false'. Refute it at one input. -/
def autoShortestWrong : ChangeSpec := { name := "autoShortest", fn := fun _ => fun
  | [d1, d2] => { results := [.lit (.bool false)], args := [d1, d2] }
  | _ => none }
def AutoShortestWrongFalsely : Prop := autoShortestRow.holds Tryz.pinned (OpenSpec.ofChange autoShortestWrong)

/-- 'guipurelaw09.AutoPrefix': WHATEVER THE INPUT: true; the input reads as it did. -/
def autoPrefixSpec : ChangeSpec := { name := "autoPrefix", fn := fun _ => fun
  | [d1, d2] => { results := [.lit (.bool true)], args := [d1, d2] }
  | _ => none }
def autoPrefixRow : OpenClaim := { program := "ytficlekgjbnniaagreatdoor", sum := "5dd73edc0a91184e1aa155c897acb56cd012851ee65e5cf1cc3d8a9074917bca", func := "guipure/guipurelaw09.AutoPrefix", spec := "autoPrefix", inPlace := ["internal/bytealg.IndexByteString", "internal/bytealg.IndexString", "math/bits.Add64"], unfollowed := true, recurses := true, named := ["internal/bytealg.MaxLen", "math/bits.deBruijn64tab"], loops := true, plainKeys := false, apart := false, laid := [("math/bits.deBruijn64tab", laid_math_bits_deBruijn64tab)] }
def AutoPrefixSaid : Prop := autoPrefixRow.holds Tryz.pinned (OpenSpec.ofChange autoPrefixSpec)

/-- ITS FALSE NEIGHBOUR: 'it returns false'. Refute it at one input. -/
def autoPrefixWrong : ChangeSpec := { name := "autoPrefix", fn := fun _ => fun
  | [d1, d2] => { results := [.lit (.bool false)], args := [d1, d2] }
  | _ => none }
def AutoPrefixWrongFalsely : Prop := autoPrefixRow.holds Tryz.pinned (OpenSpec.ofChange autoPrefixWrong)

/-- 'guipurelaw09.AutoFirst': WHATEVER THE INPUT: true; the input reads as it did. -/
def autoFirstSpec : ChangeSpec := { name := "autoFirst", fn := fun _ => fun
  | [d1, d2] => { results := [.lit (.bool true)], args := [d1, d2] }
  | _ => none }
def autoFirstRow : OpenClaim := { program := "ytficlekgjbnniaagreatdoor", sum := "5dd73edc0a91184e1aa155c897acb56cd012851ee65e5cf1cc3d8a9074917bca", func := "guipure/guipurelaw09.AutoFirst", spec := "autoFirst", inPlace := ["internal/bytealg.IndexByteString", "internal/bytealg.IndexString", "math/bits.Add64"], unfollowed := true, recurses := true, named := ["internal/bytealg.MaxLen", "math/bits.deBruijn64tab"], loops := true, plainKeys := false, apart := false, laid := [("math/bits.deBruijn64tab", laid_math_bits_deBruijn64tab)] }
def AutoFirstSaid : Prop := autoFirstRow.holds Tryz.pinned (OpenSpec.ofChange autoFirstSpec)

/-- ITS FALSE NEIGHBOUR: 'it returns false'. Refute it at one input. -/
def autoFirstWrong : ChangeSpec := { name := "autoFirst", fn := fun _ => fun
  | [d1, d2] => { results := [.lit (.bool false)], args := [d1, d2] }
  | _ => none }
def AutoFirstWrongFalsely : Prop := autoFirstRow.holds Tryz.pinned (OpenSpec.ofChange autoFirstWrong)

/-- 'guipurelaw09.AutoWithin': WHATEVER THE INPUT: true; the input reads as it did. -/
def autoWithinSpec : ChangeSpec := { name := "autoWithin", fn := fun _ => fun
  | [d1, d2, d3] => { results := [.lit (.bool true)], args := [d1, d2, d3] }
  | _ => none }
def autoWithinRow : OpenClaim := { program := "ytficlekgjbnniaagreatdoor", sum := "5dd73edc0a91184e1aa155c897acb56cd012851ee65e5cf1cc3d8a9074917bca", func := "guipure/guipurelaw09.AutoWithin", spec := "autoWithin", inPlace := ["internal/bytealg.IndexByteString", "internal/bytealg.IndexString", "math/bits.Add64"], unfollowed := true, recurses := true, named := ["internal/bytealg.MaxLen", "math/bits.deBruijn64tab"], loops := true, plainKeys := false, apart := false, laid := [("math/bits.deBruijn64tab", laid_math_bits_deBruijn64tab)] }
def AutoWithinSaid : Prop := autoWithinRow.holds Tryz.pinned (OpenSpec.ofChange autoWithinSpec)

/-- ITS FALSE NEIGHBOUR: 'it returns false'. Refute it at one input. -/
def autoWithinWrong : ChangeSpec := { name := "autoWithin", fn := fun _ => fun
  | [d1, d2, d3] => { results := [.lit (.bool false)], args := [d1, d2, d3] }
  | _ => none }
def AutoWithinWrongFalsely : Prop := autoWithinRow.holds Tryz.pinned (OpenSpec.ofChange autoWithinWrong)

/-- 'guipurelaw09.AutoLongest': WHATEVER THE INPUT: true; the input reads as it did. -/
def autoLongestSpec : ChangeSpec := { name := "autoLongest", fn := fun _ => fun
  | [d1, d2] => { results := [.lit (.bool true)], args := [d1, d2] }
  | _ => none }
def autoLongestRow : OpenClaim := { program := "ytficlekgjbnniaagreatdoor", sum := "5dd73edc0a91184e1aa155c897acb56cd012851ee65e5cf1cc3d8a9074917bca", func := "guipure/guipurelaw09.AutoLongest", spec := "autoLongest", inPlace := ["internal/bytealg.IndexByteString", "internal/bytealg.IndexString", "math/bits.Add64"], unfollowed := true, recurses := true, named := ["internal/bytealg.MaxLen", "math/bits.deBruijn64tab"], loops := true, plainKeys := false, apart := false, laid := [("math/bits.deBruijn64tab", laid_math_bits_deBruijn64tab)] }
def AutoLongestSaid : Prop := autoLongestRow.holds Tryz.pinned (OpenSpec.ofChange autoLongestSpec)

/-- ITS FALSE NEIGHBOUR: 'it returns false'. Refute it at one input. -/
def autoLongestWrong : ChangeSpec := { name := "autoLongest", fn := fun _ => fun
  | [d1, d2] => { results := [.lit (.bool false)], args := [d1, d2] }
  | _ => none }
def AutoLongestWrongFalsely : Prop := autoLongestRow.holds Tryz.pinned (OpenSpec.ofChange autoLongestWrong)

/-- 'guipurelaw09.AutoProducts': WHATEVER THE INPUT: true; the input reads as it did. -/
def autoProductsSpec : ChangeSpec := { name := "autoProducts", fn := fun _ => fun
  | [d1, d2, d3] => { results := [.lit (.bool true)], args := [d1, d2, d3] }
  | _ => none }
def autoProductsRow : OpenClaim := { program := "ytficlekgjbnniaagreatdoor", sum := "5dd73edc0a91184e1aa155c897acb56cd012851ee65e5cf1cc3d8a9074917bca", func := "guipure/guipurelaw09.AutoProducts", spec := "autoProducts", inPlace := ["internal/bytealg.IndexByteString", "internal/bytealg.IndexString", "math/bits.Add64"], unfollowed := true, recurses := true, named := ["internal/bytealg.MaxLen", "math/bits.deBruijn64tab"], loops := true, plainKeys := false, apart := false, laid := [("math/bits.deBruijn64tab", laid_math_bits_deBruijn64tab)] }
def AutoProductsSaid : Prop := autoProductsRow.holds Tryz.pinned (OpenSpec.ofChange autoProductsSpec)

/-- ITS FALSE NEIGHBOUR: 'it returns false'. Refute it at one input. -/
def autoProductsWrong : ChangeSpec := { name := "autoProducts", fn := fun _ => fun
  | [d1, d2, d3] => { results := [.lit (.bool false)], args := [d1, d2, d3] }
  | _ => none }
def AutoProductsWrongFalsely : Prop := autoProductsRow.holds Tryz.pinned (OpenSpec.ofChange autoProductsWrong)

/- THE SECOND FORM. 'bulk': how many values and letters a reading holds, each counted each time it is reached (what is shared counts as often as it is met; a slice's spare places count too). A statement '..UptoSaid' is the law's where the arguments, and the package variables that the reading takes, are together of bulk at most 1048576: NARROWER than '..Said'. Prove '..Said' where nothing that the law and all that it calls make is longer than what came in: it says more and counts as full. Else prove '..UptoSaid'. A law counts once. -/
mutual
def uptoBulk {H : Type} : DataW H → Nat
  | .lit (.string bytes) => bytes.length + 1
  | .lit _ => 1
  | .nil => 1
  | .ptr d => uptoBulk d + 1
  | .slice elems spare => uptoBulkAll elems + uptoBulkAll spare + 1
  | .agg parts => uptoBulkAll parts + 1
  | .iface _ d => uptoBulk d + 1
  | .map entries => uptoBulkEntries entries + 1
  | .held _ => 1
def uptoBulkAll {H : Type} : List (DataW H) → Nat
  | [] => 0
  | d :: r => uptoBulk d + uptoBulkAll r
def uptoBulkEntries {H : Type} : List (Lit × DataW H) → Nat
  | [] => 0
  | x :: r => uptoBulkEntry x + uptoBulkEntries r
def uptoBulkEntry {H : Type} : Lit × DataW H → Nat
  | (.string bytes, d) => bytes.length + uptoBulk d + 1
  | (_, d) => uptoBulk d + 1
 end
def uptoSmall : (H : Type) → List (DataW H) → Bool := fun _ ds => decide (uptoBulkAll ds ≤ 1048576)
def OpenSpec.upto (s : _root_.Go.ChangeSpec) : _root_.Go.OpenSpec := { _root_.Go.OpenSpec.ofChange s with cond := some uptoSmall }

/-- 'guipurelaw09.AutoShortest', WHERE WHAT IT READS IS OF BULK AT MOST 1048576: true; the input reads as it did. -/
def autoShortestUptoRow : OpenClaim := { program := "ytficlekgjbnniaagreatdoor", sum := "5dd73edc0a91184e1aa155c897acb56cd012851ee65e5cf1cc3d8a9074917bca", func := "guipure/guipurelaw09.AutoShortest", spec := "autoShortest", inPlace := ["internal/bytealg.IndexByteString", "internal/bytealg.IndexString", "math/bits.Add64"], unfollowed := true, recurses := true, named := ["internal/bytealg.MaxLen", "math/bits.deBruijn64tab"], loops := true, plainKeys := false, apart := false, laid := [("math/bits.deBruijn64tab", laid_math_bits_deBruijn64tab)], narrowed := true }
def AutoShortestUptoSaid : Prop := autoShortestUptoRow.holds Tryz.pinned (OpenSpec.upto autoShortestSpec)

/-- 'guipurelaw09.AutoPrefix', WHERE WHAT IT READS IS OF BULK AT MOST 1048576: true; the input reads as it did. -/
def autoPrefixUptoRow : OpenClaim := { program := "ytficlekgjbnniaagreatdoor", sum := "5dd73edc0a91184e1aa155c897acb56cd012851ee65e5cf1cc3d8a9074917bca", func := "guipure/guipurelaw09.AutoPrefix", spec := "autoPrefix", inPlace := ["internal/bytealg.IndexByteString", "internal/bytealg.IndexString", "math/bits.Add64"], unfollowed := true, recurses := true, named := ["internal/bytealg.MaxLen", "math/bits.deBruijn64tab"], loops := true, plainKeys := false, apart := false, laid := [("math/bits.deBruijn64tab", laid_math_bits_deBruijn64tab)], narrowed := true }
def AutoPrefixUptoSaid : Prop := autoPrefixUptoRow.holds Tryz.pinned (OpenSpec.upto autoPrefixSpec)

/-- 'guipurelaw09.AutoFirst', WHERE WHAT IT READS IS OF BULK AT MOST 1048576: true; the input reads as it did. -/
def autoFirstUptoRow : OpenClaim := { program := "ytficlekgjbnniaagreatdoor", sum := "5dd73edc0a91184e1aa155c897acb56cd012851ee65e5cf1cc3d8a9074917bca", func := "guipure/guipurelaw09.AutoFirst", spec := "autoFirst", inPlace := ["internal/bytealg.IndexByteString", "internal/bytealg.IndexString", "math/bits.Add64"], unfollowed := true, recurses := true, named := ["internal/bytealg.MaxLen", "math/bits.deBruijn64tab"], loops := true, plainKeys := false, apart := false, laid := [("math/bits.deBruijn64tab", laid_math_bits_deBruijn64tab)], narrowed := true }
def AutoFirstUptoSaid : Prop := autoFirstUptoRow.holds Tryz.pinned (OpenSpec.upto autoFirstSpec)

/-- 'guipurelaw09.AutoWithin', WHERE WHAT IT READS IS OF BULK AT MOST 1048576: true; the input reads as it did. -/
def autoWithinUptoRow : OpenClaim := { program := "ytficlekgjbnniaagreatdoor", sum := "5dd73edc0a91184e1aa155c897acb56cd012851ee65e5cf1cc3d8a9074917bca", func := "guipure/guipurelaw09.AutoWithin", spec := "autoWithin", inPlace := ["internal/bytealg.IndexByteString", "internal/bytealg.IndexString", "math/bits.Add64"], unfollowed := true, recurses := true, named := ["internal/bytealg.MaxLen", "math/bits.deBruijn64tab"], loops := true, plainKeys := false, apart := false, laid := [("math/bits.deBruijn64tab", laid_math_bits_deBruijn64tab)], narrowed := true }
def AutoWithinUptoSaid : Prop := autoWithinUptoRow.holds Tryz.pinned (OpenSpec.upto autoWithinSpec)

/-- 'guipurelaw09.AutoLongest', WHERE WHAT IT READS IS OF BULK AT MOST 1048576: true; the input reads as it did. -/
def autoLongestUptoRow : OpenClaim := { program := "ytficlekgjbnniaagreatdoor", sum := "5dd73edc0a91184e1aa155c897acb56cd012851ee65e5cf1cc3d8a9074917bca", func := "guipure/guipurelaw09.AutoLongest", spec := "autoLongest", inPlace := ["internal/bytealg.IndexByteString", "internal/bytealg.IndexString", "math/bits.Add64"], unfollowed := true, recurses := true, named := ["internal/bytealg.MaxLen", "math/bits.deBruijn64tab"], loops := true, plainKeys := false, apart := false, laid := [("math/bits.deBruijn64tab", laid_math_bits_deBruijn64tab)], narrowed := true }
def AutoLongestUptoSaid : Prop := autoLongestUptoRow.holds Tryz.pinned (OpenSpec.upto autoLongestSpec)

/-- 'guipurelaw09.AutoProducts', WHERE WHAT IT READS IS OF BULK AT MOST 1048576: true; the input reads as it did. -/
def autoProductsUptoRow : OpenClaim := { program := "ytficlekgjbnniaagreatdoor", sum := "5dd73edc0a91184e1aa155c897acb56cd012851ee65e5cf1cc3d8a9074917bca", func := "guipure/guipurelaw09.AutoProducts", spec := "autoProducts", inPlace := ["internal/bytealg.IndexByteString", "internal/bytealg.IndexString", "math/bits.Add64"], unfollowed := true, recurses := true, named := ["internal/bytealg.MaxLen", "math/bits.deBruijn64tab"], loops := true, plainKeys := false, apart := false, laid := [("math/bits.deBruijn64tab", laid_math_bits_deBruijn64tab)], narrowed := true }
def AutoProductsUptoSaid : Prop := autoProductsUptoRow.holds Tryz.pinned (OpenSpec.upto autoProductsSpec)

end Rows
end Go.Proofs.YtficlekgjbnniaaGreatDoor
