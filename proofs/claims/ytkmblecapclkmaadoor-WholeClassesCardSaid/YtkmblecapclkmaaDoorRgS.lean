/- class.Of of a byte in a slice of one's own, which stays one's own. -/
import Derived.Test.YtkmblecapclkmaaDoorRgN
import Derived.Test.YtkmblecapclkmaaDoorRxA
namespace Go.Proofs.YtkmblecapclkmaaDoor
open Go Go.E
set_option linter.unusedVariables false
set_option linter.unusedSimpArgs false
set_option maxRecDepth 10000
section
variable {ro : Ro} {own r : Chs} {K : Value → Ro → Chs → Prop} {g : Chunk → Chs}
theorem ofB_ok {b : Nat} {x : Nat} (hx : x < 256) (hk : K (.agg (setV (ofD x)).toArray) ro (.sl (some ⟨b, 0, none⟩) 1 1 5 1 [.int .u8 (x : Int)] :: r)) : CallOk Tryd.prog 32 #[.slice (some ⟨b, 0, none⟩) 1 1] ro (.sl (some ⟨b, 0, none⟩) 1 1 5 1 [.int .u8 (x : Int)] :: r) K := by
  have hu : (UInt8.ofNat x).toNat = x := UInt8.toNat_ofNat_of_lt' hx
  refine CallOk.borrow (l := [.sl (some ⟨b, 0, none⟩) 1 1 5 1 [.int .u8 (x : Int)]]) (own' := r) (.refl _) (fun ro1 hl1 hc1 => ?_) hk
  have hB : Bys ro1 (some ⟨b, 0, none⟩) [UInt8.ofNat x].length 1 [UInt8.ofNat x] := by
    have := Rs.last (hc1 (.sl (some ⟨b, 0, none⟩) 1 1 5 1 [.int .u8 (x : Int)]) (by simp))
    show Rs ro1 _ 1 1 1 [.int .u8 ((UInt8.ofNat x).toNat : Int)]
    rw [hu]; exact this
  refine of_ok (l := [UInt8.ofNat x]) hB (by simp) (fun s h1 h2 => ?_)
  have : s = ofD x := SetD.ext h1 (of_in hx) fun d hd => by
    have e := h2 (UInt8.ofNat d)
    rw [UInt8.toNat_ofNat_of_lt' hd] at e
    rw [e, of_has hx hd, decide_eq_decide, List.mem_singleton]
    constructor
    · intro h; have := congrArg UInt8.toNat h; rwa [UInt8.toNat_ofNat_of_lt' hd, hu] at this
    · intro h; rw [h]
  rw [this]
  exact ⟨rfl, rfl⟩
end
end Go.Proofs.YtkmblecapclkmaaDoor
