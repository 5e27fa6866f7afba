/- Contracts of class: Text. -/
import Derived.Test.YtkpdnpcmeadggaaC7
import Derived.Test.YtkpdnpcmeadggaaC5
namespace Go.Proofs.Ytkpdnpcmeadggaa
open Go Go.E
set_option linter.unusedVariables false
set_option maxRecDepth 10000
/-- Where a run ends. -/
def endF (s : SetD) : Nat → Nat → Nat
  | 0, t => t
  | n + 1, t => if t < 255 ∧ s.has (t + 1) = true then endF s n (t + 1) else t
def runsF (s : SetD) : Nat → Nat → List UInt8
  | 0, _ => []
  | n + 1, c => if 256 ≤ c then [] else if s.has c = true then nameD c ++ (if c < endF s 256 c then 45 :: nameD (endF s 256 c) else []) ++ runsF s n (endF s 256 c + 1) else runsF s n (c + 1)
def textD (s : SetD) : List UInt8 := if s = allD then [46] else if s.len = 1 then (match (List.range 256).find? s.has with
  | some c => nameD c
  | none => []) else 91 :: (runsF s 256 0 ++ [93])
theorem endF_ge (s : SetD) : ∀ (n t : Nat), t ≤ 255 → t ≤ endF s n t ∧ endF s n t ≤ 255
  | 0, t, h => ⟨Nat.le_refl _, h⟩
  | n + 1, t, h => by
    rw [endF]
    split
    · have := endF_ge s n (t + 1) (by omega); omega
    · omega
theorem endF_fuel (s : SetD) : ∀ (n m t : Nat), 255 ≤ t + n → 255 ≤ t + m → t ≤ 255 → endF s n t = endF s m t
  | 0, 0, t, _, _, _ => rfl
  | 0, m + 1, t, h1, h2, h3 => by rw [endF, endF, if_neg (by omega)]
  | n + 1, 0, t, h1, h2, h3 => by rw [endF, endF, if_neg (by omega)]
  | n + 1, m + 1, t, h1, h2, h3 => by
    rw [endF, endF]
    split
    · exact endF_fuel s n m (t + 1) (by omega) (by omega) (by omega)
    · rfl
theorem nameD_len (c : Nat) : 1 ≤ (nameD c).length ∧ (nameD c).length ≤ 4 := by unfold nameD; split <;> simp
section
variable {ro : Ro} {own r : Chs} {K : Value → Ro → Chs → Prop} {g : Chunk → Chs}
end
end Go.Proofs.Ytkpdnpcmeadggaa
