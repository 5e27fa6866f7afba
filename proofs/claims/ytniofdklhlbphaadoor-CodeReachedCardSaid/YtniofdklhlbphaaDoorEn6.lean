/- A cut between two pieces of code: what holds there is told once, however many ways lead to it. -/
import Derived.Test.YtniofdklhlbphaaDoorEn2
namespace Go.E
open Go
theorem SeqOk.at {va : Kt → Kt} {B : Kt} {ws : List Nat} {env env0 : Env} {ro : Ro} {own : Chs} {ι : Type} (_hk : Keep ws env env0) (f : ι → Env) (O : ι → Chs) (I : ι → Prop)
    (h1 : va (Wk fun env' ro' own' => ∃ i, (ro' = ro ∧ I i) ∧ Sub (f i ++ env0) env' ∧ Sup own' (O i)) env ro own)
    (h2 : ∀ i, I i → B (f i ++ env0) ro (O i)) : SeqOk (fun J => va J env ro own) B ro :=
  SeqOk.cut (fun i => f i ++ env0) O (fun i r => r = ro ∧ I i) h1 (fun i ro' _ h => by obtain ⟨rfl, h⟩ := h; exact h2 i h)
/-- The same, where more may last behind it. -/
theorem SeqOk.atR {va : Kt → Kt} {B : Kt} {ws : List Nat} {env env0 : Env} {ro : Ro} {own : Chs} {ι : Type} (_hk : Keep ws env env0) (f : ι → Env) (O : ι → Chs) (I : ι → Ro → Prop)
    (h1 : va (Wk fun env' ro' own' => ∃ i, I i ro' ∧ Sub (f i ++ env0) env' ∧ Sup own' (O i)) env ro own)
    (h2 : ∀ i ro', Le ro ro' → I i ro' → B (f i ++ env0) ro' (O i)) : SeqOk (fun J => va J env ro own) B ro :=
  SeqOk.cut (fun i => f i ++ env0) O I h1 h2
end Go.E
