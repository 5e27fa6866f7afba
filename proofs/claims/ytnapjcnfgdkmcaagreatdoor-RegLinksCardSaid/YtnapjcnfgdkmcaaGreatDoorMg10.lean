/- Texts of a walk, one behind the other. -/
import Derived.Test.YtnapjcnfgdkmcaaGreatDoorMg2
import Derived.Test.YtnapjcnfgdkmcaaGreatDoorMg3
import Derived.Test.YtnapjcnfgdkmcaaGreatDoorMg7
import Derived.Test.YtnapjcnfgdkmcaaGreatDoorMg8
import Derived.Test.YtnapjcnfgdkmcaaGreatDoorMg9
section
/- Law 15: its constant texts, read and looked over by the kernel. No program in sight. -/
namespace Go.Proofs.YtnapjcnfgdkmcaaGreatDoor
open Go Go.E
set_option linter.unusedVariables false
set_option linter.unusedSectionVars false
set_option linter.unusedSimpArgs false
set_option maxRecDepth 100000
def text15A : List UInt8 := [109, 97, 105, 110, 32, 61, 32, 123, 32, 110, 58, 32, 117, 56, 32, 61, 32, 115, 105, 122, 101, 40, 100, 41, 59, 32, 100, 58, 32, 98, 121, 116, 101, 115, 91, 110, 93, 59, 32, 99, 58, 32, 117, 51, 50, 98, 101, 32, 61, 32, 99, 114, 99, 40, 110, 46, 46, 100, 41, 59, 32, 121, 58, 32, 123, 32, 107, 58, 32, 115, 119, 105, 116, 99, 104, 32, 110, 32, 123, 32, 48, 58, 32, 101, 109, 112, 116, 121, 59, 32, 125, 59, 32, 125, 59, 32, 125, 59]
def spec15A : SpecD := ⟨[⟨1, 1, false, false, false, 0, 255, [], [], 0, 0, [], [], [], [], 0, [], 0⟩, ⟨4, 0, false, false, false, 0, 0, [], [110], 1, 0, [], [], [], [], 0, [], 0⟩, ⟨1, 4, false, false, false, 0, 4294967295, [], [], 0, 0, [], [], [], [], 0, [], 0⟩, ⟨12, 0, false, false, false, 0, 0, [], [], 0, 0, [], [], [], [], 0, [], 0⟩, ⟨9, 0, false, false, false, 0, 0, [], [], 0, 0, [], [], [], [110], 0, [⟨0, 3⟩], -1⟩, ⟨5, 0, false, false, false, 0, 0, [], [], 0, 0, [], [], [⟨[107], 4, 0, [], []⟩], [], 0, [], 0⟩, ⟨5, 0, false, false, false, 0, 0, [], [], 0, 0, [], [], [⟨[110], 0, 1, [100], []⟩, ⟨[100], 1, 0, [], []⟩, ⟨[99], 2, 3, [110], [100]⟩, ⟨[121], 5, 0, [], []⟩], [], 0, [], 0⟩], [⟨[109, 97, 105, 110], 6⟩]⟩
def text15B : List UInt8 := [109, 97, 105, 110, 32, 61, 32, 123, 32, 100, 58, 32, 98, 121, 116, 101, 115, 91, 110, 93, 59, 32, 110, 58, 32, 117, 56, 59, 32, 125, 59]
def spec15B : SpecD := ⟨[⟨4, 0, false, false, false, 0, 0, [], [110], 1, 0, [], [], [], [], 0, [], 0⟩, ⟨1, 1, false, false, false, 0, 255, [], [], 0, 0, [], [], [], [], 0, [], 0⟩, ⟨5, 0, false, false, false, 0, 0, [], [], 0, 0, [], [], [⟨[100], 0, 0, [], []⟩, ⟨[110], 1, 0, [], []⟩], [], 0, [], 0⟩], [⟨[109, 97, 105, 110], 2⟩]⟩
def text15C : List UInt8 := [109, 97, 105, 110, 32, 61, 32, 123, 32, 110, 58, 32, 117, 56, 32, 61, 32, 115, 105, 122, 101, 40, 100, 41, 59, 32, 100, 58, 32, 98, 121, 116, 101, 115, 91, 50, 42, 110, 93, 59, 32, 125, 59]
def spec15C : SpecD := ⟨[⟨1, 1, false, false, false, 0, 255, [], [], 0, 0, [], [], [], [], 0, [], 0⟩, ⟨4, 0, false, false, false, 0, 0, [], [110], 2, 0, [], [], [], [], 0, [], 0⟩, ⟨5, 0, false, false, false, 0, 0, [], [], 0, 0, [], [], [⟨[110], 0, 1, [100], []⟩, ⟨[100], 1, 0, [], []⟩], [], 0, [], 0⟩], [⟨[109, 97, 105, 110], 2⟩]⟩
def text15D : List UInt8 := [97, 32, 61, 32, 98, 121, 116, 101, 115, 91, 110, 93, 59, 32, 109, 97, 105, 110, 32, 61, 32, 123, 32, 110, 58, 32, 117, 56, 59, 32, 120, 58, 32, 97, 59, 32, 125, 59]
def spec15D : SpecD := ⟨[⟨4, 0, false, false, false, 0, 0, [], [110], 1, 0, [], [], [], [], 0, [], 0⟩, ⟨1, 1, false, false, false, 0, 255, [], [], 0, 0, [], [], [], [], 0, [], 0⟩, ⟨13, 0, false, false, false, 0, 0, [97], [], 0, 0, [], [], [], [], 0, [], 0⟩, ⟨5, 0, false, false, false, 0, 0, [], [], 0, 0, [], [], [⟨[110], 1, 0, [], []⟩, ⟨[120], 2, 0, [], []⟩], [], 0, [], 0⟩], [⟨[97], 0⟩, ⟨[109, 97, 105, 110], 3⟩]⟩
def text15E : List UInt8 := [109, 97, 105, 110, 32, 61, 32, 123, 32, 99, 58, 32, 117, 49, 54, 98, 101, 32, 61, 32, 99, 114, 99, 40, 99, 46, 46, 99, 41, 59, 32, 125, 59]
def spec15E : SpecD := ⟨[⟨1, 2, false, false, false, 0, 65535, [], [], 0, 0, [], [], [], [], 0, [], 0⟩, ⟨5, 0, false, false, false, 0, 0, [], [], 0, 0, [], [], [⟨[99], 0, 3, [99], [99]⟩], [], 0, [], 0⟩], [⟨[109, 97, 105, 110], 1⟩]⟩
def text15F : List UInt8 := [109, 97, 105, 110, 32, 61, 32, 123, 32, 110, 58, 32, 117, 56, 32, 61, 32, 115, 105, 122, 101, 40, 119, 41, 59, 32, 119, 58, 32, 119, 105, 116, 104, 105, 110, 91, 110, 93, 32, 115, 119, 105, 116, 99, 104, 32, 110, 32, 123, 32, 48, 58, 32, 101, 109, 112, 116, 121, 59, 32, 125, 59, 32, 125, 59]
def spec15F : SpecD := ⟨[⟨1, 1, false, false, false, 0, 255, [], [], 0, 0, [], [], [], [], 0, [], 0⟩, ⟨12, 0, false, false, false, 0, 0, [], [], 0, 0, [], [], [], [], 0, [], 0⟩, ⟨9, 0, false, false, false, 0, 0, [], [], 0, 0, [], [], [], [110], 0, [⟨0, 1⟩], -1⟩, ⟨8, 0, false, false, false, 0, 0, [], [110], 1, 0, [2], [], [], [], 0, [], 0⟩, ⟨5, 0, false, false, false, 0, 0, [], [], 0, 0, [], [], [⟨[110], 0, 1, [119], []⟩, ⟨[119], 3, 0, [], []⟩], [], 0, [], 0⟩], [⟨[109, 97, 105, 110], 4⟩]⟩
theorem read15A : parseD text15A = (spec15A, 0, 0) := by kernel_rfl
theorem read15B : parseD text15B = (spec15B, 0, 0) := by kernel_rfl
theorem look15B : errR (lookR spec15B) = (150, 0) := by kernel_rfl
theorem read15C : parseD text15C = (spec15C, 0, 0) := by kernel_rfl
theorem look15C : errR (lookR spec15C) = (151, 2) := by kernel_rfl
theorem read15D : parseD text15D = (spec15D, 0, 0) := by kernel_rfl
theorem look15D : errR (lookR spec15D) = (150, 0) := by kernel_rfl
theorem read15E : parseD text15E = (spec15E, 0, 0) := by kernel_rfl
theorem look15E : errR (lookR spec15E) = (151, 1) := by kernel_rfl
theorem read15F : parseD text15F = (spec15F, 0, 0) := by kernel_rfl
theorem look15F : errR (lookR spec15F) = (151, 4) := by kernel_rfl
theorem look15A : errR (lookR spec15A) = (0, 0) := by kernel_rfl
def lk15 : Lk := match lookR spec15A with | .ok lk => lk | .error _ => noLk
theorem lk15_ok : lookR spec15A = .ok lk15 := by
  have h := look15A
  unfold lk15
  cases hx : lookR spec15A with
  | ok lk => rfl
  | error e =>
    have h2 : errR (.error e) = (0, 0) := hx ▸ h
    exact absurd (congrArg Prod.fst h2) (lookR_err hx)
theorem links15 : linksTo lk15 spec15A.nodes.length = [(1, 6, 0), (4, 6, 0)] := by kernel_rfl
def node15 : NodeD := match spec15A.nodes[6]? with | some d => d | none => ⟨0, 0, false, false, false, 0, 0, [], [], 0, 0, [], [], [], [], 0, [], 0⟩
theorem node15_at : spec15A.nodes[6]? = some node15 := rfl
theorem sums15 : sumsTo node15 node15.fields.length = [(2, 0, 1)] := by kernel_rfl
theorem der15A : derAt node15 1 = 0 := by kernel_rfl
theorem der15B : derAt node15 0 = -1 := by kernel_rfl
theorem by15 : byR spec15A 1 = some (6, 0) := by kernel_rfl
theorem root15 : rootD spec15A = 6 := by kernel_rfl
theorem text15_in : TextIn spec15A ∧ TextIn spec15B ∧ TextIn spec15C ∧ TextIn spec15D ∧ TextIn spec15E ∧ TextIn spec15F := ⟨text_in (by decide), text_in (by decide), text_in (by decide), text_in (by decide), text_in (by decide), text_in (by decide)⟩
end Go.Proofs.YtnapjcnfgdkmcaaGreatDoor
end
section
/- Law 15: code, and what its laws ask first. -/
namespace Go.Proofs.YtnapjcnfgdkmcaaGreatDoor
open Go Go.E
set_option linter.unusedVariables false
set_option linter.unusedSectionVars false
set_option linter.unusedSimpArgs false
set_option maxRecDepth 10000
theorem ask15 {MA : List ((Nat × Nat) × Nat × Nat)} {cA : Nat} (h : AskM [(1, 6, 0), (4, 6, 0)] MA cA) : MA.length = 1 := by
  have hk : ∀ p ∈ MA, p.1 = (6, 0) := fun p hp => by
    obtain ⟨j, hj⟩ := List.getElem?_of_mem hp
    have h1 := (Go.E.get_at h.map.nodup hj).1
    rw [h.is] at h1
    by_cases hp1 : p.1 = (6, 0)
    · exact hp1
    · have : cntL [(1, 6, 0), (4, 6, 0)] p.1 = 0 := by
        unfold cntL
        simp
        exact fun e => hp1 e.symm
      rw [if_pos this] at h1
      cases h1
  have h6 := h.is (6, 0)
  have hn := h.map.nodup
  match MA, hk, h6, hn with
  | [], _, h6, _ => exact absurd h6 (by decide)
  | [x], _, _, _ => rfl
  | x :: y :: r, hk, _, hn =>
    have h1 := hk x (by simp)
    have h2 := hk y (by simp)
    rw [List.map_cons, List.map_cons, List.nodup_cons] at hn
    exact absurd (by rw [h1, h2]; simp) hn.1
theorem run_equalIn_arr3i {P : Program} (w : World) (d : Nat) {t e : TypeId} {x0 x1 x2 y0 y1 y2 : Int} (ht : P.underlying t = some (.array 3 e)) (he : P.underlying e = some (.int .i64)) (hs : (P.info? e).map (·.size) = some 1) :
    (Op.equalIn (d + 2) t (.agg #[.int .i64 x0, .int .i64 x1, .int .i64 x2]) (.agg #[.int .i64 y0, .int .i64 y1, .int .i64 y2])).run P w = .ok (decide (x0 = y0 ∧ x1 = y1 ∧ x2 = y2)) w := by
  have hagg : ∀ w, (isAgg e).run P w = .ok false w := fun w => by simp [isAgg, run_underlying he]
  have hi := fun a b (w : World) => run_equalIn_int (P := P) w d e .i64 .i64 a b he
  rw [Op.equalIn]
  simp [run_underlying ht, sizeOf_of hs, List.range', part, hagg, hi]
  by_cases h0 : x0 = y0 <;> by_cases h1 : x1 = y1 <;> by_cases h2 : x2 = y2 <;> simp [h0, h1, h2]
theorem qeqlArr3 {P : Program} {ty : TypeId} {env : Env} {ro : Ro} {own : Chs} {K : Value → Prop} {t yt e : TypeId} {x y : Operand} {x0 x1 x2 y0 y1 y2 : Int} (hx : ev env x = some (.agg #[.int .i64 x0, .int .i64 x1, .int .i64 x2])) (hy : ev env y = some (.agg #[.int .i64 y0, .int .i64 y1, .int .i64 y2]))
    (ht : P.underlying t = some (.array 3 e)) (he : P.underlying e = some (.int .i64)) (hs : (P.info? e).map (·.size) = some 1) (h2 : P.eqGuardType P.depth t = false) (hk : K (.bool (decide (x0 = y0 ∧ x1 = y1 ∧ x2 = y2)))) : QOk P (.binOp .eql t x y yt) ty env ro own K := by
  refine QOk.pu (fun h hs' d pos af g => .mk fun ρ w hρ _ => ?_) hk
  simp only [execOp, hρ _ _ hx, hρ _ _ hy, Sem.run_bind, run_eqGuard_agg w .eql t x y _ _ h2, Result.andThen_ok, run_eql_struct, run_equalIn_arr3i w 9998 ht he hs, Sem.run_pure]
theorem sums0V_drop : ∀ (l : List (Nat × Int × Int)) {i : Nat} {q : Nat × Int × Int}, l[i]? = some q → ((sums0V l).drop (i * 3)).take 3 = [.int .i64 (q.1 : Int), .int .i64 q.2.1, .int .i64 q.2.2]
  | [], i, q, h => by simp at h
  | x :: l, 0, q, h => by
    simp at h; subst h
    simp [sums0V]
  | x :: l, i + 1, q, h => by
    have h1 := sums0V_drop l (i := i) (by simpa using h)
    rw [show (i + 1) * 3 = i * 3 + 3 by omega]
    rw [show sums0V (x :: l) = [.int .i64 (x.1 : Int), .int .i64 x.2.1, .int .i64 x.2.2] ++ sums0V l by simp [sums0V]]
    rw [show i * 3 + 3 = ([.int .i64 (x.1 : Int), .int .i64 x.2.1, .int .i64 x.2.2] : List Value).length + i * 3 by simp <;> omega, List.drop_append, List.drop_eq_nil_of_le (by simp <;> omega), List.nil_append]
    simpa using h1
section
variable {ro : Ro} {own : Chs} {K : Value → Ro → Chs → Prop}
set_option maxHeartbeats 4000000 in
theorem code15_ok {t : List UInt8} {sp : SpecD} {e : Int × Int} (hS : SpOk ro) (hM : MaxOk ro) (hl : t.length ≤ 100000) (hr : parseD t = (sp, 0, 0)) (hT : TextIn sp) (he : errR (lookR sp) = e)
    (hk : ∀ ro', Le ro ro' → K (.int .i64 e.1) ro' own) : CallOk Tryz.prog 66 #[str t] ro own K := by
  have hcl : ∀ a : SpecA, (Value.agg (specV sp a).toArray).cells.toList = specV sp a := fun a => rfl
  refine CallOk.intro (args := [_]) (rs := [_]) T_ok Tryz.func66 Tryz.call66 rfl rfl (by kernel_rfl) rfl rfl ?_
  repeat (first | exact endA | refine wkP ?_ | refine opB (fun b => ?_) | refine opA (fun a' c' hc1 hc2 => ?_) | (apply GJ.and; exact rfl; intro hg) | (apply GJ.or; exact rfl; intro hg))
  refine parse_ok hS hM hl (fun ro1 a1 hl1 h1 => ?_)
  rw [hr] at h1 ⊢
  dsimp only at h1 ⊢
  have hM1 := hM.le hl1
  have hL1 : Leq ro ro1 := ⟨hl1.1⟩
  repeat (first | exact endA | refine wkP ?_ | refine opB (fun b => ?_) | refine opA (fun a' c' hc1 hc2 => ?_) | (apply GJ.and; exact rfl; intro hg) | (apply GJ.or; exact rfl; intro hg))
  refine rgcheck_ok h1 hM1 hT (fun ro2 hl2 => ?_)
  have hk2 := hk ro2 (hl1.trans hl2)
  have hL2 : Leq ro1 ro2 := ⟨hl2.1⟩
  rw [he]
  obtain ⟨e1, e2⟩ := e
  dsimp only [flV] at hk2 ⊢
  repeat (first | exact endA | refine wkP ?_ | refine opB (fun b => ?_) | refine opA (fun a' c' hc1 hc2 => ?_) | (apply GJ.and; exact rfl; intro hg) | (apply GJ.or; exact rfl; intro hg))
  exact Wk.outS Sup.auto (.refl _) hk2
set_option maxHeartbeats 8000000 in
theorem links15_ok (hS : SpOk ro) (hM : MaxOk ro) (hk : ∀ ro', Le ro ro' → K (.bool true) ro' own) : CallOk Tryz.prog 32 #[] ro own K := by
  refine CallOk.intro (args := []) (rs := [_]) T_ok Tryz.func32 Tryz.call32 rfl rfl (by kernel_rfl) rfl rfl ?_
  repeat (first | exact endA | refine wkP ?_ | refine opB (fun b => ?_) | refine opA (fun a' c' hc1 hc2 => ?_) | (apply GJ.and; exact rfl; intro hg) | (apply GJ.or; exact rfl; intro hg))
  refine args_eq (bs := #[str text15A]) (by kernel_rfl) ?_
  refine parse_ok hS hM (by decide) (fun ro1 a1 hl1 h1 => ?_)
  rw [read15A] at h1 ⊢
  dsimp only at h1 ⊢
  have hS1 := hS.le hl1
  have hM1 := hM.le hl1
  repeat (first | exact endA | refine wkP ?_ | refine opB (fun b => ?_) | refine opA (fun a' c' hc1 hc2 => ?_) | (apply GJ.and; exact rfl; intro hg) | (apply GJ.or; exact rfl; intro hg))
  refine rglinks_ok h1 hM1 text15_in.1 (fun ro2 hl2 e he => by rw [lk15_ok] at he; cases he) (fun ro2 hl2 lk hlk la lc g1 g2 => ?_)
  rw [lk15_ok] at hlk
  cases hlk
  rw [links15] at g1 ⊢
  dsimp only [tup, flV]
  have hM2 := hM1.le hl2
  have hS2 := hS1.le hl2
  have h2 := h1.lift hl2
  repeat (first | exact endA | refine wkP ?_ | refine opB (fun b => ?_) | refine opA (fun a' c' hc1 hc2 => ?_) | (apply GJ.and; exact rfl; intro hg) | (apply GJ.or; exact rfl; intro hg))
  refine rgasked_ok h2 hM2 text15_in.1 (fun lk h => by rw [lk15_ok] at h; cases h; rw [links15]; intro q hq; simp at hq; rcases hq with rfl | rfl <;> exact ⟨by decide, by decide⟩) (fun ro3 hl3 e he => by rw [lk15_ok] at he; cases he) (fun ro3 hl3 lk hlk bA MA cA hA => ?_)
  rw [lk15_ok] at hlk
  cases hlk
  rw [links15] at hA
  have hMA := ask15 hA
  dsimp only [tup, flV]
  have hM3 := hM2.le hl3
  have hS3 := hS2.le hl3
  have h3 := h2.lift hl3
  repeat (first | exact endA | refine wkP ?_ | refine opB (fun b => ?_) | refine opA (fun a' c' hc1 hc2 => ?_) | (apply GJ.and; exact rfl; intro hg) | (apply GJ.or; exact rfl; intro hg))
  refine OpOk.lenG (kt := 78) (et := 3) (kv := twoN) (vv := nN) (l := MA) rfl (by kernel_rfl) ?_
  rw [hMA]
  repeat (first | exact endA | refine wkP ?_ | refine opB (fun b => ?_) | refine opA (fun a' c' hc1 hc2 => ?_) | (apply GJ.and; exact rfl; intro hg) | (apply GJ.or; exact rfl; intro hg))
  refine rgcheck_ok h3 hM3 text15_in.1 (fun ro4 hl4 => ?_)
  rw [look15A]
  dsimp only [flV]
  have hM4 := hM3.le hl4
  have hS4 := hS3.le hl4
  have h4 := h3.lift hl4
  repeat (first | exact endA | refine wkP ?_ | refine opB (fun b => ?_) | refine opA (fun a' c' hc1 hc2 => ?_) | (apply GJ.and; exact rfl; intro hg) | (apply GJ.or; exact rfl; intro hg))
  refine OpOk.neqStruct (q := true) rfl rfl rfl (by rfl) (by kernel_rfl) (by kernel_rfl) (by kernel_rfl) ?_
  obtain ⟨x6, hx6⟩ : ∃ y, a1.xs[6]? = some y := ⟨_, List.getElem?_eq_getElem (by rw [h4.len]; decide)⟩
  have hnd := h4.nodes
  have hd6 := nodesV_drop _ _ _ _ _ node15_at hx6
  have hn6 := h4.each 6 node15 x6 node15_at hx6
  have hrt : rootD spec15A = 6 := root15
  have hnl : spec15A.nodes.length = 7 := rfl
  repeat (first | exact endA | refine wkP ?_ | refine opB (fun b => ?_) | refine opA (fun a' c' hc1 hc2 => ?_) | (apply GJ.and; exact rfl; intro hg) | (apply GJ.or; exact rfl; intro hg))
  rename_i bS bE bG
  refine AllOk.at (ι := Nat) (fun n => [(0, .bool false), (1, ptr' bS), (3, .slice la 2 lc), (7, ptr' n)]) (fun n => .blk n 40 (nodeV node15 x6) :: .sl la 2 lc 70 3 (links0V [(1, 6, 0), (4, 6, 0)]) :: .blk bS 25 (specV spec15A a1) :: own) (fun _ => True) ?_ (fun n _ => ?_)
  · repeat' (first | with_reducible exact vFo.nil | ((with_reducible refine vFo.cons ?_ ?_); refine vOne.at (by rfl) ?_) | ((with_reducible refine vFo.leaf ?_); exact ⟨rfl, _, Sub.auto, Sup.auto, trivial⟩) | (show Stop (OpOk _ _ _ _ _ _ _); refine Stop.mk ?_) | (show Stop (CallOk _ _ _ _ _ _); refine Stop.mk ?_) | (show CallOk _ _ _ _ _ _; refine root_ok h4 ?_) | (show OpOk _ _ _ _ _ _ _; first | refine opB (fun b => ?_) | refine OpOk.loadRow rfl rfl (LdN.at hnd hd6) rfl ?_ | refine OpOk.idx rfl rfl rfl (by omega) AOk.auto ?_ | refine OpOk.storeRow rfl rfl rfl rfl (by rfl) rfl ?_) | refine vFo.stop Sup.auto ?_)
  dsimp only
  repeat (first | exact endA | refine wkN ?_ | refine Bs.all ?_ | (show QOk _ _ _ _ _ _ _; refine QOk.build rfl rfl Nf.auto ?_) | refine opB (fun b => ?_) | refine opA (fun a' c' hc1 hc2 => ?_) | (show GJ _ _ _ _ _ _ _; first | refine GJ.t (by decide) ?_ | refine GJ.f (by decide) ?_ | refine GJ.ft (by decide) ?_ | refine GJ.ff (by decide) ?_) | (show Br _ _ _; first | refine Br.t (by decide) ?_ | refine Br.f (by decide) ?_) | (apply GJ.and; exact rfl; intro hg) | (apply GJ.or; exact rfl; intro hg))
  refine CodeOk.drawnK 12 5 NfT.auto rfl (by kernel_rfl) (by rfl) (by kernel_rfl) ?_
  refine Stop.mk ?_
  refine Bs.mk ⟨[.sl la 2 lc 70 3 (links0V [(1, 6, 0), (4, 6, 0)]), .blk bS 25 (specV spec15A a1)], Sup.auto, ?_⟩
  repeat (first | exact endA | refine wkU ?_ | (show QOk _ _ _ _ _ _ _; refine QOk.build rfl rfl Nf.auto ?_) | (show GJ _ _ _ _ _ _ _; first | with_reducible refine GJ.neF ?_ | with_reducible refine GJ.neT ?_) | (show Br _ _ _; with_reducible refine Br.ne ?_) | refine opB (fun b => ?_) | refine opA (fun a' c' hc1 hc2 => ?_) | (apply GJ.and; exact rfl; intro hg) | (apply GJ.or; exact rfl; intro hg))
  rw [show Int.toNat 0 = 0 from rfl, Nat.add_assoc]
  have hrl : Rds ro4 [.sl la 2 lc 70 3 (links0V [(1, 6, 0), (4, 6, 0)]), .blk bS 25 (specV spec15A a1)] la 2 lc 3 (links0V [(1, 6, 0), (4, 6, 0)]) := Rds.hasSl g1 g2 rfl
  refine QOk.load rfl rfl (Ld.atR hrl (k := 0 * 3 + 0) (v := .int .i64 1) (by rfl) rfl) ?_
  repeat (first | exact endA | refine wkU ?_ | (show QOk _ _ _ _ _ _ _; refine QOk.build rfl rfl Nf.auto ?_) | (show GJ _ _ _ _ _ _ _; first | with_reducible refine GJ.neF ?_ | with_reducible refine GJ.neT ?_) | (show Br _ _ _; with_reducible refine Br.ne ?_) | refine opB (fun b => ?_) | refine opA (fun a' c' hc1 hc2 => ?_) | (apply GJ.and; exact rfl; intro hg) | (apply GJ.or; exact rfl; intro hg))
  refine AllOk.keepK (ι := Nat) (fun w => [(8, ptr' w), (9, .bool true)]) (fun w => .blk w 70 [.int .i64 1, .int .i64 6, .int .i64 0] :: .blk n 40 (nodeV node15 x6) :: .sl la 2 lc 70 3 (links0V [(1, 6, 0), (4, 6, 0)]) :: .blk bS 25 (specV spec15A a1) :: own) (fun w ro' => Le ro4 ro') ?_ (fun w ro5 _ hl5 => ?_)
  · repeat' (first
      | with_reducible exact vFo.nil
      | ((with_reducible refine vFo.cons ?_ ?_); refine vOne.at (by rfl) ?_)
      | exact vFo.leafK ⟨_, by assumption, Sub.auto, Sup.auto⟩
      | (show Stop (OpOk _ _ _ _ _ _ _); refine Stop.mk ?_)
      | (show Stop (CallOk _ _ _ _ _ _); refine Stop.mk ?_)
      | (show CallOk _ _ _ _ _ _; refine rgby_ok h4 hM4 text15_in.1 (i := 1) (fun ro5 hl5 => ?_); rw [by15]; dsimp only [byV, tup, Option.isSome_some])
      | (show OpOk _ _ _ _ _ _ _; first | refine opB (fun b => ?_) | refine OpOk.storeRow rfl rfl rfl rfl (by rfl) rfl ?_)
      | (show vOp _ _ _ _ _ _ _ _ _; refine wkA ?_)
      | (show Sup _ _ ∧ _; refine ⟨Sup.auto, ?_⟩)
      | refine vFo.stop Sup.auto ?_)
    all_goals done
  have h5 := h4.lift hl5
  have hS5 := hS4.le hl5
  have hM5 := hM4.le hl5
  dsimp only [List.cons_append, List.nil_append]
  repeat (first | exact endA | refine wkP ?_ | refine opB (fun b => ?_) | refine opA (fun a' c' hc1 hc2 => ?_) | (apply GJ.and; exact rfl; intro hg) | (apply GJ.or; exact rfl; intro hg))
  rw [show Int.toNat 0 = 0 from rfl]
  have hrl2 : Rds ro5 (.blk w 70 [.int .i64 1, .int .i64 6, .int .i64 0] :: .blk n 40 (nodeV node15 x6) :: .sl la 2 lc 70 3 (links0V [(1, 6, 0), (4, 6, 0)]) :: .blk bS 25 (specV spec15A a1) :: own) la 2 lc 3 (links0V [(1, 6, 0), (4, 6, 0)]) := Rds.hasSl g1 g2 rfl
  have hn65 := h5.each 6 node15 x6 node15_at hx6
  refine QOk.loadRow rfl rfl (LdN.atR hrl2 (links0V_drop _ (i := 0) (q := (1, 6, 0)) rfl) rfl) rfl ?_
  repeat (first | exact endA | refine wkP ?_ | refine opB (fun b => ?_) | refine opA (fun a' c' hc1 hc2 => ?_) | (apply GJ.and; exact rfl; intro hg) | (apply GJ.or; exact rfl; intro hg))
  refine QOk.eqlStruct (q := true) rfl rfl rfl (by rfl) (by kernel_rfl) (by kernel_rfl) (by kernel_rfl) ?_
  repeat (first | exact endA | refine wkP ?_ | refine opB (fun b => ?_) | refine opA (fun a' c' hc1 hc2 => ?_) | (apply GJ.and; exact rfl; intro hg) | (apply GJ.or; exact rfl; intro hg))
  refine rgsums_ok hn65 (by decide) (fun sa sc k1 k2 => ?_)
  rw [sums15] at k1 ⊢
  repeat (first | exact endA | refine wkP ?_ | refine opB (fun b => ?_) | refine opA (fun a' c' hc1 hc2 => ?_) | (apply GJ.and; exact rfl; intro hg) | (apply GJ.or; exact rfl; intro hg))
  refine QOk.buildK (ps := [(0, .const (.int .i64 2)), (1, .const (.int .i64 0)), (2, .const (.int .i64 1))]) [.int .i64 2, .int .i64 0, .int .i64 1] rfl (by kernel_rfl) ?_
  repeat (first | exact endA | refine wkP ?_ | refine opB (fun b => ?_) | refine opA (fun a' c' hc1 hc2 => ?_) | (apply GJ.and; exact rfl; intro hg) | (apply GJ.or; exact rfl; intro hg))
  refine rgsums_ok hn65 (by decide) (fun sb sd k3 k4 => ?_)
  rw [sums15] at k3 ⊢
  rw [show ([(2, 0, 1)] : List (Nat × Int × Int)).length = 1 from rfl] at k3 ⊢
  repeat (first | exact endA | refine wkP ?_ | refine opB (fun b => ?_) | refine opA (fun a' c' hc1 hc2 => ?_) | (apply GJ.and; exact rfl; intro hg) | (apply GJ.or; exact rfl; intro hg))
  rw [show Int.toNat 0 = 0 from rfl]
  have hsm : Rds ro5 (.sl sb 1 sd 81 3 (sums0V [(2, 0, 1)]) :: .sl sa 1 sc 81 3 (sums0V [(2, 0, 1)]) :: .blk w 70 [.int .i64 1, .int .i64 6, .int .i64 0] :: .blk n 40 (nodeV node15 x6) :: .sl la 2 lc 70 3 (links0V [(1, 6, 0), (4, 6, 0)]) :: .blk bS 25 (specV spec15A a1) :: own) sb 1 sd 3 (sums0V [(2, 0, 1)]) := Rds.hasSl k3 k4 rfl
  refine QOk.loadRow rfl rfl (LdN.atR hsm (sums0V_drop [(2, 0, 1)] (i := 0) (q := (2, 0, 1)) rfl) rfl) rfl ?_
  repeat (first | exact endA | refine wkP ?_ | refine opB (fun b => ?_) | refine opA (fun a' c' hc1 hc2 => ?_) | (apply GJ.and; exact rfl; intro hg) | (apply GJ.or; exact rfl; intro hg))
  refine qeqlArr3 (e := 3) rfl rfl Tryz.underlying81 Tryz.underlying3 (by kernel_rfl) (by kernel_rfl) ?_
  repeat (first | exact endA | refine wkP ?_ | refine opB (fun b => ?_) | refine opA (fun a' c' hc1 hc2 => ?_) | (apply GJ.and; exact rfl; intro hg) | (apply GJ.or; exact rfl; intro hg))
  refine rderive_ok hn65 ?_
  rw [der15A]
  repeat (first | exact endA | refine wkP ?_ | refine opB (fun b => ?_) | refine opA (fun a' c' hc1 hc2 => ?_) | (apply GJ.and; exact rfl; intro hg) | (apply GJ.or; exact rfl; intro hg))
  refine rderive_ok hn65 ?_
  rw [der15B]
  repeat (first | exact endA | refine wkP ?_ | refine opB (fun b => ?_) | refine opA (fun a' c' hc1 hc2 => ?_) | (apply GJ.and; exact rfl; intro hg) | (apply GJ.or; exact rfl; intro hg))
  refine args_eq (bs := #[str text15B]) (by kernel_rfl) ?_
  refine code15_ok hS5 hM5 (by decide) read15B text15_in.2.1 look15B (fun ro6 hl6 => ?_)
  have hS6 := hS5.le hl6
  have hM6 := hM5.le hl6
  repeat (first | exact endA | refine wkP ?_ | refine opB (fun b => ?_) | refine opA (fun a' c' hc1 hc2 => ?_) | (apply GJ.and; exact rfl; intro hg) | (apply GJ.or; exact rfl; intro hg))
  refine args_eq (bs := #[str text15C]) (by kernel_rfl) ?_
  refine code15_ok hS6 hM6 (by decide) read15C text15_in.2.2.1 look15C (fun ro7 hl7 => ?_)
  have hS7 := hS6.le hl7
  have hM7 := hM6.le hl7
  repeat (first | exact endA | refine wkP ?_ | refine opB (fun b => ?_) | refine opA (fun a' c' hc1 hc2 => ?_) | (apply GJ.and; exact rfl; intro hg) | (apply GJ.or; exact rfl; intro hg))
  refine args_eq (bs := #[str text15D]) (by kernel_rfl) ?_
  refine code15_ok hS7 hM7 (by decide) read15D text15_in.2.2.2.1 look15D (fun ro8 hl8 => ?_)
  have hS8 := hS7.le hl8
  have hM8 := hM7.le hl8
  repeat (first | exact endA | refine wkP ?_ | refine opB (fun b => ?_) | refine opA (fun a' c' hc1 hc2 => ?_) | (apply GJ.and; exact rfl; intro hg) | (apply GJ.or; exact rfl; intro hg))
  refine args_eq (bs := #[str text15E]) (by kernel_rfl) ?_
  refine code15_ok hS8 hM8 (by decide) read15E text15_in.2.2.2.2.1 look15E (fun ro9 hl9 => ?_)
  have hS9 := hS8.le hl9
  have hM9 := hM8.le hl9
  repeat (first | exact endA | refine wkP ?_ | refine opB (fun b => ?_) | refine opA (fun a' c' hc1 hc2 => ?_) | (apply GJ.and; exact rfl; intro hg) | (apply GJ.or; exact rfl; intro hg))
  refine args_eq (bs := #[str text15F]) (by kernel_rfl) ?_
  refine code15_ok hS9 hM9 (by decide) read15F text15_in.2.2.2.2.2 look15F (fun ro10 hl10 => ?_)
  have hS10 := hS9.le hl10
  have hM10 := hM9.le hl10
  repeat (first | exact endA | refine wkP ?_ | refine opB (fun b => ?_) | refine opA (fun a' c' hc1 hc2 => ?_) | (apply GJ.and; exact rfl; intro hg) | (apply GJ.or; exact rfl; intro hg))
  exact Wk.outS Sup.auto (.refl _) (hk _ (((((((((hl1.trans hl2).trans hl3).trans hl4).trans hl5).trans hl6).trans hl7).trans hl8).trans hl9).trans hl10))
end
end Go.Proofs.YtnapjcnfgdkmcaaGreatDoor
end
section
/- Numbers that go well: where each link goes. No program in sight. -/
namespace Go.Proofs.YtnapjcnfgdkmcaaGreatDoor
open Go Go.E
set_option linter.unusedVariables false
set_option linter.unusedSectionVars false
set_option linter.unusedSimpArgs false
set_option maxRecDepth 10000
/-- The name that a type goes by. -/
def nmOf (d : NodeD) : List UInt8 := d.reg ++ d.ereg
theorem form_plain {d : NodeD} (h : formD d = 0) : plainD d = 0 ∧ (d.kind ≠ 9 → d.reg = []) := by
  unfold formD at h
  split at h
  · cases h
  split at h
  · cases h
  split at h
  · cases h
  split at h
  · cases h
  split at h
  · cases h
  rename_i h5
  split at h
  · cases h
  split at h
  · cases h
  refine ⟨h, fun hk => Classical.byContradiction fun hr => h5 (.inr ⟨hk, .inl hr⟩)⟩
theorem one_name {d : NodeD} (h : formD d = 0) : d.reg = [] ∨ d.ereg = [] := by
  obtain ⟨hp, hr⟩ := form_plain h
  by_cases hk : d.kind = 9
  · right
    unfold plainD at hp
    split at hp
    · cases hp
    split at hp
    · cases hp
    split at hp
    · cases hp
    split at hp
    · cases hp
    split at hp
    · cases hp
    split at hp
    · cases hp
    rename_i h6
    exact Classical.byContradiction fun he => h6 (.inl ⟨by omega, .inl he⟩)
  · exact .inl (hr hk)
theorem two_names {d : NodeD} (h : formD d = 0) {a : Nat} {seen : List AskD} {lk : Lk} : (oneR a seen d.reg lk).bind (oneR a seen d.ereg) = oneR a seen (nmOf d) lk := by
  unfold nmOf
  have h0 : ∀ l, oneR a seen [] l = some l := fun l => by unfold oneR; rw [if_pos rfl]
  rcases one_name h with e | e
  · rw [e, h0]; rfl
  · rw [e, List.append_nil]
    cases oneR a seen d.reg lk with
    | none => rfl
    | some l => exact h0 l
theorem findR_mem {seen : List AskD} {nm : List UInt8} {q : AskD} (h : findR seen nm = some q) : q ∈ seen ∧ q.name = nm := by
  unfold findR at h
  exact ⟨List.mem_of_find?_eq_some h, by simpa using List.find?_some h⟩
theorem findR_app {seen own : List AskD} {nm : List UInt8} : findR (seen ++ own) nm = (findR seen nm).or (findR own nm) := by
  unfold findR
  rw [List.find?_append]
abbrev preS (s : SpecD) (k : Int) : List Int := preI (kidsAt s) s.nodes.length k
/-- What is seen at a type stands ahead of it, around it. -/
def SeenAt (s : SpecD) (seen : List AskD) (a : Int) : Prop := ∀ q ∈ seen, ∃ d f, s.nodes[q.record]? = some d ∧ d.kind = 5 ∧ d.fields[q.field]? = some f ∧ f.name = q.name ∧ q.number = (numAt s f.type && decide (f.derive ≠ 3)) ∧ ∃ (j : Nat) (g : FieldD), q.field < j ∧ d.fields[j]? = some g ∧ a ∈ preS s g.type
theorem SeenAt.kid {s : SpecD} (hv : Ahead s) {seen : List AskD} {a k : Int} (h : SeenAt s seen a) (hk : k ∈ kidsAt s a.toNat) : SeenAt s seen k := by
  intro q hq
  obtain ⟨d, f, h1, h2, h3, h4, h5, j, g, h6, h7, h8⟩ := h q hq
  refine ⟨d, f, h1, h2, h3, h4, h5, j, g, h6, h7, ?_⟩
  obtain ⟨hf, hks⟩ := hv _ d h1
  have hg : g.type ∈ kidsD d := by rw [kids_rec hf h2]; exact List.mem_map.2 ⟨g, List.mem_of_getElem? h7, rfl⟩
  obtain ⟨g1, g2⟩ := hks _ hg
  have hl := (List.getElem?_eq_some_iff.1 h1).1
  obtain ⟨z, hz⟩ := Int.eq_ofNat_of_zero_le g1
  unfold preS at h8 ⊢
  rw [hz] at h8 ⊢
  exact pre_closed hv (z + 1) z (by omega) (by omega) a h8 k hk
/-- A type's link: the field of that name, a number, ahead of it. -/
def GoodL (s : SpecD) (i r f : Nat) (nm : List UInt8) : Prop := ∃ d g, s.nodes[r]? = some d ∧ d.kind = 5 ∧ d.fields[f]? = some g ∧ g.name = nm ∧ numAt s g.type = true ∧ g.derive ≠ 3 ∧ ∃ (j : Nat) (h : FieldD), f < j ∧ d.fields[j]? = some h ∧ (i : Int) ∈ preS s h.type
structure LinkP (s : SpecD) (seen : List AskD) (R : List Int) (i r f : Nat) (nm : List UInt8) : Prop where
  good : GoodL s i r f nm
  out : ∀ q, findR seen nm = some q → r = q.record ∧ f = q.field
  inn : findR seen nm = none → (r : Int) ∈ R
/-- What is linked of some types. -/
def PostL (s : SpecD) (seen : List AskD) (S R : List Int) (lk lk2 : Lk) : Prop := ∀ i : Nat, ((i : Int) ∉ S ∧ lk2 i = lk i) ∨ ((i : Int) ∈ S ∧ ∃ d, s.nodes[i]? = some d ∧ ((nmOf d = [] ∧ lk2 i = lk i) ∨ (nmOf d ≠ [] ∧ ∃ r f, lk2 i = some (r, f) ∧ LinkP s seen R i r f (nmOf d))))
theorem PostL.nil {s : SpecD} {seen : List AskD} {R : List Int} {lk : Lk} : PostL s seen [] R lk lk := fun i => .inl ⟨by simp, rfl⟩
theorem PostL.seq {s : SpecD} {seen : List AskD} {S1 S2 R : List Int} {lk lk1 lk2 : Lk} (h1 : PostL s seen S1 R lk lk1) (h2 : PostL s seen S2 R lk1 lk2) : PostL s seen (S1 ++ S2) R lk lk2 := by
  intro i
  rcases h2 i with ⟨a1, a2⟩ | ⟨a1, d, a2, ⟨a3, a4⟩ | ⟨a3, r, f, a4⟩⟩
  · rcases h1 i with ⟨b1, b2⟩ | ⟨b1, e, b2, ⟨b3, b4⟩ | ⟨b3, r, f, b4⟩⟩
    · exact .inl ⟨by simp [a1, b1], by rw [a2, b2]⟩
    · exact .inr ⟨by simp [b1], e, b2, .inl ⟨b3, by rw [a2, b4]⟩⟩
    · exact .inr ⟨by simp [b1], e, b2, .inr ⟨b3, r, f, by rw [a2]; exact b4⟩⟩
  · rcases h1 i with ⟨b1, b2⟩ | ⟨b1, e, b2, ⟨b3, b4⟩ | ⟨b3, r, f, b4⟩⟩
    · exact .inr ⟨by simp [a1], d, a2, .inl ⟨a3, by rw [a4, b2]⟩⟩
    · exact .inr ⟨by simp [a1], d, a2, .inl ⟨a3, by rw [a4, b4]⟩⟩
    · rw [a2] at b2; cases b2; exact absurd a3 b3
  · exact .inr ⟨by simp [a1], d, a2, .inr ⟨a3, r, f, a4⟩⟩
theorem PostL.mono {s : SpecD} {seen own : List AskD} {S R R' : List Int} {lk lk2 : Lk} (h : PostL s (seen ++ own) S R lk lk2) (hR : ∀ x ∈ R, x ∈ R') (ho : ∀ q ∈ own, (q.record : Int) ∈ R') : PostL s seen S R' lk lk2 := by
  intro i
  rcases h i with a | ⟨a1, d, a2, a3 | ⟨a3, r, f, a4, a5⟩⟩
  · exact .inl a
  · exact .inr ⟨a1, d, a2, .inl a3⟩
  · refine .inr ⟨a1, d, a2, .inr ⟨a3, r, f, a4, a5.good, fun q hq => a5.out q ?_, fun hn => ?_⟩⟩
    · rw [findR_app, hq]; rfl
    · cases ho2 : findR own (nmOf d) with
      | none => exact hR _ (a5.inn (by rw [findR_app, hn, ho2]; rfl))
      | some q =>
        have := a5.out q (by rw [findR_app, hn, ho2]; rfl)
        rw [this.1]
        exact ho q (findR_mem ho2).1
theorem goR_post {s : SpecD} {seen : List AskD} {R : List Int} {K : Int → Lk → Except (Int × Int) Lk} : ∀ {ks : List Int} {lk lk2 : Lk}, (∀ k ∈ ks, ∀ l l2, K k l = .ok l2 → PostL s seen (preS s k) R l l2) → goR K ks lk = .ok lk2 → PostL s seen (ks.flatMap (preS s)) R lk lk2
  | [], lk, lk2, _, h => by cases h; exact .nil
  | k :: ks, lk, lk2, hK, h => by
    unfold goR at h
    cases hx : K k lk with
    | error e => rw [hx] at h; cases h
    | ok lk1 =>
      rw [hx] at h
      rw [List.flatMap_cons]
      exact (hK k (by simp) _ _ hx).seq (goR_post (fun k hk => hK k (List.mem_cons_of_mem _ hk)) h)
theorem recR_post {s : SpecD} {a : Nat} {d : NodeD} {seen : List AskD} {R : List Int} {K : Int → List AskD → Lk → Except (Int × Int) Lk} (hd : s.nodes[a]? = some d) (h5 : d.kind = 5) (hf : formD d = 0) (haR : (a : Int) ∈ R) (hs : ∀ f ∈ d.fields, SeenAt s seen f.type ∧ f.type ∈ preS s f.type)
    (hK : ∀ f ∈ d.fields, ∀ sn l l2, SeenAt s sn f.type → K f.type sn l = .ok l2 → PostL s sn (preS s f.type) (preS s f.type) l l2) (hR : ∀ f ∈ d.fields, ∀ x ∈ preS s f.type, x ∈ R) : ∀ {fs : List FieldD} {i : Nat} {own : List AskD} {lk lk2 : Lk}, d.fields.drop i = fs → (∀ q ∈ own, q.record = a ∧ q.field < i ∧ ∃ f, d.fields[q.field]? = some f ∧ f.name = q.name ∧ q.number = (numAt s f.type && decide (f.derive ≠ 3))) → recR s K a i fs (seen ++ own) lk = .ok lk2 → PostL s seen (fs.flatMap (fun f => preS s f.type)) R lk lk2
  | [], i, own, lk, lk2, _, _, h => by cases h; exact .nil
  | f :: fs, i, own, lk, lk2, hdr, ho, h => by
    have hfi : d.fields[i]? = some f := by rw [← List.head?_drop, hdr]; rfl
    have hfm := List.mem_of_getElem? hfi
    unfold recR at h
    cases hx : K f.type (seen ++ own) lk with
    | error e => rw [hx] at h; cases h
    | ok lk1 =>
      rw [hx] at h
      rw [List.flatMap_cons]
      have hsn : SeenAt s (seen ++ own) f.type := by
        intro q hq
        rcases List.mem_append.1 hq with hq | hq
        · exact (hs f hfm).1 q hq
        · obtain ⟨q1, q2, g, q3, q4, q5⟩ := ho q hq
          exact ⟨d, g, by rw [q1]; exact hd, h5, q3, q4, q5, i, f, q2, hfi, (hs f hfm).2⟩
      refine ((hK f hfm _ _ _ hsn hx).mono (hR f hfm) (fun q hq => by rw [(ho q hq).1]; exact haR)).seq ?_
      refine recR_post hd h5 hf haR hs hK hR (i := i + 1) (own := own ++ [⟨f.name, a, i, numAt s f.type && decide (f.derive ≠ 3)⟩]) (by rw [← List.drop_drop, hdr]; rfl) (fun q hq => ?_) (by rw [← List.append_assoc]; exact h)
      rcases List.mem_append.1 hq with hq | hq
      · obtain ⟨q1, q2, g⟩ := ho q hq
        exact ⟨q1, by omega, g⟩
      · rw [List.mem_singleton] at hq
        subst hq
        exact ⟨rfl, Nat.lt_succ_self i, f, hfi, rfl, rfl⟩
theorem one_post {s : SpecD} {seen : List AskD} {a : Nat} {d : NodeD} (hd : s.nodes[a]? = some d) (hsn : SeenAt s seen a) {R : List Int} {lk lk1 : Lk} (h : oneR a seen (nmOf d) lk = some lk1) : PostL s seen [(a : Int)] R lk lk1 := by
  unfold oneR at h
  by_cases hn : nmOf d = []
  · rw [if_pos hn] at h
    cases h
    intro i
    by_cases hi : i = a
    · subst hi; exact .inr ⟨by simp, d, hd, .inl ⟨hn, rfl⟩⟩
    · exact .inl ⟨by simp; omega, rfl⟩
  · rw [if_neg hn] at h
    cases hq : findR seen (nmOf d) with
    | none => rw [hq] at h; cases h
    | some q =>
      rw [hq] at h
      dsimp only at h
      by_cases hnm : q.number = true
      · rw [if_pos hnm] at h
        cases h
        intro i
        by_cases hi : i = a
        · subst hi
          refine .inr ⟨by simp, d, hd, .inr ⟨hn, q.record, q.field, by simp [putLk], ?_, fun q2 h2 => ?_, fun h2 => ?_⟩⟩
          · obtain ⟨m1, m2⟩ := findR_mem hq
            obtain ⟨e, f, h1, h2, h3, h4, h5, j, g, h6, h7, h8⟩ := hsn q m1
            rw [hnm] at h5
            have h5 := h5.symm
            rw [Bool.and_eq_true, decide_eq_true_eq] at h5
            exact ⟨e, f, h1, h2, h3, by rw [h4, m2], h5.1, h5.2, j, g, h6, h7, h8⟩
          · rw [hq] at h2; cases h2; exact ⟨rfl, rfl⟩
          · rw [hq] at h2; cases h2
        · exact .inl ⟨by simp; omega, by simp [putLk, hi]⟩
      · rw [if_neg hnm] at h; cases h
theorem kindR_post {s : SpecD} (hv : Ahead s) : ∀ (n i : Nat) (seen : List AskD) (lk lk2 : Lk), i < n → i < s.nodes.length → SeenAt s seen i → kindR s n i seen lk = .ok lk2 → PostL s seen (preS s i) (preS s i) lk lk2
  | 0, i, _, _, _, h, _, _, _ => by omega
  | n + 1, i, seen, lk, lk2, hin, hi, hsn, h => by
    obtain ⟨d, hd⟩ : ∃ d, s.nodes[i]? = some d := ⟨_, List.getElem?_eq_getElem hi⟩
    obtain ⟨hf, hks⟩ := hv i d hd
    have hkd : kidsAt s i = kidsD d := by unfold kidsAt; rw [hd]
    have hpre : preS s i = (i : Int) :: (kidsD d).flatMap (preS s) := by
      have := preI_eq hv.kidsAt hi (N := s.nodes.length)
      rw [hkd] at this
      exact this
    unfold kindR at h
    rw [Int.toNat_natCast, hd] at h
    dsimp only at h
    rw [two_names hf] at h
    cases ho : oneR i seen (nmOf d) lk with
    | none => rw [ho] at h; cases h
    | some lk1 =>
      rw [ho] at h
      dsimp only at h
      have h1 := one_post hd hsn (R := preS s i) ho
      have hsub : ∀ k ∈ kidsD d, ∀ x ∈ preS s k, x ∈ preS s i := fun k hk x hx => by
        rw [hpre]; exact List.mem_cons_of_mem _ (List.mem_flatMap.2 ⟨k, hk, hx⟩)
      have hkid : ∀ k ∈ kidsD d, SeenAt s seen k := fun k hk => hsn.kid hv (by rw [Int.toNat_natCast, hkd]; exact hk)
      have hself : ∀ k ∈ kidsD d, k ∈ preS s k := fun k hk => by
        obtain ⟨q1, q2⟩ := hks k hk
        obtain ⟨y, rfl⟩ := Int.eq_ofNat_of_zero_le q1
        unfold preS
        rw [preI_eq hv.kidsAt (by omega)]
        exact List.mem_cons_self ..
      have hrun : ∀ k ∈ kidsD d, ∀ sn l l2, SeenAt s sn k → kindR s n k sn l = .ok l2 → PostL s sn (preS s k) (preS s k) l l2 := fun k hk sn l l2 hsk hr => by
        obtain ⟨q1, q2⟩ := hks k hk
        obtain ⟨y, rfl⟩ := Int.eq_ofNat_of_zero_le q1
        exact kindR_post hv n y sn l l2 (by omega) (by omega) hsk hr
      rw [hpre] at h1 hsub ⊢
      by_cases h5 : d.kind = 5
      · rw [if_pos h5] at h
        have hkr := kids_rec hf h5
        have hfm : ∀ f ∈ d.fields, f.type ∈ kidsD d := fun f hf => by rw [hkr]; exact List.mem_map.2 ⟨f, hf, rfl⟩
        cases hr : recR s (kindR s n) i 0 d.fields seen lk1 with
        | error e => rw [hr] at h; cases h
        | ok lk3 =>
          rw [hr] at h
          dsimp only at h
          by_cases ha : allDer s lk3 d = true
          · rw [if_pos ha] at h
            cases h
            have h2 := recR_post (own := []) hd h5 hf (List.mem_cons_self ..) (fun f hf => ⟨hkid _ (hfm f hf), hself _ (hfm f hf)⟩) (fun f hf => hrun _ (hfm f hf)) (fun f hf => hsub _ (hfm f hf)) (i := 0) rfl (fun q hq => by cases hq) (by rw [List.append_nil]; exact hr)
            have h3 := h1.seq h2
            have : (kidsD d).flatMap (preS s) = d.fields.flatMap (fun f => preS s f.type) := by rw [hkr, List.flatMap_map]
            rw [this] at h3 ⊢
            exact h3
          · rw [if_neg ha] at h; cases h
      · rw [if_neg h5] at h
        refine h1.seq (goR_post (fun k hk l l2 hr => ?_) h)
        exact PostL.mono (own := []) (by rw [List.append_nil]; exact hrun k hk seen l l2 (hkid k hk) hr) (hsub k hk) (fun q hq => by cases hq)
theorem defsR_post {s : SpecD} (hv : Ahead s) : ∀ {ds : List DefD} {lk lk2 : Lk}, (∀ d ∈ ds, 0 ≤ d.type ∧ d.type < (s.nodes.length : Int)) → defsR s ds lk = .ok lk2 → PostL s [] (ds.flatMap (fun d => preS s d.type)) (rngI s.nodes.length) lk lk2
  | [], lk, lk2, _, h => by cases h; exact .nil
  | x :: ds, lk, lk2, hm, h => by
    unfold defsR at h
    cases hx : kindR s s.nodes.length x.type [] lk with
    | error e => rw [hx] at h; cases h
    | ok lk1 =>
      rw [hx] at h
      rw [List.flatMap_cons]
      refine PostL.seq ?_ (defsR_post hv (fun d hd => hm d (List.mem_cons_of_mem _ hd)) h)
      obtain ⟨q1, q2⟩ := hm x (by simp)
      obtain ⟨y, hy⟩ := Int.eq_ofNat_of_zero_le q1
      rw [hy] at hx q2 ⊢
      refine PostL.mono (own := []) (by rw [List.append_nil]; exact kindR_post hv s.nodes.length y [] lk lk1 (by omega) (by omega) (fun q hq => by cases hq) hx) (fun k hk => ?_) (fun q hq => by cases hq)
      have := pre_in hv (y + 1) y (by omega) (by omega) k hk
      exact mem_rngI.2 ⟨this.1, by omega⟩
/-- Of a specification whose numbers go well: just the types that have a name are linked, each to the field of that name, a number ahead of it, around it. -/
theorem look_links {s : SpecD} {lk : Lk} (h : lookR s = .ok lk) {i : Nat} {d : NodeD} (hd : s.nodes[i]? = some d) : (nmOf d = [] ∧ lk i = none) ∨ (nmOf d ≠ [] ∧ ∃ r f, lk i = some (r, f) ∧ GoodL s i r f (nmOf d)) := by
  have hc := (look_check h).1
  unfold lookR at h
  by_cases hs : (scopeS s).1 ≠ 0
  · rw [if_pos hs] at h; cases h
  rw [if_neg hs] at h
  have hv := Ahead.of hc
  have hi := (List.getElem?_eq_some_iff.1 hd).1
  obtain ⟨o, o', _, h2, _⟩ := checkD_ok hc
  have hp := defsR_post hv (fun e he => ownAll_mem h2 e.type (List.mem_map.2 ⟨e, he, rfl⟩)) h i
  obtain ⟨e, he, hm⟩ := own_mem hc hi
  have hin : (i : Int) ∈ s.defs.flatMap (fun d => preS s d.type) := List.mem_flatMap.2 ⟨e, List.mem_of_getElem? he, hm⟩
  rcases hp with ⟨a1, _⟩ | ⟨_, d', a2, ⟨a3, a4⟩ | ⟨a3, r, f, a4, a5⟩⟩
  · exact absurd hin a1
  · rw [hd] at a2; cases a2; exact .inl ⟨a3, a4⟩
  · rw [hd] at a2; cases a2; exact .inr ⟨a3, r, f, a4, a5.good⟩
end Go.Proofs.YtnapjcnfgdkmcaaGreatDoor
end
section
/- What law 15 asks of raw numbers, as functions, and that it is what Check tells. No program in sight. -/
namespace Go.Proofs.YtnapjcnfgdkmcaaGreatDoor
open Go Go.E
set_option linter.unusedVariables false
set_option linter.unusedSectionVars false
set_option linter.unusedSimpArgs false
set_option maxRecDepth 10000
abbrev MpL := List UInt8 → Option (Nat × Nat)
def noM : MpL := fun _ => none
def putM (m : MpL) (nm : List UInt8) (r f : Nat) : MpL := fun x => if x = nm then some (r, f) else m x
/-- Is it a field's number that can be asked? -/
def fieldL (s : SpecD) (r f : Nat) : Bool := match s.nodes[r]? with
  | none => false
  | some d => match d.fields[f]? with
    | none => false
    | some g => numAt s g.type && decide (g.derive ≠ 3)
def oneL (s : SpecD) (m : MpL) (nm : List UInt8) : Bool := if nm = [] then true else match m nm with
  | none => false
  | some (r, f) => fieldL s r f
/-- The last field of a name. -/
def lastR : List FieldD → List UInt8 → Nat → Int → Int
  | [], _, _, z => z
  | f :: fs, name, i, z => lastR fs name (i + 1) (if f.name = name then (i : Int) else z)
def lastR' (d : NodeD) (name : List UInt8) : Int := lastR d.fields name 0 (-1)
def derivesL (s : SpecD) (d : NodeD) (i : Nat) : Bool := match d.fields[i]? with
  | none => false
  | some f => match s.nodes[f.type.toNat]? with
    | none => false
    | some own =>
      if f.derive = 0 then decide (f.of = []) && decide (f.to = [])
      else if f.derive = 1 ∨ f.derive = 2 then
        if lastR' d f.of ≤ (i : Int) ∨ f.to ≠ [] ∨ isNum own = false ∨ own.zig = true then false else
        match d.fields[(lastR' d f.of).toNat]? with
        | none => false
        | some g => match s.nodes[g.type.toNat]? with
          | none => false
          | some x => if justR f x = false then false else if f.derive = 1 ∧ (x.kind = 4 ∨ x.kind = 8) then true else decide (f.derive = 2) && decide (x.kind = 6)
      else if f.derive = 3 then (decide (own.kind = 1) && decide (own.width = 4) && decide (own.min = 0) && decide (own.max = 4294967295)) && (decide (0 ≤ lastR' d f.of) && decide (lastR' d f.of ≤ lastR' d f.to) && decide (lastR' d f.to < (i : Int)))
      else false
/-- Does nothing at a type go by a Within's size that is told around it? -/
def clearL (s : SpecD) (m : MpL) (a j : Nat) (nm : List UInt8) : Bool := match m nm with
  | none => true
  | some (r, f) => !(sizedR s r f && (decide (r ≠ a) || decide (f < j)))
def farL (s : SpecD) (m : MpL) (a j : Nat) (k : Int) : Bool := match s.nodes[k.toNat]? with
  | none => true
  | some e => clearL s m a j e.reg && clearL s m a j e.ereg
def ofWithin (s : SpecD) (f g : FieldD) : Bool := match s.nodes[g.type.toNat]? with
  | none => false
  | some x => decide (f.derive = 1) && (decide (g.name = f.of) && decide (x.kind = 8))
def apartAt (s : SpecD) (m : MpL) (a : Nat) (f : FieldD) (j : Nat) (g : FieldD) : Bool := match s.nodes[g.type.toNat]? with
  | none => true
  | some x => if ofWithin s f g = true then (preS s (x.kids[0]?.getD 0)).all (farL s m a j) else true
def apartTo (s : SpecD) (m : MpL) (a : Nat) (f : FieldD) : List FieldD → Nat → Bool
  | [], _ => true
  | g :: gs, j => apartAt s m a f j g && apartTo s m a f gs (j + 1)
def apartL (s : SpecD) (m : MpL) (a : Nat) (d : NodeD) (i : Nat) : Bool := match d.fields[i]? with
  | none => false
  | some f => apartTo s m a f d.fields 0
def goL (K : Int → Int) : List Int → Int
  | [] => 0
  | k :: ks => if K k ≠ 0 then K k else goL K ks
def recL (K : Int → MpL → Int) (a : Nat) : Nat → List FieldD → MpL → Int × MpL
  | _, [], m => (0, m)
  | i, f :: fs, m => if K f.type m ≠ 0 then (K f.type m, m) else recL K a (i + 1) fs (putM m f.name a i)
def allL (s : SpecD) (m : MpL) (a : Nat) (d : NodeD) : Bool := (List.range d.fields.length).all (fun i => derivesL s d i && apartL s m a d i)
def lookL (s : SpecD) : Nat → Int → MpL → Int
  | 0, _, _ => 0
  | n + 1, a, m => match s.nodes[a.toNat]? with
    | none => 0
    | some d => if oneL s m d.reg = false ∨ oneL s m d.ereg = false then 150
      else if d.kind ≠ 5 then goL (fun k => lookL s n k m) (kidsD d)
      else if (recL (lookL s n) a.toNat 0 d.fields m).1 ≠ 0 then (recL (lookL s n) a.toNat 0 d.fields m).1
      else if allL s (recL (lookL s n) a.toNat 0 d.fields m).2 a.toNat d = true then 0 else 151
/-- What the names' types tell, up to the first fault. -/
def wantL (s : SpecD) (ds : List DefD) : Int := goL (fun k => lookL s s.nodes.length k noM) (ds.map (·.type))
/-! ### one list, one map -/
def Agree (m : MpL) (seen : List AskD) : Prop := ∀ nm, m nm = (findR seen nm).map (fun q => (q.record, q.field))
theorem Agree.none : Agree noM [] := fun nm => rfl
theorem findR_none {seen : List AskD} {nm : List UInt8} (h : nm ∉ seen.map (·.name)) : findR seen nm = Option.none := by
  unfold findR
  rw [List.find?_eq_none]
  intro q hq
  simp only [decide_eq_true_eq]
  exact fun e => h (List.mem_map.2 ⟨q, hq, e⟩)
theorem Agree.put {m : MpL} {seen : List AskD} (h : Agree m seen) {q : AskD} (hn : q.name ∉ seen.map (·.name)) : Agree (putM m q.name q.record q.field) (seen ++ [q]) := by
  intro nm
  rw [findR_app]
  unfold putM
  by_cases hx : nm = q.name
  · subst hx
    rw [if_pos rfl, findR_none hn]
    unfold findR
    simp
  · rw [if_neg hx, h nm]
    have : findR [q] nm = Option.none := by
      unfold findR
      rw [List.find?_eq_none]
      intro y hy
      rw [List.mem_singleton] at hy
      subst hy
      simpa using fun e : y.name = nm => hx e.symm
    rw [this, Option.or_none]
theorem one_eq {s : SpecD} {seen : List AskD} {m : MpL} {a : Nat} {lk : Lk} {x : Int} (hA : Agree m seen) (hs : SeenAt s seen x) (nm : List UInt8) : (oneR a seen nm lk).isSome = oneL s m nm := by
  unfold oneR oneL
  by_cases hn : nm = []
  · rw [if_pos hn, if_pos hn]; rfl
  · rw [if_neg hn, if_neg hn, hA nm]
    cases hq : findR seen nm with
    | none => rfl
    | some q =>
      dsimp only [Option.map_some]
      obtain ⟨m1, m2⟩ := findR_mem hq
      obtain ⟨d, f, h1, h2, h3, h4, h5, _⟩ := hs q m1
      unfold fieldL
      rw [h1]
      dsimp only
      rw [h3]
      dsimp only
      rw [← h5]
      cases q.number <;> rfl
/-! ### names in a record -/
theorem lastR_none : ∀ (fs : List FieldD) (nm : List UInt8) (i : Nat) (z : Int), (∀ f ∈ fs, f.name ≠ nm) → lastR fs nm i z = z
  | [], _, _, _, _ => rfl
  | f :: fs, nm, i, z, h => by
    unfold lastR
    rw [if_neg (h f (by simp))]
    exact lastR_none fs nm (i + 1) z (fun g hg => h g (List.mem_cons_of_mem _ hg))
theorem lastR_eq : ∀ (fs : List FieldD) (nm : List UInt8) (i : Nat), (fs.map (·.name)).Nodup → lastR fs nm i (-1) = indexR fs nm i
  | [], _, _, _ => rfl
  | f :: fs, nm, i, h => by
    rw [List.map_cons, List.nodup_cons] at h
    unfold lastR indexR
    by_cases hf : f.name = nm
    · rw [if_pos hf, if_pos hf]
      exact lastR_none fs nm (i + 1) _ (fun g hg e => h.1 (List.mem_map.2 ⟨g, hg, by rw [e, hf]⟩))
    · rw [if_neg hf, if_neg hf]
      exact lastR_eq fs nm (i + 1) h.2
theorem lastR'_eq {d : NodeD} (h : (d.fields.map (·.name)).Nodup) (nm : List UInt8) : lastR' d nm = idxR' d nm := lastR_eq d.fields nm 0 h
theorem apartTo_eq {s : SpecD} {m : MpL} {a : Nat} {f : FieldD} : ∀ {gs : List FieldD} {j : Nat}, apartTo s m a f gs j = true ↔ ∀ (k : Nat) (g : FieldD), gs[k]? = some g → apartAt s m a f (j + k) g = true
  | [], j => by simp [apartTo]
  | x :: gs, j => by
    unfold apartTo
    rw [Bool.and_eq_true, apartTo_eq]
    refine ⟨fun h k g hg => ?_, fun h => ⟨h 0 x rfl, fun k g hg => ?_⟩⟩
    · cases k with
      | zero => simp at hg; subst hg; exact h.1
      | succ k => rw [show j + (k + 1) = j + 1 + k by omega]; exact h.2 k g (by simpa using hg)
    · rw [show j + 1 + k = j + (k + 1) by omega]; exact h (k + 1) g (by simpa using hg)
/-! ### types of a tree are met once -/
theorem pre_sublist {s : SpecD} (hv : Ahead s) : ∀ (n a : Nat), a < n → a < s.nodes.length → ∀ i ∈ preS s a, (preS s i).Sublist (preS s a)
  | 0, a, h, _, _, _ => by omega
  | n + 1, a, h, ha, i, hi => by
    have hi0 := hi
    unfold preS at hi
    rw [preI_eq hv.kidsAt ha] at hi
    rcases List.mem_cons.1 hi with h1 | h1
    · rw [h1]; exact List.Sublist.refl _
    · obtain ⟨k, hk, hik⟩ := List.mem_flatMap.1 h1
      obtain ⟨q1, q2⟩ := hv.kidsAt a k hk
      obtain ⟨m, rfl⟩ := Int.eq_ofNat_of_zero_le q1
      have h2 := pre_sublist hv n m (by omega) (by omega) i hik
      refine h2.trans ?_
      show List.Sublist (preI _ _ _) (preI _ _ _)
      rw [preI_eq hv.kidsAt ha]
      refine List.Sublist.cons _ ?_
      obtain ⟨l1, l2, e⟩ := List.append_of_mem hk
      rw [e, List.flatMap_append, List.flatMap_cons]
      exact (List.sublist_append_left _ _).trans (List.sublist_append_right _ _)
theorem pre_nodup {s : SpecD} (hc : checkD s = 0) {k : Nat} (hk : k < s.nodes.length) : (preS s k).Nodup := by
  have hv := Ahead.of hc
  obtain ⟨d, h1, h2⟩ := own_mem hc hk
  have hm := List.mem_of_getElem? h1
  have hall : (allT s).Nodup := (allT_perm hc).nodup_iff.2 (by
    unfold rngI
    rw [List.nodup_iff_pairwise_ne, List.pairwise_map]
    exact (List.nodup_iff_pairwise_ne.1 List.nodup_range).imp (fun h e => h (Int.ofNat.inj e)))
  have hd : (preS s d.type).Nodup := by
    refine List.Sublist.nodup ?_ hall
    unfold allT
    obtain ⟨l1, l2, e⟩ := List.append_of_mem hm
    rw [e, List.map_append, List.map_cons, List.flatMap_append, List.flatMap_cons]
    exact (List.sublist_append_left _ _).trans (List.sublist_append_right _ _)
  obtain ⟨q1, q2⟩ := defs_inS hc d hm
  obtain ⟨m, hm0⟩ := Int.eq_ofNat_of_zero_le q1
  rw [hm0] at h2 hd q2
  exact List.Sublist.nodup (pre_sublist hv (m + 1) m (by omega) (by omega) _ h2) hd
end Go.Proofs.YtnapjcnfgdkmcaaGreatDoor
end
section
/- Numbers looked over by a list, and by a map: the same. No program in sight. -/
namespace Go.Proofs.YtnapjcnfgdkmcaaGreatDoor
open Go Go.E
set_option linter.unusedVariables false
set_option linter.unusedSectionVars false
set_option linter.unusedSimpArgs false
set_option maxRecDepth 10000
def LkNm (s : SpecD) (lk : Lk) : Prop := ∀ i p, lk i = some p → ∃ d, s.nodes[i]? = some d ∧ nmOf d ≠ []
theorem PostL.nm {s : SpecD} {seen : List AskD} {S R : List Int} {lk lk2 : Lk} (h : PostL s seen S R lk lk2) (hl : LkNm s lk) : LkNm s lk2 := by
  intro i p hp
  rcases h i with ⟨_, a2⟩ | ⟨_, d, a2, ⟨_, a4⟩ | ⟨a3, _⟩⟩
  · exact hl i p (by rw [← a2]; exact hp)
  · exact hl i p (by rw [← a4]; exact hp)
  · exact ⟨d, a2, a3⟩
def LinkAll (s : SpecD) (seen : List AskD) (S : List Int) (lk : Lk) : Prop := ∀ k : Nat, (k : Int) ∈ S → ∃ d, s.nodes[k]? = some d ∧ ((nmOf d = [] ∧ lk k = none) ∨ (nmOf d ≠ [] ∧ ∃ r f, lk k = some (r, f) ∧ LinkP s seen S k r f (nmOf d)))
theorem PostL.all {s : SpecD} {seen : List AskD} {S : List Int} {lk lk2 : Lk} (h : PostL s seen S S lk lk2) (hl : LkNm s lk) : LinkAll s seen S lk2 := by
  intro k hk
  rcases h k with ⟨a1, _⟩ | ⟨_, d, a2, ⟨a3, a4⟩ | a3⟩
  · exact absurd hk a1
  · refine ⟨d, a2, .inl ⟨a3, ?_⟩⟩
    rw [a4]
    cases hx : lk k with
    | none => rfl
    | some p =>
      obtain ⟨e, e1, e2⟩ := hl k p hx
      rw [a2] at e1; cases e1
      exact absurd a3 e2
  · exact ⟨d, a2, .inr a3⟩
def ownL (s : SpecD) (a : Nat) : Nat → List FieldD → List AskD
  | _, [] => []
  | i, f :: fs => ⟨f.name, a, i, numAt s f.type && decide (f.derive ≠ 3)⟩ :: ownL s a (i + 1) fs
theorem ownL_app (s : SpecD) (a : Nat) : ∀ (l1 l2 : List FieldD) (i : Nat), ownL s a i (l1 ++ l2) = ownL s a i l1 ++ ownL s a (i + l1.length) l2
  | [], l2, i => by simp [ownL]
  | f :: l1, l2, i => by
    rw [List.cons_append]
    unfold ownL
    rw [ownL_app s a l1 l2 (i + 1), List.length_cons, show i + 1 + l1.length = i + (l1.length + 1) by omega, List.cons_append]
    congr 2
    cases l2 <;> rfl
theorem ownL_mem {s : SpecD} {a : Nat} : ∀ {l : List FieldD} {i : Nat} {q : AskD}, q ∈ ownL s a i l → q.record = a ∧ i ≤ q.field ∧ q.field < i + l.length ∧ ∃ f, l[q.field - i]? = some f ∧ f.name = q.name ∧ q.number = (numAt s f.type && decide (f.derive ≠ 3))
  | [], i, q, h => by cases h
  | f :: l, i, q, h => by
    unfold ownL at h
    rcases List.mem_cons.1 h with rfl | h
    · exact ⟨rfl, Nat.le_refl _, by simp, f, by simp, rfl, rfl⟩
    · obtain ⟨h1, h2, h3, g, h4, h5⟩ := ownL_mem h
      refine ⟨h1, by omega, by rw [List.length_cons]; omega, g, ?_, h5⟩
      rw [show q.field - i = (q.field - (i + 1)) + 1 by omega]
      simpa using h4
def EqR (x : Except (Int × Int) Lk) (z : Int) : Prop := match x with
  | .ok _ => z = 0
  | .error e => z = e.1 ∧ e.1 ≠ 0
theorem take_succ' {l : List FieldD} {i : Nat} {f : FieldD} (h : l[i]? = some f) : l.take (i + 1) = l.take i ++ [f] := by
  rw [List.take_add_one, h]; rfl
theorem rec_eq {s : SpecD} {n a : Nat} {d : NodeD} {kn : List (List UInt8)} {seen : List AskD} (hd : s.nodes[a]? = some d) (h5 : d.kind = 5) (hf : formD d = 0) (hnd : (d.fields.flatMap (fun f => preS s f.type)).Nodup) (hs : ∀ f ∈ d.fields, SeenAt s seen f.type ∧ f.type ∈ preS s f.type)
    (hP : ∀ f ∈ d.fields, ∀ sn l l2, SeenAt s sn f.type → kindR s n f.type sn l = .ok l2 → PostL s sn (preS s f.type) (preS s f.type) l l2)
    (hE : ∀ f ∈ d.fields, ∀ sn l m, SeenAt s sn f.type → Agree m sn → (∀ q ∈ sn, q.name ≠ []) → LkNm s l → (kindS s kn n f.type (sn.map (·.name))).1 = 0 → EqR (kindR s n f.type sn l) (lookL s n f.type m)) :
    ∀ (fs : List FieldD) (i : Nat) (lk : Lk) (m : MpL), d.fields.drop i = fs → Agree m (seen ++ ownL s a 0 (d.fields.take i)) → (∀ q ∈ seen ++ ownL s a 0 (d.fields.take i), q.name ≠ []) → LkNm s lk → (recS (kindS s kn n) a fs ((seen ++ ownL s a 0 (d.fields.take i)).map (·.name))).1 = 0 →
      match recR s (kindR s n) a i fs (seen ++ ownL s a 0 (d.fields.take i)) lk with
      | .error e => (recL (lookL s n) a i fs m).1 = e.1 ∧ e.1 ≠ 0
      | .ok lk2 => (recL (lookL s n) a i fs m).1 = 0 ∧ Agree (recL (lookL s n) a i fs m).2 (seen ++ ownL s a 0 d.fields) ∧ (∀ q ∈ seen ++ ownL s a 0 d.fields, q.name ≠ []) ∧ LkNm s lk2 ∧ ∀ (j : Nat) (g : FieldD), i ≤ j → d.fields[j]? = some g → LinkAll s (seen ++ ownL s a 0 (d.fields.take j)) (preS s g.type) lk2
  | [], i, lk, m, hdr, hA, hN, hl, _ => by
    unfold recR recL
    have hle : d.fields.length ≤ i := List.drop_eq_nil_iff.1 hdr
    rw [List.take_of_length_le hle] at hA hN
    exact ⟨rfl, hA, hN, hl, fun j g hj hg => by have := (List.getElem?_eq_some_iff.1 hg).1; omega⟩
  | f :: fs, i, lk, m, hdr, hA, hN, hl, hS => by
    have hfi : d.fields[i]? = some f := by rw [← List.head?_drop, hdr]; rfl
    have hfm := List.mem_of_getElem? hfi
    have hil := (List.getElem?_eq_some_iff.1 hfi).1
    have hdr2 : d.fields.drop (i + 1) = fs := by rw [← List.drop_drop, hdr]; rfl
    unfold recS at hS
    split at hS
    · cases hS
    rename_i hpr
    split at hS
    · cases hS
    rename_i hni
    split at hS
    · rename_i hx; exact absurd hS hx
    rename_i hks
    have hks := Decidable.of_not_not hks
    have hsn : SeenAt s (seen ++ ownL s a 0 (d.fields.take i)) f.type := by
      intro q hq
      rcases List.mem_append.1 hq with hq | hq
      · exact (hs f hfm).1 q hq
      · obtain ⟨q1, _, q2, g, q3, q4, q5⟩ := ownL_mem hq
        rw [List.length_take] at q2
        rw [Nat.sub_zero, List.getElem?_take, if_pos (by omega)] at q3
        exact ⟨d, g, by rw [q1]; exact hd, h5, q3, q4, q5, i, f, by omega, hfi, (hs f hfm).2⟩
    have he := hE f hfm _ lk m hsn hA hN hl hks
    have hown : ownL s a 0 (d.fields.take (i + 1)) = ownL s a 0 (d.fields.take i) ++ [⟨f.name, a, i, numAt s f.type && decide (f.derive ≠ 3)⟩] := by
      rw [take_succ' hfi, ownL_app, Nat.zero_add, List.length_take, Nat.min_eq_left (by omega)]
      rfl
    unfold recR recL
    cases hx : kindR s n f.type (seen ++ ownL s a 0 (d.fields.take i)) lk with
    | error e =>
      rw [hx] at he
      dsimp only [EqR] at he ⊢
      rw [if_pos (by rw [he.1]; exact he.2)]
      exact he
    | ok lk1 =>
      rw [hx] at he
      dsimp only [EqR] at he ⊢
      rw [if_neg (by rw [he]; simp)]
      have hpost := hP f hfm _ _ _ hsn hx
      have hl1 := hpost.nm hl
      have hne : f.name ≠ [] := (proper_len (by simpa using hpr)).1
      have hA2 : Agree (putM m f.name a i) (seen ++ ownL s a 0 (d.fields.take (i + 1))) := by
        rw [hown, ← List.append_assoc]
        exact hA.put (q := ⟨f.name, a, i, numAt s f.type && decide (f.derive ≠ 3)⟩) hni
      have hN2 : ∀ q ∈ seen ++ ownL s a 0 (d.fields.take (i + 1)), q.name ≠ [] := by
        rw [hown, ← List.append_assoc]
        intro q hq
        rcases List.mem_append.1 hq with hq | hq
        · exact hN q hq
        · rw [List.mem_singleton] at hq; subst hq; exact hne
      have hS2 : (recS (kindS s kn n) a fs ((seen ++ ownL s a 0 (d.fields.take (i + 1))).map (·.name))).1 = 0 := by
        rw [hown, ← List.append_assoc, List.map_append]
        exact hS
      have ih := rec_eq hd h5 hf hnd hs hP hE fs (i + 1) lk1 (putM m f.name a i) hdr2 hA2 hN2 hl1 hS2
      rw [hown, ← List.append_assoc] at ih
      cases hr : recR s (kindR s n) a (i + 1) fs ((seen ++ ownL s a 0 (d.fields.take i)) ++ [⟨f.name, a, i, numAt s f.type && decide (f.derive ≠ 3)⟩]) lk1 with
      | error e => rw [hr] at ih; exact ih
      | ok lk2 =>
        rw [hr] at ih
        dsimp only at ih ⊢
        obtain ⟨i1, i2, i3, i4, i5⟩ := ih
        refine ⟨i1, i2, i3, i4, fun j g hj hg => ?_⟩
        by_cases hji : j = i
        · subst hji
          rw [hfi] at hg; cases hg
          have h1 := hpost.all hl
          -- the rest leaves this field's types alone
          have hrest := recR_post (seen := seen) (own := ownL s a 0 (d.fields.take (j + 1))) (R := (a : Int) :: d.fields.flatMap (fun f => preS s f.type)) hd h5 hf (List.mem_cons_self ..) hs hP (fun f hf x hx => List.mem_cons_of_mem _ (List.mem_flatMap.2 ⟨f, hf, hx⟩)) (i := j + 1) hdr2 (fun q hq => by
            obtain ⟨q1, _, q2, g, q3, q4⟩ := ownL_mem hq
            rw [List.length_take] at q2
            rw [Nat.sub_zero, List.getElem?_take, if_pos (by omega)] at q3
            exact ⟨q1, by omega, g, q3, q4⟩) (by rw [hown, ← List.append_assoc]; exact hr)
          have hsplit : d.fields = d.fields.take j ++ f :: fs := by rw [← hdr, List.take_append_drop]
          intro k hk
          have hnk : (k : Int) ∉ fs.flatMap (fun f => preS s f.type) := by
            rw [hsplit, List.flatMap_append, List.flatMap_cons] at hnd
            have h2 := (List.nodup_append.1 hnd).2.1
            exact fun hk2 => (List.nodup_append.1 h2).2.2 _ hk _ hk2 rfl
          obtain ⟨e, e1, e2⟩ := h1 k hk
          have hsame : lk2 k = lk1 k := by
            rcases hrest k with ⟨_, b⟩ | ⟨b, _⟩
            · exact b
            · exact absurd b hnk
          rw [← hsame] at e2
          exact ⟨e, e1, e2⟩
        · exact i5 j g (by omega) hg
/-! ### far away -/
theorem far_eq {s : SpecD} (hv : Ahead s) {a j : Nat} {d : NodeD} {g : FieldD} {x : NodeD} {seen : List AskD} {m : MpL} {lk : Lk} (hd : s.nodes[a]? = some d) (h5 : d.kind = 5) (hg : d.fields[j]? = some g) (hx : s.nodes[g.type.toNat]? = some x) (h8 : x.kind = 8)
    (hsr : ∀ q ∈ seen, a < q.record) (hA : Agree m (seen ++ ownL s a 0 d.fields)) (hN : ∀ q ∈ seen ++ ownL s a 0 d.fields, q.name ≠ []) (hL : LinkAll s (seen ++ ownL s a 0 (d.fields.take j)) (preS s g.type) lk) :
    ∃ w : Nat, x.kids[0]? = some (w : Int) ∧ (w : Int) < g.type ∧ ∀ k ∈ preS s w, farL s m a j k = (match lk k.toNat with
      | none => true
      | some (r, f) => decide ((r : Int) ∈ preS s w) || !sizedR s r f) := by
  obtain ⟨hf, hks⟩ := hv a d hd
  have hgt : g.type ∈ kidsD d := by rw [kids_rec hf h5]; exact List.mem_map.2 ⟨g, List.mem_of_getElem? hg, rfl⟩
  obtain ⟨g1, g2⟩ := hks _ hgt
  obtain ⟨z, hz⟩ := Int.eq_ofNat_of_zero_le g1
  rw [hz] at hx hL g2 ⊢
  rw [Int.toNat_natCast] at hx
  have hal := (List.getElem?_eq_some_iff.1 hd).1
  have hzl := (List.getElem?_eq_some_iff.1 hx).1
  obtain ⟨hfx, hkx⟩ := hv z x hx
  have hk1 : x.kids.length = 1 := by
    unfold formD at hfx
    split at hfx
    · cases hfx
    split at hfx
    · cases hfx
    rename_i h
    exact Classical.byContradiction fun hn => h (.inl ⟨.inr (.inr h8), hn⟩)
  obtain ⟨y, hy⟩ : ∃ y, x.kids = [y] := by
    match hk : x.kids, hk1 with
    | [y], _ => exact ⟨y, rfl⟩
  have hyk : y ∈ kidsD x := by unfold kidsD; rw [hy]; simp
  obtain ⟨y1, y2⟩ := hkx y hyk
  obtain ⟨w, hw⟩ := Int.eq_ofNat_of_zero_le y1
  subst hw
  refine ⟨w, by rw [hy]; rfl, y2, ?_⟩
  have hin : ∀ k ∈ preS s w, k ∈ preS s z := fun k hk => by
    unfold preS
    rw [preI_eq hv.kidsAt hzl]
    have : kidsAt s z = kidsD x := by unfold kidsAt; rw [hx]
    rw [this]
    exact List.mem_cons_of_mem _ (List.mem_flatMap.2 ⟨_, hyk, hk⟩)
  have hout : ∀ r : Nat, (r : Int) ∈ preS s z → r ≠ z → (r : Int) ∈ preS s w := fun r hr hne => by
    unfold preS at hr
    rw [preI_eq hv.kidsAt hzl] at hr
    rcases List.mem_cons.1 hr with h | h
    · exact absurd (Int.ofNat.inj h) hne
    have hkz : kidsAt s z = kidsD x := by unfold kidsAt; rw [hx]
    rw [hkz] at h
    have hkk : kidsD x = [(w : Int)] := by
      have h0 : x.fields = [] ∧ x.cases = [] := by
        unfold formD at hfx
        split at hfx
        · cases hfx
        split at hfx
        · cases hfx
        split at hfx
        · cases hfx
        split at hfx
        · cases hfx
        rename_i h
        refine ⟨List.eq_nil_of_length_eq_zero ?_, List.eq_nil_of_length_eq_zero ?_⟩
        · refine Classical.byContradiction fun hn => h (.inl fun hh => ?_)
          have := hh.2 (by omega); omega
        · exact Classical.byContradiction fun hn => h (.inr ⟨by omega, by omega⟩)
      unfold kidsD
      rw [hy, h0.1, h0.2, if_neg (by omega)]
      rfl
    rw [hkk] at h
    simpa using h
  have htk : seen ++ ownL s a 0 d.fields = (seen ++ ownL s a 0 (d.fields.take j)) ++ ownL s a j (d.fields.drop j) := by
    have hjl := (List.getElem?_eq_some_iff.1 hg).1
    conv => lhs; rw [← List.take_append_drop j d.fields, ownL_app]
    rw [Nat.zero_add, List.length_take, Nat.min_eq_left (by omega), List.append_assoc]
  intro k hk
  obtain ⟨k1, k2⟩ := pre_in hv (w + 1) w (by omega) (by omega) k hk
  obtain ⟨p, rfl⟩ := Int.eq_ofNat_of_zero_le k1
  rw [Int.toNat_natCast]
  obtain ⟨e, e1, e2⟩ := hL p (hin _ hk)
  obtain ⟨hfe, _⟩ := hv p e e1
  have hnil : clearL s m a j [] = true := by
    unfold clearL
    rw [hA []]
    have : findR (seen ++ ownL s a 0 d.fields) [] = none := by
      unfold findR
      rw [List.find?_eq_none]
      intro q hq
      simpa using hN q hq
    rw [this]; rfl
  have hfar : farL s m a j (p : Int) = clearL s m a j (nmOf e) := by
    unfold farL nmOf
    rw [Int.toNat_natCast, e1]
    dsimp only
    rcases one_name hfe with h | h
    · rw [h, hnil]; rfl
    · rw [h, hnil, List.append_nil, Bool.and_true]
  rw [hfar]
  rcases e2 with ⟨n1, n2⟩ | ⟨n1, r, f, n2, n3⟩
  · rw [n1, n2, hnil]
  · rw [n2]
    dsimp only
    unfold clearL
    rw [hA (nmOf e), htk, findR_app]
    cases hq : findR (seen ++ ownL s a 0 (d.fields.take j)) (nmOf e) with
    | some q =>
      obtain ⟨rfl, rfl⟩ := n3.out q hq
      dsimp only [Option.or_some, Option.or, Option.map_some]
      have hmem := (findR_mem hq).1
      have h1 : a ≤ q.record ∧ (decide (q.record ≠ a) || decide (q.field < j)) = true := by
        rcases List.mem_append.1 hmem with h | h
        · have := hsr q h
          exact ⟨by omega, by rw [decide_eq_true (by omega)]; rfl⟩
        · obtain ⟨q1, _, q2, _⟩ := ownL_mem h
          rw [List.length_take] at q2
          exact ⟨by omega, by rw [decide_eq_true (p := q.field < j) (by omega), Bool.or_true]⟩
      rw [h1.2, Bool.and_true]
      have h2 : (q.record : Int) ∉ preS s w := fun hh => by
        have := pre_in hv (w + 1) w (by omega) (by omega) _ hh
        omega
      rw [decide_eq_false h2, Bool.false_or]
    | none =>
      have hrz := n3.inn hq
      obtain ⟨e', g', h1, h2, _⟩ := n3.good
      have hrw := hout r hrz (fun e => by subst e; rw [hx] at h1; cases h1; omega)
      rw [decide_eq_true hrw, Bool.true_or]
      cases hq2 : findR (ownL s a j (d.fields.drop j)) (nmOf e) with
      | none => rfl
      | some q =>
        obtain ⟨q1, q2, _⟩ := ownL_mem (findR_mem hq2).1
        dsimp only [Option.or, Option.map_some]
        rw [decide_eq_false (p := q.record ≠ a) (by omega), decide_eq_false (p := q.field < j) (by omega)]
        simp
end Go.Proofs.YtnapjcnfgdkmcaaGreatDoor
end
section
/- What law 15 asks of raw numbers is what Check tells. No program in sight. -/
namespace Go.Proofs.YtnapjcnfgdkmcaaGreatDoor
open Go Go.E
set_option linter.unusedVariables false
set_option linter.unusedSectionVars false
set_option linter.unusedSimpArgs false
set_option maxRecDepth 10000
theorem apart_not {s : SpecD} {m : MpL} {a : Nat} {f : FieldD} (h : f.derive ≠ 1) (gs : List FieldD) (j : Nat) : apartTo s m a f gs j = true := by
  rw [apartTo_eq]
  intro k g _
  unfold apartAt
  cases hx : s.nodes[g.type.toNat]? with
  | none => rfl
  | some x =>
    dsimp only
    rw [if_neg]
    unfold ofWithin
    rw [hx]
    simp [h]
theorem apart_one {s : SpecD} {m : MpL} {a : Nat} {d : NodeD} {f g : FieldD} {x : NodeD} {j : Nat} (hn : (d.fields.map (·.name)).Nodup) (hg : d.fields[j]? = some g) (hx : s.nodes[g.type.toNat]? = some x) (hnm : g.name = f.of) (h1 : f.derive = 1) : apartTo s m a f d.fields 0 = if x.kind = 8 then (preS s (x.kids[0]?.getD 0)).all (farL s m a j) else true := by
  rw [Bool.eq_iff_iff, apartTo_eq]
  refine ⟨fun h => ?_, fun h k g' hg' => ?_⟩
  · have := h j g hg
    unfold apartAt at this
    rw [hx] at this
    dsimp only at this
    by_cases h8 : x.kind = 8
    · rw [if_pos h8]
      rw [if_pos (by unfold ofWithin; rw [hx]; simp [h1, hnm, h8]), Nat.zero_add] at this
      exact this
    · rw [if_neg h8]
  · unfold apartAt
    cases hx' : s.nodes[g'.type.toNat]? with
    | none => rfl
    | some x' =>
      dsimp only
      by_cases hw : ofWithin s f g' = true
      · rw [if_pos hw]
        unfold ofWithin at hw
        rw [hx'] at hw
        simp only [Bool.and_eq_true, decide_eq_true_eq] at hw
        have : k = j := field_inj hn hg' hg (by rw [hw.2.1, hnm])
        subst this
        rw [hg] at hg'; cases hg'
        rw [hx] at hx'; cases hx'
        rw [if_pos hw.2.2] at h
        rw [Nat.zero_add]
        exact h
      · rw [if_neg hw]
theorem der_eq {s : SpecD} (hv : Ahead s) {a : Nat} {d : NodeD} {seen : List AskD} {m : MpL} {lk : Lk} (hd : s.nodes[a]? = some d) (h5 : d.kind = 5) (hn : (d.fields.map (·.name)).Nodup)
    (hsr : ∀ q ∈ seen, a < q.record) (hA : Agree m (seen ++ ownL s a 0 d.fields)) (hN : ∀ q ∈ seen ++ ownL s a 0 d.fields, q.name ≠ []) (hL : ∀ (j : Nat) (g : FieldD), d.fields[j]? = some g → LinkAll s (seen ++ ownL s a 0 (d.fields.take j)) (preS s g.type) lk) (i : Nat) :
    derivedR s lk d i = (derivesL s d i && apartL s m a d i) := by
  unfold derivedR derivesL apartL
  cases hf : d.fields[i]? with
  | none => rfl
  | some f =>
    dsimp only
    cases ho : s.nodes[f.type.toNat]? with
    | none => rfl
    | some own =>
      dsimp only
      rw [lastR'_eq hn, lastR'_eq hn]
      by_cases h0 : f.derive = 0
      · rw [if_pos h0, if_pos h0, apart_not (by omega), Bool.and_true]
      rw [if_neg h0, if_neg h0]
      by_cases h12 : f.derive = 1 ∨ f.derive = 2
      · rw [if_pos h12, if_pos h12]
        by_cases hcnd : isNum own = false ∨ own.zig = true ∨ idxR' d f.of ≤ (i : Int) ∨ f.to ≠ []
        · rw [if_pos hcnd, if_pos (hcnd.elim (fun h => .inr (.inr (.inl h))) (fun h => h.elim (fun h => .inr (.inr (.inr h))) (fun h => h.elim (fun h => .inl h) (fun h => .inr (.inl h)))))]
          rfl
        · rw [if_neg hcnd, if_neg (fun hc => hcnd (hc.elim (fun h => .inr (.inr (.inl h))) (fun h => h.elim (fun h => .inr (.inr (.inr h))) (fun h => h.elim (fun h => .inl h) (fun h => .inr (.inl h))))))]
          cases hg : d.fields[(idxR' d f.of).toNat]? with
          | none => rfl
          | some g =>
            dsimp only
            cases hx : s.nodes[g.type.toNat]? with
            | none => rfl
            | some x =>
              dsimp only
              by_cases hj : justR f x = false
              · rw [if_pos hj, hj]
                split <;> rfl
              · rw [if_neg hj]
                have hj : justR f x = true := by simpa using hj
                rw [hj]
                by_cases h2 : f.derive = 2
                · rw [if_pos h2, if_neg (by omega), apart_not (by omega), h2]
                  simp
                · have h1 : f.derive = 1 := by omega
                  rw [if_neg h2, Bool.true_and]
                  have hnm : g.name = f.of := by
                    rcases idx_spec d f.of with ⟨e, _⟩ | ⟨j, f', e1, e2, e3⟩
                    · exact absurd (.inr (.inr (.inl (by omega)))) hcnd
                    · rw [e1, Int.toNat_natCast, e2] at hg
                      cases hg
                      exact e3
                  rw [apart_one hn hg hx hnm h1]
                  by_cases h8 : x.kind = 8
                  · obtain ⟨w, w1, w2, w3⟩ := far_eq hv hd h5 hg hx h8 hsr hA hN (hL _ g hg)
                    rw [if_pos ⟨h1, .inr h8⟩, if_pos h8, w1, decide_eq_true h8, decide_eq_false (by omega), Bool.false_or, Bool.true_and, Bool.true_and]
                    dsimp only [Option.getD_some]
                    unfold apartR
                    show (preS s w).all _ = (preS s w).all _
                    rw [Bool.eq_iff_iff, List.all_eq_true, List.all_eq_true]
                    refine forall_congr' fun k => forall_congr' fun hk => ?_
                    rw [w3 k hk]
                    exact Iff.rfl
                  · rw [if_neg h8, decide_eq_false h8, Bool.false_and, Bool.or_false, Bool.and_true]
                    by_cases h4 : x.kind = 4
                    · rw [if_pos ⟨h1, .inl h4⟩, decide_eq_true h4]
                    · rw [if_neg (fun h => by rcases h.2 with h | h; exact h4 h; exact h8 h), decide_eq_false h4, decide_eq_false h2]
                      rfl
      · rw [if_neg h12, if_neg h12]
        by_cases h3 : f.derive = 3
        · rw [if_pos h3, if_pos h3, apart_not (by omega), Bool.and_true]
          by_cases hk : own.kind = 1 ∧ own.width = 4
          · have : mostD own = 4294967295 := by unfold mostD; rw [if_pos hk.1, hk.2]; rfl
            rw [this]
          · have : (decide (own.kind = 1) && decide (own.width = 4)) = false := by
              rw [Bool.eq_false_iff]
              intro h
              rw [Bool.and_eq_true, decide_eq_true_eq, decide_eq_true_eq] at h
              exact hk h
            rw [this]
            rfl
        · rw [if_neg h3, if_neg h3]
          rfl
theorem go_eq {s : SpecD} {K : Int → Lk → Except (Int × Int) Lk} {z : Int → Int} : ∀ {ks : List Int} {lk : Lk}, (∀ k ∈ ks, ∀ l, LkNm s l → EqR (K k l) (z k) ∧ ∀ l2, K k l = .ok l2 → LkNm s l2) → LkNm s lk → EqR (goR K ks lk) (goL z ks) ∧ ∀ l2, goR K ks lk = .ok l2 → LkNm s l2
  | [], lk, _, hl => ⟨rfl, fun l2 h => by cases h; exact hl⟩
  | k :: ks, lk, h, hl => by
    obtain ⟨h1, h2⟩ := h k (by simp) lk hl
    unfold goR goL
    cases hx : K k lk with
    | error e =>
      rw [hx] at h1
      dsimp only [EqR] at h1 ⊢
      rw [if_pos (by rw [h1.1]; exact h1.2)]
      exact ⟨h1, fun l2 h => by cases h⟩
    | ok lk1 =>
      rw [hx] at h1
      dsimp only [EqR] at h1 ⊢
      rw [if_neg (by rw [h1]; simp)]
      exact go_eq (fun k hk => h k (List.mem_cons_of_mem _ hk)) (h2 lk1 hx)
theorem look_eq {s : SpecD} (hc : checkD s = 0) {kn : List (List UInt8)} : ∀ (n i : Nat) (seen : List AskD) (lk : Lk) (m : MpL), i < n → i < s.nodes.length → SeenAt s seen i → Agree m seen → (∀ q ∈ seen, q.name ≠ []) → LkNm s lk → (kindS s kn n i (seen.map (·.name))).1 = 0 → EqR (kindR s n i seen lk) (lookL s n i m)
  | 0, i, _, _, _, h, _, _, _, _, _, _ => by omega
  | n + 1, i, seen, lk, m, hin, hi, hsn, hA, hN, hl, hS => by
    have hv := Ahead.of hc
    obtain ⟨d, hd⟩ : ∃ d, s.nodes[i]? = some d := ⟨_, List.getElem?_eq_getElem hi⟩
    obtain ⟨hf, hks⟩ := hv i d hd
    have hkd : kidsAt s i = kidsD d := by unfold kidsAt; rw [hd]
    have hpre : preS s i = (i : Int) :: (kidsD d).flatMap (preS s) := by
      have := preI_eq hv.kidsAt hi (N := s.nodes.length)
      rw [hkd] at this
      exact this
    have hkid : ∀ k ∈ kidsD d, SeenAt s seen k := fun k hk => hsn.kid hv (by rw [Int.toNat_natCast, hkd]; exact hk)
    have hself : ∀ k ∈ kidsD d, k ∈ preS s k := fun k hk => by
      obtain ⟨q1, q2⟩ := hks k hk
      obtain ⟨y, rfl⟩ := Int.eq_ofNat_of_zero_le q1
      unfold preS
      rw [preI_eq hv.kidsAt (by omega)]
      exact List.mem_cons_self ..
    have hrun : ∀ k ∈ kidsD d, ∀ sn l l2, SeenAt s sn k → kindR s n k sn l = .ok l2 → PostL s sn (preS s k) (preS s k) l l2 := fun k hk sn l l2 hsk hr => by
      obtain ⟨q1, q2⟩ := hks k hk
      obtain ⟨y, rfl⟩ := Int.eq_ofNat_of_zero_le q1
      exact kindR_post hv n y sn l l2 (by omega) (by omega) hsk hr
    have hih : ∀ k ∈ kidsD d, ∀ sn l m, SeenAt s sn k → Agree m sn → (∀ q ∈ sn, q.name ≠ []) → LkNm s l → (kindS s kn n k (sn.map (·.name))).1 = 0 → EqR (kindR s n k sn l) (lookL s n k m) := fun k hk sn l m a1 a2 a3 a4 a5 => by
      obtain ⟨q1, q2⟩ := hks k hk
      obtain ⟨y, rfl⟩ := Int.eq_ofNat_of_zero_le q1
      exact look_eq hc n y sn l m (by omega) (by omega) a1 a2 a3 a4 a5
    unfold kindS at hS
    rw [Int.toNat_natCast, hd] at hS
    dsimp only at hS
    by_cases hu : d.kind = 13 ∧ d.text ∉ kn
    · rw [if_pos hu] at hS; cases hS
    rw [if_neg hu] at hS
    unfold kindR lookL
    rw [Int.toNat_natCast, hd]
    dsimp only
    have e1 := one_eq (a := i) (lk := lk) hA hsn d.reg
    have e2 := one_eq (a := i) (lk := lk) hA hsn d.ereg
    have e3 := one_eq (a := i) (lk := lk) hA hsn (nmOf d)
    have e4 : (oneL s m d.reg = false ∨ oneL s m d.ereg = false) ↔ oneL s m (nmOf d) = false := by
      have h0 : oneL s m [] = true := by unfold oneL; rw [if_pos rfl]
      unfold nmOf
      rcases one_name hf with h | h
      · rw [h, h0]; simp
      · rw [h, h0, List.append_nil]; simp
    rw [two_names hf]
    cases ho : oneR i seen (nmOf d) lk with
    | none =>
      rw [ho] at e3
      rw [if_pos (e4.2 e3.symm)]
      exact ⟨rfl, by simp⟩
    | some lk1 =>
      rw [ho] at e3
      rw [if_neg (fun h => by rw [e4.1 h] at e3; cases e3)]
      dsimp only
      have hl1 := (one_post hd hsn (R := []) ho).nm hl
      by_cases h5 : d.kind = 5
      · rw [if_pos h5] at hS ⊢
        rw [if_neg (fun h => h h5)]
        have hkr := kids_rec hf h5
        have hfm : ∀ f ∈ d.fields, f.type ∈ kidsD d := fun f hf => by rw [hkr]; exact List.mem_map.2 ⟨f, hf, rfl⟩
        have hndp : (d.fields.flatMap (fun f => preS s f.type)).Nodup := by
          have := pre_nodup hc hi
          rw [hpre, List.nodup_cons, hkr, List.flatMap_map] at this
          exact this.2
        have hr := rec_eq (kn := kn) hd h5 hf hndp (fun f hf => ⟨hkid _ (hfm f hf), hself _ (hfm f hf)⟩) (fun f hf => hrun _ (hfm f hf)) (fun f hf => hih _ (hfm f hf)) d.fields 0 lk1 m rfl (by rw [List.take_zero]; unfold ownL; rw [List.append_nil]; exact hA) (by rw [List.take_zero]; unfold ownL; rw [List.append_nil]; exact hN) hl1 (by rw [List.take_zero]; unfold ownL; rw [List.append_nil]; exact hS)
        rw [List.take_zero, show ownL s i 0 [] = [] from rfl, List.append_nil] at hr
        cases hx : recR s (kindR s n) i 0 d.fields seen lk1 with
        | error e =>
          rw [hx] at hr
          dsimp only at hr ⊢
          rw [if_pos (by rw [hr.1]; exact hr.2)]
          exact hr
        | ok lk2 =>
          rw [hx] at hr
          dsimp only at hr ⊢
          obtain ⟨r1, r2, r3, r4, r5⟩ := hr
          rw [if_neg (show ¬ ((recL (lookL s n) i 0 d.fields m).1 ≠ 0) by rw [r1]; simp)]
          have hnn := (recS_names hS).1
          have hder : allDer s lk2 d = allL s (recL (lookL s n) i 0 d.fields m).2 i d := by
            unfold allDer allL
            rw [Bool.eq_iff_iff, List.all_eq_true, List.all_eq_true]
            refine forall_congr' fun j => forall_congr' fun _ => ?_
            rw [der_eq hv hd h5 hnn (fun q hq => ?_) r2 r3 (fun j g hg => r5 j g (Nat.zero_le _) hg) j]
            obtain ⟨e, f, q1, q2, _, _, _, j', g, _, q7, q8⟩ := hsn q hq
            obtain ⟨hfe, hke⟩ := hv _ e q1
            have hg : g.type ∈ kidsD e := by rw [kids_rec hfe q2]; exact List.mem_map.2 ⟨g, List.mem_of_getElem? q7, rfl⟩
            obtain ⟨g1, g2⟩ := hke _ hg
            obtain ⟨z, hz⟩ := Int.eq_ofNat_of_zero_le g1
            rw [hz] at q8 g2
            have hl := (List.getElem?_eq_some_iff.1 q1).1
            have := pre_in hv (z + 1) z (by omega) (by omega) _ q8
            omega
          rw [hder]
          by_cases ha : allL s (recL (lookL s n) i 0 d.fields m).2 i d = true
          · rw [if_pos ha, if_pos ha]; rfl
          · rw [if_neg ha, if_neg ha]; exact ⟨rfl, by simp⟩
      · rw [if_neg h5] at hS ⊢
        rw [if_pos h5]
        exact (go_eq (fun k hk l hl => ⟨hih k hk seen l m (hkid k hk) hA hN hl (goS_ok hS k hk), fun l2 h2 => (hrun k hk seen l l2 (hkid k hk) h2).nm hl⟩) hl1).1
theorem defs_eq {s : SpecD} (hc : checkD s = 0) : ∀ {ds : List DefD} {lk : Lk}, (∀ d ∈ ds, 0 ≤ d.type ∧ d.type < (s.nodes.length : Int) ∧ ∃ kn, (kindS s kn s.nodes.length d.type []).1 = 0) → LkNm s lk → EqR (defsR s ds lk) (wantL s ds)
  | [], lk, _, _ => rfl
  | x :: ds, lk, h, hl => by
    obtain ⟨q1, q2, kn, q3⟩ := h x (by simp)
    obtain ⟨y, hy⟩ := Int.eq_ofNat_of_zero_le q1
    have hv := Ahead.of hc
    rw [hy] at q2 q3
    have he := look_eq hc (kn := kn) s.nodes.length y [] lk noM (by omega) (by omega) (fun q hq => by cases hq) Agree.none (fun q hq => by cases hq) hl q3
    have hpst := fun lk1 => kindR_post hv s.nodes.length y [] lk lk1 (by omega) (by omega) (fun q hq => by cases hq)
    unfold defsR wantL
    rw [List.map_cons]
    unfold goL
    rw [hy]
    cases hx : kindR s s.nodes.length y [] lk with
    | error e =>
      rw [hx] at he
      dsimp only [EqR] at he ⊢
      rw [if_pos (by rw [he.1]; exact he.2)]
      exact he
    | ok lk1 =>
      rw [hx] at he
      dsimp only [EqR] at he ⊢
      rw [if_neg (by rw [he]; simp)]
      exact defs_eq hc (fun d hd => h d (List.mem_cons_of_mem _ hd)) ((hpst lk1 hx).nm hl)
/-- Just what Check tells, where the names go well. -/
theorem check_want {s : SpecD} (h : (scopeS s).1 = 0) : (errR (lookR s)).1 = wantL s s.defs := by
  obtain ⟨hc, hdf⟩ := scope_zero' h
  obtain ⟨o, o', _, h2, _⟩ := checkD_ok hc
  obtain ⟨g1, g2, g3⟩ := defs_ok hdf List.nodup_nil
  have he := defs_eq hc (ds := s.defs) (lk := noLk) (fun d hd => by
    obtain ⟨p1, p2⟩ := ownAll_mem h2 d.type (List.mem_map.2 ⟨d, hd, rfl⟩)
    obtain ⟨j, hj⟩ := List.getElem?_of_mem hd
    exact ⟨p1, p2, _, g3 j d hj⟩) (fun i p hp => by cases hp)
  unfold lookR
  rw [if_neg (fun hn => hn h)]
  cases hx : defsR s s.defs noLk with
  | error e => rw [hx] at he; exact he.1.symm
  | ok lk => rw [hx] at he; exact he.symm
end Go.Proofs.YtnapjcnfgdkmcaaGreatDoor
end
section
/- What a specification's parts read as. -/
namespace Go.Proofs.YtnapjcnfgdkmcaaGreatDoor
open Go Go.E
set_option linter.unusedVariables false
set_option maxRecDepth 10000
section
variable {ro : Ro} {cs : List Value}
theorem flat_one {α : Type} (f : α → Value) (l : List α) : (l.map fun n => [f n]).flatten = l.map f := by
  induction l with
  | nil => rfl
  | cons a l ih => simp only [List.map_cons, List.flatten_cons, ih]; rfl
theorem read_field (h : Wf Tryz.prog ro 47 cs) : ∃ f : FieldD, cs = fieldV f ∧ (In64 f.type ∧ In64 f.derive) ∧ f.name.length ≤ reachBytes := by
  have hu := Tryz.underlying47
  have hl : cs.length = 5 := (Wf.struct_inv hu h).1.trans (by kernel_rfl)
  match cs, hl, h with
  | [v0, v1, v2, v3, v4], _, h =>
    obtain ⟨l0, rfl, hl0⟩ := Wf.str_inv Tryz.underlying9 (Wf.fld (i := 0) (off := 0) (k := 1) hu h rfl rfl rfl (by kernel_rfl))
    obtain ⟨n1, rfl, w1⟩ := Wf.int_inv Tryz.underlying3 (Wf.fld (i := 1) (off := 1) (k := 1) hu h rfl rfl rfl (by kernel_rfl))
    obtain ⟨n2, rfl, w2⟩ := Wf.int_inv Tryz.underlying3 (Wf.fld (i := 2) (off := 2) (k := 1) hu h rfl rfl rfl (by kernel_rfl))
    obtain ⟨l3, rfl, hl3⟩ := Wf.str_inv Tryz.underlying9 (Wf.fld (i := 3) (off := 3) (k := 1) hu h rfl rfl rfl (by kernel_rfl))
    obtain ⟨l4, rfl, hl4⟩ := Wf.str_inv Tryz.underlying9 (Wf.fld (i := 4) (off := 4) (k := 1) hu h rfl rfl rfl (by kernel_rfl))
    exact ⟨⟨l0, n1, n2, l3, l4⟩, rfl, ⟨wf_i64 w1, wf_i64 w2⟩, hl0⟩
theorem read_case (h : Wf Tryz.prog ro 97 cs) : ∃ f : CaseD, cs = caseV f ∧ In64 f.type ∧ f.value < 18446744073709551616 := by
  have hu := Tryz.underlying97
  have hl : cs.length = 2 := (Wf.struct_inv hu h).1.trans (by kernel_rfl)
  match cs, hl, h with
  | [v0, v1], _, h =>
    obtain ⟨n0, rfl, w0⟩ := Wf.int_inv Tryz.underlying33 (Wf.fld (i := 0) (off := 0) (k := 1) hu h rfl rfl rfl (by kernel_rfl))
    obtain ⟨n1, rfl, w1⟩ := Wf.int_inv Tryz.underlying3 (Wf.fld (i := 1) (off := 1) (k := 1) hu h rfl rfl rfl (by kernel_rfl))
    obtain ⟨m0, rfl, b0⟩ := wf_u64 w0
    exact ⟨⟨m0, n1⟩, rfl, wf_i64 w1, b0⟩
theorem read_int (h : Wf Tryz.prog ro 3 cs) : ∃ n : Int, cs = [.int .i64 n] ∧ In64 n := by
  cases h with
  | int h hw => rw [Tryz.underlying3] at h; cases h; exact ⟨_, rfl, wf_i64 hw⟩
  | bool h => rw [Tryz.underlying3] at h; cases h
  | str h => rw [Tryz.underlying3] at h; cases h
  | slice h => rw [Tryz.underlying3] at h; cases h
  | struct h hl hw => rw [Tryz.underlying3] at h; cases h
  | array h => rw [Tryz.underlying3] at h; cases h
  | nought h => rw [Tryz.underlying3] at h; cases h
  | other h => exact absurd rfl ((h _ Tryz.underlying3).1 .i64)
theorem read_bool (h : Wf Tryz.prog ro 4 cs) : ∃ b : Bool, cs = [.bool b] ∧ True := by
  cases h with
  | bool h => exact ⟨_, rfl, trivial⟩
  | int h hw => rw [Tryz.underlying4] at h; cases h
  | str h => rw [Tryz.underlying4] at h; cases h
  | slice h => rw [Tryz.underlying4] at h; cases h
  | struct h hl hw => rw [Tryz.underlying4] at h; cases h
  | array h => rw [Tryz.underlying4] at h; cases h
  | nought h => rw [Tryz.underlying4] at h; cases h
  | other h => exact absurd rfl (h _ Tryz.underlying4).2.1
theorem read_nodeT (h : Wf Tryz.prog ro 40 cs) : ∃ (d : NodeD) (x : NodeA), cs = nodeV d x ∧ NodeIn d ∧ NodeOk ro d x ∧ (∀ f ∈ d.fields, f.name.length ≤ reachBytes) ∧ d.text.length ≤ reachBytes ∧ d.ereg.length ≤ reachBytes ∧ d.reg.length ≤ reachBytes := by
  have hu := Tryz.underlying40
  have he := Tryz.underlying35
  have hl : cs.length = 18 := (Wf.struct_inv hu h).1.trans (by kernel_rfl)
  match cs, hl, h with
  | [v0, v1, v2, v3, v4, v5, v6, v7, v8, v9, v10, v11, v12, v13, v14, v15, v16, v17], _, h =>
    obtain ⟨n0, rfl, w0⟩ := Wf.int_inv Tryz.underlying3 (Wf.fld (i := 0) (off := 0) (k := 1) hu h rfl rfl rfl (by kernel_rfl))
    obtain ⟨n1, rfl, w1⟩ := Wf.int_inv Tryz.underlying3 (Wf.fld (i := 1) (off := 1) (k := 1) hu h rfl rfl rfl (by kernel_rfl))
    obtain ⟨b2, rfl⟩ := Wf.bool_inv Tryz.underlying4 (Wf.fld (i := 2) (off := 2) (k := 1) hu h rfl rfl rfl (by kernel_rfl))
    obtain ⟨b3, rfl⟩ := Wf.bool_inv Tryz.underlying4 (Wf.fld (i := 3) (off := 3) (k := 1) hu h rfl rfl rfl (by kernel_rfl))
    obtain ⟨b4, rfl⟩ := Wf.bool_inv Tryz.underlying4 (Wf.fld (i := 4) (off := 4) (k := 1) hu h rfl rfl rfl (by kernel_rfl))
    obtain ⟨n5, rfl, w5⟩ := Wf.int_inv Tryz.underlying33 (Wf.fld (i := 5) (off := 5) (k := 1) hu h rfl rfl rfl (by kernel_rfl))
    obtain ⟨n6, rfl, w6⟩ := Wf.int_inv Tryz.underlying33 (Wf.fld (i := 6) (off := 6) (k := 1) hu h rfl rfl rfl (by kernel_rfl))
    obtain ⟨l7, rfl, hl7⟩ := Wf.str_inv Tryz.underlying9 (Wf.fld (i := 7) (off := 7) (k := 1) hu h rfl rfl rfl (by kernel_rfl))
    have hx : Wf Tryz.prog ro 35 [v8, v9, v10] := Wf.fld (i := 8) (off := 8) (k := 3) hu h rfl rfl rfl (by kernel_rfl)
    obtain ⟨l8, rfl, hl8⟩ := Wf.str_inv Tryz.underlying9 (Wf.fld (i := 0) (off := 0) (k := 1) he hx rfl rfl rfl (by kernel_rfl))
    obtain ⟨n9, rfl, w9⟩ := Wf.int_inv Tryz.underlying33 (Wf.fld (i := 1) (off := 1) (k := 1) he hx rfl rfl rfl (by kernel_rfl))
    obtain ⟨n10, rfl, w10⟩ := Wf.int_inv Tryz.underlying33 (Wf.fld (i := 2) (off := 2) (k := 1) he hx rfl rfl rfl (by kernel_rfl))
    obtain ⟨ka, kn, kc, kcs, rfl, kr, kl, kw⟩ := Wf.slice_inv (s := 1) Tryz.underlying31 (by kernel_rfl) (by omega) (Wf.fld (i := 9) (off := 11) (k := 1) hu h rfl rfl rfl (by kernel_rfl))
    obtain ⟨la, ln, lc, lcs, rfl, lr, ll, lw⟩ := Wf.slice_inv (s := 1) Tryz.underlying36 (by kernel_rfl) (by omega) (Wf.fld (i := 10) (off := 12) (k := 1) hu h rfl rfl rfl (by kernel_rfl))
    obtain ⟨fa, fn, fc, fcs, rfl, fr, fl, fw⟩ := Wf.slice_inv (s := 5) Tryz.underlying37 (by kernel_rfl) (by omega) (Wf.fld (i := 11) (off := 13) (k := 1) hu h rfl rfl rfl (by kernel_rfl))
    obtain ⟨l14, rfl, hl14⟩ := Wf.str_inv Tryz.underlying9 (Wf.fld (i := 12) (off := 14) (k := 1) hu h rfl rfl rfl (by kernel_rfl))
    obtain ⟨n15, rfl, w15⟩ := Wf.int_inv Tryz.underlying33 (Wf.fld (i := 13) (off := 15) (k := 1) hu h rfl rfl rfl (by kernel_rfl))
    obtain ⟨ca, cn, cc, ccs, rfl, cr, cl, cw⟩ := Wf.slice_inv (s := 2) Tryz.underlying38 (by kernel_rfl) (by omega) (Wf.fld (i := 14) (off := 16) (k := 1) hu h rfl rfl rfl (by kernel_rfl))
    obtain ⟨n17, rfl, w17⟩ := Wf.int_inv Tryz.underlying3 (Wf.fld (i := 15) (off := 17) (k := 1) hu h rfl rfl rfl (by kernel_rfl))
    obtain ⟨m5, rfl, b5⟩ := wf_u64 w5
    obtain ⟨m6, rfl, b6⟩ := wf_u64 w6
    obtain ⟨m9, rfl, b9⟩ := wf_u64 w9
    obtain ⟨m10, rfl, b10⟩ := wf_u64 w10
    obtain ⟨m15, rfl, b15⟩ := wf_u64 w15
    obtain ⟨ks, rfl, hk⟩ := all_read (V := fun n : Int => [Value.int .i64 n]) (fun i x hx => read_int (kw i x hx))
    obtain ⟨ls, rfl, _⟩ := all_read (V := fun b : Bool => [Value.bool b]) (fun i x hx => read_bool (lw i x hx))
    obtain ⟨fs, rfl, hf⟩ := all_read (V := fieldV) (fun i x hx => read_field (fw i x hx))
    obtain ⟨cases, rfl, hc⟩ := all_read (V := caseV) (fun i x hx => read_case (cw i x hx))
    rw [List.length_map] at kl ll fl cl
    subst kl; subst ll; subst fl; subst cl
    have e1 : (ks.map fun n : Int => [Value.int .i64 n]).flatten = kidsV ks := flat_one _ _
    have e2 : (ls.map fun b : Bool => [Value.bool b]).flatten = lastV ls := flat_one _ _
    rw [e1] at kr
    rw [e2] at lr
    exact ⟨⟨n0, n1, b2, b3, b4, m5, m6, l7, l8, m9, m10, ks, ls, fs, l14, m15, cases, n17⟩, ⟨ka, kc, la, lc, fa, fc, ca, cc⟩, rfl,
      ⟨wf_i64 w0, wf_i64 w1, b5, b6, b9, b10, b15, wf_i64 w17, hk, fun f h => (hf f h).1, hc⟩, ⟨kr, lr, by rw [fieldsV, List.flatMap_def]; exact fr, by rw [casesV, List.flatMap_def]; exact cr⟩, fun f h => (hf f h).2, hl7, hl8, hl14⟩
end
end Go.Proofs.YtnapjcnfgdkmcaaGreatDoor
end
section
/- A whole specification read; the law's small. -/
namespace Go.Proofs.YtnapjcnfgdkmcaaGreatDoor
open Go Go.E
set_option linter.unusedVariables false
set_option maxRecDepth 10000
theorem read_def {ro : Ro} {cs : List Value} (h : Wf Tryz.prog ro 44 cs) : ∃ f : DefD, cs = defV f ∧ In64 f.type ∧ f.name.length ≤ reachBytes := by
  have hu := Tryz.underlying44
  have hl : cs.length = 2 := (Wf.struct_inv hu h).1.trans (by kernel_rfl)
  match cs, hl, h with
  | [v0, v1], _, h =>
    obtain ⟨l0, rfl, hl0⟩ := Wf.str_inv Tryz.underlying9 (Wf.fld (i := 0) (off := 0) (k := 1) hu h rfl rfl rfl (by kernel_rfl))
    obtain ⟨n1, rfl, w1⟩ := Wf.int_inv Tryz.underlying3 (Wf.fld (i := 1) (off := 1) (k := 1) hu h rfl rfl rfl (by kernel_rfl))
    exact ⟨⟨l0, n1⟩, rfl, wf_i64 w1, hl0⟩
theorem nodes_flat (l : List (NodeD × NodeA)) : (l.map fun p => nodeV p.1 p.2).flatten = nodesV (l.map (·.1)) (l.map (·.2)) := by
  induction l with
  | nil => rfl
  | cons p l ih => simp only [List.map_cons, List.flatten_cons, ih]; rfl
/-- Numbers of their kinds, all through. -/
structure SpecIn (s : SpecD) : Prop where
  nodes : ∀ d ∈ s.nodes, NodeIn d
  defs : ∀ d ∈ s.defs, In64 d.type
  names : ∀ d ∈ s.nodes, ∀ f ∈ d.fields, f.name.length ≤ reachBytes
  texts : ∀ d ∈ s.nodes, d.text.length ≤ reachBytes ∧ d.ereg.length ≤ reachBytes ∧ d.reg.length ≤ reachBytes
  dnames : ∀ d ∈ s.defs, d.name.length ≤ reachBytes
theorem read_spec {ro : Ro} {cs : List Value} (h : Wf Tryz.prog ro 25 cs) : ∃ (s : SpecD) (a : SpecA), cs = specV s a ∧ SpecIn s ∧ SpecOk ro s a := by
  have hu := Tryz.underlying25
  have hl : cs.length = 2 := (Wf.struct_inv hu h).1.trans (by kernel_rfl)
  match cs, hl, h with
  | [v0, v1], _, h =>
    obtain ⟨na, nn, nc, ncs, rfl, nr, nl, nw⟩ := Wf.slice_inv (s := 18) Tryz.underlying22 (by kernel_rfl) (by omega) (Wf.fld (i := 0) (off := 0) (k := 1) hu h rfl rfl rfl (by kernel_rfl))
    obtain ⟨da, dn, dc, dcs, rfl, dr, dl, dw⟩ := Wf.slice_inv (s := 2) Tryz.underlying23 (by kernel_rfl) (by omega) (Wf.fld (i := 1) (off := 1) (k := 1) hu h rfl rfl rfl (by kernel_rfl))
    obtain ⟨ns, rfl, hn⟩ := all_read (V := fun p : NodeD × NodeA => nodeV p.1 p.2) (G := fun p => NodeIn p.1 ∧ NodeOk ro p.1 p.2 ∧ (∀ f ∈ p.1.fields, f.name.length ≤ reachBytes) ∧ p.1.text.length ≤ reachBytes ∧ p.1.ereg.length ≤ reachBytes ∧ p.1.reg.length ≤ reachBytes) (fun i x hx => by obtain ⟨d, x', e, g1, g2, g3⟩ := read_nodeT (nw i x hx); exact ⟨(d, x'), e, g1, g2, g3⟩)
    obtain ⟨ds, rfl, hd⟩ := all_read (V := defV) (fun i x hx => read_def (dw i x hx))
    rw [List.length_map] at nl dl
    subst nl; subst dl
    rw [nodes_flat] at nr
    refine ⟨⟨ns.map (·.1), ds⟩, ⟨na, nc, da, dc, ns.map (·.2)⟩, by simp [specV], ⟨fun d hd' => ?_, fun d hd' => (hd d hd').1, fun d hd' => ?_, fun d hd' => ?_, fun d hd' => (hd d hd').2⟩, ⟨by simp, by simpa using nr, fun i d x g1 g2 => ?_, by rw [defsV, List.flatMap_def]; exact dr⟩⟩
    · obtain ⟨p, hp, rfl⟩ := List.mem_map.1 hd'
      exact (hn p hp).1
    · obtain ⟨p, hp, rfl⟩ := List.mem_map.1 hd'
      exact (hn p hp).2.2.1
    · obtain ⟨p, hp, rfl⟩ := List.mem_map.1 hd'
      exact (hn p hp).2.2.2
    · rw [List.getElem?_map] at g1 g2
      cases hp : ns[i]? with
      | none => rw [hp] at g1; cases g1
      | some p =>
        rw [hp] at g1 g2
        cases g1; cases g2
        exact (hn p (List.mem_of_getElem? hp)).2.1
section
variable {ro : Ro} {own r : Chs} {K : Value → Ro → Chs → Prop} {g : Chunk → Chs}
end
end Go.Proofs.YtnapjcnfgdkmcaaGreatDoor
end
section
/- Law 15: RegDerived. -/
namespace Go.Proofs.YtnapjcnfgdkmcaaGreatDoor
open Go Go.E
set_option linter.unusedVariables false
set_option linter.unusedSectionVars false
set_option linter.unusedSimpArgs false
set_option maxRecDepth 10000
theorem TextIn.of {s : SpecD} (h : SpecIn s) : TextIn s := by
  have e : reachBytes ≤ 4611686018427387904 := by decide
  exact ⟨fun d hd f hf => Nat.le_trans (h.names d hd f hf) e, fun d hd => Nat.le_trans (h.texts d hd).1 e, fun d hd => Nat.le_trans (h.dnames d hd) e⟩
/-- What is known of a type's fields where the numbers go well. -/
theorem der_all {s : SpecD} {lk : Lk} (h : lookR s = .ok lk) {k : Nat} {d : NodeD} (hd : s.nodes[k]? = some d) : (d.fields.map (·.name)).Nodup ∧ d.fields.length ≤ 64 ∧ ∀ (i : Nat) (f : FieldD), d.fields[i]? = some f → DerOk s d i f := by
  have hv := Ahead.of (look_check h).1
  obtain ⟨hf, _⟩ := hv k d hd
  have h64 := (form_small hf).2.1
  by_cases h5 : d.kind = 5
  · obtain ⟨h1, _, l, h2⟩ := look_records h hd h5
    exact ⟨h1, h64, fun i f hfi => allDer_get h2 hfi⟩
  · have h0 : d.fields = [] := by
      refine List.eq_nil_of_length_eq_zero (Classical.byContradiction fun hn => ?_)
      unfold formD at hf
      split at hf
      · cases hf
      split at hf
      · cases hf
      split at hf
      · cases hf
      split at hf
      · cases hf
      rename_i hh
      exact hh (.inl fun hiff => h5 (hiff.2 (by omega)))
    rw [h0]
    exact ⟨List.nodup_nil, by simp, fun i f hfi => by simp at hfi⟩
theorem sumsTo_get {d : NodeD} : ∀ {n t : Nat} {q : Nat × Int × Int}, (sumsTo d n)[t]? = some q → ∃ f, d.fields[q.1]? = some f ∧ f.derive = 3 ∧ q.2 = (idxR' d f.of, idxR' d f.to) := by
  intro n t q h
  have hm := List.mem_of_getElem? h
  unfold sumsTo at hm
  rw [List.mem_filterMap] at hm
  obtain ⟨i, _, hi⟩ := hm
  cases hf : d.fields[i]? with
  | none => rw [hf] at hi; cases hi
  | some f =>
    rw [hf] at hi
    dsimp only at hi
    by_cases h3 : f.derive = 3
    · rw [if_pos h3] at hi
      cases hi
      exact ⟨f, hf, h3, rfl⟩
    · rw [if_neg h3] at hi; cases hi
/-- Is a field, so far, what another one is derived of? -/
def usedB (d : NodeD) (j k : Nat) : Bool := (d.fields.take j).any (fun g => decide (derOf d g.name = (k : Int)))
theorem usedB_succ {d : NodeD} {j : Nat} {g : FieldD} (h : d.fields[j]? = some g) (k : Nat) : usedB d (j + 1) k = (usedB d j k || decide (derOf d g.name = (k : Int))) := by
  unfold usedB
  rw [List.take_add_one, h, List.any_append]
  simp
theorem usedB_mem {d : NodeD} {j k : Nat} : usedB d j k = true ↔ ∃ (i : Nat) (g : FieldD), i < j ∧ d.fields[i]? = some g ∧ derOf d g.name = (k : Int) := by
  unfold usedB
  rw [List.any_eq_true]
  refine ⟨?_, ?_⟩
  · rintro ⟨g, hg, h⟩
    obtain ⟨i, hi⟩ := List.getElem?_of_mem hg
    rw [List.getElem?_take] at hi
    split at hi
    · rename_i hij
      exact ⟨i, g, hij, hi, of_decide_eq_true h⟩
    · cases hi
  · rintro ⟨i, g, h1, h2, h3⟩
    refine ⟨g, List.mem_of_getElem? (i := i) ?_, decide_eq_true h3⟩
    rw [List.getElem?_take, if_pos h1]
    exact h2
structure UsM (d : NodeD) (j : Nat) (M : List (Int × Bool × Nat)) : Prop where
  map : MapOk (fun _ => True) M
  is : ∀ k : Nat, (getG M (k : Int)).getD false = usedB d j k
theorem UsM.nil (d : NodeD) : UsM d 0 [] := ⟨MapOk.nil, fun k => by unfold usedB; simp [getG]⟩
theorem UsM.skip {d : NodeD} {j : Nat} {M : List (Int × Bool × Nat)} (h : UsM d j M) {g : FieldD} (hg : d.fields[j]? = some g) (hn : derOf d g.name < 0) : UsM d (j + 1) M := ⟨h.map, fun k => by rw [usedB_succ hg, h.is, decide_eq_false (by omega), Bool.or_false]⟩
theorem UsM.put {d : NodeD} {j : Nat} {M : List (Int × Bool × Nat)} (h : UsM d j M) {g : FieldD} (hg : d.fields[j]? = some g) {k : Nat} (hn : derOf d g.name = (k : Int)) (c : Nat) : UsM d (j + 1) (putG M c (k : Int) true) := ⟨h.map.put trivial c true, fun i => by
  rw [usedB_succ hg, getG_putG, hn]
  by_cases hi : i = k
  · subst hi; simp
  · rw [if_neg (by omega), h.is, decide_eq_false (by omega), Bool.or_false]⟩
section
variable {ro : Ro} {own : Chs} {K : Value → Ro → Chs → Prop} {s : SpecD} {a : SpecA}
set_option maxHeartbeats 8000000 in
theorem rgderived_law (ho : SpecOk ro s a) (hi : SpecIn s) (hS : SpOk ro) (hM : MaxOk ro) (hk : ∀ ro', K (.bool true) ro' own) : CallOk Tryz.prog 10 #[.agg (specV s a).toArray] ro own K := by
  have hT := TextIn.of hi
  have hcl : (Value.agg (specV s a).toArray).cells.toList = specV s a := rfl
  refine CallOk.intro (args := [_]) (rs := [_]) T_ok Tryz.func10 Tryz.call10 rfl rfl (by kernel_rfl) rfl rfl ?_
  repeat (first | exact endA | refine wkP ?_ | refine opB (fun b => ?_) | refine opA (fun a' c' hc1 hc2 => ?_) | (apply GJ.and; exact rfl; intro hg) | (apply GJ.or; exact rfl; intro hg))
  rw [hcl]
  obtain ⟨bS, hbS⟩ : ∃ z : Nat, z = b := ⟨_, rfl⟩
  subst hbS
  refine links15_ok hS hM (fun ro1 hl1 => ?_)
  have ho1 := ho.lift hl1
  have hM1 := hM.le hl1
  have hk1 := hk ro1
  repeat (first | exact endA | refine wkP ?_ | refine opB (fun b => ?_) | refine opA (fun a' c' hc1 hc2 => ?_) | (apply GJ.and; exact rfl; intro hg) | (apply GJ.or; exact rfl; intro hg))
  refine small15_ok ho1 (fun hs => ?_) (fun hs => ?_)
  · repeat (first | exact endA | refine wkP ?_ | refine opB (fun b => ?_) | refine opA (fun a' c' hc1 hc2 => ?_) | (apply GJ.and; exact rfl; intro hg) | (apply GJ.or; exact rfl; intro hg))
    exact Wk.outS Sup.auto (.refl _) hk1
  repeat (first | exact endA | refine wkP ?_ | refine opB (fun b => ?_) | refine opA (fun a' c' hc1 hc2 => ?_) | (apply GJ.and; exact rfl; intro hg) | (apply GJ.or; exact rfl; intro hg))
  refine rgcheck_ok ho1 hM1 hT (fun ro2 hl2 => ?_)
  have ho2 := ho1.lift hl2
  have hk2 := hk ro2
  cases hlk : lookR s with
  | error e =>
    have hz := lookR_err hlk
    obtain ⟨e1, e2⟩ := e
    dsimp only [errR, flV] at hz ⊢
    repeat (first | exact endA | refine wkP ?_ | refine opB (fun b => ?_) | refine opA (fun a' c' hc1 hc2 => ?_) | (apply GJ.and; exact rfl; intro hg) | (apply GJ.or; exact rfl; intro hg))
    exact Wk.outS Sup.auto (.refl _) hk2
  | ok lk =>
    dsimp only [errR, flV]
    have hr1 := ho2.nodes
    have hm := hr1.max
    have hnc := hr1.le
    unfold maxLen at hm
    have hda := fun k d => der_all hlk (k := k) (d := d)
    repeat (first | exact endA | refine wkP ?_ | refine opB (fun b => ?_) | refine opA (fun a' c' hc1 hc2 => ?_) | (apply GJ.and; exact rfl; intro hg) | (apply GJ.or; exact rfl; intro hg))
    refine LoopOk.at (ι := Nat) Keep.auto (fun i => [(26, .int .i64 (i : Int))]) (fun i => .blk bS 25 (specV s a) :: own) (fun i => i ≤ s.nodes.length) (fun i => s.nodes.length - i) 0 ?_ Sub.auto Sup.auto ?_
    · exact Nat.zero_le _
    rintro i i1
    dsimp only [List.cons_append, List.nil_append] at i1 ⊢
    by_cases hi : i < s.nodes.length
    rotate_left
    · obtain rfl : i = s.nodes.length := by omega
      repeat (first | exact endA | refine wkP ?_ | refine opB (fun b => ?_) | refine opA (fun a' c' hc1 hc2 => ?_) | (apply GJ.and; exact rfl; intro hg) | (apply GJ.or; exact rfl; intro hg))
      exact Wk.outS Sup.auto (.refl _) hk2
    obtain ⟨d, hd⟩ : ∃ d, s.nodes[i]? = some d := ⟨_, List.getElem?_eq_getElem hi⟩
    obtain ⟨x, hx⟩ : ∃ y, a.xs[i]? = some y := ⟨_, List.getElem?_eq_getElem (by rw [ho.len]; exact hi)⟩
    have hdr := nodesV_drop _ _ _ _ _ hd hx
    have hn := ho2.each i d x hd hx
    obtain ⟨d1, d2, d3⟩ := hda i d hd
    obtain ⟨s1, s2⟩ := derOf_spec d1 d3
    have hfr := hn.fields
    have hfm := hfr.max
    have hfc := hfr.le
    unfold maxLen at hfm
    repeat (first | exact endA | refine wkP ?_ | refine opB (fun b => ?_) | refine opA (fun a' c' hc1 hc2 => ?_) | (apply GJ.and; exact rfl; intro hg) | (apply GJ.or; exact rfl; intro hg))
    rw [Int.toNat_natCast]
    refine OpOk.loadRow rfl rfl (LdN.at hr1 hdr) rfl ?_
    repeat (first | exact endA | refine wkP ?_ | refine opB (fun b => ?_) | refine opA (fun a' c' hc1 hc2 => ?_) | (apply GJ.and; exact rfl; intro hg) | (apply GJ.or; exact rfl; intro hg))
    obtain ⟨bN, hbN⟩ : ∃ z : Nat, z = b := ⟨_, rfl⟩
    subst hbN
    refine rgsums_ok hn d2 (fun la lc g1 g2 => ?_)
    have hsg := fun t q => sumsTo_get (d := d) (n := d.fields.length) (t := t) (q := q)
    have hsl := sumsTo_len d d.fields.length
    generalize sumsTo d d.fields.length = L at *
    have g3 := g2
    unfold maxLen at g3
    have hrl : Rds ro2 (.sl la L.length lc 81 3 (sums0V L) :: .blk bN 40 (nodeV d x) :: .blk bS 25 (specV s a) :: own) la L.length lc 3 (sums0V L) := Rds.hasSl g1 g2 (sums0V_len L)
    repeat (first | exact endA | refine wkP ?_ | refine opB (fun b => ?_) | refine opA (fun a' c' hc1 hc2 => ?_) | (apply GJ.and; exact rfl; intro hg) | (apply GJ.or; exact rfl; intro hg))
    refine LoopOk.at (ι := Nat) Keep.auto (fun t => [(33, .int .i64 (t : Int))]) (fun t => .sl la L.length lc 81 3 (sums0V L) :: .blk bN 40 (nodeV d x) :: .blk bS 25 (specV s a) :: own) (fun t => t ≤ L.length) (fun t => L.length - t) 0 ?_ Sub.auto Sup.auto ?_
    · exact Nat.zero_le _
    rintro t t1
    dsimp only [List.cons_append, List.nil_append] at t1 ⊢
    by_cases ht : t < L.length
    · obtain ⟨⟨qi, qa, qb⟩, hq⟩ : ∃ q, L[t]? = some q := ⟨_, List.getElem?_eq_getElem ht⟩
      obtain ⟨f, f1, f2, f3⟩ := hsg t _ hq
      dsimp only at f1 f3
      obtain ⟨p, q, g, h, e1, e2, e3, e4, e5, e6, e7, e8⟩ := (d3 qi f f1).sum f2
      rw [e1, e2] at f3
      cases f3
      have hrow := sums0V_drop L hq
      dsimp only at hrow
      have hqi := (List.getElem?_eq_some_iff.1 f1).1
      have hp := (List.getElem?_eq_some_iff.1 e5).1
      have hql := (List.getElem?_eq_some_iff.1 e7).1
      have hv2 : (fieldsV d.fields)[qi * 5 + 2]? = some (.int .i64 3) := by rw [field_get f1 (by decide), ← f2]; rfl
      have hv3 : (fieldsV d.fields)[qi * 5 + 3]? = some (str f.of) := by rw [field_get f1 (by decide)]; rfl
      have hv4 : (fieldsV d.fields)[qi * 5 + 4]? = some (str f.to) := by rw [field_get f1 (by decide)]; rfl
      have hp0 : (fieldsV d.fields)[p * 5 + 0]? = some (str f.of) := by rw [field_get e5 (by decide), ← e6]; rfl
      have hq0 : (fieldsV d.fields)[q * 5 + 0]? = some (str f.to) := by rw [field_get e7 (by decide), ← e8]; rfl
      repeat (first | exact endA | refine wkP ?_ | refine opB (fun b => ?_) | refine opA (fun a' c' hc1 hc2 => ?_) | (apply GJ.and; exact rfl; intro hg) | (apply GJ.or; exact rfl; intro hg))
      rw [Int.toNat_natCast]
      refine OpOk.loadRow rfl rfl (LdN.atR hrl hrow rfl) rfl ?_
      repeat (first | exact endA | refine wkP ?_ | refine opB (fun b => ?_) | refine opA (fun a' c' hc1 hc2 => ?_) | (apply GJ.and; exact rfl; intro hg) | (apply GJ.or; exact rfl; intro hg))
      rw [Int.toNat_natCast, Nat.add_assoc]
      refine QOk.load rfl rfl (Ld.rs hfr hv2) ?_
      repeat (first | exact endA | refine wkP ?_ | refine opB (fun b => ?_) | refine opA (fun a' c' hc1 hc2 => ?_) | (apply GJ.and; exact rfl; intro hg) | (apply GJ.or; exact rfl; intro hg))
      rw [Int.toNat_natCast, Nat.add_assoc]
      refine QOk.load rfl rfl (Ld.rs hfr hp0) ?_
      repeat (first | exact endA | refine wkP ?_ | refine opB (fun b => ?_) | refine opA (fun a' c' hc1 hc2 => ?_) | (apply GJ.and; exact rfl; intro hg) | (apply GJ.or; exact rfl; intro hg))
      rw [Int.toNat_natCast, Nat.add_assoc]
      refine QOk.load rfl rfl (Ld.rs hfr hv3) ?_
      repeat (first | exact endA | refine wkP ?_ | refine opB (fun b => ?_) | refine opA (fun a' c' hc1 hc2 => ?_) | (apply GJ.and; exact rfl; intro hg) | (apply GJ.or; exact rfl; intro hg))
      refine GJ.ff (fun h => h rfl) ?_
      repeat (first | exact endA | refine wkP ?_ | refine opB (fun b => ?_) | refine opA (fun a' c' hc1 hc2 => ?_) | (apply GJ.and; exact rfl; intro hg) | (apply GJ.or; exact rfl; intro hg))
      rw [Int.toNat_natCast, Nat.add_assoc]
      refine QOk.load rfl rfl (Ld.rs hfr hq0) ?_
      repeat (first | exact endA | refine wkP ?_ | refine opB (fun b => ?_) | refine opA (fun a' c' hc1 hc2 => ?_) | (apply GJ.and; exact rfl; intro hg) | (apply GJ.or; exact rfl; intro hg))
      rw [Int.toNat_natCast, Nat.add_assoc]
      refine QOk.load rfl rfl (Ld.rs hfr hv4) ?_
      repeat (first | exact endA | refine wkP ?_ | refine opB (fun b => ?_) | refine opA (fun a' c' hc1 hc2 => ?_) | (apply GJ.and; exact rfl; intro hg) | (apply GJ.or; exact rfl; intro hg))
      refine Br.f (fun h => h rfl) ?_
      repeat (first | exact endA | refine wkP ?_ | refine opB (fun b => ?_) | refine opA (fun a' c' hc1 hc2 => ?_) | (apply GJ.and; exact rfl; intro hg) | (apply GJ.or; exact rfl; intro hg))
      refine Wk.id ⟨t + 1, ⟨rfl, ?_⟩, ?_, Sub.auto, Sup.auto⟩
      all_goals try dsimp only
      · omega
      · omega
    · obtain rfl : t = L.length := by omega
      repeat (first | exact endA | refine wkP ?_ | refine opB (fun b => ?_) | refine opA (fun a' c' hc1 hc2 => ?_) | (apply GJ.and; exact rfl; intro hg) | (apply GJ.or; exact rfl; intro hg))
      refine OpOk.makeMapG (kv := Value.int .i64) (vv := Value.bool) (fun bi => ?_)
      repeat (first | exact endA | refine wkP ?_ | refine opB (fun b => ?_) | refine opA (fun a' c' hc1 hc2 => ?_) | (apply GJ.and; exact rfl; intro hg) | (apply GJ.or; exact rfl; intro hg))
      clear hrl hsg hsl g1 g2 g3 hda
      refine LoopOk.at (ι := Nat × List (Int × Bool × Nat) × Nat) Keep.auto (fun (j, M, c) => [(103, .int .i64 (j : Int))]) (fun (j, M, c) => .obj bi (mapG (Value.int .i64) Value.bool M c) :: .sl la L.length lc 81 3 (sums0V L) :: .blk bN 40 (nodeV d x) :: .blk bS 25 (specV s a) :: own) (fun (j, M, c) => j ≤ d.fields.length ∧ UsM d j M) (fun (j, M, c) => d.fields.length - j) (0, [], 0) ?_ Sub.auto Sup.auto ?_
      · exact ⟨Nat.zero_le _, UsM.nil d⟩
      rintro ⟨j, M, c⟩ ⟨j1, j2⟩
      dsimp only [List.cons_append, List.nil_append] at j1 j2 ⊢
      by_cases hj : j < d.fields.length
      · obtain ⟨g, hg⟩ : ∃ g, d.fields[j]? = some g := ⟨_, List.getElem?_eq_getElem hj⟩
        have hder : derAt d (j : Int) = derOf d g.name := by unfold derAt; rw [if_neg (by omega), Int.toNat_natCast, hg]
        repeat (first | exact endA | refine wkP ?_ | refine opB (fun b => ?_) | refine opA (fun a' c' hc1 hc2 => ?_) | (apply GJ.and; exact rfl; intro hg) | (apply GJ.or; exact rfl; intro hg))
        refine rderive_ok hn ?_
        rw [hder]
        by_cases hneg : derOf d g.name < 0
        · have j3 := j2.skip hg hneg
          generalize derOf d g.name = z at *
          repeat (first | exact endA | refine wkP ?_ | refine opB (fun b => ?_) | refine opA (fun a' c' hc1 hc2 => ?_) | (apply GJ.and; exact rfl; intro hg) | (apply GJ.or; exact rfl; intro hg))
          refine Wk.id ⟨(j + 1, M, c), ⟨rfl, ?_⟩, ?_, Sub.auto, Sup.auto⟩
          all_goals try dsimp only
          · exact ⟨by omega, j3⟩
          · omega
        · obtain ⟨k, hk0⟩ := Int.eq_ofNat_of_zero_le (show 0 ≤ derOf d g.name by omega)
          obtain ⟨k1, f, k2, k3, k4⟩ := s1 j g hg k hk0
          rw [hk0]
          have hg0 : (fieldsV d.fields)[j * 5 + 0]? = some (str g.name) := by rw [field_get hg (by decide)]; rfl
          have hf3 : (fieldsV d.fields)[k * 5 + 3]? = some (str g.name) := by rw [field_get k2 (by decide), ← k4]; rfl
          have hkl := (List.getElem?_eq_some_iff.1 k2).1
          have hnu : usedB d j k = false := by
            rw [Bool.eq_false_iff]
            intro hu
            obtain ⟨i', g', u1, u2, u3⟩ := usedB_mem.1 hu
            obtain ⟨_, f', w1, _, w2⟩ := s1 i' g' u2 k u3
            rw [k2] at w1; cases w1
            have := field_inj d1 u2 hg (by rw [← w2, k4])
            omega
          have hget : ((getG M (k : Int)).map Value.bool).getD (.bool false) = .bool false := by
            have := j2.is k
            rw [hnu] at this
            cases hx : getG M (k : Int) with
            | none => rfl
            | some v => rw [hx] at this; simp at this; subst this; rfl
          have j3 := j2.put hg hk0 c
          repeat (first | exact endA | refine wkP ?_ | refine opB (fun b => ?_) | refine opA (fun a' c' hc1 hc2 => ?_) | (apply GJ.and; exact rfl; intro hg) | (apply GJ.or; exact rfl; intro hg))
          refine QOk.lookupG (kt := 3) (et := 4) (kv := Value.int .i64) (vv := Value.bool) (k := (k : Int)) (z := .bool false) rfl rfl Tryz.underlying82 (KeyEnc.int Tryz.underlying3) j2.map trivial (by kernel_rfl) ?_
          rw [hget]
          repeat (first | exact endA | refine wkP ?_ | refine opB (fun b => ?_) | refine opA (fun a' c' hc1 hc2 => ?_) | (apply GJ.and; exact rfl; intro hg) | (apply GJ.or; exact rfl; intro hg))
          rw [Int.toNat_natCast, Nat.add_assoc]
          refine QOk.load rfl rfl (Ld.rs hfr hf3) ?_
          repeat (first | exact endA | refine wkP ?_ | refine opB (fun b => ?_) | refine opA (fun a' c' hc1 hc2 => ?_) | (apply GJ.and; exact rfl; intro hg) | (apply GJ.or; exact rfl; intro hg))
          rw [Int.toNat_natCast, Nat.add_assoc]
          refine QOk.load rfl rfl (Ld.rs hfr hg0) ?_
          repeat (first | exact endA | refine wkP ?_ | refine opB (fun b => ?_) | refine opA (fun a' c' hc1 hc2 => ?_) | (apply GJ.and; exact rfl; intro hg) | (apply GJ.or; exact rfl; intro hg))
          refine Br.f (fun h => h rfl) ?_
          repeat (first | exact endA | refine wkP ?_ | refine opB (fun b => ?_) | refine opA (fun a' c' hc1 hc2 => ?_) | (apply GJ.and; exact rfl; intro hg) | (apply GJ.or; exact rfl; intro hg))
          refine OpOk.mapUpdateG (kt := 3) (et := 4) (kv := Value.int .i64) (vv := Value.bool) (k := (k : Int)) (v := true) rfl rfl rfl Tryz.underlying82 (KeyEnc.int Tryz.underlying3) j2.map trivial (fun c2 => ?_)
          repeat (first | exact endA | refine wkP ?_ | refine opB (fun b => ?_) | refine opA (fun a' c' hc1 hc2 => ?_) | (apply GJ.and; exact rfl; intro hg) | (apply GJ.or; exact rfl; intro hg))
          refine Wk.id ⟨(j + 1, putG M c (k : Int) true, c2), ⟨rfl, ?_⟩, ?_, Sub.auto, Sup.auto⟩
          all_goals try dsimp only
          · exact ⟨by omega, j3⟩
          · omega
      · obtain rfl : j = d.fields.length := by omega
        repeat (first | exact endA | refine wkP ?_ | refine opB (fun b => ?_) | refine opA (fun a' c' hc1 hc2 => ?_) | (apply GJ.and; exact rfl; intro hg) | (apply GJ.or; exact rfl; intro hg))
        refine LoopOk.at (ι := Nat) Keep.auto (fun k => [(140, .int .i64 (k : Int))]) (fun k => .obj bi (mapG (Value.int .i64) Value.bool M c) :: .sl la L.length lc 81 3 (sums0V L) :: .blk bN 40 (nodeV d x) :: .blk bS 25 (specV s a) :: own) (fun k => k ≤ d.fields.length) (fun k => d.fields.length - k) 0 ?_ Sub.auto Sup.auto ?_
        · exact Nat.zero_le _
        rintro k k1
        dsimp only [List.cons_append, List.nil_append] at k1 ⊢
        by_cases hk3 : k < d.fields.length
        · obtain ⟨f, hf⟩ : ∃ f, d.fields[k]? = some f := ⟨_, List.getElem?_eq_getElem hk3⟩
          have hfe : d.fields[k] = f := Option.some.inj ((List.getElem?_eq_getElem hk3).symm.trans hf)
          have hfd := fieldsV_drop d.fields hk3
          rw [hfe] at hfd
          have hu : usedB d d.fields.length k = decide (f.derive = 1 ∨ f.derive = 2) := by
            rw [Bool.eq_iff_iff, usedB_mem, decide_eq_true_iff]
            refine ⟨?_, fun h => ?_⟩
            · rintro ⟨i', g', _, u2, u3⟩
              obtain ⟨_, f', w1, w2, _⟩ := s1 i' g' u2 k u3
              rw [hf] at w1; cases w1
              exact w2
            · obtain ⟨i', g', u1, u2⟩ := s2 k f hf h
              exact ⟨i', g', (List.getElem?_eq_some_iff.1 u1).1, u1, u2⟩
          have hget : ((getG M (k : Int)).map Value.bool).getD (.bool false) = .bool (decide (f.derive = 1 ∨ f.derive = 2)) := by
            rw [← hu, ← j2.is k]
            cases getG M (k : Int) <;> rfl
          clear hu hfe s1 s2
          repeat (first | exact endA | refine wkP ?_ | refine opB (fun b => ?_) | refine opA (fun a' c' hc1 hc2 => ?_) | (apply GJ.and; exact rfl; intro hg) | (apply GJ.or; exact rfl; intro hg))
          rw [Int.toNat_natCast]
          refine OpOk.loadRow rfl rfl (LdN.at hfr hfd) rfl ?_
          by_cases h12 : f.derive = 1 ∨ f.derive = 2
          · rw [decide_eq_true h12] at hget
            by_cases h1 : f.derive = 1
            · repeat (first | exact endA | refine wkP ?_ | refine opB (fun b => ?_) | refine opA (fun a' c' hc1 hc2 => ?_) | (apply GJ.and; exact rfl; intro hg) | (apply GJ.or; exact rfl; intro hg))
              refine OpOk.lookupG (kt := 3) (et := 4) (kv := Value.int .i64) (vv := Value.bool) (k := (k : Int)) (z := .bool false) rfl rfl Tryz.underlying82 (KeyEnc.int Tryz.underlying3) j2.map trivial (by kernel_rfl) ?_
              rw [hget]
              repeat (first | exact endA | refine wkP ?_ | refine opB (fun b => ?_) | refine opA (fun a' c' hc1 hc2 => ?_) | (apply GJ.and; exact rfl; intro hg) | (apply GJ.or; exact rfl; intro hg))
              refine Wk.id ⟨k + 1, ⟨rfl, ?_⟩, ?_, Sub.auto, Sup.auto⟩
              all_goals try dsimp only
              · omega
              · omega
            · have h2 : f.derive = 2 := by omega
              repeat (first | exact endA | refine wkP ?_ | refine opB (fun b => ?_) | refine opA (fun a' c' hc1 hc2 => ?_) | (apply GJ.and; exact rfl; intro hg) | (apply GJ.or; exact rfl; intro hg))
              refine OpOk.lookupG (kt := 3) (et := 4) (kv := Value.int .i64) (vv := Value.bool) (k := (k : Int)) (z := .bool false) rfl rfl Tryz.underlying82 (KeyEnc.int Tryz.underlying3) j2.map trivial (by kernel_rfl) ?_
              rw [hget]
              repeat (first | exact endA | refine wkP ?_ | refine opB (fun b => ?_) | refine opA (fun a' c' hc1 hc2 => ?_) | (apply GJ.and; exact rfl; intro hg) | (apply GJ.or; exact rfl; intro hg))
              refine Br.f (fun h => h (by simp [h2])) ?_
              repeat (first | exact endA | refine wkP ?_ | refine opB (fun b => ?_) | refine opA (fun a' c' hc1 hc2 => ?_) | (apply GJ.and; exact rfl; intro hg) | (apply GJ.or; exact rfl; intro hg))
              refine Wk.id ⟨k + 1, ⟨rfl, ?_⟩, ?_, Sub.auto, Sup.auto⟩
              all_goals try dsimp only
              · omega
              · omega
          · rw [decide_eq_false h12] at hget
            have h1 : f.derive ≠ 1 := fun h => h12 (.inl h)
            have h2 : f.derive ≠ 2 := fun h => h12 (.inr h)
            repeat (first | exact endA | refine wkP ?_ | refine opB (fun b => ?_) | refine opA (fun a' c' hc1 hc2 => ?_) | (apply GJ.and; exact rfl; intro hg) | (apply GJ.or; exact rfl; intro hg))
            refine OpOk.lookupG (kt := 3) (et := 4) (kv := Value.int .i64) (vv := Value.bool) (k := (k : Int)) (z := .bool false) rfl rfl Tryz.underlying82 (KeyEnc.int Tryz.underlying3) j2.map trivial (by kernel_rfl) ?_
            rw [hget]
            repeat (first | exact endA | refine wkP ?_ | refine opB (fun b => ?_) | refine opA (fun a' c' hc1 hc2 => ?_) | (apply GJ.and; exact rfl; intro hg) | (apply GJ.or; exact rfl; intro hg))
            refine Br.f (fun h => h (by simp [h2])) ?_
            repeat (first | exact endA | refine wkP ?_ | refine opB (fun b => ?_) | refine opA (fun a' c' hc1 hc2 => ?_) | (apply GJ.and; exact rfl; intro hg) | (apply GJ.or; exact rfl; intro hg))
            refine Wk.id ⟨k + 1, ⟨rfl, ?_⟩, ?_, Sub.auto, Sup.auto⟩
            all_goals try dsimp only
            · omega
            · omega
        · obtain rfl : k = d.fields.length := by omega
          have hd1 : derAt d (-1) = -1 := by unfold derAt; rw [if_pos (by decide)]
          have hd2 : derAt d (d.fields.length : Int) = -1 := by unfold derAt; rw [if_neg (by omega), Int.toNat_natCast, List.getElem?_eq_none (Nat.le_refl _)]
          repeat (first | exact endA | refine wkP ?_ | refine opB (fun b => ?_) | refine opA (fun a' c' hc1 hc2 => ?_) | (apply GJ.and; exact rfl; intro hg) | (apply GJ.or; exact rfl; intro hg))
          refine rderive_ok hn ?_
          rw [hd1]
          repeat (first | exact endA | refine wkP ?_ | refine opB (fun b => ?_) | refine opA (fun a' c' hc1 hc2 => ?_) | (apply GJ.and; exact rfl; intro hg) | (apply GJ.or; exact rfl; intro hg))
          refine rderive_ok hn ?_
          rw [hd2]
          repeat (first | exact endA | refine wkP ?_ | refine opB (fun b => ?_) | refine opA (fun a' c' hc1 hc2 => ?_) | (apply GJ.and; exact rfl; intro hg) | (apply GJ.or; exact rfl; intro hg))
          refine Wk.id ⟨i + 1, ⟨rfl, ?_⟩, ?_, Sub.auto, Sup.auto⟩
          all_goals try dsimp only
          · omega
          · omega
end
end Go.Proofs.YtnapjcnfgdkmcaaGreatDoor
end
section
/- Law 15: RegLinks. -/
namespace Go.Proofs.YtnapjcnfgdkmcaaGreatDoor
open Go Go.E
set_option linter.unusedVariables false
set_option linter.unusedSectionVars false
set_option linter.unusedSimpArgs false
set_option maxRecDepth 10000
/-- Is a type, so far, within a field behind a field? -/
def withinB (s : SpecD) (d : NodeD) (i f j : Nat) : Bool := (List.range j).any (fun k => decide (f < k) && (match d.fields[k]? with
  | some g => decide ((i : Int) ∈ preS s g.type)
  | none => false))
theorem withinB_succ {s : SpecD} {d : NodeD} {i f j : Nat} {g : FieldD} (hg : d.fields[j]? = some g) : withinB s d i f (j + 1) = (withinB s d i f j || decide ((i : Int) ∈ preS s g.type) && decide (f < j)) := by
  unfold withinB
  rw [List.range_succ, List.any_append]
  simp [hg, Bool.and_comm]
theorem withinB_of {s : SpecD} {d : NodeD} {i f j : Nat} {h : FieldD} (hj : f < j) (hh : d.fields[j]? = some h) (hi : (i : Int) ∈ preS s h.type) : withinB s d i f d.fields.length = true := by
  unfold withinB
  rw [List.any_eq_true]
  exact ⟨j, List.mem_range.2 (List.getElem?_eq_some_iff.1 hh).1, by rw [hh]; simp [hj, hi]⟩
theorem links_split (lk : Lk) {n : Nat} : ∀ {j : Nat}, j ≤ n → ∃ r, linksTo lk n = linksTo lk j ++ r := fun {j} hj => by
  induction n with
  | zero => obtain rfl : j = 0 := by omega
            exact ⟨[], by simp⟩
  | succ n ih =>
    by_cases h : j = n + 1
    · subst h; exact ⟨[], by simp⟩
    · obtain ⟨r, hr⟩ := ih (by omega)
      rw [linksTo_succ, hr]
      exact ⟨r ++ _, by rw [List.append_assoc]⟩
section
variable {ro : Ro} {own : Chs} {K : Value → Ro → Chs → Prop} {s : SpecD} {a : SpecA}
theorem qneqStruct {P : Program} {T : TT} [hT : TTab P T] {ty : TypeId} {env : Env} {ro : Ro} {own : Chs} {K : Value → Prop} {t yt : TypeId} {x y : Operand} {xs ys : List Value} {fs : List (TypeId × Nat × Nat)} {z1 : Nat} {z2 : List Value} {q : Bool} (hx : ev env x = some (.agg xs.toArray)) (hy : ev env y = some (.agg ys.toArray)) (ht : T.get t = some ⟨.struct fs, z1, z2⟩) (hq : eqFs T xs ys fs = some q)
    (h1 : P.stoodInHeld t = false) (h2 : P.eqGuardType P.depth t = false) (h3 : ((P.fieldsOf t).toList.all fun f => f.name != "_") = true) (hk : K (.bool (!q))) : QOk P (.binOp .neq t x y yt) ty env ro own K := by
  obtain ⟨l, e1, e2, _⟩ := hT.ok.struct ht
  have e3 : P.fieldsOf t = l.toArray := by simp [Program.fieldsOf, e1]
  rw [e3] at h3
  subst e2
  refine QOk.pu (fun h hs d pos af g => .mk fun ρ w hρ _ => ?_) hk
  have h4 := eqFs_spec (P := P) (T := T) (xs := xs) (ys := ys) 9998 w l q (fun f hf => by have := List.all_eq_true.1 h3 f (by simpa using hf); simpa using this) hq
  simp only [execOp, hρ _ _ hx, hρ _ _ hy, Sem.run_bind, run_eqGuard_agg w .neq t x y _ _ h2, Result.andThen_ok, run_neq_struct, run_equalIn_agg w 9999 t _ _ (by rw [e3]; exact e1) h1, e3, h4, Sem.run_pure]
theorem rglinks1_ok {bw bi bj bx : Nat} {k : Int} {i j r f : Nat} {u : Bool} {X R : Chs} (hk : K (.bool true) ro (X ++ (.blk bw 4 [.bool (u || (decide (k = (i : Int)) && decide (f < j)))] :: .blk bi 3 [.int .i64 (i : Int)] :: .blk bj 3 [.int .i64 (j : Int)] :: .blk bx 70 [.int .i64 (i : Int), .int .i64 (r : Int), .int .i64 (f : Int)] :: R))) :
    CallOk Tryz.prog 40 #[.int .i64 k, ptr' bw, ptr' bi, ptr' bj, ptr' bx] ro (X ++ (.blk bw 4 [.bool u] :: .blk bi 3 [.int .i64 (i : Int)] :: .blk bj 3 [.int .i64 (j : Int)] :: .blk bx 70 [.int .i64 (i : Int), .int .i64 (r : Int), .int .i64 (f : Int)] :: R)) K := by
  refine CallOk.intro (args := [_, _, _, _, _]) (rs := [_]) T_ok Tryz.func40 Tryz.call40 rfl rfl (by kernel_rfl) rfl rfl ?_
  cases u with
  | true =>
    rw [Bool.true_or] at hk
    repeat (first | exact endA | refine wkP ?_ | refine opB (fun b => ?_) | refine opA (fun a' c' hc1 hc2 => ?_))
    exact Wk.id hk
  | false =>
    rw [Bool.false_or] at hk
    by_cases h1 : k = (i : Int)
    · by_cases h2 : f < j
      · rw [decide_eq_true h1, decide_eq_true h2, Bool.true_and] at hk
        repeat (first | exact endA | refine wkP ?_ | refine opB (fun b => ?_) | refine opA (fun a' c' hc1 hc2 => ?_))
        rw [decide_eq_true (show (j : Int) > (f : Int) by omega)]
        exact Wk.id hk
      · rw [decide_eq_true h1, decide_eq_false h2, Bool.true_and] at hk
        repeat (first | exact endA | refine wkP ?_ | refine opB (fun b => ?_) | refine opA (fun a' c' hc1 hc2 => ?_))
        rw [decide_eq_false (show ¬ (j : Int) > (f : Int) by omega)]
        exact Wk.id hk
    · rw [decide_eq_false h1, Bool.false_and] at hk
      repeat (first | exact endA | refine wkP ?_ | refine opB (fun b => ?_) | refine opA (fun a' c' hc1 hc2 => ?_))
      exact Wk.id hk
set_option maxHeartbeats 8000000 in
theorem reglinks_law (ho : SpecOk ro s a) (hi : SpecIn s) (hS : SpOk ro) (hM : MaxOk ro) (hk : ∀ ro', K (.bool true) ro' own) : CallOk Tryz.prog 8 #[.agg (specV s a).toArray] ro own K := by
  have hT := TextIn.of hi
  have hi0 := hi
  have hcl : (Value.agg (specV s a).toArray).cells.toList = specV s a := rfl
  refine CallOk.intro (args := [_]) (rs := [_]) T_ok Tryz.func8 Tryz.call8 rfl rfl (by kernel_rfl) rfl rfl ?_
  repeat (first | exact endA | refine wkP ?_ | refine opB (fun b => ?_) | refine opA (fun a' c' hc1 hc2 => ?_) | (apply GJ.and; exact rfl; intro hg) | (apply GJ.or; exact rfl; intro hg))
  rw [hcl]
  obtain ⟨bS, hbS⟩ : ∃ z : Nat, z = b := ⟨_, rfl⟩
  subst hbS
  refine links15_ok hS hM (fun ro1 hl1 => ?_)
  have ho1 := ho.lift hl1
  have hM1 := hM.le hl1
  have hk1 := hk ro1
  repeat (first | exact endA | refine wkP ?_ | refine opB (fun b => ?_) | refine opA (fun a' c' hc1 hc2 => ?_) | (apply GJ.and; exact rfl; intro hg) | (apply GJ.or; exact rfl; intro hg))
  refine small15_ok ho1 (fun hs => ?_) (fun hs => ?_)
  · repeat (first | exact endA | refine wkP ?_ | refine opB (fun b => ?_) | refine opA (fun a' c' hc1 hc2 => ?_) | (apply GJ.and; exact rfl; intro hg) | (apply GJ.or; exact rfl; intro hg))
    exact Wk.outS Sup.auto (.refl _) hk1
  repeat (first | exact endA | refine wkP ?_ | refine opB (fun b => ?_) | refine opA (fun a' c' hc1 hc2 => ?_) | (apply GJ.and; exact rfl; intro hg) | (apply GJ.or; exact rfl; intro hg))
  refine rglinks_ok ho1 hM1 hT (fun ro2 hl2 e he => ?_) (fun ro2 hl2 lk hlk la lc g1 g2 => ?_)
  · have ho2 := ho1.lift hl2
    have hM2 := hM1.le hl2
    have hz := lookR_err he
    obtain ⟨e1, e2⟩ := e
    dsimp only [flV, tup] at hz ⊢
    repeat (first | exact endA | refine wkP ?_ | refine opB (fun b => ?_) | refine opA (fun a' c' hc1 hc2 => ?_) | (apply GJ.and; exact rfl; intro hg) | (apply GJ.or; exact rfl; intro hg))
    refine rgcheck_ok ho2 hM2 hT (fun ro3 hl3 => ?_)
    have hk3 := hk ro3
    rw [he]
    dsimp only [errR, flV]
    repeat (first | exact endA | refine wkP ?_ | refine opB (fun b => ?_) | refine opA (fun a' c' hc1 hc2 => ?_) | (apply GJ.and; exact rfl; intro hg) | (apply GJ.or; exact rfl; intro hg))
    refine OpOk.eqlStruct (q := decide (e1 = e1) && (decide (e2 = e2) && true)) rfl rfl rfl rfl (by kernel_rfl) (by kernel_rfl) (by kernel_rfl) ?_
    rw [show (decide (e1 = e1) && (decide (e2 = e2) && true)) = true by simp]
    repeat (first | exact endA | refine wkP ?_ | refine opB (fun b => ?_) | refine opA (fun a' c' hc1 hc2 => ?_) | (apply GJ.and; exact rfl; intro hg) | (apply GJ.or; exact rfl; intro hg))
    exact Wk.outS Sup.auto (.refl _) hk3
  have ho2 := ho1.lift hl2
  have hM2 := hM1.le hl2
  dsimp only [flV, tup]
  have g3 := g2
  unfold maxLen at g3
  repeat (first | exact endA | refine wkP ?_ | refine opB (fun b => ?_) | refine opA (fun a' c' hc1 hc2 => ?_) | (apply GJ.and; exact rfl; intro hg) | (apply GJ.or; exact rfl; intro hg))
  refine rgcheck_ok ho2 hM2 hT (fun ro3 hl3 => ?_)
  have ho3 := ho2.lift hl3
  have hM3 := hM2.le hl3
  have hk3 := hk ro3
  rw [hlk]
  dsimp only [errR, flV]
  have hr1 := ho3.nodes
  have hm := hr1.max
  have hnc := hr1.le
  unfold maxLen at hm
  have hc := (look_check hlk).1
  have hv := Ahead.of hc
  have hlinks := fun i d => look_links hlk (i := i) (d := d)
  have hby : ∀ i, byR s i = lk i := fun i => by unfold byR; rw [hlk]
  have hll := linksTo_len lk
  have hpre : ∀ i z, z ≤ s.nodes.length → ∀ q, (linksTo lk i)[z]? = some q → True := fun _ _ _ _ _ => trivial
  clear hpre
  repeat (first | exact endA | refine wkP ?_ | refine opB (fun b => ?_) | refine opA (fun a' c' hc1 hc2 => ?_) | (apply GJ.and; exact rfl; intro hg) | (apply GJ.or; exact rfl; intro hg))
  rename_i bG
  obtain ⟨bH, hbH⟩ : ∃ z : Nat, z = b := ⟨_, rfl⟩
  subst hbH
  generalize hNL : linksTo lk s.nodes.length = L at *
  have hL0 : ∀ j, j ≤ s.nodes.length → ∃ r, L = linksTo lk j ++ r := fun j hj => by
    rw [← hNL]
    exact links_split lk hj
  refine LoopOk.auto (ι := Nat) Keep.auto (fun i => [(44, .int .i64 (i : Int)), (6, .int .i64 ((linksTo lk i).length : Int))]) (fun i => .blk bH 58 [.int .i64 0, .int .i64 0] :: .blk bG 58 [.int .i64 0, .int .i64 0] :: .sl la L.length lc 70 3 (links0V L) :: .blk bS 25 (specV s a) :: own) (fun i ro5 => i ≤ s.nodes.length) (fun i => s.nodes.length - i) 0 ?_ Sub.auto Sup.auto ?_
  · exact Nat.zero_le _
  clear hk1
  rintro i ro5 hl5 i1
  dsimp only [List.cons_append, List.nil_append] at i1 ⊢
  have ho5 := ho3.lift hl5
  have hM5 := hM3.le hl5
  have hk5 := hk ro5
  have hr5 := ho5.nodes
  by_cases hi : i < s.nodes.length
  rotate_left
  · obtain rfl : i = s.nodes.length := by omega
    rw [hNL]
    repeat (first | exact endA | refine wkP ?_ | refine opB (fun b => ?_) | refine opA (fun a' c' hc1 hc2 => ?_) | (apply GJ.and; exact rfl; intro hg) | (apply GJ.or; exact rfl; intro hg))
    exact Wk.outV Sup.auto hk5 (congrArg Value.bool (by simp))
  obtain ⟨d, hd⟩ : ∃ d, s.nodes[i]? = some d := ⟨_, List.getElem?_eq_getElem hi⟩
  obtain ⟨x, hx⟩ : ∃ y, a.xs[i]? = some y := ⟨_, List.getElem?_eq_getElem (by rw [ho.len]; exact hi)⟩
  have hdr := nodesV_drop _ _ _ _ _ hd hx
  obtain ⟨hf, hks⟩ := hv i d hd
  have hone := one_name hf
  have hsuc := linksTo_succ lk i
  have hl1 := hlinks i d hd
  have htx := hi0.texts d (List.mem_of_getElem? hd)
  have hnl : d.reg.length + d.ereg.length ≤ 4611686018427387904 := by
    have e : reachBytes ≤ 140737488355327 := by decide
    omega
  clear htx
  repeat (first | exact endA | refine wkP ?_ | refine opB (fun b => ?_) | refine opA (fun a' c' hc1 hc2 => ?_) | (apply GJ.and; exact rfl; intro hg) | (apply GJ.or; exact rfl; intro hg))
  rw [Int.toNat_natCast]
  refine OpOk.loadRow rfl rfl (LdN.at hr5 hdr) rfl ?_
  repeat (first | exact endA | refine wkP ?_ | refine opB (fun b => ?_) | refine opA (fun a' c' hc1 hc2 => ?_) | (apply GJ.and; exact rfl; intro hg) | (apply GJ.or; exact rfl; intro hg))
  rename_i bI
  obtain ⟨bN, hbN⟩ : ∃ z : Nat, z = b := ⟨_, rfl⟩
  subst hbN
  refine rgby_ok ho5 hM5 hT (i := i) (fun ro4 hl4 => ?_)
  rw [hby]
  have ho4 := ho5.lift hl4
  have hM4 := hM5.le hl4
  have hr4 := ho4.nodes
  rcases hl1 with ⟨m1, m2⟩ | ⟨m1, r, f, m2, e, g, q1, q2, q3, q4, q5, q6, j, h, q7, q8, q9⟩
  · rw [m2] at hsuc ⊢
    dsimp only [byV, tup, Option.isSome_none] at hsuc ⊢
    rw [List.append_nil] at hsuc
    unfold nmOf at m1
    rw [m1]
    repeat (first | exact endA | refine wkP ?_ | refine opB (fun b => ?_) | refine opA (fun a' c' hc1 hc2 => ?_) | (apply GJ.and; exact rfl; intro hg) | (apply GJ.or; exact rfl; intro hg))
    rw [← hsuc]
    refine Wk.id ⟨i + 1, ?_, ?_, Sub.auto, Sup.auto⟩
    all_goals try dsimp only
    · omega
    · omega
  · rw [m2] at hsuc ⊢
    dsimp only [byV, tup, Option.isSome_some] at hsuc ⊢
    unfold nmOf at m1 q4
    generalize d.reg ++ d.ereg = nm at *
    obtain ⟨rst, hrst⟩ := hL0 (i + 1) hi
    rw [hsuc] at hrst
    have hkl : (linksTo lk i).length < L.length := by rw [hrst]; simp
    have hLk : L[(linksTo lk i).length]? = some (i, r, f) := by rw [hrst]; simp
    have hlrow := links0V_drop L hLk
    have hrl : Rds ro4 (.sl la L.length lc 70 3 (links0V L) :: .blk bS 25 (specV s a) :: own) la L.length lc 3 (links0V L) := Rds.hasSl g1 g2 (links0V_len L)
    have hrn := (List.getElem?_eq_some_iff.1 q1).1
    obtain ⟨y, hy⟩ : ∃ y, a.xs[r]? = some y := ⟨_, List.getElem?_eq_getElem (by rw [ho.len]; exact hrn)⟩
    have hne := ho4.each r e y q1 hy
    have hfe := hne.fields
    have hgk : (nodesV s.nodes a.xs)[r * 18 + 0]? = some (.int .i64 5) := by rw [node_get q1 hy (by decide), ← q2]; rfl
    have hgf : (nodesV s.nodes a.xs)[r * 18 + 13]? = some (.slice y.fa e.fields.length y.fc) := by rw [node_get q1 hy (by decide)]; rfl
    have hfl := (List.getElem?_eq_some_iff.1 q3).1
    have hg0 : (fieldsV e.fields)[f * 5 + 0]? = some (str nm) := by rw [field_get q3 (by decide), ← q4]; rfl
    repeat (first | exact endA | refine wkP ?_ | refine opB (fun b => ?_) | refine opA (fun a' c' hc1 hc2 => ?_) | (apply GJ.and; exact rfl; intro hg) | (apply GJ.or; exact rfl; intro hg))
    refine Br.f (fun h => h (by simp [m1])) ?_
    repeat (first | exact endA | refine wkP ?_ | refine opB (fun b => ?_) | refine opA (fun a' c' hc1 hc2 => ?_) | (apply GJ.and; exact rfl; intro hg) | (apply GJ.or; exact rfl; intro hg))
    rw [Int.toNat_natCast]
    refine QOk.loadRow rfl rfl (LdN.atR hrl hlrow rfl) rfl ?_
    repeat (first | exact endA | refine wkP ?_ | refine opB (fun b => ?_) | refine opA (fun a' c' hc1 hc2 => ?_) | (apply GJ.and; exact rfl; intro hg) | (apply GJ.or; exact rfl; intro hg))
    refine qneqStruct (q := decide ((i : Int) = (i : Int)) && (decide ((r : Int) = (r : Int)) && (decide ((f : Int) = (f : Int)) && true))) rfl rfl rfl rfl (by kernel_rfl) (by kernel_rfl) (by kernel_rfl) ?_
    rw [show (!(decide ((i : Int) = (i : Int)) && (decide ((r : Int) = (r : Int)) && (decide ((f : Int) = (f : Int)) && true)))) = false by simp]
    repeat (first | exact endA | refine wkP ?_ | refine opB (fun b => ?_) | refine opA (fun a' c' hc1 hc2 => ?_) | (apply GJ.and; exact rfl; intro hg) | (apply GJ.or; exact rfl; intro hg))
    rw [Int.toNat_natCast, Nat.add_assoc]
    refine QOk.load rfl rfl (Ld.rs hr4 hgk) ?_
    repeat (first | exact endA | refine wkP ?_ | refine opB (fun b => ?_) | refine opA (fun a' c' hc1 hc2 => ?_) | (apply GJ.and; exact rfl; intro hg) | (apply GJ.or; exact rfl; intro hg))
    rw [Int.toNat_natCast, Nat.add_assoc]
    refine QOk.load rfl rfl (Ld.rs hr4 hgf) ?_
    repeat (first | exact endA | refine wkP ?_ | refine opB (fun b => ?_) | refine opA (fun a' c' hc1 hc2 => ?_) | (apply GJ.and; exact rfl; intro hg) | (apply GJ.or; exact rfl; intro hg))
    rw [Int.toNat_natCast, Nat.add_assoc]
    refine QOk.load rfl rfl (Ld.rs hfe hg0) ?_
    repeat (first | exact endA | refine wkP ?_ | refine opB (fun b => ?_) | refine opA (fun a' c' hc1 hc2 => ?_) | (apply GJ.and; exact rfl; intro hg) | (apply GJ.or; exact rfl; intro hg))
    refine Br.f (fun h => h rfl) ?_
    repeat (first | exact endA | refine wkP ?_ | refine opB (fun b => ?_) | refine opA (fun a' c' hc1 hc2 => ?_) | (apply GJ.and; exact rfl; intro hg) | (apply GJ.or; exact rfl; intro hg))
    rename_i bX
    obtain ⟨bW, hbW⟩ : ∃ z : Nat, z = b := ⟨_, rfl⟩
    subst hbW
    rw [Int.toNat_natCast, Nat.add_assoc]
    refine OpOk.load rfl rfl (Ld.rs hr4 hgf) ?_
    have hfm := hfe.max
    have hfc := hfe.le
    unfold maxLen at hfm
    obtain ⟨hfr, hkr⟩ := hv r e q1
    have hkrec := kids_rec hfr q2
    have hend := withinB_of (s := s) q7 q8 q9
    repeat (first | exact endA | refine wkP ?_ | refine opB (fun b => ?_) | refine opA (fun a' c' hc1 hc2 => ?_) | (apply GJ.and; exact rfl; intro hg) | (apply GJ.or; exact rfl; intro hg))
    refine LoopOk.at (ι := Nat) Keep.auto (fun k => [(119, .int .i64 (k : Int))]) (fun k => .blk bW 4 [.bool (withinB s e i f k)] :: .blk bI 3 [.int .i64 (i : Int)] :: .blk bX 70 [.int .i64 (i : Int), .int .i64 (r : Int), .int .i64 (f : Int)] :: .blk bN 40 (nodeV d x) :: .blk bH 58 [.int .i64 0, .int .i64 0] :: .blk bG 58 [.int .i64 0, .int .i64 0] :: .sl la L.length lc 70 3 (links0V L) :: .blk bS 25 (specV s a) :: own) (fun k => k ≤ e.fields.length) (fun k => e.fields.length - k) 0 ?_ Sub.auto Sup.auto ?_
    · exact Nat.zero_le _
    rintro k k1
    dsimp only [List.cons_append, List.nil_append] at k1 ⊢
    by_cases hk9 : k < e.fields.length
    · obtain ⟨w, hw⟩ : ∃ w, e.fields[k]? = some w := ⟨_, List.getElem?_eq_getElem hk9⟩
      have hwe : e.fields[k] = w := Option.some.inj ((List.getElem?_eq_getElem hk9).symm.trans hw)
      have hfd := fieldsV_drop e.fields hk9
      rw [hwe] at hfd
      have hws := withinB_succ (s := s) (i := i) (f := f) hw
      obtain ⟨t1, t2⟩ := hkr w.type (by rw [hkrec]; exact List.mem_map.2 ⟨w, List.mem_of_getElem? hw, rfl⟩)
      obtain ⟨t, ht⟩ := Int.eq_ofNat_of_zero_le t1
      rw [ht] at hws t2
      repeat (first | exact endA | refine wkP ?_ | refine opB (fun b => ?_) | refine opA (fun a' c' hc1 hc2 => ?_) | (apply GJ.and; exact rfl; intro hg) | (apply GJ.or; exact rfl; intro hg))
      rw [Int.toNat_natCast]
      refine OpOk.loadRow rfl rfl (LdN.at hfe hfd) rfl ?_
      repeat (first | exact endA | refine wkP ?_ | refine opB (fun b => ?_) | refine opA (fun a' c' hc1 hc2 => ?_) | (apply GJ.and; exact rfl; intro hg) | (apply GJ.or; exact rfl; intro hg))
      rw [ht]
      rename_i bJ
      obtain ⟨bF, hbF⟩ : ∃ z : Nat, z = b := ⟨_, rfl⟩
      subst hbF
      refine CallOk.sup (own0 := .blk bW 4 [.bool (withinB s e i f k)] :: .blk bI 3 [.int .i64 (i : Int)] :: .blk bJ 3 [.int .i64 (k : Int)] :: .blk bX 70 [.int .i64 (i : Int), .int .i64 (r : Int), .int .i64 (f : Int)] :: .blk bN 40 (nodeV d x) :: .blk bH 58 [.int .i64 0, .int .i64 0] :: .blk bG 58 [.int .i64 0, .int .i64 0] :: .sl la L.length lc 70 3 (links0V L) :: .blk bS 25 (specV s a) :: .blk bF 47 (fieldV w) :: own) Sup.auto ?_
      refine each_ok ho4 hv (fy := 40) (cap := #[ptr' bW, ptr' bI, ptr' bJ, ptr' bX]) (go := fun _ => true) (T := preI (kidsAt s) s.nodes.length (t : Int)) (fun q (u : Bool) => .blk bW 4 [.bool u] :: .blk bI 3 [.int .i64 (i : Int)] :: .blk bJ 3 [.int .i64 (k : Int)] :: .blk bX 70 [.int .i64 (i : Int), .int .i64 (r : Int), .int .i64 (f : Int)] :: .blk bN 40 (nodeV d x) :: .blk bH 58 [.int .i64 0, .int .i64 0] :: .blk bG 58 [.int .i64 0, .int .i64 0] :: .sl la L.length lc 70 3 (links0V L) :: .blk bS 25 (specV s a) :: .blk bF 47 (fieldV w) :: own) (fun q u => u = (withinB s e i f k || (decide ((i : Int) ∈ q) && decide (f < k)))) ?_ (t + 1) t (by omega) (by omega) [] [] (by simp) (withinB s e i f k) (by simp) ro4 [] _ ?_
      · rintro q m r' hTp u hu ro6 X K2 hle2 hk2
        refine rglinks1_ok (hk2 _ ?_)
        rw [hu, Bool.or_assoc, ← Bool.and_or_distrib_right, ← Bool.decide_or]
        congr 2
        exact decide_eq_decide.2 (by rw [List.mem_append, List.mem_singleton, eq_comm])
      rintro u
      rw [runG_all (fun _ => rfl)]
      dsimp only [List.nil_append]
      intro hu
      have hu2 : u = withinB s e i f (k + 1) := by rw [hws]; exact hu
      clear hws hu
      subst hu2
      repeat (first | exact endA | refine wkP ?_ | refine opB (fun b => ?_) | refine opA (fun a' c' hc1 hc2 => ?_) | (apply GJ.and; exact rfl; intro hg) | (apply GJ.or; exact rfl; intro hg))
      refine Wk.id ⟨k + 1, ⟨rfl, ?_⟩, ?_, Sub.auto, Sup.auto⟩
      all_goals try dsimp only
      · omega
      · omega
    · obtain rfl : k = e.fields.length := by omega
      rw [hend]
      repeat (first | exact endA | refine wkP ?_ | refine opB (fun b => ?_) | refine opA (fun a' c' hc1 hc2 => ?_) | (apply GJ.and; exact rfl; intro hg) | (apply GJ.or; exact rfl; intro hg))
      rw [show (((linksTo lk i).length : Int) + 1) = ((linksTo lk (i + 1)).length : Int) by rw [hsuc]; simp]
      refine Wk.id ⟨i + 1, ?_, ?_, Sub.auto, Sup.auto⟩
      all_goals try dsimp only
      · omega
      · omega
end
end Go.Proofs.YtnapjcnfgdkmcaaGreatDoor
end
