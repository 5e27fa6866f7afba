/- Contracts of spec: Same, of two that say the same. -/
import Derived.Test.YtniofdklhlbphaaSp7
namespace Go.Proofs.Ytniofdklhlbphaa
open Go Go.E
set_option linter.unusedVariables false
set_option maxRecDepth 10000
/-- Two new variables, in whatever order they are made. -/
def both (x y : Nat) (t u : TypeId) (v w : List Value) (env : Env) (ro : Ro) (own : Chs) : Kt := fun env' ro' own' => ro' = ro ∧ ∃ b c : Nat, Sub2 ((x, .pointer (some ⟨b, 0, none⟩)) :: (y, .pointer (some ⟨c, 0, none⟩)) :: env) env' ∧ Sup own' (.blk b t v :: .blk c u w :: own)
theorem both.ok {P : Program} {T : TT} {all : List Oper} {B : Chs} {fo : Fo} {k : Kt} {env : Env} {ro : Ro} {own : Chs} (x y : Nat) (t u : TypeId) (v w : List Value)
    (h : vFo P T all B (both x y t u v w env ro own) fo env ro own) (hk : ∀ b c : Nat, k ((x, .pointer (some ⟨b, 0, none⟩)) :: (y, .pointer (some ⟨c, 0, none⟩)) :: env) ro (.blk b t v :: .blk c u w :: own)) : AllOk (fun Φ => vFo P T all B Φ fo env ro own) k ro :=
  ⟨_, h, fun env' ro' own' _ ⟨e, b, c, h1, h2⟩ => ⟨_, _, h1, h2, by rw [e]; exact hk b c⟩⟩
theorem both.a {P : Program} {T : TT} {all : List Oper} {B : Chs} {env : Env} {ro : Ro} {own own' : Chs} {x y b c : Nat} {t u : TypeId} {v w : List Value} (h : Sup own' (.blk b t v :: .blk c u w :: own)) : vFo P T all B (both x y t u v w env ro own) .leaf ((x, .pointer (some ⟨b, 0, none⟩)) :: (y, .pointer (some ⟨c, 0, none⟩)) :: env) ro own' :=
  ⟨rfl, b, c, fun _ _ h => h, h⟩
theorem both.b {P : Program} {T : TT} {all : List Oper} {B : Chs} {env : Env} {ro : Ro} {own own' : Chs} {x y b c : Nat} {t u : TypeId} {v w : List Value} (h : Sup own' (.blk b t v :: .blk c u w :: own)) (hxy : Nat.beq x y = false) : vFo P T all B (both x y t u v w env ro own) .leaf ((y, .pointer (some ⟨c, 0, none⟩)) :: (x, .pointer (some ⟨b, 0, none⟩)) :: env) ro own' :=
  ⟨rfl, b, c, fun k z hz => by
    change (bif Nat.beq x k then some _ else bif Nat.beq y k then some _ else Go.E.look env k) = some z at hz
    change (bif Nat.beq y k then some _ else bif Nat.beq x k then some _ else Go.E.look env k) = some z
    cases hx : Nat.beq x k with
    | false => rw [hx] at hz; exact hz
    | true =>
      rw [hx] at hz
      have e := Nat.eq_of_beq_eq_true hx
      subst e
      cases hy : Nat.beq y x with
      | false => exact hz
      | true => exact absurd hxy (by rw [Nat.eq_of_beq_eq_true hy, Nat.beq_refl]; simp), h⟩
theorem vOne.at {P : Program} {T : TT} {all : List Oper} {i : Nat} {k : Kt} {env : Env} {ro : Ro} {own : Chs} {d : Option Nat} {op : Op} {ty : TypeId} {pos : String} {af : Array Edge} (hi : all[i]? = some ⟨d, op, ty, pos, af, none⟩) (h : vOp P T op ty d k env ro own) : vOne P T all i k env ro own := by
  unfold vOne; rw [hi]; exact h
theorem vFo.cons {P : Program} {T : TT} {all : List Oper} {B : Chs} {Φ : Kt} {i : Nat} {s b : Fo} {env : Env} {ro : Ro} {own : Chs} (h1 : vOne P T all i (fun env' ro' own' => Stop (Sup own' B ∧ vFo P T all B Φ s env' ro' own')) env ro own) (h2 : vFo P T all B Φ b env ro own) : vFo P T all B Φ (.cons i s b) env ro own := ⟨h1, h2⟩
theorem vFo.nil {P : Program} {T : TT} {all : List Oper} {B : Chs} {Φ : Kt} {env : Env} {ro : Ro} {own : Chs} : vFo P T all B Φ .nil env ro own := trivial
theorem vFo.stop {own B : Chs} {p : Prop} (h1 : Sup own B) (h2 : p) : Stop (Sup own B ∧ p) := ⟨⟨h1, h2⟩⟩
theorem GJ.neF {α : Type} {x : α} {chk : Bool} {A B : Prop} {S R : Bool → Prop} [Decidable (x ≠ x)] (k : A) : GJ (decide (x ≠ x)) false chk A B S R := .split (fun _ => k) (fun e => by simp at e)
theorem GJ.neT {α : Type} {x : α} {chk : Bool} {A B : Prop} {S R : Bool → Prop} [Decidable (x ≠ x)] (k : B) : GJ (decide (x ≠ x)) true chk A B S R := .split (fun e => by simp at e) (fun _ => k)
theorem Br.ne {α : Type} {x : α} {A B : Prop} [Decidable (x ≠ x)] (k : B) : Br (decide (x ≠ x)) A B := ⟨fun e => by simp at e, fun _ => k⟩
/-- Each type may be, its parts are ahead of it. -/
def Ahead (s : SpecD) : Prop := ∀ (i : Nat) (d : NodeD), s.nodes[i]? = some d → formD d = 0 ∧ ∀ k ∈ kidsD d, 0 ≤ k ∧ k < (i : Int)
theorem ownAll_mem {lim : Nat} : ∀ {ks : List Int} {o o' : List Bool}, ownAll lim ks o = .ok o' → ∀ k ∈ ks, 0 ≤ k ∧ k < (lim : Int)
  | [], o, o', h, k, hk => by cases hk
  | k0 :: ks, o, o', h, k, hk => by
    unfold ownAll at h
    split at h
    · cases h
    · split at h
      · cases h
      · rcases List.mem_cons.1 hk with rfl | hk
        · omega
        · exact ownAll_mem h k hk
theorem nodesAll_ahead : ∀ (ds : List NodeD) (n : Nat) (o o' : List Bool), nodesAll n ds o = .ok o' → ∀ (i : Nat) (d : NodeD), ds[i]? = some d → formD d = 0 ∧ ∀ k ∈ kidsD d, 0 ≤ k ∧ k < ((n + i : Nat) : Int) := by
  intro ds
  induction ds with
  | nil => intro n o o' _ i d h; simp at h
  | cons d0 ds ih =>
    intro n o o' h i d hd
    rw [nodesAll] at h
    split at h
    · cases h
    · rename_i hf
      cases ho : ownAll n (kidsD d0) o with
      | error e => rw [ho] at h; cases h
      | ok o1 =>
        rw [ho] at h
        cases i with
        | zero =>
          simp at hd; subst hd
          exact ⟨by omega, fun k hk => by have := ownAll_mem ho k hk; omega⟩
        | succ i =>
          have := ih (n + 1) o1 o' h i d (by simpa using hd)
          refine ⟨this.1, fun k hk => ?_⟩
          have := this.2 k hk
          omega
theorem ownAll_err {lim : Nat} {e : Int} : ∀ {ks : List Int} {o : List Bool}, ownAll lim ks o = .error e → e ≠ 0
  | [], o, h => by cases h
  | k0 :: ks, o, h => by
    unfold ownAll at h
    split at h
    · cases h; decide
    · split at h
      · cases h; decide
      · exact ownAll_err h
theorem nodesAll_err {e : Int} : ∀ {ds : List NodeD} {n : Nat} {o : List Bool}, nodesAll n ds o = .error e → e ≠ 0
  | [], n, o, h => by cases h
  | d :: ds, n, o, h => by
    rw [nodesAll] at h
    split at h
    · rename_i hf; cases h; exact hf
    · cases ho : ownAll n (kidsD d) o with
      | error e2 => rw [ho] at h; cases h; exact ownAll_err ho
      | ok o1 => rw [ho] at h; exact nodesAll_err h
theorem checkD_ok {s : SpecD} (h : checkD s = 0) : ∃ o o', nodesAll 0 s.nodes (List.replicate s.nodes.length false) = .ok o ∧ ownAll s.nodes.length (s.defs.map (·.type)) o = .ok o' ∧ s.nodes.length ≤ 2048 ∧ s.defs.length ≤ 64 ∧ s.defs ≠ [] ∧ false ∉ o' := by
  unfold checkD at h
  split at h
  · cases h
  · rename_i h0
    unfold checkE at h
    cases h1 : nodesAll 0 s.nodes (List.replicate s.nodes.length false) with
    | error e => rw [h1] at h; exact absurd h (nodesAll_err h1)
    | ok o =>
      rw [h1] at h
      simp only at h
      cases h2 : ownAll s.nodes.length (s.defs.map (·.type)) o with
      | error e => rw [h2] at h; exact absurd h (ownAll_err h2)
      | ok o' =>
        rw [h2] at h
        simp only at h
        refine ⟨o, o', rfl, h2, by omega, by omega, fun e => by rw [e] at h0; simp at h0, fun hm => ?_⟩
        rw [if_pos hm] at h
        cases h
theorem Ahead.of {s : SpecD} (h : checkD s = 0) : Ahead s := by
  obtain ⟨o, o', h1, _⟩ := checkD_ok h
  intro i d hd
  have := nodesAll_ahead _ _ _ _ h1 i d hd
  simpa using this
theorem last_small {d : NodeD} (h : formD d = 0) : d.last.length ≤ 64 := by
  have := form_small h
  unfold formD at h
  grind
theorem NodeSm.of {d : NodeD} (h : formD d = 0) : NodeSm d := by
  have h1 := form_small h
  have h2 := last_small h
  exact ⟨by omega, by omega, by omega, by omega⟩
section
variable {ro : Ro} {own r : Chs} {K : Value → Ro → Chs → Prop} {g : Chunk → Chs}
theorem equalB_ok {a a2 : Option Addr} {n c c2 : Nat} {l : List Bool} (hr : Rs ro a n c 1 (lastV l)) (hr2 : Rs ro a2 n c2 1 (lastV l)) (hk : K (.bool true) ro own) : CallOk Try.prog 47 #[.slice a n c, .slice a2 n c2] ro own K := by
  have hl : l.length = n := by have := hr.n1; simpa [lastV] using this
  have hm := hr.max
  have hle := hr.le
  unfold maxLen at hm
  refine CallOk.intro (args := [_, _]) (rs := [_]) T_ok Try.func47 Try.call47 rfl rfl (by kernel_rfl) rfl rfl ?_
  repeat (first
    | (show _ ∧ _; exact ⟨rfl, rfl, rfl⟩)
    | refine wkG ?_
    | (show OpOk _ _ _ _ _ _ _; first | refine opB (fun b => ?_) | refine opA (fun a' c' hc1 hc2 => ?_))
    | (show GJ _ _ _ _ _ _ _; first | (apply GJ.and; exact rfl; intro hg) | (apply GJ.or; exact rfl; intro hg) | refine GJ.t omAuto ?_ | refine GJ.f omAuto ?_ | refine GJ.ft omAuto ?_ | refine GJ.ff omAuto ?_))
  refine LoopOk.at (ι := Nat) Keep.auto (fun i => [(13, .int .i64 (i : Int))]) (fun i => own) (fun i => i ≤ n) (fun i => n - i) 0 ?_ Sub.auto Sup.auto ?_
  · omega
  rintro i i1
  dsimp only [List.cons_append, List.nil_append]
  repeat (first
    | (show _ ∧ _; exact ⟨rfl, rfl, rfl⟩)
    | refine wkG ?_
    | (show OpOk _ _ _ _ _ _ _; first | refine opB (fun b => ?_) | refine opA (fun a' c' hc1 hc2 => ?_))
    | (show GJ _ _ _ _ _ _ _; first | (apply GJ.and; exact rfl; intro hg) | (apply GJ.or; exact rfl; intro hg) | refine GJ.t omAuto ?_ | refine GJ.f omAuto ?_ | refine GJ.ft omAuto ?_ | refine GJ.ff omAuto ?_))
  refine Br.cases (fun hc => ?_) (fun hc => ?_)
  · repeat (first
      | (show _ ∧ _; exact ⟨rfl, rfl, rfl⟩)
      | refine wkG ?_
      | (show OpOk _ _ _ _ _ _ _; first | refine opB (fun b => ?_) | refine opA (fun a' c' hc1 hc2 => ?_))
      | (show GJ _ _ _ _ _ _ _; first | (apply GJ.and; exact rfl; intro hg) | (apply GJ.or; exact rfl; intro hg) | refine GJ.t omAuto ?_ | refine GJ.f omAuto ?_ | refine GJ.ft omAuto ?_ | refine GJ.ff omAuto ?_))
    refine Br.f (fun h => h rfl) ?_
    repeat (first
      | (show _ ∧ _; exact ⟨rfl, rfl, rfl⟩)
      | refine wkG ?_
      | (show OpOk _ _ _ _ _ _ _; first | refine opB (fun b => ?_) | refine opA (fun a' c' hc1 hc2 => ?_))
      | (show GJ _ _ _ _ _ _ _; first | (apply GJ.and; exact rfl; intro hg) | (apply GJ.or; exact rfl; intro hg) | refine GJ.t omAuto ?_ | refine GJ.f omAuto ?_ | refine GJ.ft omAuto ?_ | refine GJ.ff omAuto ?_))
    refine Wk.id ⟨i + 1, ⟨rfl, ?_⟩, ?_, Sub.auto, Sup.auto⟩
    all_goals try dsimp only
    · omega
    · omega
  · obtain rfl : i = n := by omega
    repeat (first
      | (show _ ∧ _; exact ⟨rfl, rfl, rfl⟩)
      | refine wkG ?_
      | (show OpOk _ _ _ _ _ _ _; first | refine opB (fun b => ?_) | refine opA (fun a' c' hc1 hc2 => ?_))
      | (show GJ _ _ _ _ _ _ _; first | (apply GJ.and; exact rfl; intro hg) | (apply GJ.or; exact rfl; intro hg) | refine GJ.t omAuto ?_ | refine GJ.f omAuto ?_ | refine GJ.ft omAuto ?_ | refine GJ.ff omAuto ?_))
    exact Wk.outS Sup.auto (.refl _) hk
set_option maxHeartbeats 2000000 in
theorem same_ok {s : SpecD} {a a2 : SpecA} (ho : SpecOk ro s a) (ho2 : SpecOk ro s a2) (hv : Ahead s) : ∀ (n i : Nat), i < n → i < s.nodes.length → ∀ (ro' : Ro) (own : Chs) (K : Value → Ro → Chs → Prop) [Leq ro ro'], K (.bool true) ro' own → CallOk Try.prog 26 #[.agg (specV s a).toArray, .agg (specV s a2).toArray, .int .i64 (i : Nat), .int .i64 (i : Nat)] ro' own K := by
  intro n
  induction n with
  | zero => intro i h; omega
  | succ n ih =>
    intro i hin hi ro' own K hle hk
    have hr1 : Rs ro' a.na s.nodes.length a.nc 18 (nodesV s.nodes a.xs) := ho.nodes.up
    have hr2 : Rs ro' a2.na s.nodes.length a2.nc 18 (nodesV s.nodes a2.xs) := ho2.nodes.up
    have hm := hr1.max
    have hm2 := hr1.le
    unfold maxLen at hm
    obtain ⟨d, hd⟩ : ∃ d, s.nodes[i]? = some d := ⟨_, List.getElem?_eq_getElem hi⟩
    obtain ⟨x, hx⟩ : ∃ x, a.xs[i]? = some x := ⟨_, List.getElem?_eq_getElem (by rw [ho.len]; exact hi)⟩
    obtain ⟨x2, hx2⟩ : ∃ x, a2.xs[i]? = some x := ⟨_, List.getElem?_eq_getElem (by rw [ho2.len]; exact hi)⟩
    have hn1 := ho.each i d x hd hx
    have hn2 := ho2.each i d x2 hd hx2
    have hN1 : NodeOk ro' d x := ⟨hn1.kids.up, hn1.last.up, hn1.fields.up, hn1.cases.up⟩
    have hN2 : NodeOk ro' d x2 := ⟨hn2.kids.up, hn2.last.up, hn2.fields.up, hn2.cases.up⟩
    have hdr1 := nodesV_drop _ _ _ _ _ hd hx
    have hdr2 := nodesV_drop _ _ _ _ _ hd hx2
    obtain ⟨hf, hks⟩ := hv i d hd
    have hsm := form_small hf
    refine CallOk.intro (args := [_, _, _, _]) (rs := [_]) T_ok Try.func26 Try.call26 rfl rfl (by kernel_rfl) rfl rfl ?_
    repeat (first
      | (show _ ∧ _; exact ⟨rfl, rfl, rfl⟩)
      | refine wkG ?_
      | (show OpOk _ _ _ _ _ _ _; first | refine opB (fun b => ?_) | refine opA (fun a' c' hc1 hc2 => ?_))
      | (show GJ _ _ _ _ _ _ _; first | (apply GJ.and; exact rfl; intro hg) | (apply GJ.or; exact rfl; intro hg) | refine GJ.t omAuto ?_ | refine GJ.f omAuto ?_ | refine GJ.ft omAuto ?_ | refine GJ.ff omAuto ?_))
    refine Bs.all ?_
    repeat (first
      | (show _ ∧ _; exact ⟨rfl, rfl, rfl⟩)
      | refine wkG ?_
      | (show OpOk _ _ _ _ _ _ _; first | refine opB (fun b => ?_) | refine opA (fun a' c' hc1 hc2 => ?_))
      | (show GJ _ _ _ _ _ _ _; first | (apply GJ.and; exact rfl; intro hg) | (apply GJ.or; exact rfl; intro hg) | refine GJ.t omAuto ?_ | refine GJ.f omAuto ?_ | refine GJ.ft omAuto ?_ | refine GJ.ff omAuto ?_))
    rw [Int.toNat_natCast]
    refine QOk.loadRow rfl rfl (LdN.at hr1 hdr1) rfl ?_
    repeat (first
      | (show _ ∧ _; exact ⟨rfl, rfl, rfl⟩)
      | refine wkG ?_
      | (show OpOk _ _ _ _ _ _ _; first | refine opB (fun b => ?_) | refine opA (fun a' c' hc1 hc2 => ?_))
      | (show GJ _ _ _ _ _ _ _; first | (apply GJ.and; exact rfl; intro hg) | (apply GJ.or; exact rfl; intro hg) | refine GJ.t omAuto ?_ | refine GJ.f omAuto ?_ | refine GJ.ft omAuto ?_ | refine GJ.ff omAuto ?_))
    rw [Int.toNat_natCast]
    refine QOk.loadRow rfl rfl (LdN.at hr2 hdr2) rfl ?_
    repeat (first
      | (show _ ∧ _; exact ⟨rfl, rfl, rfl⟩)
      | refine wkG ?_
      | (show OpOk _ _ _ _ _ _ _; first | refine opB (fun b => ?_) | refine opA (fun a' c' hc1 hc2 => ?_))
      | (show GJ _ _ _ _ _ _ _; first | (apply GJ.and; exact rfl; intro hg) | (apply GJ.or; exact rfl; intro hg) | refine GJ.t omAuto ?_ | refine GJ.f omAuto ?_ | refine GJ.ft omAuto ?_ | refine GJ.ff omAuto ?_))
    refine both.ok 9 10 49 49 (nodeV d x) (nodeV d x2) ?_ (fun b3 b => ?_)
    · repeat' (first
        | exact vFo.nil
        | refine vFo.cons (vOne.at (by rfl) ?_) ?_
        | exact both.a Sup.auto
        | exact both.b Sup.auto rfl
        | refine vFo.stop Sup.auto ?_
        | (show Stop (OpOk _ _ _ _ _ _ _); refine Stop.mk ?_)
        | (show OpOk _ _ _ _ _ _ _; first | refine opB (fun b => ?_) | refine OpOk.storeRow rfl rfl rfl rfl (by rfl) rfl ?_))
    rename_i b1 b2
    repeat (first
      | (show _ ∧ _; exact ⟨rfl, rfl, rfl⟩)
      | refine wkU ?_
      | (show QOk _ _ _ _ _ _ _; refine QOk.build rfl rfl Nf.auto ?_)
      | (show GJ _ _ _ _ _ _ _; first | with_reducible refine GJ.neF ?_ | with_reducible refine GJ.neT ?_)
      | (show Br _ _ _; with_reducible refine Br.ne ?_)
      | (show OpOk _ _ _ _ _ _ _; first | refine opB (fun b => ?_) | refine opA (fun a' c' hc1 hc2 => ?_))
      | (show GJ _ _ _ _ _ _ _; first | (apply GJ.and; exact rfl; intro hg) | (apply GJ.or; exact rfl; intro hg)))
    refine OpOk.neqStruct rfl rfl rfl rfl (by kernel_rfl) (by kernel_rfl) (by kernel_rfl) ?_
    repeat (first
      | (show _ ∧ _; exact ⟨rfl, rfl, rfl⟩)
      | refine wkU ?_
      | (show QOk _ _ _ _ _ _ _; refine QOk.build rfl rfl Nf.auto ?_)
      | (show GJ _ _ _ _ _ _ _; first | with_reducible refine GJ.neF ?_ | with_reducible refine GJ.neT ?_)
      | (show Br _ _ _; with_reducible refine Br.ne ?_)
      | (show OpOk _ _ _ _ _ _ _; first | refine opB (fun b => ?_) | refine opA (fun a' c' hc1 hc2 => ?_))
      | (show GJ _ _ _ _ _ _ _; first | (apply GJ.and; exact rfl; intro hg) | (apply GJ.or; exact rfl; intro hg)))
    refine equalB_ok hn1.last.up hn2.last.up ?_
    repeat (first
      | (show _ ∧ _; exact ⟨rfl, rfl, rfl⟩)
      | refine wkU ?_
      | (show QOk _ _ _ _ _ _ _; refine QOk.build rfl rfl Nf.auto ?_)
      | (show GJ _ _ _ _ _ _ _; first | with_reducible refine GJ.neF ?_ | with_reducible refine GJ.neT ?_)
      | (show Br _ _ _; with_reducible refine Br.ne ?_)
      | (show OpOk _ _ _ _ _ _ _; first | refine opB (fun b => ?_) | refine opA (fun a' c' hc1 hc2 => ?_))
      | (show GJ _ _ _ _ _ _ _; first | (apply GJ.and; exact rfl; intro hg) | (apply GJ.or; exact rfl; intro hg)))
    refine Br.f (by simp) ?_
    repeat (first
      | (show _ ∧ _; exact ⟨rfl, rfl, rfl⟩)
      | refine wkU ?_
      | (show QOk _ _ _ _ _ _ _; refine QOk.build rfl rfl Nf.auto ?_)
      | (show GJ _ _ _ _ _ _ _; first | with_reducible refine GJ.neF ?_ | with_reducible refine GJ.neT ?_)
      | (show Br _ _ _; with_reducible refine Br.ne ?_)
      | (show OpOk _ _ _ _ _ _ _; first | refine opB (fun b => ?_) | refine opA (fun a' c' hc1 hc2 => ?_))
      | (show GJ _ _ _ _ _ _ _; first | (apply GJ.and; exact rfl; intro hg) | (apply GJ.or; exact rfl; intro hg)))
    refine Bs.mk ⟨[.blk b 49 (nodeV d x2), .blk b3 49 (nodeV d x)], Sup.auto, ?_⟩
    repeat (first
      | (show _ ∧ _; exact ⟨rfl, rfl, rfl⟩)
      | refine wkU ?_
      | (show QOk _ _ _ _ _ _ _; refine QOk.build rfl rfl Nf.auto ?_)
      | (show GJ _ _ _ _ _ _ _; first | with_reducible refine GJ.neF ?_ | with_reducible refine GJ.neT ?_)
      | (show Br _ _ _; with_reducible refine Br.ne ?_)
      | (show OpOk _ _ _ _ _ _ _; first | refine opB (fun b => ?_) | refine opA (fun a' c' hc1 hc2 => ?_))
      | (show GJ _ _ _ _ _ _ _; first | (apply GJ.and; exact rfl; intro hg) | (apply GJ.or; exact rfl; intro hg)))
    refine kids_ok hN1 (by omega) (fun k1 n1 c1 g1 g2 g3 => ?_)
    subst g1
    repeat (first
      | (show _ ∧ _; exact ⟨rfl, rfl, rfl⟩)
      | refine wkU ?_
      | (show QOk _ _ _ _ _ _ _; refine QOk.build rfl rfl Nf.auto ?_)
      | (show GJ _ _ _ _ _ _ _; first | with_reducible refine GJ.neF ?_ | with_reducible refine GJ.neT ?_)
      | (show Br _ _ _; with_reducible refine Br.ne ?_)
      | (show OpOk _ _ _ _ _ _ _; first | refine opB (fun b => ?_) | refine opA (fun a' c' hc1 hc2 => ?_))
      | (show GJ _ _ _ _ _ _ _; first | (apply GJ.and; exact rfl; intro hg) | (apply GJ.or; exact rfl; intro hg)))
    refine kids_ok hN2 (by omega) (fun k2 n2 c2 g4 g5 g6 => ?_)
    subst g4
    repeat (first
      | (show _ ∧ _; exact ⟨rfl, rfl, rfl⟩)
      | refine wkU ?_
      | (show QOk _ _ _ _ _ _ _; refine QOk.build rfl rfl Nf.auto ?_)
      | (show GJ _ _ _ _ _ _ _; first | with_reducible refine GJ.neF ?_ | with_reducible refine GJ.neT ?_)
      | (show Br _ _ _; with_reducible refine Br.ne ?_)
      | (show OpOk _ _ _ _ _ _ _; first | refine opB (fun b => ?_) | refine opA (fun a' c' hc1 hc2 => ?_))
      | (show GJ _ _ _ _ _ _ _; first | (apply GJ.and; exact rfl; intro hg) | (apply GJ.or; exact rfl; intro hg)))
    have hF1 := hN1.fields
    have hF2 := hN2.fields
    have hC1 := hN1.cases
    have hC2 := hN2.cases
    refine LoopOk.at (ι := Nat) Keep.auto (fun j => [(150, .int .i64 (j : Int))]) (fun j => .sl k2 (kidsD d).length c2 3 1 (kidsV (kidsD d)) :: .sl k1 (kidsD d).length c1 3 1 (kidsV (kidsD d)) :: .blk b 49 (nodeV d x2) :: .blk b3 49 (nodeV d x) :: .blk b2 25 (specV s a2) :: .blk b1 25 (specV s a) :: own) (fun j => j ≤ d.fields.length) (fun j => d.fields.length - j) 0 ?_ Sub.auto Sup.auto ?_
    · omega
    rintro j j1
    dsimp only [List.cons_append, List.nil_append]
    repeat (first
      | (show _ ∧ _; exact ⟨rfl, rfl, rfl⟩)
      | refine wkG ?_
      | (show OpOk _ _ _ _ _ _ _; first | refine opB (fun b => ?_) | refine opA (fun a' c' hc1 hc2 => ?_))
      | (show GJ _ _ _ _ _ _ _; first | (apply GJ.and; exact rfl; intro hg) | (apply GJ.or; exact rfl; intro hg) | refine GJ.t omAuto ?_ | refine GJ.f omAuto ?_ | refine GJ.ft omAuto ?_ | refine GJ.ff omAuto ?_))
    refine Br.cases (fun hc => ?_) (fun hc => ?_)
    · have hdf := fieldsV_drop d.fields (i := j) (by omega)
      generalize d.fields[j]'(by omega) = f at hdf
      repeat (first
        | (show _ ∧ _; exact ⟨rfl, rfl, rfl⟩)
        | refine wkU ?_
        | (show QOk _ _ _ _ _ _ _; refine QOk.build rfl rfl Nf.auto ?_)
        | (show GJ _ _ _ _ _ _ _; first | with_reducible refine GJ.neF ?_ | with_reducible refine GJ.neT ?_)
        | (show Br _ _ _; with_reducible refine Br.ne ?_)
        | (show OpOk _ _ _ _ _ _ _; first | refine opB (fun b => ?_) | refine opA (fun a' c' hc1 hc2 => ?_))
        | (show GJ _ _ _ _ _ _ _; first | (apply GJ.and; exact rfl; intro hg) | (apply GJ.or; exact rfl; intro hg)))
      refine Bs.mk ⟨[.blk b 49 (nodeV d x2), .blk b3 49 (nodeV d x)], Sup.auto, ?_⟩
      repeat (first
        | (show _ ∧ _; exact ⟨rfl, rfl, rfl⟩)
        | refine wkU ?_
        | (show QOk _ _ _ _ _ _ _; refine QOk.build rfl rfl Nf.auto ?_)
        | (show GJ _ _ _ _ _ _ _; first | with_reducible refine GJ.neF ?_ | with_reducible refine GJ.neT ?_)
        | (show Br _ _ _; with_reducible refine Br.ne ?_)
        | (show OpOk _ _ _ _ _ _ _; first | refine opB (fun b => ?_) | refine opA (fun a' c' hc1 hc2 => ?_))
        | (show GJ _ _ _ _ _ _ _; first | (apply GJ.and; exact rfl; intro hg) | (apply GJ.or; exact rfl; intro hg)))
      rw [Int.toNat_natCast]
      refine QOk.loadRow rfl rfl (LdN.at hF1 hdf) rfl ?_
      repeat (first
        | (show _ ∧ _; exact ⟨rfl, rfl, rfl⟩)
        | refine wkU ?_
        | (show QOk _ _ _ _ _ _ _; refine QOk.build rfl rfl Nf.auto ?_)
        | (show GJ _ _ _ _ _ _ _; first | with_reducible refine GJ.neF ?_ | with_reducible refine GJ.neT ?_)
        | (show Br _ _ _; with_reducible refine Br.ne ?_)
        | (show OpOk _ _ _ _ _ _ _; first | refine opB (fun b => ?_) | refine opA (fun a' c' hc1 hc2 => ?_))
        | (show GJ _ _ _ _ _ _ _; first | (apply GJ.and; exact rfl; intro hg) | (apply GJ.or; exact rfl; intro hg)))
      rw [Int.toNat_natCast]
      refine QOk.loadRow rfl rfl (LdN.at hF2 hdf) rfl ?_
      repeat (first
        | (show _ ∧ _; exact ⟨rfl, rfl, rfl⟩)
        | refine wkU ?_
        | (show QOk _ _ _ _ _ _ _; refine QOk.build rfl rfl Nf.auto ?_)
        | (show GJ _ _ _ _ _ _ _; first | with_reducible refine GJ.neF ?_ | with_reducible refine GJ.neT ?_)
        | (show Br _ _ _; with_reducible refine Br.ne ?_)
        | (show OpOk _ _ _ _ _ _ _; first | refine opB (fun b => ?_) | refine opA (fun a' c' hc1 hc2 => ?_))
        | (show GJ _ _ _ _ _ _ _; first | (apply GJ.and; exact rfl; intro hg) | (apply GJ.or; exact rfl; intro hg)))
      refine both.ok 14 15 51 51 (fieldV f) (fieldV f) ?_ (fun b5 b6 => ?_)
      · repeat' (first
          | exact vFo.nil
          | refine vFo.cons (vOne.at (by rfl) ?_) ?_
          | exact both.a Sup.auto
          | exact both.b Sup.auto rfl
          | refine vFo.stop Sup.auto ?_
          | (show Stop (OpOk _ _ _ _ _ _ _); refine Stop.mk ?_)
          | (show OpOk _ _ _ _ _ _ _; first | refine opB (fun b => ?_) | refine OpOk.storeRow rfl rfl rfl rfl (by rfl) rfl ?_))
      repeat (first
        | (show _ ∧ _; exact ⟨rfl, rfl, rfl⟩)
        | refine wkU ?_
        | (show QOk _ _ _ _ _ _ _; refine QOk.build rfl rfl Nf.auto ?_)
        | (show GJ _ _ _ _ _ _ _; first | with_reducible refine GJ.neF ?_ | with_reducible refine GJ.neT ?_)
        | (show Br _ _ _; with_reducible refine Br.ne ?_)
        | (show OpOk _ _ _ _ _ _ _; first | refine opB (fun b => ?_) | refine opA (fun a' c' hc1 hc2 => ?_))
        | (show GJ _ _ _ _ _ _ _; first | (apply GJ.and; exact rfl; intro hg) | (apply GJ.or; exact rfl; intro hg)))
      refine Wk.id ⟨j + 1, ⟨rfl, ?_⟩, ?_, Sub.auto, Sup.auto⟩
      all_goals try dsimp only
      · omega
      · omega
    · obtain rfl : j = d.fields.length := by omega
      repeat (first
        | (show _ ∧ _; exact ⟨rfl, rfl, rfl⟩)
        | refine wkU ?_
        | (show QOk _ _ _ _ _ _ _; refine QOk.build rfl rfl Nf.auto ?_)
        | (show GJ _ _ _ _ _ _ _; first | with_reducible refine GJ.neF ?_ | with_reducible refine GJ.neT ?_)
        | (show Br _ _ _; with_reducible refine Br.ne ?_)
        | (show OpOk _ _ _ _ _ _ _; first | refine opB (fun b => ?_) | refine opA (fun a' c' hc1 hc2 => ?_))
        | (show GJ _ _ _ _ _ _ _; first | (apply GJ.and; exact rfl; intro hg) | (apply GJ.or; exact rfl; intro hg)))
      refine LoopOk.at (ι := Nat) Keep.auto (fun j => [(193, .int .i64 (j : Int))]) (fun j => .sl k2 (kidsD d).length c2 3 1 (kidsV (kidsD d)) :: .sl k1 (kidsD d).length c1 3 1 (kidsV (kidsD d)) :: .blk b 49 (nodeV d x2) :: .blk b3 49 (nodeV d x) :: .blk b2 25 (specV s a2) :: .blk b1 25 (specV s a) :: own) (fun j => j ≤ d.cases.length) (fun j => d.cases.length - j) 0 ?_ Sub.auto Sup.auto ?_
      · omega
      rintro j j1
      dsimp only [List.cons_append, List.nil_append]
      repeat (first
        | (show _ ∧ _; exact ⟨rfl, rfl, rfl⟩)
        | refine wkG ?_
        | (show OpOk _ _ _ _ _ _ _; first | refine opB (fun b => ?_) | refine opA (fun a' c' hc1 hc2 => ?_))
        | (show GJ _ _ _ _ _ _ _; first | (apply GJ.and; exact rfl; intro hg) | (apply GJ.or; exact rfl; intro hg) | refine GJ.t omAuto ?_ | refine GJ.f omAuto ?_ | refine GJ.ft omAuto ?_ | refine GJ.ff omAuto ?_))
      refine Br.cases (fun hc => ?_) (fun hc => ?_)
      · have hdc := casesV_drop d.cases (i := j) (by omega)
        generalize d.cases[j]'(by omega) = f at hdc
        have hcell : (casesV d.cases)[j * 2 + 0]? = some (.int .u64 (f.value : Nat)) := by
          have := congrArg (·[0]?) hdc
          simpa [caseV, List.getElem?_take, List.getElem?_drop] using this
        repeat (first
          | (show _ ∧ _; exact ⟨rfl, rfl, rfl⟩)
          | refine wkU ?_
          | (show QOk _ _ _ _ _ _ _; refine QOk.build rfl rfl Nf.auto ?_)
          | (show GJ _ _ _ _ _ _ _; first | with_reducible refine GJ.neF ?_ | with_reducible refine GJ.neT ?_)
          | (show Br _ _ _; with_reducible refine Br.ne ?_)
          | (show OpOk _ _ _ _ _ _ _; first | refine opB (fun b => ?_) | refine opA (fun a' c' hc1 hc2 => ?_))
          | (show GJ _ _ _ _ _ _ _; first | (apply GJ.and; exact rfl; intro hg) | (apply GJ.or; exact rfl; intro hg)))
        rw [Int.toNat_natCast, Nat.add_assoc]
        refine QOk.load rfl rfl (Ld.rs hC1 hcell) ?_
        repeat (first
          | (show _ ∧ _; exact ⟨rfl, rfl, rfl⟩)
          | refine wkU ?_
          | (show QOk _ _ _ _ _ _ _; refine QOk.build rfl rfl Nf.auto ?_)
          | (show GJ _ _ _ _ _ _ _; first | with_reducible refine GJ.neF ?_ | with_reducible refine GJ.neT ?_)
          | (show Br _ _ _; with_reducible refine Br.ne ?_)
          | (show OpOk _ _ _ _ _ _ _; first | refine opB (fun b => ?_) | refine opA (fun a' c' hc1 hc2 => ?_))
          | (show GJ _ _ _ _ _ _ _; first | (apply GJ.and; exact rfl; intro hg) | (apply GJ.or; exact rfl; intro hg)))
        rw [Int.toNat_natCast, Nat.add_assoc]
        refine QOk.load rfl rfl (Ld.rs hC2 hcell) ?_
        repeat (first
          | (show _ ∧ _; exact ⟨rfl, rfl, rfl⟩)
          | refine wkU ?_
          | (show QOk _ _ _ _ _ _ _; refine QOk.build rfl rfl Nf.auto ?_)
          | (show GJ _ _ _ _ _ _ _; first | with_reducible refine GJ.neF ?_ | with_reducible refine GJ.neT ?_)
          | (show Br _ _ _; with_reducible refine Br.ne ?_)
          | (show OpOk _ _ _ _ _ _ _; first | refine opB (fun b => ?_) | refine opA (fun a' c' hc1 hc2 => ?_))
          | (show GJ _ _ _ _ _ _ _; first | (apply GJ.and; exact rfl; intro hg) | (apply GJ.or; exact rfl; intro hg)))
        refine Wk.id ⟨j + 1, ⟨rfl, ?_⟩, ?_, Sub.auto, Sup.auto⟩
        all_goals try dsimp only
        · omega
        · omega
      · obtain rfl : j = d.cases.length := by omega
        repeat (first
          | (show _ ∧ _; exact ⟨rfl, rfl, rfl⟩)
          | refine wkU ?_
          | (show QOk _ _ _ _ _ _ _; refine QOk.build rfl rfl Nf.auto ?_)
          | (show GJ _ _ _ _ _ _ _; first | with_reducible refine GJ.neF ?_ | with_reducible refine GJ.neT ?_)
          | (show Br _ _ _; with_reducible refine Br.ne ?_)
          | (show OpOk _ _ _ _ _ _ _; first | refine opB (fun b => ?_) | refine opA (fun a' c' hc1 hc2 => ?_))
          | (show GJ _ _ _ _ _ _ _; first | (apply GJ.and; exact rfl; intro hg) | (apply GJ.or; exact rfl; intro hg)))
        refine LoopOk.at (ι := Nat) Keep.auto (fun j => [(212, .int .i64 (j : Int))]) (fun j => .sl k2 (kidsD d).length c2 3 1 (kidsV (kidsD d)) :: .sl k1 (kidsD d).length c1 3 1 (kidsV (kidsD d)) :: .blk b 49 (nodeV d x2) :: .blk b3 49 (nodeV d x) :: .blk b2 25 (specV s a2) :: .blk b1 25 (specV s a) :: own) (fun j => j ≤ (kidsD d).length) (fun j => (kidsD d).length - j) 0 ?_ Sub.auto Sup.auto ?_
        · omega
        rintro j j1
        dsimp only [List.cons_append, List.nil_append]
        repeat (first
          | (show _ ∧ _; exact ⟨rfl, rfl, rfl⟩)
          | refine wkG ?_
          | (show OpOk _ _ _ _ _ _ _; first | refine opB (fun b => ?_) | refine opA (fun a' c' hc1 hc2 => ?_))
          | (show GJ _ _ _ _ _ _ _; first | (apply GJ.and; exact rfl; intro hg) | (apply GJ.or; exact rfl; intro hg) | refine GJ.t omAuto ?_ | refine GJ.f omAuto ?_ | refine GJ.ft omAuto ?_ | refine GJ.ff omAuto ?_))
        refine Br.cases (fun hc => ?_) (fun hc => ?_)
        · have hmem : (kidsD d)[j]! ∈ kidsD d := by rw [List.getElem!_eq_getElem?_getD, List.getElem?_eq_getElem (by omega)]; exact List.getElem_mem _
          have hkk := hks _ hmem
          obtain ⟨m, hm'⟩ : ∃ m : Nat, (kidsD d)[j]! = (m : Int) := ⟨((kidsD d)[j]!).toNat, by omega⟩
          repeat (first
            | (show _ ∧ _; exact ⟨rfl, rfl, rfl⟩)
            | refine wkU ?_
            | (show QOk _ _ _ _ _ _ _; refine QOk.build rfl rfl Nf.auto ?_)
            | (show GJ _ _ _ _ _ _ _; first | with_reducible refine GJ.neF ?_ | with_reducible refine GJ.neT ?_)
            | (show Br _ _ _; with_reducible refine Br.ne ?_)
            | (show OpOk _ _ _ _ _ _ _; first | refine opB (fun b => ?_) | refine opA (fun a' c' hc1 hc2 => ?_))
            | (show GJ _ _ _ _ _ _ _; first | (apply GJ.and; exact rfl; intro hg) | (apply GJ.or; exact rfl; intro hg)))
          rw [Int.toNat_natCast, hm']
          have g3' := g3
          unfold maxLen at g3'
          refine ih m (by omega) (by omega) ro' _ _ ?_
          repeat (first
            | (show _ ∧ _; exact ⟨rfl, rfl, rfl⟩)
            | refine wkU ?_
            | (show QOk _ _ _ _ _ _ _; refine QOk.build rfl rfl Nf.auto ?_)
            | (show GJ _ _ _ _ _ _ _; first | with_reducible refine GJ.neF ?_ | with_reducible refine GJ.neT ?_)
            | (show Br _ _ _; with_reducible refine Br.ne ?_)
            | (show OpOk _ _ _ _ _ _ _; first | refine opB (fun b => ?_) | refine opA (fun a' c' hc1 hc2 => ?_))
            | (show GJ _ _ _ _ _ _ _; first | (apply GJ.and; exact rfl; intro hg) | (apply GJ.or; exact rfl; intro hg)))
          refine Wk.id ⟨j + 1, ⟨rfl, ?_⟩, ?_, Sub.auto, Sup.auto⟩
          all_goals try dsimp only
          · omega
          · omega
        · obtain rfl : j = (kidsD d).length := by omega
          repeat (first
            | (show _ ∧ _; exact ⟨rfl, rfl, rfl⟩)
            | refine wkU ?_
            | (show QOk _ _ _ _ _ _ _; refine QOk.build rfl rfl Nf.auto ?_)
            | (show GJ _ _ _ _ _ _ _; first | with_reducible refine GJ.neF ?_ | with_reducible refine GJ.neT ?_)
            | (show Br _ _ _; with_reducible refine Br.ne ?_)
            | (show OpOk _ _ _ _ _ _ _; first | refine opB (fun b => ?_) | refine opA (fun a' c' hc1 hc2 => ?_))
            | (show GJ _ _ _ _ _ _ _; first | (apply GJ.and; exact rfl; intro hg) | (apply GJ.or; exact rfl; intro hg)))
          exact Wk.outS Sup.auto (.refl _) hk
end
end Go.Proofs.Ytniofdklhlbphaa
