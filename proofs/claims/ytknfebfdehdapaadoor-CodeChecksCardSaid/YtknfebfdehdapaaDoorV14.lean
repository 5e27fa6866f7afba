/- Scripts under names: what is found by search is a default of a hypothesis. No program in sight. -/
import Derived.Test.YtknfebfdehdapaaDoorV13
import Derived.KernelRfl
namespace Go.E
open Go
set_option linter.unusedVariables false
theorem Take.auto {l : Chs} {c : Chunk} {r : Chs} (h : Take l c r := by first | exact Take.hit _ _ | exact Take.miss _ (Take.hit _ _) | exact Take.miss _ (Take.miss _ (Take.hit _ _)) | exact Take.miss _ (Take.miss _ (Take.miss _ (Take.hit _ _))) | exact Take.miss _ (Take.miss _ (Take.miss _ (Take.miss _ (Take.hit _ _)))) | exact Take.miss _ (Take.miss _ (Take.miss _ (Take.miss _ (Take.miss _ (Take.hit _ _))))) | exact Take.miss _ (Take.miss _ (Take.miss _ (Take.miss _ (Take.miss _ (Take.miss _ (Take.hit _ _))))))) : Take l c r := h
theorem Sub.auto {a b : Env} (h : Sub a b := by ((repeat (first | exact trivial | refine Sub.cons rfl ?_ | refine Sub.consE rfl (congrArg (Value.int _) (by omega)) ?_)); done)) : Sub a b := h
theorem Sup.auto {a b : Chs} (h : Sup a b := by ((repeat (first | exact Sup.all _ | exact Sup.nil _ | refine Sup.cons Take.auto ?_ | refine Sup.nilc ?_ | refine Sup.drop _ ?_)); done)) : Sup a b := h
theorem Keep.auto {ws : List Nat} {a b : Env} (h : Keep ws a b := by ((repeat (first | exact Keep.nil _ | apply Keep.skip (by rfl) | apply Keep.keep (by rfl) | apply Keep.args (by rfl))); done)) : Keep ws a b := h
theorem Rds.auto {ro : Ro} {own : Chs} {a : Option Addr} {n c s : Nat} {cs : List Value} (h : Rds ro own a n c s cs := by first | exact Rs.rds (by assumption) | exact Rds.up (by assumption) | exact Rds.hasSl (by omega) (by omega) (by first | rfl | (rw [List.length_map]; omega) | (simp; done) | (simp; omega))) : Rds ro own a n c s cs := h
theorem Ld.auto {ro : Ro} {own : Chs} {b o : Nat} {v : Value} (h : Ld ro own b o v := by first | exact Ld.hasBlk rfl | exact Ld.rs (by assumption) (getMap (by omega)) | exact Ld.rds (by assumption) (getMap (by omega)) | exact Ld.hasSl (getMap (by omega)) | exact Ld.hasBlkAt (getMap (by omega))) : Ld ro own b o v := h
theorem AOk.auto {ro : Ro} {own : Chs} {a : Option Addr} {n : Nat} (h : AOk ro own a n := by first | exact AOk.hasSl | exact AOk.rs (by assumption) | exact AOk.rds (by assumption) | exact AOk.lit) : AOk ro own a n := h
theorem sdAuto {p : Prop} (h : p := by first | omega | (simp only [Int.reduceToNat, Int.reducePow]; omega) | exact u8_range _ | exact u8_shr _ _ | exact ⟨(u8_shr _ _).1, by decide⟩ | exact add_u8 _ _ (by omega) | exact ⟨⟨Int.emod_nonneg _ (by decide), Int.emod_lt_of_pos _ (by decide)⟩, Int.natCast_nonneg _, Int.lt_of_lt_of_le (u8_range _).2 (by decide)⟩ | exact ⟨⟨Int.emod_nonneg _ (by decide), Int.emod_lt_of_pos _ (by decide)⟩, ⟨Int.emod_nonneg _ (by decide), Int.emod_lt_of_pos _ (by decide)⟩⟩) : p := h
theorem SetR.auto {cs : List Value} {o : Nat} {v : Value} {cs2 : List Value} (h : SetR cs o v cs2 := by ((repeat (first | exact SetR.hit _ _ _ | apply SetR.miss)); done)) : SetR cs o v cs2 := h
theorem Nf.auto {a b : List Value} (h : Nf a b := by ((repeat (first | exact Nf.nil | apply Nf.cons)); done)) : Nf a b := h
theorem oneAuto {ys : List Value} (h : ∀ u ∈ ys, u.oneCell' = true := by first | exact one_u8 _ | exact one_int _ _ | assumption) : ∀ u ∈ ys, u.oneCell' = true := h
theorem omAuto {p : Prop} (h : p := by omega) : p := h
theorem rfAuto {α : Type} {a b : α} (h : a = b := by rfl) : a = b := h
theorem RL.auto {P : Program} {T : TT} {env : Env} {ro : Ro} {own : Chs} {rs : List ResultVar} {vs : List Value} (h : RL P T env ro own rs vs := by first | exact RL.row rfl rfl (by exact LdN.hasBlk) (by rfl) RL.nil | exact RL.row rfl rfl (by exact LdN.hasBlk) (by rfl) (RL.tmp rfl RL.nil) | exact RL.row rfl rfl (by exact LdN.hasBlk) (by rfl) (RL.row rfl rfl (by exact LdN.hasBlk) (by rfl) RL.nil) | exact RL.tmp rfl (RL.row rfl rfl (by exact LdN.hasBlk) (by rfl) RL.nil) | exact RL.one rfl rfl Ld.auto RL.nil | exact RL.one rfl rfl Ld.auto (RL.tmp rfl RL.nil)) : RL P T env ro own rs vs := h
theorem NfT.auto {a b : List Tk} (h : NfT a b := by ((repeat (first | exact NfT.nil | exact NfF.leaf | exact NfF.nil | apply NfF.cons | apply NfT.rest | apply NfT.cons)); done)) : NfT a b := h
/-- What is left to show behind a walk. -/
structure Hd (q : Prop) : Prop where
  get : q
/-- The walk, as far as nothing new comes in. -/
theorem wkG {q p : Prop} (h : q) (e : Hd q → p := by
  intro hWk
  first
    | refine Stop.mk ?_
    | (show _ ∧ _; refine And.intro sdAuto ?_)
    | (show OpOk _ _ _ _ _ _ _; first
        | refine OpOk.load rfl rfl Ld.auto ?_
        | refine OpOk.loadRow rfl rfl LdN.hasBlk rfl ?_
        | refine OpOk.loadPart rfl rfl Nf.auto rfAuto ?_
        | refine OpOk.store rfl rfl rfl rfl SetR.auto ?_
        | refine OpOk.storeRow rfl rfl rfl rfl (by rfl) rfl ?_
        | refine OpOk.idx1 rfl rfl rfl (by omega) AOk.auto ?_
        | refine OpOk.idxA rfl rfl rfl (by omega) ?_
        | refine OpOk.idx rfl rfl rfl (by omega) AOk.auto ?_
        | refine OpOk.andN rfl rfl sdAuto ?_
        | refine OpOk.eqlSl rfl rfl ?_
        | refine OpOk.neqSl rfl rfl ?_
        | refine OpOk.clip rfl rfl rfl rfl (by omega) ?_
        | refine OpOk.build rfl rfl Nf.auto ?_
        | refine OpOk.toStr rfl rfl rfl rfl Rds.auto ?_)
    | (show QOk _ _ _ _ _ _ _; first | refine QOk.load rfl rfl Ld.auto ?_ | refine QOk.idx1 rfl rfl rfl (by omega) AOk.auto ?_ | refine QOk.idxA rfl rfl rfl (by omega) ?_ | refine QOk.idx rfl rfl rfl (by omega) AOk.auto ?_ | refine QOk.loadRow rfl rfl LdN.hasBlk rfl ?_ | refine QOk.loadPart rfl rfl Nf.auto rfAuto ?_ | refine QOk.toStr rfl rfl rfl rfl Rds.auto ?_)
    | (show Br _ _ _; first | with_reducible refine Br.tt ?_ | with_reducible refine Br.ff ?_ | with_reducible refine Br.nt ?_ | with_reducible refine Br.nf ?_ | refine Br.t (by omega) ?_ | refine Br.f (by omega) ?_)
    | (show Bk _ _ _; refine Bk.all Sup.auto ?_)
    | (show RetOk _ _ _ _ _ _; refine RetOk.of (T := T) RL.auto ?_)
    | (show CodeOk _ _ _ _ _ _; refine CodeOk.drawnAuto NfT.auto rfl (by kernel_rfl) (by rfl) (by kernel_rfl) ?_)
  repeat (first
    | refine Stop.mk ?_
    | (show _ ∧ _; refine And.intro sdAuto ?_)
    | (show OpOk _ _ _ _ _ _ _; first
        | refine OpOk.load rfl rfl Ld.auto ?_
        | refine OpOk.loadRow rfl rfl LdN.hasBlk rfl ?_
        | refine OpOk.loadPart rfl rfl Nf.auto rfAuto ?_
        | refine OpOk.store rfl rfl rfl rfl SetR.auto ?_
        | refine OpOk.storeRow rfl rfl rfl rfl (by rfl) rfl ?_
        | refine OpOk.idx1 rfl rfl rfl (by omega) AOk.auto ?_
        | refine OpOk.idxA rfl rfl rfl (by omega) ?_
        | refine OpOk.idx rfl rfl rfl (by omega) AOk.auto ?_
        | refine OpOk.andN rfl rfl sdAuto ?_
        | refine OpOk.eqlSl rfl rfl ?_
        | refine OpOk.neqSl rfl rfl ?_
        | refine OpOk.clip rfl rfl rfl rfl (by omega) ?_
        | refine OpOk.build rfl rfl Nf.auto ?_
        | refine OpOk.toStr rfl rfl rfl rfl Rds.auto ?_)
    | (show QOk _ _ _ _ _ _ _; first | refine QOk.load rfl rfl Ld.auto ?_ | refine QOk.idx1 rfl rfl rfl (by omega) AOk.auto ?_ | refine QOk.idxA rfl rfl rfl (by omega) ?_ | refine QOk.idx rfl rfl rfl (by omega) AOk.auto ?_ | refine QOk.loadRow rfl rfl LdN.hasBlk rfl ?_ | refine QOk.loadPart rfl rfl Nf.auto rfAuto ?_ | refine QOk.toStr rfl rfl rfl rfl Rds.auto ?_)
    | (show Br _ _ _; first | with_reducible refine Br.tt ?_ | with_reducible refine Br.ff ?_ | with_reducible refine Br.nt ?_ | with_reducible refine Br.nf ?_ | refine Br.t (by omega) ?_ | refine Br.f (by omega) ?_)
    | (show Bk _ _ _; refine Bk.all Sup.auto ?_)
    | (show RetOk _ _ _ _ _ _; refine RetOk.of (T := T) RL.auto ?_)
    | (show CodeOk _ _ _ _ _ _; refine CodeOk.drawnAuto NfT.auto rfl (by kernel_rfl) (by rfl) (by kernel_rfl) ?_))
  exact hWk.get) : p := e ⟨h⟩
/-- The walk, likewise, what those that look lean on stays. -/
theorem wkS {q p : Prop} (h : q) (e : Hd q → p := by
  intro hWk
  first
    | refine Stop.mk ?_
    | (show _ ∧ _; refine And.intro sdAuto ?_)
    | (show OpOk _ _ _ _ _ _ _; first
        | refine OpOk.load rfl rfl Ld.auto ?_
        | refine OpOk.loadRow rfl rfl LdN.hasBlk rfl ?_
        | refine OpOk.loadPart rfl rfl Nf.auto rfAuto ?_
        | refine OpOk.store rfl rfl rfl rfl SetR.auto ?_
        | refine OpOk.storeRow rfl rfl rfl rfl (by rfl) rfl ?_
        | refine OpOk.idx1 rfl rfl rfl (by omega) AOk.auto ?_
        | refine OpOk.idxA rfl rfl rfl (by omega) ?_
        | refine OpOk.idx rfl rfl rfl (by omega) AOk.auto ?_
        | refine OpOk.andN rfl rfl sdAuto ?_
        | refine OpOk.eqlSl rfl rfl ?_
        | refine OpOk.neqSl rfl rfl ?_
        | refine OpOk.clip rfl rfl rfl rfl (by omega) ?_
        | refine OpOk.build rfl rfl Nf.auto ?_
        | refine OpOk.toStr rfl rfl rfl rfl Rds.auto ?_)
    | (show QOk _ _ _ _ _ _ _; first | refine QOk.load rfl rfl Ld.auto ?_ | refine QOk.idx1 rfl rfl rfl (by omega) AOk.auto ?_ | refine QOk.idxA rfl rfl rfl (by omega) ?_ | refine QOk.idx rfl rfl rfl (by omega) AOk.auto ?_ | refine QOk.loadRow rfl rfl LdN.hasBlk rfl ?_ | refine QOk.loadPart rfl rfl Nf.auto rfAuto ?_ | refine QOk.toStr rfl rfl rfl rfl Rds.auto ?_)
    | (show Br _ _ _; first | with_reducible refine Br.tt ?_ | with_reducible refine Br.ff ?_ | with_reducible refine Br.nt ?_ | with_reducible refine Br.nf ?_ | refine Br.t (by omega) ?_ | refine Br.f (by omega) ?_)
    | (show Bk _ _ _; refine Bk.same Sup.auto ?_)
    | (show RetOk _ _ _ _ _ _; refine RetOk.of (T := T) RL.auto ?_)
    | (show CodeOk _ _ _ _ _ _; refine CodeOk.drawnAuto NfT.auto rfl (by kernel_rfl) (by rfl) (by kernel_rfl) ?_)
  repeat (first
    | refine Stop.mk ?_
    | (show _ ∧ _; refine And.intro sdAuto ?_)
    | (show OpOk _ _ _ _ _ _ _; first
        | refine OpOk.load rfl rfl Ld.auto ?_
        | refine OpOk.loadRow rfl rfl LdN.hasBlk rfl ?_
        | refine OpOk.loadPart rfl rfl Nf.auto rfAuto ?_
        | refine OpOk.store rfl rfl rfl rfl SetR.auto ?_
        | refine OpOk.storeRow rfl rfl rfl rfl (by rfl) rfl ?_
        | refine OpOk.idx1 rfl rfl rfl (by omega) AOk.auto ?_
        | refine OpOk.idxA rfl rfl rfl (by omega) ?_
        | refine OpOk.idx rfl rfl rfl (by omega) AOk.auto ?_
        | refine OpOk.andN rfl rfl sdAuto ?_
        | refine OpOk.eqlSl rfl rfl ?_
        | refine OpOk.neqSl rfl rfl ?_
        | refine OpOk.clip rfl rfl rfl rfl (by omega) ?_
        | refine OpOk.build rfl rfl Nf.auto ?_
        | refine OpOk.toStr rfl rfl rfl rfl Rds.auto ?_)
    | (show QOk _ _ _ _ _ _ _; first | refine QOk.load rfl rfl Ld.auto ?_ | refine QOk.idx1 rfl rfl rfl (by omega) AOk.auto ?_ | refine QOk.idxA rfl rfl rfl (by omega) ?_ | refine QOk.idx rfl rfl rfl (by omega) AOk.auto ?_ | refine QOk.loadRow rfl rfl LdN.hasBlk rfl ?_ | refine QOk.loadPart rfl rfl Nf.auto rfAuto ?_ | refine QOk.toStr rfl rfl rfl rfl Rds.auto ?_)
    | (show Br _ _ _; first | with_reducible refine Br.tt ?_ | with_reducible refine Br.ff ?_ | with_reducible refine Br.nt ?_ | with_reducible refine Br.nf ?_ | refine Br.t (by omega) ?_ | refine Br.f (by omega) ?_)
    | (show Bk _ _ _; refine Bk.same Sup.auto ?_)
    | (show RetOk _ _ _ _ _ _; refine RetOk.of (T := T) RL.auto ?_)
    | (show CodeOk _ _ _ _ _ _; refine CodeOk.drawnAuto NfT.auto rfl (by kernel_rfl) (by rfl) (by kernel_rfl) ?_))
  exact hWk.get) : p := e ⟨h⟩
/-- The walk, as far as nothing new comes in, guards that are known taken. -/
theorem wkT {q p : Prop} (h : q) (e : Hd q → p := by
  intro hWk
  first
    | refine Stop.mk ?_
    | (show _ ∧ _; refine And.intro sdAuto ?_)
    | (show OpOk _ _ _ _ _ _ _; first
        | refine OpOk.load rfl rfl Ld.auto ?_
        | refine OpOk.loadRow rfl rfl LdN.hasBlk rfl ?_
        | refine OpOk.loadPart rfl rfl Nf.auto rfAuto ?_
        | refine OpOk.store rfl rfl rfl rfl SetR.auto ?_
        | refine OpOk.storeRow rfl rfl rfl rfl (by rfl) rfl ?_
        | refine OpOk.idx1 rfl rfl rfl (by omega) AOk.auto ?_
        | refine OpOk.idxA rfl rfl rfl (by omega) ?_
        | refine OpOk.idx rfl rfl rfl (by omega) AOk.auto ?_
        | refine OpOk.andN rfl rfl sdAuto ?_
        | refine OpOk.eqlSl rfl rfl ?_
        | refine OpOk.neqSl rfl rfl ?_
        | refine OpOk.clip rfl rfl rfl rfl (by omega) ?_
        | refine OpOk.build rfl rfl Nf.auto ?_
        | refine OpOk.toStr rfl rfl rfl rfl Rds.auto ?_)
    | (show QOk _ _ _ _ _ _ _; first | refine QOk.load rfl rfl Ld.auto ?_ | refine QOk.idx1 rfl rfl rfl (by omega) AOk.auto ?_ | refine QOk.idxA rfl rfl rfl (by omega) ?_ | refine QOk.idx rfl rfl rfl (by omega) AOk.auto ?_ | refine QOk.loadRow rfl rfl LdN.hasBlk rfl ?_ | refine QOk.loadPart rfl rfl Nf.auto rfAuto ?_ | refine QOk.toStr rfl rfl rfl rfl Rds.auto ?_)
    | (show GJ _ _ _ _ _ _ _; first | with_reducible refine GJ.l1 ?_ | with_reducible refine GJ.l2 ?_ | with_reducible refine GJ.l3 ?_ | with_reducible refine GJ.l4 ?_ | with_reducible refine GJ.n1 ?_ | with_reducible refine GJ.n2 ?_ | with_reducible refine GJ.n3 ?_ | with_reducible refine GJ.n4 ?_ | refine GJ.t (by omega) ?_ | refine GJ.f (by omega) ?_ | refine GJ.ft (by omega) ?_ | refine GJ.ff (by omega) ?_)
    | (show Br _ _ _; first | with_reducible refine Br.tt ?_ | with_reducible refine Br.ff ?_ | with_reducible refine Br.nt ?_ | with_reducible refine Br.nf ?_ | refine Br.t (by omega) ?_ | refine Br.f (by omega) ?_)
    | (show Bk _ _ _; refine Bk.all Sup.auto ?_)
    | (show RetOk _ _ _ _ _ _; refine RetOk.of (T := T) RL.auto ?_)
    | (show CodeOk _ _ _ _ _ _; refine CodeOk.drawnAuto NfT.auto rfl (by kernel_rfl) (by rfl) (by kernel_rfl) ?_)
  repeat (first
    | refine Stop.mk ?_
    | (show _ ∧ _; refine And.intro sdAuto ?_)
    | (show OpOk _ _ _ _ _ _ _; first
        | refine OpOk.load rfl rfl Ld.auto ?_
        | refine OpOk.loadRow rfl rfl LdN.hasBlk rfl ?_
        | refine OpOk.loadPart rfl rfl Nf.auto rfAuto ?_
        | refine OpOk.store rfl rfl rfl rfl SetR.auto ?_
        | refine OpOk.storeRow rfl rfl rfl rfl (by rfl) rfl ?_
        | refine OpOk.idx1 rfl rfl rfl (by omega) AOk.auto ?_
        | refine OpOk.idxA rfl rfl rfl (by omega) ?_
        | refine OpOk.idx rfl rfl rfl (by omega) AOk.auto ?_
        | refine OpOk.andN rfl rfl sdAuto ?_
        | refine OpOk.eqlSl rfl rfl ?_
        | refine OpOk.neqSl rfl rfl ?_
        | refine OpOk.clip rfl rfl rfl rfl (by omega) ?_
        | refine OpOk.build rfl rfl Nf.auto ?_
        | refine OpOk.toStr rfl rfl rfl rfl Rds.auto ?_)
    | (show QOk _ _ _ _ _ _ _; first | refine QOk.load rfl rfl Ld.auto ?_ | refine QOk.idx1 rfl rfl rfl (by omega) AOk.auto ?_ | refine QOk.idxA rfl rfl rfl (by omega) ?_ | refine QOk.idx rfl rfl rfl (by omega) AOk.auto ?_ | refine QOk.loadRow rfl rfl LdN.hasBlk rfl ?_ | refine QOk.loadPart rfl rfl Nf.auto rfAuto ?_ | refine QOk.toStr rfl rfl rfl rfl Rds.auto ?_)
    | (show GJ _ _ _ _ _ _ _; first | with_reducible refine GJ.l1 ?_ | with_reducible refine GJ.l2 ?_ | with_reducible refine GJ.l3 ?_ | with_reducible refine GJ.l4 ?_ | with_reducible refine GJ.n1 ?_ | with_reducible refine GJ.n2 ?_ | with_reducible refine GJ.n3 ?_ | with_reducible refine GJ.n4 ?_ | refine GJ.t (by omega) ?_ | refine GJ.f (by omega) ?_ | refine GJ.ft (by omega) ?_ | refine GJ.ff (by omega) ?_)
    | (show Br _ _ _; first | with_reducible refine Br.tt ?_ | with_reducible refine Br.ff ?_ | with_reducible refine Br.nt ?_ | with_reducible refine Br.nf ?_ | refine Br.t (by omega) ?_ | refine Br.f (by omega) ?_)
    | (show Bk _ _ _; refine Bk.all Sup.auto ?_)
    | (show RetOk _ _ _ _ _ _; refine RetOk.of (T := T) RL.auto ?_)
    | (show CodeOk _ _ _ _ _ _; refine CodeOk.drawnAuto NfT.auto rfl (by kernel_rfl) (by rfl) (by kernel_rfl) ?_))
  exact hWk.get) : p := e ⟨h⟩
/-- The walk, likewise, what those that look lean on stays, guards that are known taken. -/
theorem wkU {q p : Prop} (h : q) (e : Hd q → p := by
  intro hWk
  first
    | refine Stop.mk ?_
    | (show _ ∧ _; refine And.intro sdAuto ?_)
    | (show OpOk _ _ _ _ _ _ _; first
        | refine OpOk.load rfl rfl Ld.auto ?_
        | refine OpOk.loadRow rfl rfl LdN.hasBlk rfl ?_
        | refine OpOk.loadPart rfl rfl Nf.auto rfAuto ?_
        | refine OpOk.store rfl rfl rfl rfl SetR.auto ?_
        | refine OpOk.storeRow rfl rfl rfl rfl (by rfl) rfl ?_
        | refine OpOk.idx1 rfl rfl rfl (by omega) AOk.auto ?_
        | refine OpOk.idxA rfl rfl rfl (by omega) ?_
        | refine OpOk.idx rfl rfl rfl (by omega) AOk.auto ?_
        | refine OpOk.andN rfl rfl sdAuto ?_
        | refine OpOk.eqlSl rfl rfl ?_
        | refine OpOk.neqSl rfl rfl ?_
        | refine OpOk.clip rfl rfl rfl rfl (by omega) ?_
        | refine OpOk.build rfl rfl Nf.auto ?_
        | refine OpOk.toStr rfl rfl rfl rfl Rds.auto ?_)
    | (show QOk _ _ _ _ _ _ _; first | refine QOk.load rfl rfl Ld.auto ?_ | refine QOk.idx1 rfl rfl rfl (by omega) AOk.auto ?_ | refine QOk.idxA rfl rfl rfl (by omega) ?_ | refine QOk.idx rfl rfl rfl (by omega) AOk.auto ?_ | refine QOk.loadRow rfl rfl LdN.hasBlk rfl ?_ | refine QOk.loadPart rfl rfl Nf.auto rfAuto ?_ | refine QOk.toStr rfl rfl rfl rfl Rds.auto ?_)
    | (show GJ _ _ _ _ _ _ _; first | with_reducible refine GJ.l1 ?_ | with_reducible refine GJ.l2 ?_ | with_reducible refine GJ.l3 ?_ | with_reducible refine GJ.l4 ?_ | with_reducible refine GJ.n1 ?_ | with_reducible refine GJ.n2 ?_ | with_reducible refine GJ.n3 ?_ | with_reducible refine GJ.n4 ?_ | refine GJ.t (by omega) ?_ | refine GJ.f (by omega) ?_ | refine GJ.ft (by omega) ?_ | refine GJ.ff (by omega) ?_)
    | (show Br _ _ _; first | with_reducible refine Br.tt ?_ | with_reducible refine Br.ff ?_ | with_reducible refine Br.nt ?_ | with_reducible refine Br.nf ?_ | refine Br.t (by omega) ?_ | refine Br.f (by omega) ?_)
    | (show Bk _ _ _; refine Bk.same Sup.auto ?_)
    | (show RetOk _ _ _ _ _ _; refine RetOk.of (T := T) RL.auto ?_)
    | (show CodeOk _ _ _ _ _ _; refine CodeOk.drawnAuto NfT.auto rfl (by kernel_rfl) (by rfl) (by kernel_rfl) ?_)
  repeat (first
    | refine Stop.mk ?_
    | (show _ ∧ _; refine And.intro sdAuto ?_)
    | (show OpOk _ _ _ _ _ _ _; first
        | refine OpOk.load rfl rfl Ld.auto ?_
        | refine OpOk.loadRow rfl rfl LdN.hasBlk rfl ?_
        | refine OpOk.loadPart rfl rfl Nf.auto rfAuto ?_
        | refine OpOk.store rfl rfl rfl rfl SetR.auto ?_
        | refine OpOk.storeRow rfl rfl rfl rfl (by rfl) rfl ?_
        | refine OpOk.idx1 rfl rfl rfl (by omega) AOk.auto ?_
        | refine OpOk.idxA rfl rfl rfl (by omega) ?_
        | refine OpOk.idx rfl rfl rfl (by omega) AOk.auto ?_
        | refine OpOk.andN rfl rfl sdAuto ?_
        | refine OpOk.eqlSl rfl rfl ?_
        | refine OpOk.neqSl rfl rfl ?_
        | refine OpOk.clip rfl rfl rfl rfl (by omega) ?_
        | refine OpOk.build rfl rfl Nf.auto ?_
        | refine OpOk.toStr rfl rfl rfl rfl Rds.auto ?_)
    | (show QOk _ _ _ _ _ _ _; first | refine QOk.load rfl rfl Ld.auto ?_ | refine QOk.idx1 rfl rfl rfl (by omega) AOk.auto ?_ | refine QOk.idxA rfl rfl rfl (by omega) ?_ | refine QOk.idx rfl rfl rfl (by omega) AOk.auto ?_ | refine QOk.loadRow rfl rfl LdN.hasBlk rfl ?_ | refine QOk.loadPart rfl rfl Nf.auto rfAuto ?_ | refine QOk.toStr rfl rfl rfl rfl Rds.auto ?_)
    | (show GJ _ _ _ _ _ _ _; first | with_reducible refine GJ.l1 ?_ | with_reducible refine GJ.l2 ?_ | with_reducible refine GJ.l3 ?_ | with_reducible refine GJ.l4 ?_ | with_reducible refine GJ.n1 ?_ | with_reducible refine GJ.n2 ?_ | with_reducible refine GJ.n3 ?_ | with_reducible refine GJ.n4 ?_ | refine GJ.t (by omega) ?_ | refine GJ.f (by omega) ?_ | refine GJ.ft (by omega) ?_ | refine GJ.ff (by omega) ?_)
    | (show Br _ _ _; first | with_reducible refine Br.tt ?_ | with_reducible refine Br.ff ?_ | with_reducible refine Br.nt ?_ | with_reducible refine Br.nf ?_ | refine Br.t (by omega) ?_ | refine Br.f (by omega) ?_)
    | (show Bk _ _ _; refine Bk.same Sup.auto ?_)
    | (show RetOk _ _ _ _ _ _; refine RetOk.of (T := T) RL.auto ?_)
    | (show CodeOk _ _ _ _ _ _; refine CodeOk.drawnAuto NfT.auto rfl (by kernel_rfl) (by rfl) (by kernel_rfl) ?_))
  exact hWk.get) : p := e ⟨h⟩
structure HdB (Q : Nat → Prop) : Prop where
  get : ∀ b, Q b
structure HdA (R S Q : Option Addr → Nat → Prop) : Prop where
  get : ∀ a' c', R a' c' → S a' c' → Q a' c'
/-- A new block. -/
theorem opB {Q : Nat → Prop} {p : Prop} (h : ∀ b, Q b) (e : HdB Q → p := by
  intro hWk
  first
    | exact OpOk.alloc rfl (fun b => hWk.get b)
    | exact OpOk.box rfl (fun b => hWk.get b)
    | exact OpOk.buildSlice1 rfAuto rfAuto rfAuto rfAuto rfAuto (fun b => hWk.get b)
    | exact OpOk.make1 rfl rfl rfl omAuto (fun b => hWk.get b)
    | exact OpOk.buildSlice rfAuto rfAuto rfAuto rfAuto rfAuto (fun b => hWk.get b)) : p := e ⟨h⟩
/-- A slice that grows. -/
theorem opA {R S Q : Option Addr → Nat → Prop} {p : Prop} (h : ∀ a' c', R a' c' → S a' c' → Q a' c') (e : HdA R S Q → p := by
  intro hWk
  first
    | exact OpOk.append1 rfl rfl rfl rfl rfl rfl omAuto (fun a' c' hc1 hc2 => hWk.get a' c' hc1 hc2)
    | exact OpOk.append0 rfl rfl rfl rfl rfl rfl omAuto (fun a' c' hc1 hc2 => hWk.get a' c' hc1 hc2)
    | exact OpOk.appendE rfl rfl rfl rfl Rds.auto oneAuto omAuto (fun a' c' hc1 hc2 => hWk.get a' c' hc1 hc2)
    | exact OpOk.append rfl rfl rfl rfl Rds.auto oneAuto omAuto (fun a' c' hc1 hc2 => hWk.get a' c' hc1 hc2)) : p := e ⟨h⟩
end Go.E
