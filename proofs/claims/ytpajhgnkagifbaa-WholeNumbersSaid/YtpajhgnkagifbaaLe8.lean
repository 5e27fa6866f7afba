/- The check that is ahead of each law of leb; the laws' contracts, first part. -/
import Derived.Test.YtpajhgnkagifbaaLe7
namespace Go.Proofs.Ytpajhgnkagifbaa
open Go Go.E
set_option linter.unusedVariables false
set_option maxRecDepth 10000
section
variable {ro : Ro} {own : Chs} {K : Value → Ro → Chs → Prop} {f : Chunk → Chs}
theorem folds_ok (hk : K (.bool true) ro own) : CallOk Try.prog 28 #[] ro own K := by
  have e300 : enc 300 = [172, 2] := by rw [enc_ge (by omega), enc_lt (by omega)]; rfl
  refine CallOk.back ?_
  refine CallOk.intro (args := []) (rs := [_]) T_ok Try.func28 Try.call28 rfl rfl (by kernel_rfl) rfl rfl ?_
  repeat (first
    | refine Stop.mk ?_
    | (show _ ∧ _; first | exact ⟨rfl, rfl, rfl⟩ | refine And.intro (by first | omega | exact u8_range _ | exact add_u8 _ _ (by omega) | exact ⟨⟨Int.emod_nonneg _ (by decide), Int.emod_lt_of_pos _ (by decide)⟩, Int.natCast_nonneg _, Int.lt_of_lt_of_le (u8_range _).2 (by decide)⟩ | exact ⟨⟨Int.emod_nonneg _ (by decide), Int.emod_lt_of_pos _ (by decide)⟩, ⟨Int.emod_nonneg _ (by decide), Int.emod_lt_of_pos _ (by decide)⟩⟩) ?_ | refine And.intro (inferInstanceAs (Suf _ _)) ?_)
    | (show OpOk _ _ _ _ _ _ _; first
        | refine OpOk.load rfl rfl (by first | exact Ld.hasBlk rfl | exact Ld.rs (by assumption) (getMap (by omega)) | exact Ld.rds (by assumption) (getMap (by omega)) | exact Ld.hasSl (getMap (by omega)) | exact Ld.hasBlkAt (getMap (by omega))) ?_
        | refine OpOk.loadRow rfl rfl LdN.hasBlk rfl ?_
        | refine OpOk.store rfl rfl rfl rfl (by repeat (first | exact SetR.hit _ _ _ | apply SetR.miss)) ?_
        | refine OpOk.storeRow rfl rfl rfl rfl (by rfl) rfl ?_
        | refine OpOk.idx1 rfl rfl rfl (by omega) (by first | exact AOk.hasSl | exact AOk.rs (by assumption) | exact AOk.rds (by assumption) | exact AOk.lit) ?_
        | refine OpOk.alloc rfl (fun b => ?_)
        | refine OpOk.box rfl (fun b => ?_)
        | refine OpOk.build rfl rfl (by repeat (first | exact Nf.nil | apply Nf.cons)) ?_
        | refine OpOk.buildSlice1 (by rfl) (by rfl) (by rfl) (by rfl) (by rfl) (fun b => ?_)
        | refine OpOk.toStr rfl rfl rfl rfl (by first | exact Rs.rds (by assumption) | exact Rds.up (by assumption) | exact Rds.hasSl (by omega) (by omega) (by first | rfl | (simp; done) | (simp; omega))) ?_
        | refine OpOk.make1 rfl rfl rfl (by omega) (fun b => ?_)
        | refine OpOk.append1 rfl rfl rfl rfl rfl rfl (by omega) (fun a' c' hc1 hc2 => ?_)
        | refine OpOk.append0 rfl rfl rfl rfl rfl rfl (by omega) (fun a' c' hc1 hc2 => ?_)
        | refine OpOk.appendE rfl rfl rfl rfl (by first | exact Rs.rds (by assumption) | exact Rds.up (by assumption) | exact Rds.hasSl (by omega) (by omega) (by first | rfl | (simp; done) | (simp; omega))) (one_u8 _) (by omega) (fun a' c' hc1 hc2 => ?_)
        | refine OpOk.append rfl rfl rfl rfl (by first | exact Rs.rds (by assumption) | exact Rds.up (by assumption) | exact Rds.hasSl (by omega) (by omega) (by first | rfl | (simp; done) | (simp; omega))) (one_u8 _) (by omega) (fun a' c' hc1 hc2 => ?_))
    | (show QOk _ _ _ _ _ _ _; first | refine QOk.load rfl rfl (by first | exact Ld.hasBlk rfl | exact Ld.rs (by assumption) (getMap (by omega)) | exact Ld.rds (by assumption) (getMap (by omega)) | exact Ld.hasSl (getMap (by omega)) | exact Ld.hasBlkAt (getMap (by omega))) ?_ | refine QOk.idx1 rfl rfl rfl (by omega) (by first | exact AOk.hasSl | exact AOk.rs (by assumption) | exact AOk.rds (by assumption) | exact AOk.lit) ?_ | refine QOk.loadRow rfl rfl LdN.hasBlk rfl ?_ | refine QOk.toStr rfl rfl rfl rfl (by first | exact Rs.rds (by assumption) | exact Rds.up (by assumption) | exact Rds.hasSl (by omega) (by omega) (by first | rfl | (simp; done) | (simp; omega))) ?_)
    | (show GJ _ _ _ _ _ _ _; first | (apply GJ.and; exact rfl; intro hg) | (apply GJ.or; exact rfl; intro hg) | refine GJ.t (by omega) ?_ | refine GJ.f (by omega) ?_ | refine GJ.ft (by omega) ?_ | refine GJ.ff (by omega) ?_)
    | (show Br _ _ _; first | with_reducible refine Br.tt ?_ | with_reducible refine Br.ff ?_ | with_reducible refine Br.nt ?_ | with_reducible refine Br.nf ?_ | refine Br.t (by omega) ?_ | refine Br.f (by omega) ?_)
    | (show RetOk _ _ _ _ _ _; refine RetOk.of (by repeat (first | exact RL.nil | refine RL.tmp rfl ?_ | refine RL.row rfl rfl LdN.hasBlk rfl ?_ | refine RL.one rfl rfl (by first | exact Ld.hasBlk rfl | exact Ld.rs (by assumption) (getMap (by omega)) | exact Ld.rds (by assumption) (getMap (by omega)) | exact Ld.hasSl (getMap (by omega)) | exact Ld.hasBlkAt (getMap (by omega))) ?_)) ?_)
    | (show CodeOk _ _ _ _ _ _; refine CodeOk.drawnAuto rfl (by kernel_rfl) rfl (by kernel_rfl) ?_))
  refine put_ok (l := []) (x := 300) (Rds.nil _ _ _) (by simp) (by omega) (fun a1 n1 c1 h1 h2 h3 => ?_)
  simp only [List.nil_append, e300] at h1 ⊢
  repeat (first
    | refine Stop.mk ?_
    | (show _ ∧ _; first | exact ⟨rfl, rfl, rfl⟩ | refine And.intro (by first | omega | exact u8_range _ | exact add_u8 _ _ (by omega) | exact ⟨⟨Int.emod_nonneg _ (by decide), Int.emod_lt_of_pos _ (by decide)⟩, Int.natCast_nonneg _, Int.lt_of_lt_of_le (u8_range _).2 (by decide)⟩ | exact ⟨⟨Int.emod_nonneg _ (by decide), Int.emod_lt_of_pos _ (by decide)⟩, ⟨Int.emod_nonneg _ (by decide), Int.emod_lt_of_pos _ (by decide)⟩⟩) ?_ | refine And.intro (inferInstanceAs (Suf _ _)) ?_)
    | (show OpOk _ _ _ _ _ _ _; first
        | refine OpOk.load rfl rfl (by first | exact Ld.hasBlk rfl | exact Ld.rs (by assumption) (getMap (by omega)) | exact Ld.rds (by assumption) (getMap (by omega)) | exact Ld.hasSl (getMap (by omega)) | exact Ld.hasBlkAt (getMap (by omega))) ?_
        | refine OpOk.loadRow rfl rfl LdN.hasBlk rfl ?_
        | refine OpOk.store rfl rfl rfl rfl (by repeat (first | exact SetR.hit _ _ _ | apply SetR.miss)) ?_
        | refine OpOk.storeRow rfl rfl rfl rfl (by rfl) rfl ?_
        | refine OpOk.idx1 rfl rfl rfl (by omega) (by first | exact AOk.hasSl | exact AOk.rs (by assumption) | exact AOk.rds (by assumption) | exact AOk.lit) ?_
        | refine OpOk.alloc rfl (fun b => ?_)
        | refine OpOk.box rfl (fun b => ?_)
        | refine OpOk.build rfl rfl (by repeat (first | exact Nf.nil | apply Nf.cons)) ?_
        | refine OpOk.buildSlice1 (by rfl) (by rfl) (by rfl) (by rfl) (by rfl) (fun b => ?_)
        | refine OpOk.toStr rfl rfl rfl rfl (by first | exact Rs.rds (by assumption) | exact Rds.up (by assumption) | exact Rds.hasSl (by omega) (by omega) (by first | rfl | (simp; done) | (simp; omega))) ?_
        | refine OpOk.make1 rfl rfl rfl (by omega) (fun b => ?_)
        | refine OpOk.append1 rfl rfl rfl rfl rfl rfl (by omega) (fun a' c' hc1 hc2 => ?_)
        | refine OpOk.append0 rfl rfl rfl rfl rfl rfl (by omega) (fun a' c' hc1 hc2 => ?_)
        | refine OpOk.appendE rfl rfl rfl rfl (by first | exact Rs.rds (by assumption) | exact Rds.up (by assumption) | exact Rds.hasSl (by omega) (by omega) (by first | rfl | (simp; done) | (simp; omega))) (one_u8 _) (by omega) (fun a' c' hc1 hc2 => ?_)
        | refine OpOk.append rfl rfl rfl rfl (by first | exact Rs.rds (by assumption) | exact Rds.up (by assumption) | exact Rds.hasSl (by omega) (by omega) (by first | rfl | (simp; done) | (simp; omega))) (one_u8 _) (by omega) (fun a' c' hc1 hc2 => ?_))
    | (show QOk _ _ _ _ _ _ _; first | refine QOk.load rfl rfl (by first | exact Ld.hasBlk rfl | exact Ld.rs (by assumption) (getMap (by omega)) | exact Ld.rds (by assumption) (getMap (by omega)) | exact Ld.hasSl (getMap (by omega)) | exact Ld.hasBlkAt (getMap (by omega))) ?_ | refine QOk.idx1 rfl rfl rfl (by omega) (by first | exact AOk.hasSl | exact AOk.rs (by assumption) | exact AOk.rds (by assumption) | exact AOk.lit) ?_ | refine QOk.loadRow rfl rfl LdN.hasBlk rfl ?_ | refine QOk.toStr rfl rfl rfl rfl (by first | exact Rs.rds (by assumption) | exact Rds.up (by assumption) | exact Rds.hasSl (by omega) (by omega) (by first | rfl | (simp; done) | (simp; omega))) ?_)
    | (show GJ _ _ _ _ _ _ _; first | (apply GJ.and; exact rfl; intro hg) | (apply GJ.or; exact rfl; intro hg) | refine GJ.t (by omega) ?_ | refine GJ.f (by omega) ?_ | refine GJ.ft (by omega) ?_ | refine GJ.ff (by omega) ?_)
    | (show Br _ _ _; first | with_reducible refine Br.tt ?_ | with_reducible refine Br.ff ?_ | with_reducible refine Br.nt ?_ | with_reducible refine Br.nf ?_ | refine Br.t (by omega) ?_ | refine Br.f (by omega) ?_)
    | (show RetOk _ _ _ _ _ _; refine RetOk.of (by repeat (first | exact RL.nil | refine RL.tmp rfl ?_ | refine RL.row rfl rfl LdN.hasBlk rfl ?_ | refine RL.one rfl rfl (by first | exact Ld.hasBlk rfl | exact Ld.rs (by assumption) (getMap (by omega)) | exact Ld.rds (by assumption) (getMap (by omega)) | exact Ld.hasSl (getMap (by omega)) | exact Ld.hasBlkAt (getMap (by omega))) ?_)) ?_)
    | (show CodeOk _ _ _ _ _ _; refine CodeOk.drawnAuto rfl (by kernel_rfl) rfl (by kernel_rfl) ?_))
  refine new_ok (fun b1 => ?_)
  repeat (first
    | refine Stop.mk ?_
    | (show _ ∧ _; first | exact ⟨rfl, rfl, rfl⟩ | refine And.intro (by first | omega | exact u8_range _ | exact add_u8 _ _ (by omega) | exact ⟨⟨Int.emod_nonneg _ (by decide), Int.emod_lt_of_pos _ (by decide)⟩, Int.natCast_nonneg _, Int.lt_of_lt_of_le (u8_range _).2 (by decide)⟩ | exact ⟨⟨Int.emod_nonneg _ (by decide), Int.emod_lt_of_pos _ (by decide)⟩, ⟨Int.emod_nonneg _ (by decide), Int.emod_lt_of_pos _ (by decide)⟩⟩) ?_ | refine And.intro (inferInstanceAs (Suf _ _)) ?_)
    | (show OpOk _ _ _ _ _ _ _; first
        | refine OpOk.load rfl rfl (by first | exact Ld.hasBlk rfl | exact Ld.rs (by assumption) (getMap (by omega)) | exact Ld.rds (by assumption) (getMap (by omega)) | exact Ld.hasSl (getMap (by omega)) | exact Ld.hasBlkAt (getMap (by omega))) ?_
        | refine OpOk.loadRow rfl rfl LdN.hasBlk rfl ?_
        | refine OpOk.store rfl rfl rfl rfl (by repeat (first | exact SetR.hit _ _ _ | apply SetR.miss)) ?_
        | refine OpOk.storeRow rfl rfl rfl rfl (by rfl) rfl ?_
        | refine OpOk.idx1 rfl rfl rfl (by omega) (by first | exact AOk.hasSl | exact AOk.rs (by assumption) | exact AOk.rds (by assumption) | exact AOk.lit) ?_
        | refine OpOk.alloc rfl (fun b => ?_)
        | refine OpOk.box rfl (fun b => ?_)
        | refine OpOk.build rfl rfl (by repeat (first | exact Nf.nil | apply Nf.cons)) ?_
        | refine OpOk.buildSlice1 (by rfl) (by rfl) (by rfl) (by rfl) (by rfl) (fun b => ?_)
        | refine OpOk.toStr rfl rfl rfl rfl (by first | exact Rs.rds (by assumption) | exact Rds.up (by assumption) | exact Rds.hasSl (by omega) (by omega) (by first | rfl | (simp; done) | (simp; omega))) ?_
        | refine OpOk.make1 rfl rfl rfl (by omega) (fun b => ?_)
        | refine OpOk.append1 rfl rfl rfl rfl rfl rfl (by omega) (fun a' c' hc1 hc2 => ?_)
        | refine OpOk.append0 rfl rfl rfl rfl rfl rfl (by omega) (fun a' c' hc1 hc2 => ?_)
        | refine OpOk.appendE rfl rfl rfl rfl (by first | exact Rs.rds (by assumption) | exact Rds.up (by assumption) | exact Rds.hasSl (by omega) (by omega) (by first | rfl | (simp; done) | (simp; omega))) (one_u8 _) (by omega) (fun a' c' hc1 hc2 => ?_)
        | refine OpOk.append rfl rfl rfl rfl (by first | exact Rs.rds (by assumption) | exact Rds.up (by assumption) | exact Rds.hasSl (by omega) (by omega) (by first | rfl | (simp; done) | (simp; omega))) (one_u8 _) (by omega) (fun a' c' hc1 hc2 => ?_))
    | (show QOk _ _ _ _ _ _ _; first | refine QOk.load rfl rfl (by first | exact Ld.hasBlk rfl | exact Ld.rs (by assumption) (getMap (by omega)) | exact Ld.rds (by assumption) (getMap (by omega)) | exact Ld.hasSl (getMap (by omega)) | exact Ld.hasBlkAt (getMap (by omega))) ?_ | refine QOk.idx1 rfl rfl rfl (by omega) (by first | exact AOk.hasSl | exact AOk.rs (by assumption) | exact AOk.rds (by assumption) | exact AOk.lit) ?_ | refine QOk.loadRow rfl rfl LdN.hasBlk rfl ?_ | refine QOk.toStr rfl rfl rfl rfl (by first | exact Rs.rds (by assumption) | exact Rds.up (by assumption) | exact Rds.hasSl (by omega) (by omega) (by first | rfl | (simp; done) | (simp; omega))) ?_)
    | (show GJ _ _ _ _ _ _ _; first | (apply GJ.and; exact rfl; intro hg) | (apply GJ.or; exact rfl; intro hg) | refine GJ.t (by omega) ?_ | refine GJ.f (by omega) ?_ | refine GJ.ft (by omega) ?_ | refine GJ.ff (by omega) ?_)
    | (show Br _ _ _; first | with_reducible refine Br.tt ?_ | with_reducible refine Br.ff ?_ | with_reducible refine Br.nt ?_ | with_reducible refine Br.nf ?_ | refine Br.t (by omega) ?_ | refine Br.f (by omega) ?_)
    | (show RetOk _ _ _ _ _ _; refine RetOk.of (by repeat (first | exact RL.nil | refine RL.tmp rfl ?_ | refine RL.row rfl rfl LdN.hasBlk rfl ?_ | refine RL.one rfl rfl (by first | exact Ld.hasBlk rfl | exact Ld.rs (by assumption) (getMap (by omega)) | exact Ld.rds (by assumption) (getMap (by omega)) | exact Ld.hasSl (getMap (by omega)) | exact Ld.hasBlkAt (getMap (by omega))) ?_)) ?_)
    | (show CodeOk _ _ _ _ _ _; refine CodeOk.drawnAuto rfl (by kernel_rfl) rfl (by kernel_rfl) ?_))
  refine CallOk.freeze (c := .sl (some ⟨b, 0, none⟩) _ _ _ _ _) (by first | exact Take.hit _ _ | exact Take.miss _ (Take.hit _ _) | exact Take.miss _ (Take.miss _ (Take.hit _ _)) | exact Take.miss _ (Take.miss _ (Take.miss _ (Take.hit _ _))) | exact Take.miss _ (Take.miss _ (Take.miss _ (Take.miss _ (Take.hit _ _)))) | exact Take.miss _ (Take.miss _ (Take.miss _ (Take.miss _ (Take.miss _ (Take.hit _ _))))) | exact Take.miss _ (Take.miss _ (Take.miss _ (Take.miss _ (Take.miss _ (Take.miss _ (Take.hit _ _))))))) (fun ro1 hl1 hc1 => ?_)
  refine readR (l := [172, 2, 7]) (k := 0) (Rs.last hc1) (by omega) (by omega) (fun v many e h4 _ _ _ => ?_)
  cases (show (300, 2, 0) = (v, many, e) from h4)
  repeat (first
    | refine Stop.mk ?_
    | (show _ ∧ _; first | exact ⟨rfl, rfl, rfl⟩ | refine And.intro (by first | omega | exact u8_range _ | exact add_u8 _ _ (by omega) | exact ⟨⟨Int.emod_nonneg _ (by decide), Int.emod_lt_of_pos _ (by decide)⟩, Int.natCast_nonneg _, Int.lt_of_lt_of_le (u8_range _).2 (by decide)⟩ | exact ⟨⟨Int.emod_nonneg _ (by decide), Int.emod_lt_of_pos _ (by decide)⟩, ⟨Int.emod_nonneg _ (by decide), Int.emod_lt_of_pos _ (by decide)⟩⟩) ?_ | refine And.intro (inferInstanceAs (Suf _ _)) ?_)
    | (show OpOk _ _ _ _ _ _ _; first
        | refine OpOk.load rfl rfl (by first | exact Ld.hasBlk rfl | exact Ld.rs (by assumption) (getMap (by omega)) | exact Ld.rds (by assumption) (getMap (by omega)) | exact Ld.hasSl (getMap (by omega)) | exact Ld.hasBlkAt (getMap (by omega))) ?_
        | refine OpOk.loadRow rfl rfl LdN.hasBlk rfl ?_
        | refine OpOk.store rfl rfl rfl rfl (by repeat (first | exact SetR.hit _ _ _ | apply SetR.miss)) ?_
        | refine OpOk.storeRow rfl rfl rfl rfl (by rfl) rfl ?_
        | refine OpOk.idx1 rfl rfl rfl (by omega) (by first | exact AOk.hasSl | exact AOk.rs (by assumption) | exact AOk.rds (by assumption) | exact AOk.lit) ?_
        | refine OpOk.alloc rfl (fun b => ?_)
        | refine OpOk.box rfl (fun b => ?_)
        | refine OpOk.build rfl rfl (by repeat (first | exact Nf.nil | apply Nf.cons)) ?_
        | refine OpOk.buildSlice1 (by rfl) (by rfl) (by rfl) (by rfl) (by rfl) (fun b => ?_)
        | refine OpOk.toStr rfl rfl rfl rfl (by first | exact Rs.rds (by assumption) | exact Rds.up (by assumption) | exact Rds.hasSl (by omega) (by omega) (by first | rfl | (simp; done) | (simp; omega))) ?_
        | refine OpOk.make1 rfl rfl rfl (by omega) (fun b => ?_)
        | refine OpOk.append1 rfl rfl rfl rfl rfl rfl (by omega) (fun a' c' hc1 hc2 => ?_)
        | refine OpOk.append0 rfl rfl rfl rfl rfl rfl (by omega) (fun a' c' hc1 hc2 => ?_)
        | refine OpOk.appendE rfl rfl rfl rfl (by first | exact Rs.rds (by assumption) | exact Rds.up (by assumption) | exact Rds.hasSl (by omega) (by omega) (by first | rfl | (simp; done) | (simp; omega))) (one_u8 _) (by omega) (fun a' c' hc1 hc2 => ?_)
        | refine OpOk.append rfl rfl rfl rfl (by first | exact Rs.rds (by assumption) | exact Rds.up (by assumption) | exact Rds.hasSl (by omega) (by omega) (by first | rfl | (simp; done) | (simp; omega))) (one_u8 _) (by omega) (fun a' c' hc1 hc2 => ?_))
    | (show QOk _ _ _ _ _ _ _; first | refine QOk.load rfl rfl (by first | exact Ld.hasBlk rfl | exact Ld.rs (by assumption) (getMap (by omega)) | exact Ld.rds (by assumption) (getMap (by omega)) | exact Ld.hasSl (getMap (by omega)) | exact Ld.hasBlkAt (getMap (by omega))) ?_ | refine QOk.idx1 rfl rfl rfl (by omega) (by first | exact AOk.hasSl | exact AOk.rs (by assumption) | exact AOk.rds (by assumption) | exact AOk.lit) ?_ | refine QOk.loadRow rfl rfl LdN.hasBlk rfl ?_ | refine QOk.toStr rfl rfl rfl rfl (by first | exact Rs.rds (by assumption) | exact Rds.up (by assumption) | exact Rds.hasSl (by omega) (by omega) (by first | rfl | (simp; done) | (simp; omega))) ?_)
    | (show GJ _ _ _ _ _ _ _; first | (apply GJ.and; exact rfl; intro hg) | (apply GJ.or; exact rfl; intro hg) | refine GJ.t (by omega) ?_ | refine GJ.f (by omega) ?_ | refine GJ.ft (by omega) ?_ | refine GJ.ff (by omega) ?_)
    | (show Br _ _ _; first | with_reducible refine Br.tt ?_ | with_reducible refine Br.ff ?_ | with_reducible refine Br.nt ?_ | with_reducible refine Br.nf ?_ | refine Br.t (by omega) ?_ | refine Br.f (by omega) ?_)
    | (show RetOk _ _ _ _ _ _; refine RetOk.of (by repeat (first | exact RL.nil | refine RL.tmp rfl ?_ | refine RL.row rfl rfl LdN.hasBlk rfl ?_ | refine RL.one rfl rfl (by first | exact Ld.hasBlk rfl | exact Ld.rs (by assumption) (getMap (by omega)) | exact Ld.rds (by assumption) (getMap (by omega)) | exact Ld.hasSl (getMap (by omega)) | exact Ld.hasBlkAt (getMap (by omega))) ?_)) ?_)
    | (show CodeOk _ _ _ _ _ _; refine CodeOk.drawnAuto rfl (by kernel_rfl) rfl (by kernel_rfl) ?_))
  refine new_ok (fun b2 => ?_)
  repeat (first
    | refine Stop.mk ?_
    | (show _ ∧ _; first | exact ⟨rfl, rfl, rfl⟩ | refine And.intro (by first | omega | exact u8_range _ | exact add_u8 _ _ (by omega) | exact ⟨⟨Int.emod_nonneg _ (by decide), Int.emod_lt_of_pos _ (by decide)⟩, Int.natCast_nonneg _, Int.lt_of_lt_of_le (u8_range _).2 (by decide)⟩ | exact ⟨⟨Int.emod_nonneg _ (by decide), Int.emod_lt_of_pos _ (by decide)⟩, ⟨Int.emod_nonneg _ (by decide), Int.emod_lt_of_pos _ (by decide)⟩⟩) ?_ | refine And.intro (inferInstanceAs (Suf _ _)) ?_)
    | (show OpOk _ _ _ _ _ _ _; first
        | refine OpOk.load rfl rfl (by first | exact Ld.hasBlk rfl | exact Ld.rs (by assumption) (getMap (by omega)) | exact Ld.rds (by assumption) (getMap (by omega)) | exact Ld.hasSl (getMap (by omega)) | exact Ld.hasBlkAt (getMap (by omega))) ?_
        | refine OpOk.loadRow rfl rfl LdN.hasBlk rfl ?_
        | refine OpOk.store rfl rfl rfl rfl (by repeat (first | exact SetR.hit _ _ _ | apply SetR.miss)) ?_
        | refine OpOk.storeRow rfl rfl rfl rfl (by rfl) rfl ?_
        | refine OpOk.idx1 rfl rfl rfl (by omega) (by first | exact AOk.hasSl | exact AOk.rs (by assumption) | exact AOk.rds (by assumption) | exact AOk.lit) ?_
        | refine OpOk.alloc rfl (fun b => ?_)
        | refine OpOk.box rfl (fun b => ?_)
        | refine OpOk.build rfl rfl (by repeat (first | exact Nf.nil | apply Nf.cons)) ?_
        | refine OpOk.buildSlice1 (by rfl) (by rfl) (by rfl) (by rfl) (by rfl) (fun b => ?_)
        | refine OpOk.toStr rfl rfl rfl rfl (by first | exact Rs.rds (by assumption) | exact Rds.up (by assumption) | exact Rds.hasSl (by omega) (by omega) (by first | rfl | (simp; done) | (simp; omega))) ?_
        | refine OpOk.make1 rfl rfl rfl (by omega) (fun b => ?_)
        | refine OpOk.append1 rfl rfl rfl rfl rfl rfl (by omega) (fun a' c' hc1 hc2 => ?_)
        | refine OpOk.append0 rfl rfl rfl rfl rfl rfl (by omega) (fun a' c' hc1 hc2 => ?_)
        | refine OpOk.appendE rfl rfl rfl rfl (by first | exact Rs.rds (by assumption) | exact Rds.up (by assumption) | exact Rds.hasSl (by omega) (by omega) (by first | rfl | (simp; done) | (simp; omega))) (one_u8 _) (by omega) (fun a' c' hc1 hc2 => ?_)
        | refine OpOk.append rfl rfl rfl rfl (by first | exact Rs.rds (by assumption) | exact Rds.up (by assumption) | exact Rds.hasSl (by omega) (by omega) (by first | rfl | (simp; done) | (simp; omega))) (one_u8 _) (by omega) (fun a' c' hc1 hc2 => ?_))
    | (show QOk _ _ _ _ _ _ _; first | refine QOk.load rfl rfl (by first | exact Ld.hasBlk rfl | exact Ld.rs (by assumption) (getMap (by omega)) | exact Ld.rds (by assumption) (getMap (by omega)) | exact Ld.hasSl (getMap (by omega)) | exact Ld.hasBlkAt (getMap (by omega))) ?_ | refine QOk.idx1 rfl rfl rfl (by omega) (by first | exact AOk.hasSl | exact AOk.rs (by assumption) | exact AOk.rds (by assumption) | exact AOk.lit) ?_ | refine QOk.loadRow rfl rfl LdN.hasBlk rfl ?_ | refine QOk.toStr rfl rfl rfl rfl (by first | exact Rs.rds (by assumption) | exact Rds.up (by assumption) | exact Rds.hasSl (by omega) (by omega) (by first | rfl | (simp; done) | (simp; omega))) ?_)
    | (show GJ _ _ _ _ _ _ _; first | (apply GJ.and; exact rfl; intro hg) | (apply GJ.or; exact rfl; intro hg) | refine GJ.t (by omega) ?_ | refine GJ.f (by omega) ?_ | refine GJ.ft (by omega) ?_ | refine GJ.ff (by omega) ?_)
    | (show Br _ _ _; first | with_reducible refine Br.tt ?_ | with_reducible refine Br.ff ?_ | with_reducible refine Br.nt ?_ | with_reducible refine Br.nf ?_ | refine Br.t (by omega) ?_ | refine Br.f (by omega) ?_)
    | (show RetOk _ _ _ _ _ _; refine RetOk.of (by repeat (first | exact RL.nil | refine RL.tmp rfl ?_ | refine RL.row rfl rfl LdN.hasBlk rfl ?_ | refine RL.one rfl rfl (by first | exact Ld.hasBlk rfl | exact Ld.rs (by assumption) (getMap (by omega)) | exact Ld.rds (by assumption) (getMap (by omega)) | exact Ld.hasSl (getMap (by omega)) | exact Ld.hasBlkAt (getMap (by omega))) ?_)) ?_)
    | (show CodeOk _ _ _ _ _ _; refine CodeOk.drawnAuto rfl (by kernel_rfl) rfl (by kernel_rfl) ?_))
  refine CallOk.freeze (c := .sl (some ⟨b, 0, none⟩) _ _ _ _ _) (by first | exact Take.hit _ _ | exact Take.miss _ (Take.hit _ _) | exact Take.miss _ (Take.miss _ (Take.hit _ _)) | exact Take.miss _ (Take.miss _ (Take.miss _ (Take.hit _ _))) | exact Take.miss _ (Take.miss _ (Take.miss _ (Take.miss _ (Take.hit _ _)))) | exact Take.miss _ (Take.miss _ (Take.miss _ (Take.miss _ (Take.miss _ (Take.hit _ _))))) | exact Take.miss _ (Take.miss _ (Take.miss _ (Take.miss _ (Take.miss _ (Take.miss _ (Take.hit _ _))))))) (fun ro2 hl2 hc2 => ?_)
  refine readR (l := [128, 0]) (k := 0) (Rs.last hc2) (by omega) (by omega) (fun v many e h4 _ _ _ => ?_)
  cases (show (0, 0, 21) = (v, many, e) from h4)
  repeat (first
    | refine Stop.mk ?_
    | (show _ ∧ _; first | exact ⟨rfl, rfl, rfl⟩ | refine And.intro (by first | omega | exact u8_range _ | exact add_u8 _ _ (by omega) | exact ⟨⟨Int.emod_nonneg _ (by decide), Int.emod_lt_of_pos _ (by decide)⟩, Int.natCast_nonneg _, Int.lt_of_lt_of_le (u8_range _).2 (by decide)⟩ | exact ⟨⟨Int.emod_nonneg _ (by decide), Int.emod_lt_of_pos _ (by decide)⟩, ⟨Int.emod_nonneg _ (by decide), Int.emod_lt_of_pos _ (by decide)⟩⟩) ?_ | refine And.intro (inferInstanceAs (Suf _ _)) ?_)
    | (show OpOk _ _ _ _ _ _ _; first
        | refine OpOk.load rfl rfl (by first | exact Ld.hasBlk rfl | exact Ld.rs (by assumption) (getMap (by omega)) | exact Ld.rds (by assumption) (getMap (by omega)) | exact Ld.hasSl (getMap (by omega)) | exact Ld.hasBlkAt (getMap (by omega))) ?_
        | refine OpOk.loadRow rfl rfl LdN.hasBlk rfl ?_
        | refine OpOk.store rfl rfl rfl rfl (by repeat (first | exact SetR.hit _ _ _ | apply SetR.miss)) ?_
        | refine OpOk.storeRow rfl rfl rfl rfl (by rfl) rfl ?_
        | refine OpOk.idx1 rfl rfl rfl (by omega) (by first | exact AOk.hasSl | exact AOk.rs (by assumption) | exact AOk.rds (by assumption) | exact AOk.lit) ?_
        | refine OpOk.alloc rfl (fun b => ?_)
        | refine OpOk.box rfl (fun b => ?_)
        | refine OpOk.build rfl rfl (by repeat (first | exact Nf.nil | apply Nf.cons)) ?_
        | refine OpOk.buildSlice1 (by rfl) (by rfl) (by rfl) (by rfl) (by rfl) (fun b => ?_)
        | refine OpOk.toStr rfl rfl rfl rfl (by first | exact Rs.rds (by assumption) | exact Rds.up (by assumption) | exact Rds.hasSl (by omega) (by omega) (by first | rfl | (simp; done) | (simp; omega))) ?_
        | refine OpOk.make1 rfl rfl rfl (by omega) (fun b => ?_)
        | refine OpOk.append1 rfl rfl rfl rfl rfl rfl (by omega) (fun a' c' hc1 hc2 => ?_)
        | refine OpOk.append0 rfl rfl rfl rfl rfl rfl (by omega) (fun a' c' hc1 hc2 => ?_)
        | refine OpOk.appendE rfl rfl rfl rfl (by first | exact Rs.rds (by assumption) | exact Rds.up (by assumption) | exact Rds.hasSl (by omega) (by omega) (by first | rfl | (simp; done) | (simp; omega))) (one_u8 _) (by omega) (fun a' c' hc1 hc2 => ?_)
        | refine OpOk.append rfl rfl rfl rfl (by first | exact Rs.rds (by assumption) | exact Rds.up (by assumption) | exact Rds.hasSl (by omega) (by omega) (by first | rfl | (simp; done) | (simp; omega))) (one_u8 _) (by omega) (fun a' c' hc1 hc2 => ?_))
    | (show QOk _ _ _ _ _ _ _; first | refine QOk.load rfl rfl (by first | exact Ld.hasBlk rfl | exact Ld.rs (by assumption) (getMap (by omega)) | exact Ld.rds (by assumption) (getMap (by omega)) | exact Ld.hasSl (getMap (by omega)) | exact Ld.hasBlkAt (getMap (by omega))) ?_ | refine QOk.idx1 rfl rfl rfl (by omega) (by first | exact AOk.hasSl | exact AOk.rs (by assumption) | exact AOk.rds (by assumption) | exact AOk.lit) ?_ | refine QOk.loadRow rfl rfl LdN.hasBlk rfl ?_ | refine QOk.toStr rfl rfl rfl rfl (by first | exact Rs.rds (by assumption) | exact Rds.up (by assumption) | exact Rds.hasSl (by omega) (by omega) (by first | rfl | (simp; done) | (simp; omega))) ?_)
    | (show GJ _ _ _ _ _ _ _; first | (apply GJ.and; exact rfl; intro hg) | (apply GJ.or; exact rfl; intro hg) | refine GJ.t (by omega) ?_ | refine GJ.f (by omega) ?_ | refine GJ.ft (by omega) ?_ | refine GJ.ff (by omega) ?_)
    | (show Br _ _ _; first | with_reducible refine Br.tt ?_ | with_reducible refine Br.ff ?_ | with_reducible refine Br.nt ?_ | with_reducible refine Br.nf ?_ | refine Br.t (by omega) ?_ | refine Br.f (by omega) ?_)
    | (show RetOk _ _ _ _ _ _; refine RetOk.of (by repeat (first | exact RL.nil | refine RL.tmp rfl ?_ | refine RL.row rfl rfl LdN.hasBlk rfl ?_ | refine RL.one rfl rfl (by first | exact Ld.hasBlk rfl | exact Ld.rs (by assumption) (getMap (by omega)) | exact Ld.rds (by assumption) (getMap (by omega)) | exact Ld.hasSl (getMap (by omega)) | exact Ld.hasBlkAt (getMap (by omega))) ?_)) ?_)
    | (show CodeOk _ _ _ _ _ _; refine CodeOk.drawnAuto rfl (by kernel_rfl) rfl (by kernel_rfl) ?_))
  refine fold_ok (n := -2) (by omega) ?_
  repeat (first
    | refine Stop.mk ?_
    | (show _ ∧ _; first | exact ⟨rfl, rfl, rfl⟩ | refine And.intro (by first | omega | exact u8_range _ | exact add_u8 _ _ (by omega) | exact ⟨⟨Int.emod_nonneg _ (by decide), Int.emod_lt_of_pos _ (by decide)⟩, Int.natCast_nonneg _, Int.lt_of_lt_of_le (u8_range _).2 (by decide)⟩ | exact ⟨⟨Int.emod_nonneg _ (by decide), Int.emod_lt_of_pos _ (by decide)⟩, ⟨Int.emod_nonneg _ (by decide), Int.emod_lt_of_pos _ (by decide)⟩⟩) ?_ | refine And.intro (inferInstanceAs (Suf _ _)) ?_)
    | (show OpOk _ _ _ _ _ _ _; first
        | refine OpOk.load rfl rfl (by first | exact Ld.hasBlk rfl | exact Ld.rs (by assumption) (getMap (by omega)) | exact Ld.rds (by assumption) (getMap (by omega)) | exact Ld.hasSl (getMap (by omega)) | exact Ld.hasBlkAt (getMap (by omega))) ?_
        | refine OpOk.loadRow rfl rfl LdN.hasBlk rfl ?_
        | refine OpOk.store rfl rfl rfl rfl (by repeat (first | exact SetR.hit _ _ _ | apply SetR.miss)) ?_
        | refine OpOk.storeRow rfl rfl rfl rfl (by rfl) rfl ?_
        | refine OpOk.idx1 rfl rfl rfl (by omega) (by first | exact AOk.hasSl | exact AOk.rs (by assumption) | exact AOk.rds (by assumption) | exact AOk.lit) ?_
        | refine OpOk.alloc rfl (fun b => ?_)
        | refine OpOk.box rfl (fun b => ?_)
        | refine OpOk.build rfl rfl (by repeat (first | exact Nf.nil | apply Nf.cons)) ?_
        | refine OpOk.buildSlice1 (by rfl) (by rfl) (by rfl) (by rfl) (by rfl) (fun b => ?_)
        | refine OpOk.toStr rfl rfl rfl rfl (by first | exact Rs.rds (by assumption) | exact Rds.up (by assumption) | exact Rds.hasSl (by omega) (by omega) (by first | rfl | (simp; done) | (simp; omega))) ?_
        | refine OpOk.make1 rfl rfl rfl (by omega) (fun b => ?_)
        | refine OpOk.append1 rfl rfl rfl rfl rfl rfl (by omega) (fun a' c' hc1 hc2 => ?_)
        | refine OpOk.append0 rfl rfl rfl rfl rfl rfl (by omega) (fun a' c' hc1 hc2 => ?_)
        | refine OpOk.appendE rfl rfl rfl rfl (by first | exact Rs.rds (by assumption) | exact Rds.up (by assumption) | exact Rds.hasSl (by omega) (by omega) (by first | rfl | (simp; done) | (simp; omega))) (one_u8 _) (by omega) (fun a' c' hc1 hc2 => ?_)
        | refine OpOk.append rfl rfl rfl rfl (by first | exact Rs.rds (by assumption) | exact Rds.up (by assumption) | exact Rds.hasSl (by omega) (by omega) (by first | rfl | (simp; done) | (simp; omega))) (one_u8 _) (by omega) (fun a' c' hc1 hc2 => ?_))
    | (show QOk _ _ _ _ _ _ _; first | refine QOk.load rfl rfl (by first | exact Ld.hasBlk rfl | exact Ld.rs (by assumption) (getMap (by omega)) | exact Ld.rds (by assumption) (getMap (by omega)) | exact Ld.hasSl (getMap (by omega)) | exact Ld.hasBlkAt (getMap (by omega))) ?_ | refine QOk.idx1 rfl rfl rfl (by omega) (by first | exact AOk.hasSl | exact AOk.rs (by assumption) | exact AOk.rds (by assumption) | exact AOk.lit) ?_ | refine QOk.loadRow rfl rfl LdN.hasBlk rfl ?_ | refine QOk.toStr rfl rfl rfl rfl (by first | exact Rs.rds (by assumption) | exact Rds.up (by assumption) | exact Rds.hasSl (by omega) (by omega) (by first | rfl | (simp; done) | (simp; omega))) ?_)
    | (show GJ _ _ _ _ _ _ _; first | (apply GJ.and; exact rfl; intro hg) | (apply GJ.or; exact rfl; intro hg) | refine GJ.t (by omega) ?_ | refine GJ.f (by omega) ?_ | refine GJ.ft (by omega) ?_ | refine GJ.ff (by omega) ?_)
    | (show Br _ _ _; first | with_reducible refine Br.tt ?_ | with_reducible refine Br.ff ?_ | with_reducible refine Br.nt ?_ | with_reducible refine Br.nf ?_ | refine Br.t (by omega) ?_ | refine Br.f (by omega) ?_)
    | (show RetOk _ _ _ _ _ _; refine RetOk.of (by repeat (first | exact RL.nil | refine RL.tmp rfl ?_ | refine RL.row rfl rfl LdN.hasBlk rfl ?_ | refine RL.one rfl rfl (by first | exact Ld.hasBlk rfl | exact Ld.rs (by assumption) (getMap (by omega)) | exact Ld.rds (by assumption) (getMap (by omega)) | exact Ld.hasSl (getMap (by omega)) | exact Ld.hasBlkAt (getMap (by omega))) ?_)) ?_)
    | (show CodeOk _ _ _ _ _ _; refine CodeOk.drawnAuto rfl (by kernel_rfl) rfl (by kernel_rfl) ?_))
  refine unfold_ok (x := 3) (by omega) ?_
  repeat (first
    | refine Stop.mk ?_
    | (show _ ∧ _; first | exact ⟨rfl, rfl, rfl⟩ | refine And.intro (by first | omega | exact u8_range _ | exact add_u8 _ _ (by omega) | exact ⟨⟨Int.emod_nonneg _ (by decide), Int.emod_lt_of_pos _ (by decide)⟩, Int.natCast_nonneg _, Int.lt_of_lt_of_le (u8_range _).2 (by decide)⟩ | exact ⟨⟨Int.emod_nonneg _ (by decide), Int.emod_lt_of_pos _ (by decide)⟩, ⟨Int.emod_nonneg _ (by decide), Int.emod_lt_of_pos _ (by decide)⟩⟩) ?_ | refine And.intro (inferInstanceAs (Suf _ _)) ?_)
    | (show OpOk _ _ _ _ _ _ _; first
        | refine OpOk.load rfl rfl (by first | exact Ld.hasBlk rfl | exact Ld.rs (by assumption) (getMap (by omega)) | exact Ld.rds (by assumption) (getMap (by omega)) | exact Ld.hasSl (getMap (by omega)) | exact Ld.hasBlkAt (getMap (by omega))) ?_
        | refine OpOk.loadRow rfl rfl LdN.hasBlk rfl ?_
        | refine OpOk.store rfl rfl rfl rfl (by repeat (first | exact SetR.hit _ _ _ | apply SetR.miss)) ?_
        | refine OpOk.storeRow rfl rfl rfl rfl (by rfl) rfl ?_
        | refine OpOk.idx1 rfl rfl rfl (by omega) (by first | exact AOk.hasSl | exact AOk.rs (by assumption) | exact AOk.rds (by assumption) | exact AOk.lit) ?_
        | refine OpOk.alloc rfl (fun b => ?_)
        | refine OpOk.box rfl (fun b => ?_)
        | refine OpOk.build rfl rfl (by repeat (first | exact Nf.nil | apply Nf.cons)) ?_
        | refine OpOk.buildSlice1 (by rfl) (by rfl) (by rfl) (by rfl) (by rfl) (fun b => ?_)
        | refine OpOk.toStr rfl rfl rfl rfl (by first | exact Rs.rds (by assumption) | exact Rds.up (by assumption) | exact Rds.hasSl (by omega) (by omega) (by first | rfl | (simp; done) | (simp; omega))) ?_
        | refine OpOk.make1 rfl rfl rfl (by omega) (fun b => ?_)
        | refine OpOk.append1 rfl rfl rfl rfl rfl rfl (by omega) (fun a' c' hc1 hc2 => ?_)
        | refine OpOk.append0 rfl rfl rfl rfl rfl rfl (by omega) (fun a' c' hc1 hc2 => ?_)
        | refine OpOk.appendE rfl rfl rfl rfl (by first | exact Rs.rds (by assumption) | exact Rds.up (by assumption) | exact Rds.hasSl (by omega) (by omega) (by first | rfl | (simp; done) | (simp; omega))) (one_u8 _) (by omega) (fun a' c' hc1 hc2 => ?_)
        | refine OpOk.append rfl rfl rfl rfl (by first | exact Rs.rds (by assumption) | exact Rds.up (by assumption) | exact Rds.hasSl (by omega) (by omega) (by first | rfl | (simp; done) | (simp; omega))) (one_u8 _) (by omega) (fun a' c' hc1 hc2 => ?_))
    | (show QOk _ _ _ _ _ _ _; first | refine QOk.load rfl rfl (by first | exact Ld.hasBlk rfl | exact Ld.rs (by assumption) (getMap (by omega)) | exact Ld.rds (by assumption) (getMap (by omega)) | exact Ld.hasSl (getMap (by omega)) | exact Ld.hasBlkAt (getMap (by omega))) ?_ | refine QOk.idx1 rfl rfl rfl (by omega) (by first | exact AOk.hasSl | exact AOk.rs (by assumption) | exact AOk.rds (by assumption) | exact AOk.lit) ?_ | refine QOk.loadRow rfl rfl LdN.hasBlk rfl ?_ | refine QOk.toStr rfl rfl rfl rfl (by first | exact Rs.rds (by assumption) | exact Rds.up (by assumption) | exact Rds.hasSl (by omega) (by omega) (by first | rfl | (simp; done) | (simp; omega))) ?_)
    | (show GJ _ _ _ _ _ _ _; first | (apply GJ.and; exact rfl; intro hg) | (apply GJ.or; exact rfl; intro hg) | refine GJ.t (by omega) ?_ | refine GJ.f (by omega) ?_ | refine GJ.ft (by omega) ?_ | refine GJ.ff (by omega) ?_)
    | (show Br _ _ _; first | with_reducible refine Br.tt ?_ | with_reducible refine Br.ff ?_ | with_reducible refine Br.nt ?_ | with_reducible refine Br.nf ?_ | refine Br.t (by omega) ?_ | refine Br.f (by omega) ?_)
    | (show RetOk _ _ _ _ _ _; refine RetOk.of (by repeat (first | exact RL.nil | refine RL.tmp rfl ?_ | refine RL.row rfl rfl LdN.hasBlk rfl ?_ | refine RL.one rfl rfl (by first | exact Ld.hasBlk rfl | exact Ld.rs (by assumption) (getMap (by omega)) | exact Ld.rds (by assumption) (getMap (by omega)) | exact Ld.hasSl (getMap (by omega)) | exact Ld.hasBlkAt (getMap (by omega))) ?_)) ?_)
    | (show CodeOk _ _ _ _ _ _; refine CodeOk.drawnAuto rfl (by kernel_rfl) rfl (by kernel_rfl) ?_))
  refine llen_ok (x := 128) (by omega) ?_
  repeat (first
    | refine Stop.mk ?_
    | (show _ ∧ _; first | exact ⟨rfl, rfl, rfl⟩ | refine And.intro (by first | omega | exact u8_range _ | exact add_u8 _ _ (by omega) | exact ⟨⟨Int.emod_nonneg _ (by decide), Int.emod_lt_of_pos _ (by decide)⟩, Int.natCast_nonneg _, Int.lt_of_lt_of_le (u8_range _).2 (by decide)⟩ | exact ⟨⟨Int.emod_nonneg _ (by decide), Int.emod_lt_of_pos _ (by decide)⟩, ⟨Int.emod_nonneg _ (by decide), Int.emod_lt_of_pos _ (by decide)⟩⟩) ?_ | refine And.intro (inferInstanceAs (Suf _ _)) ?_)
    | (show OpOk _ _ _ _ _ _ _; first
        | refine OpOk.load rfl rfl (by first | exact Ld.hasBlk rfl | exact Ld.rs (by assumption) (getMap (by omega)) | exact Ld.rds (by assumption) (getMap (by omega)) | exact Ld.hasSl (getMap (by omega)) | exact Ld.hasBlkAt (getMap (by omega))) ?_
        | refine OpOk.loadRow rfl rfl LdN.hasBlk rfl ?_
        | refine OpOk.store rfl rfl rfl rfl (by repeat (first | exact SetR.hit _ _ _ | apply SetR.miss)) ?_
        | refine OpOk.storeRow rfl rfl rfl rfl (by rfl) rfl ?_
        | refine OpOk.idx1 rfl rfl rfl (by omega) (by first | exact AOk.hasSl | exact AOk.rs (by assumption) | exact AOk.rds (by assumption) | exact AOk.lit) ?_
        | refine OpOk.alloc rfl (fun b => ?_)
        | refine OpOk.box rfl (fun b => ?_)
        | refine OpOk.build rfl rfl (by repeat (first | exact Nf.nil | apply Nf.cons)) ?_
        | refine OpOk.buildSlice1 (by rfl) (by rfl) (by rfl) (by rfl) (by rfl) (fun b => ?_)
        | refine OpOk.toStr rfl rfl rfl rfl (by first | exact Rs.rds (by assumption) | exact Rds.up (by assumption) | exact Rds.hasSl (by omega) (by omega) (by first | rfl | (simp; done) | (simp; omega))) ?_
        | refine OpOk.make1 rfl rfl rfl (by omega) (fun b => ?_)
        | refine OpOk.append1 rfl rfl rfl rfl rfl rfl (by omega) (fun a' c' hc1 hc2 => ?_)
        | refine OpOk.append0 rfl rfl rfl rfl rfl rfl (by omega) (fun a' c' hc1 hc2 => ?_)
        | refine OpOk.appendE rfl rfl rfl rfl (by first | exact Rs.rds (by assumption) | exact Rds.up (by assumption) | exact Rds.hasSl (by omega) (by omega) (by first | rfl | (simp; done) | (simp; omega))) (one_u8 _) (by omega) (fun a' c' hc1 hc2 => ?_)
        | refine OpOk.append rfl rfl rfl rfl (by first | exact Rs.rds (by assumption) | exact Rds.up (by assumption) | exact Rds.hasSl (by omega) (by omega) (by first | rfl | (simp; done) | (simp; omega))) (one_u8 _) (by omega) (fun a' c' hc1 hc2 => ?_))
    | (show QOk _ _ _ _ _ _ _; first | refine QOk.load rfl rfl (by first | exact Ld.hasBlk rfl | exact Ld.rs (by assumption) (getMap (by omega)) | exact Ld.rds (by assumption) (getMap (by omega)) | exact Ld.hasSl (getMap (by omega)) | exact Ld.hasBlkAt (getMap (by omega))) ?_ | refine QOk.idx1 rfl rfl rfl (by omega) (by first | exact AOk.hasSl | exact AOk.rs (by assumption) | exact AOk.rds (by assumption) | exact AOk.lit) ?_ | refine QOk.loadRow rfl rfl LdN.hasBlk rfl ?_ | refine QOk.toStr rfl rfl rfl rfl (by first | exact Rs.rds (by assumption) | exact Rds.up (by assumption) | exact Rds.hasSl (by omega) (by omega) (by first | rfl | (simp; done) | (simp; omega))) ?_)
    | (show GJ _ _ _ _ _ _ _; first | (apply GJ.and; exact rfl; intro hg) | (apply GJ.or; exact rfl; intro hg) | refine GJ.t (by omega) ?_ | refine GJ.f (by omega) ?_ | refine GJ.ft (by omega) ?_ | refine GJ.ff (by omega) ?_)
    | (show Br _ _ _; first | with_reducible refine Br.tt ?_ | with_reducible refine Br.ff ?_ | with_reducible refine Br.nt ?_ | with_reducible refine Br.nf ?_ | refine Br.t (by omega) ?_ | refine Br.f (by omega) ?_)
    | (show RetOk _ _ _ _ _ _; refine RetOk.of (by repeat (first | exact RL.nil | refine RL.tmp rfl ?_ | refine RL.row rfl rfl LdN.hasBlk rfl ?_ | refine RL.one rfl rfl (by first | exact Ld.hasBlk rfl | exact Ld.rs (by assumption) (getMap (by omega)) | exact Ld.rds (by assumption) (getMap (by omega)) | exact Ld.hasSl (getMap (by omega)) | exact Ld.hasBlkAt (getMap (by omega))) ?_)) ?_)
    | (show CodeOk _ _ _ _ _ _; refine CodeOk.drawnAuto rfl (by kernel_rfl) rfl (by kernel_rfl) ?_))
  refine Wk.backB ?_ (by repeat (first | exact Sup.all _ | exact Sup.nil _ | refine Sup.cons (by first | exact Take.hit _ _ | exact Take.miss _ (Take.hit _ _) | exact Take.miss _ (Take.miss _ (Take.hit _ _)) | exact Take.miss _ (Take.miss _ (Take.miss _ (Take.hit _ _))) | exact Take.miss _ (Take.miss _ (Take.miss _ (Take.miss _ (Take.hit _ _)))) | exact Take.miss _ (Take.miss _ (Take.miss _ (Take.miss _ (Take.miss _ (Take.hit _ _))))) | exact Take.miss _ (Take.miss _ (Take.miss _ (Take.miss _ (Take.miss _ (Take.miss _ (Take.hit _ _))))))) ?_ | refine Sup.nilc ?_ | refine Sup.drop _ ?_)) (.refl _) hk
  have e2 : lebLen 128 = 2 := by decide
  simp [h1, e2, foldZ, unfoldZ]
theorem lebReads_ok {n c : Nat} {a : Option Addr} {l : List UInt8} {len : Bool} (hr : Bys ro a n c l) (hk : K (.bool true) ro own) : CallOk Try.prog 8 #[.slice a n c, .bool len] ro own K := by
  have hl := hr.n
  refine CallOk.back ?_
  refine CallOk.intro (args := [_, _]) (rs := [_]) T_ok Try.func8 Try.call8 rfl rfl (by kernel_rfl) rfl rfl ?_
  repeat (first
    | refine Stop.mk ?_
    | (show _ ∧ _; first | exact ⟨rfl, rfl, rfl⟩ | refine And.intro (by first | omega | exact u8_range _ | exact add_u8 _ _ (by omega) | exact ⟨⟨Int.emod_nonneg _ (by decide), Int.emod_lt_of_pos _ (by decide)⟩, Int.natCast_nonneg _, Int.lt_of_lt_of_le (u8_range _).2 (by decide)⟩ | exact ⟨⟨Int.emod_nonneg _ (by decide), Int.emod_lt_of_pos _ (by decide)⟩, ⟨Int.emod_nonneg _ (by decide), Int.emod_lt_of_pos _ (by decide)⟩⟩) ?_ | refine And.intro (inferInstanceAs (Suf _ _)) ?_)
    | (show OpOk _ _ _ _ _ _ _; first
        | refine OpOk.load rfl rfl (by first | exact Ld.hasBlk rfl | exact Ld.rs (by assumption) (getMap (by omega)) | exact Ld.rds (by assumption) (getMap (by omega)) | exact Ld.hasSl (getMap (by omega)) | exact Ld.hasBlkAt (getMap (by omega))) ?_
        | refine OpOk.loadRow rfl rfl LdN.hasBlk rfl ?_
        | refine OpOk.store rfl rfl rfl rfl (by repeat (first | exact SetR.hit _ _ _ | apply SetR.miss)) ?_
        | refine OpOk.storeRow rfl rfl rfl rfl (by rfl) rfl ?_
        | refine OpOk.idx1 rfl rfl rfl (by omega) (by first | exact AOk.hasSl | exact AOk.rs (by assumption) | exact AOk.rds (by assumption) | exact AOk.lit) ?_
        | refine OpOk.alloc rfl (fun b => ?_)
        | refine OpOk.box rfl (fun b => ?_)
        | refine OpOk.build rfl rfl (by repeat (first | exact Nf.nil | apply Nf.cons)) ?_
        | refine OpOk.buildSlice1 (by rfl) (by rfl) (by rfl) (by rfl) (by rfl) (fun b => ?_)
        | refine OpOk.toStr rfl rfl rfl rfl (by first | exact Rs.rds (by assumption) | exact Rds.up (by assumption) | exact Rds.hasSl (by omega) (by omega) (by first | rfl | (simp; done) | (simp; omega))) ?_
        | refine OpOk.make1 rfl rfl rfl (by omega) (fun b => ?_)
        | refine OpOk.append1 rfl rfl rfl rfl rfl rfl (by omega) (fun a' c' hc1 hc2 => ?_)
        | refine OpOk.append0 rfl rfl rfl rfl rfl rfl (by omega) (fun a' c' hc1 hc2 => ?_)
        | refine OpOk.appendE rfl rfl rfl rfl (by first | exact Rs.rds (by assumption) | exact Rds.up (by assumption) | exact Rds.hasSl (by omega) (by omega) (by first | rfl | (simp; done) | (simp; omega))) (one_u8 _) (by omega) (fun a' c' hc1 hc2 => ?_)
        | refine OpOk.append rfl rfl rfl rfl (by first | exact Rs.rds (by assumption) | exact Rds.up (by assumption) | exact Rds.hasSl (by omega) (by omega) (by first | rfl | (simp; done) | (simp; omega))) (one_u8 _) (by omega) (fun a' c' hc1 hc2 => ?_))
    | (show QOk _ _ _ _ _ _ _; first | refine QOk.load rfl rfl (by first | exact Ld.hasBlk rfl | exact Ld.rs (by assumption) (getMap (by omega)) | exact Ld.rds (by assumption) (getMap (by omega)) | exact Ld.hasSl (getMap (by omega)) | exact Ld.hasBlkAt (getMap (by omega))) ?_ | refine QOk.idx1 rfl rfl rfl (by omega) (by first | exact AOk.hasSl | exact AOk.rs (by assumption) | exact AOk.rds (by assumption) | exact AOk.lit) ?_ | refine QOk.loadRow rfl rfl LdN.hasBlk rfl ?_ | refine QOk.toStr rfl rfl rfl rfl (by first | exact Rs.rds (by assumption) | exact Rds.up (by assumption) | exact Rds.hasSl (by omega) (by omega) (by first | rfl | (simp; done) | (simp; omega))) ?_)
    | (show GJ _ _ _ _ _ _ _; first | (apply GJ.and; exact rfl; intro hg) | (apply GJ.or; exact rfl; intro hg) | refine GJ.t (by omega) ?_ | refine GJ.f (by omega) ?_ | refine GJ.ft (by omega) ?_ | refine GJ.ff (by omega) ?_)
    | (show Br _ _ _; first | with_reducible refine Br.tt ?_ | with_reducible refine Br.ff ?_ | with_reducible refine Br.nt ?_ | with_reducible refine Br.nf ?_ | refine Br.t (by omega) ?_ | refine Br.f (by omega) ?_)
    | (show RetOk _ _ _ _ _ _; refine RetOk.of (by repeat (first | exact RL.nil | refine RL.tmp rfl ?_ | refine RL.row rfl rfl LdN.hasBlk rfl ?_ | refine RL.one rfl rfl (by first | exact Ld.hasBlk rfl | exact Ld.rs (by assumption) (getMap (by omega)) | exact Ld.rds (by assumption) (getMap (by omega)) | exact Ld.hasSl (getMap (by omega)) | exact Ld.hasBlkAt (getMap (by omega))) ?_)) ?_)
    | (show CodeOk _ _ _ _ _ _; refine CodeOk.drawnAuto rfl (by kernel_rfl) rfl (by kernel_rfl) ?_))
  refine folds_ok ?_
  repeat (first
    | refine Stop.mk ?_
    | (show _ ∧ _; first | exact ⟨rfl, rfl, rfl⟩ | refine And.intro (by first | omega | exact u8_range _ | exact add_u8 _ _ (by omega) | exact ⟨⟨Int.emod_nonneg _ (by decide), Int.emod_lt_of_pos _ (by decide)⟩, Int.natCast_nonneg _, Int.lt_of_lt_of_le (u8_range _).2 (by decide)⟩ | exact ⟨⟨Int.emod_nonneg _ (by decide), Int.emod_lt_of_pos _ (by decide)⟩, ⟨Int.emod_nonneg _ (by decide), Int.emod_lt_of_pos _ (by decide)⟩⟩) ?_ | refine And.intro (inferInstanceAs (Suf _ _)) ?_)
    | (show OpOk _ _ _ _ _ _ _; first
        | refine OpOk.load rfl rfl (by first | exact Ld.hasBlk rfl | exact Ld.rs (by assumption) (getMap (by omega)) | exact Ld.rds (by assumption) (getMap (by omega)) | exact Ld.hasSl (getMap (by omega)) | exact Ld.hasBlkAt (getMap (by omega))) ?_
        | refine OpOk.loadRow rfl rfl LdN.hasBlk rfl ?_
        | refine OpOk.store rfl rfl rfl rfl (by repeat (first | exact SetR.hit _ _ _ | apply SetR.miss)) ?_
        | refine OpOk.storeRow rfl rfl rfl rfl (by rfl) rfl ?_
        | refine OpOk.idx1 rfl rfl rfl (by omega) (by first | exact AOk.hasSl | exact AOk.rs (by assumption) | exact AOk.rds (by assumption) | exact AOk.lit) ?_
        | refine OpOk.alloc rfl (fun b => ?_)
        | refine OpOk.box rfl (fun b => ?_)
        | refine OpOk.build rfl rfl (by repeat (first | exact Nf.nil | apply Nf.cons)) ?_
        | refine OpOk.buildSlice1 (by rfl) (by rfl) (by rfl) (by rfl) (by rfl) (fun b => ?_)
        | refine OpOk.toStr rfl rfl rfl rfl (by first | exact Rs.rds (by assumption) | exact Rds.up (by assumption) | exact Rds.hasSl (by omega) (by omega) (by first | rfl | (simp; done) | (simp; omega))) ?_
        | refine OpOk.make1 rfl rfl rfl (by omega) (fun b => ?_)
        | refine OpOk.append1 rfl rfl rfl rfl rfl rfl (by omega) (fun a' c' hc1 hc2 => ?_)
        | refine OpOk.append0 rfl rfl rfl rfl rfl rfl (by omega) (fun a' c' hc1 hc2 => ?_)
        | refine OpOk.appendE rfl rfl rfl rfl (by first | exact Rs.rds (by assumption) | exact Rds.up (by assumption) | exact Rds.hasSl (by omega) (by omega) (by first | rfl | (simp; done) | (simp; omega))) (one_u8 _) (by omega) (fun a' c' hc1 hc2 => ?_)
        | refine OpOk.append rfl rfl rfl rfl (by first | exact Rs.rds (by assumption) | exact Rds.up (by assumption) | exact Rds.hasSl (by omega) (by omega) (by first | rfl | (simp; done) | (simp; omega))) (one_u8 _) (by omega) (fun a' c' hc1 hc2 => ?_))
    | (show QOk _ _ _ _ _ _ _; first | refine QOk.load rfl rfl (by first | exact Ld.hasBlk rfl | exact Ld.rs (by assumption) (getMap (by omega)) | exact Ld.rds (by assumption) (getMap (by omega)) | exact Ld.hasSl (getMap (by omega)) | exact Ld.hasBlkAt (getMap (by omega))) ?_ | refine QOk.idx1 rfl rfl rfl (by omega) (by first | exact AOk.hasSl | exact AOk.rs (by assumption) | exact AOk.rds (by assumption) | exact AOk.lit) ?_ | refine QOk.loadRow rfl rfl LdN.hasBlk rfl ?_ | refine QOk.toStr rfl rfl rfl rfl (by first | exact Rs.rds (by assumption) | exact Rds.up (by assumption) | exact Rds.hasSl (by omega) (by omega) (by first | rfl | (simp; done) | (simp; omega))) ?_)
    | (show GJ _ _ _ _ _ _ _; first | (apply GJ.and; exact rfl; intro hg) | (apply GJ.or; exact rfl; intro hg) | refine GJ.t (by omega) ?_ | refine GJ.f (by omega) ?_ | refine GJ.ft (by omega) ?_ | refine GJ.ff (by omega) ?_)
    | (show Br _ _ _; first | with_reducible refine Br.tt ?_ | with_reducible refine Br.ff ?_ | with_reducible refine Br.nt ?_ | with_reducible refine Br.nf ?_ | refine Br.t (by omega) ?_ | refine Br.f (by omega) ?_)
    | (show RetOk _ _ _ _ _ _; refine RetOk.of (by repeat (first | exact RL.nil | refine RL.tmp rfl ?_ | refine RL.row rfl rfl LdN.hasBlk rfl ?_ | refine RL.one rfl rfl (by first | exact Ld.hasBlk rfl | exact Ld.rs (by assumption) (getMap (by omega)) | exact Ld.rds (by assumption) (getMap (by omega)) | exact Ld.hasSl (getMap (by omega)) | exact Ld.hasBlkAt (getMap (by omega))) ?_)) ?_)
    | (show CodeOk _ _ _ _ _ _; refine CodeOk.drawnAuto rfl (by kernel_rfl) rfl (by kernel_rfl) ?_))
  refine Br.cases (fun hc => ?_) (fun hc => ?_)
  · repeat (first
      | refine Stop.mk ?_
      | (show _ ∧ _; first | exact ⟨rfl, rfl, rfl⟩ | refine And.intro (by first | omega | exact u8_range _ | exact add_u8 _ _ (by omega) | exact ⟨⟨Int.emod_nonneg _ (by decide), Int.emod_lt_of_pos _ (by decide)⟩, Int.natCast_nonneg _, Int.lt_of_lt_of_le (u8_range _).2 (by decide)⟩ | exact ⟨⟨Int.emod_nonneg _ (by decide), Int.emod_lt_of_pos _ (by decide)⟩, ⟨Int.emod_nonneg _ (by decide), Int.emod_lt_of_pos _ (by decide)⟩⟩) ?_ | refine And.intro (inferInstanceAs (Suf _ _)) ?_)
      | (show OpOk _ _ _ _ _ _ _; first
          | refine OpOk.load rfl rfl (by first | exact Ld.hasBlk rfl | exact Ld.rs (by assumption) (getMap (by omega)) | exact Ld.rds (by assumption) (getMap (by omega)) | exact Ld.hasSl (getMap (by omega)) | exact Ld.hasBlkAt (getMap (by omega))) ?_
          | refine OpOk.loadRow rfl rfl LdN.hasBlk rfl ?_
          | refine OpOk.store rfl rfl rfl rfl (by repeat (first | exact SetR.hit _ _ _ | apply SetR.miss)) ?_
          | refine OpOk.storeRow rfl rfl rfl rfl (by rfl) rfl ?_
          | refine OpOk.idx1 rfl rfl rfl (by omega) (by first | exact AOk.hasSl | exact AOk.rs (by assumption) | exact AOk.rds (by assumption) | exact AOk.lit) ?_
          | refine OpOk.alloc rfl (fun b => ?_)
          | refine OpOk.box rfl (fun b => ?_)
          | refine OpOk.build rfl rfl (by repeat (first | exact Nf.nil | apply Nf.cons)) ?_
          | refine OpOk.buildSlice1 (by rfl) (by rfl) (by rfl) (by rfl) (by rfl) (fun b => ?_)
          | refine OpOk.toStr rfl rfl rfl rfl (by first | exact Rs.rds (by assumption) | exact Rds.up (by assumption) | exact Rds.hasSl (by omega) (by omega) (by first | rfl | (simp; done) | (simp; omega))) ?_
          | refine OpOk.make1 rfl rfl rfl (by omega) (fun b => ?_)
          | refine OpOk.append1 rfl rfl rfl rfl rfl rfl (by omega) (fun a' c' hc1 hc2 => ?_)
          | refine OpOk.append0 rfl rfl rfl rfl rfl rfl (by omega) (fun a' c' hc1 hc2 => ?_)
          | refine OpOk.appendE rfl rfl rfl rfl (by first | exact Rs.rds (by assumption) | exact Rds.up (by assumption) | exact Rds.hasSl (by omega) (by omega) (by first | rfl | (simp; done) | (simp; omega))) (one_u8 _) (by omega) (fun a' c' hc1 hc2 => ?_)
          | refine OpOk.append rfl rfl rfl rfl (by first | exact Rs.rds (by assumption) | exact Rds.up (by assumption) | exact Rds.hasSl (by omega) (by omega) (by first | rfl | (simp; done) | (simp; omega))) (one_u8 _) (by omega) (fun a' c' hc1 hc2 => ?_))
      | (show QOk _ _ _ _ _ _ _; first | refine QOk.load rfl rfl (by first | exact Ld.hasBlk rfl | exact Ld.rs (by assumption) (getMap (by omega)) | exact Ld.rds (by assumption) (getMap (by omega)) | exact Ld.hasSl (getMap (by omega)) | exact Ld.hasBlkAt (getMap (by omega))) ?_ | refine QOk.idx1 rfl rfl rfl (by omega) (by first | exact AOk.hasSl | exact AOk.rs (by assumption) | exact AOk.rds (by assumption) | exact AOk.lit) ?_ | refine QOk.loadRow rfl rfl LdN.hasBlk rfl ?_ | refine QOk.toStr rfl rfl rfl rfl (by first | exact Rs.rds (by assumption) | exact Rds.up (by assumption) | exact Rds.hasSl (by omega) (by omega) (by first | rfl | (simp; done) | (simp; omega))) ?_)
      | (show GJ _ _ _ _ _ _ _; first | (apply GJ.and; exact rfl; intro hg) | (apply GJ.or; exact rfl; intro hg) | refine GJ.t (by omega) ?_ | refine GJ.f (by omega) ?_ | refine GJ.ft (by omega) ?_ | refine GJ.ff (by omega) ?_)
      | (show Br _ _ _; first | with_reducible refine Br.tt ?_ | with_reducible refine Br.ff ?_ | with_reducible refine Br.nt ?_ | with_reducible refine Br.nf ?_ | refine Br.t (by omega) ?_ | refine Br.f (by omega) ?_)
      | (show RetOk _ _ _ _ _ _; refine RetOk.of (by repeat (first | exact RL.nil | refine RL.tmp rfl ?_ | refine RL.row rfl rfl LdN.hasBlk rfl ?_ | refine RL.one rfl rfl (by first | exact Ld.hasBlk rfl | exact Ld.rs (by assumption) (getMap (by omega)) | exact Ld.rds (by assumption) (getMap (by omega)) | exact Ld.hasSl (getMap (by omega)) | exact Ld.hasBlkAt (getMap (by omega))) ?_)) ?_)
      | (show CodeOk _ _ _ _ _ _; refine CodeOk.drawnAuto rfl (by kernel_rfl) rfl (by kernel_rfl) ?_))
    exact Wk.back1 (by repeat (first | exact Sup.all _ | exact Sup.nil _ | refine Sup.cons (by first | exact Take.hit _ _ | exact Take.miss _ (Take.hit _ _) | exact Take.miss _ (Take.miss _ (Take.hit _ _)) | exact Take.miss _ (Take.miss _ (Take.miss _ (Take.hit _ _))) | exact Take.miss _ (Take.miss _ (Take.miss _ (Take.miss _ (Take.hit _ _)))) | exact Take.miss _ (Take.miss _ (Take.miss _ (Take.miss _ (Take.miss _ (Take.hit _ _))))) | exact Take.miss _ (Take.miss _ (Take.miss _ (Take.miss _ (Take.miss _ (Take.miss _ (Take.hit _ _))))))) ?_ | refine Sup.nilc ?_ | refine Sup.drop _ ?_)) (.refl _) hk
  repeat (first
    | refine Stop.mk ?_
    | (show _ ∧ _; first | exact ⟨rfl, rfl, rfl⟩ | refine And.intro (by first | omega | exact u8_range _ | exact add_u8 _ _ (by omega) | exact ⟨⟨Int.emod_nonneg _ (by decide), Int.emod_lt_of_pos _ (by decide)⟩, Int.natCast_nonneg _, Int.lt_of_lt_of_le (u8_range _).2 (by decide)⟩ | exact ⟨⟨Int.emod_nonneg _ (by decide), Int.emod_lt_of_pos _ (by decide)⟩, ⟨Int.emod_nonneg _ (by decide), Int.emod_lt_of_pos _ (by decide)⟩⟩) ?_ | refine And.intro (inferInstanceAs (Suf _ _)) ?_)
    | (show OpOk _ _ _ _ _ _ _; first
        | refine OpOk.load rfl rfl (by first | exact Ld.hasBlk rfl | exact Ld.rs (by assumption) (getMap (by omega)) | exact Ld.rds (by assumption) (getMap (by omega)) | exact Ld.hasSl (getMap (by omega)) | exact Ld.hasBlkAt (getMap (by omega))) ?_
        | refine OpOk.loadRow rfl rfl LdN.hasBlk rfl ?_
        | refine OpOk.store rfl rfl rfl rfl (by repeat (first | exact SetR.hit _ _ _ | apply SetR.miss)) ?_
        | refine OpOk.storeRow rfl rfl rfl rfl (by rfl) rfl ?_
        | refine OpOk.idx1 rfl rfl rfl (by omega) (by first | exact AOk.hasSl | exact AOk.rs (by assumption) | exact AOk.rds (by assumption) | exact AOk.lit) ?_
        | refine OpOk.alloc rfl (fun b => ?_)
        | refine OpOk.box rfl (fun b => ?_)
        | refine OpOk.build rfl rfl (by repeat (first | exact Nf.nil | apply Nf.cons)) ?_
        | refine OpOk.buildSlice1 (by rfl) (by rfl) (by rfl) (by rfl) (by rfl) (fun b => ?_)
        | refine OpOk.toStr rfl rfl rfl rfl (by first | exact Rs.rds (by assumption) | exact Rds.up (by assumption) | exact Rds.hasSl (by omega) (by omega) (by first | rfl | (simp; done) | (simp; omega))) ?_
        | refine OpOk.make1 rfl rfl rfl (by omega) (fun b => ?_)
        | refine OpOk.append1 rfl rfl rfl rfl rfl rfl (by omega) (fun a' c' hc1 hc2 => ?_)
        | refine OpOk.append0 rfl rfl rfl rfl rfl rfl (by omega) (fun a' c' hc1 hc2 => ?_)
        | refine OpOk.appendE rfl rfl rfl rfl (by first | exact Rs.rds (by assumption) | exact Rds.up (by assumption) | exact Rds.hasSl (by omega) (by omega) (by first | rfl | (simp; done) | (simp; omega))) (one_u8 _) (by omega) (fun a' c' hc1 hc2 => ?_)
        | refine OpOk.append rfl rfl rfl rfl (by first | exact Rs.rds (by assumption) | exact Rds.up (by assumption) | exact Rds.hasSl (by omega) (by omega) (by first | rfl | (simp; done) | (simp; omega))) (one_u8 _) (by omega) (fun a' c' hc1 hc2 => ?_))
    | (show QOk _ _ _ _ _ _ _; first | refine QOk.load rfl rfl (by first | exact Ld.hasBlk rfl | exact Ld.rs (by assumption) (getMap (by omega)) | exact Ld.rds (by assumption) (getMap (by omega)) | exact Ld.hasSl (getMap (by omega)) | exact Ld.hasBlkAt (getMap (by omega))) ?_ | refine QOk.idx1 rfl rfl rfl (by omega) (by first | exact AOk.hasSl | exact AOk.rs (by assumption) | exact AOk.rds (by assumption) | exact AOk.lit) ?_ | refine QOk.loadRow rfl rfl LdN.hasBlk rfl ?_ | refine QOk.toStr rfl rfl rfl rfl (by first | exact Rs.rds (by assumption) | exact Rds.up (by assumption) | exact Rds.hasSl (by omega) (by omega) (by first | rfl | (simp; done) | (simp; omega))) ?_)
    | (show GJ _ _ _ _ _ _ _; first | (apply GJ.and; exact rfl; intro hg) | (apply GJ.or; exact rfl; intro hg) | refine GJ.t (by omega) ?_ | refine GJ.f (by omega) ?_ | refine GJ.ft (by omega) ?_ | refine GJ.ff (by omega) ?_)
    | (show Br _ _ _; first | with_reducible refine Br.tt ?_ | with_reducible refine Br.ff ?_ | with_reducible refine Br.nt ?_ | with_reducible refine Br.nf ?_ | refine Br.t (by omega) ?_ | refine Br.f (by omega) ?_)
    | (show RetOk _ _ _ _ _ _; refine RetOk.of (by repeat (first | exact RL.nil | refine RL.tmp rfl ?_ | refine RL.row rfl rfl LdN.hasBlk rfl ?_ | refine RL.one rfl rfl (by first | exact Ld.hasBlk rfl | exact Ld.rs (by assumption) (getMap (by omega)) | exact Ld.rds (by assumption) (getMap (by omega)) | exact Ld.hasSl (getMap (by omega)) | exact Ld.hasBlkAt (getMap (by omega))) ?_)) ?_)
    | (show CodeOk _ _ _ _ _ _; refine CodeOk.drawnAuto rfl (by kernel_rfl) rfl (by kernel_rfl) ?_))
  refine new_ok (fun b => ?_)
  repeat (first
    | refine Stop.mk ?_
    | (show _ ∧ _; first | exact ⟨rfl, rfl, rfl⟩ | refine And.intro (by first | omega | exact u8_range _ | exact add_u8 _ _ (by omega) | exact ⟨⟨Int.emod_nonneg _ (by decide), Int.emod_lt_of_pos _ (by decide)⟩, Int.natCast_nonneg _, Int.lt_of_lt_of_le (u8_range _).2 (by decide)⟩ | exact ⟨⟨Int.emod_nonneg _ (by decide), Int.emod_lt_of_pos _ (by decide)⟩, ⟨Int.emod_nonneg _ (by decide), Int.emod_lt_of_pos _ (by decide)⟩⟩) ?_ | refine And.intro (inferInstanceAs (Suf _ _)) ?_)
    | (show OpOk _ _ _ _ _ _ _; first
        | refine OpOk.load rfl rfl (by first | exact Ld.hasBlk rfl | exact Ld.rs (by assumption) (getMap (by omega)) | exact Ld.rds (by assumption) (getMap (by omega)) | exact Ld.hasSl (getMap (by omega)) | exact Ld.hasBlkAt (getMap (by omega))) ?_
        | refine OpOk.loadRow rfl rfl LdN.hasBlk rfl ?_
        | refine OpOk.store rfl rfl rfl rfl (by repeat (first | exact SetR.hit _ _ _ | apply SetR.miss)) ?_
        | refine OpOk.storeRow rfl rfl rfl rfl (by rfl) rfl ?_
        | refine OpOk.idx1 rfl rfl rfl (by omega) (by first | exact AOk.hasSl | exact AOk.rs (by assumption) | exact AOk.rds (by assumption) | exact AOk.lit) ?_
        | refine OpOk.alloc rfl (fun b => ?_)
        | refine OpOk.box rfl (fun b => ?_)
        | refine OpOk.build rfl rfl (by repeat (first | exact Nf.nil | apply Nf.cons)) ?_
        | refine OpOk.buildSlice1 (by rfl) (by rfl) (by rfl) (by rfl) (by rfl) (fun b => ?_)
        | refine OpOk.toStr rfl rfl rfl rfl (by first | exact Rs.rds (by assumption) | exact Rds.up (by assumption) | exact Rds.hasSl (by omega) (by omega) (by first | rfl | (simp; done) | (simp; omega))) ?_
        | refine OpOk.make1 rfl rfl rfl (by omega) (fun b => ?_)
        | refine OpOk.append1 rfl rfl rfl rfl rfl rfl (by omega) (fun a' c' hc1 hc2 => ?_)
        | refine OpOk.append0 rfl rfl rfl rfl rfl rfl (by omega) (fun a' c' hc1 hc2 => ?_)
        | refine OpOk.appendE rfl rfl rfl rfl (by first | exact Rs.rds (by assumption) | exact Rds.up (by assumption) | exact Rds.hasSl (by omega) (by omega) (by first | rfl | (simp; done) | (simp; omega))) (one_u8 _) (by omega) (fun a' c' hc1 hc2 => ?_)
        | refine OpOk.append rfl rfl rfl rfl (by first | exact Rs.rds (by assumption) | exact Rds.up (by assumption) | exact Rds.hasSl (by omega) (by omega) (by first | rfl | (simp; done) | (simp; omega))) (one_u8 _) (by omega) (fun a' c' hc1 hc2 => ?_))
    | (show QOk _ _ _ _ _ _ _; first | refine QOk.load rfl rfl (by first | exact Ld.hasBlk rfl | exact Ld.rs (by assumption) (getMap (by omega)) | exact Ld.rds (by assumption) (getMap (by omega)) | exact Ld.hasSl (getMap (by omega)) | exact Ld.hasBlkAt (getMap (by omega))) ?_ | refine QOk.idx1 rfl rfl rfl (by omega) (by first | exact AOk.hasSl | exact AOk.rs (by assumption) | exact AOk.rds (by assumption) | exact AOk.lit) ?_ | refine QOk.loadRow rfl rfl LdN.hasBlk rfl ?_ | refine QOk.toStr rfl rfl rfl rfl (by first | exact Rs.rds (by assumption) | exact Rds.up (by assumption) | exact Rds.hasSl (by omega) (by omega) (by first | rfl | (simp; done) | (simp; omega))) ?_)
    | (show GJ _ _ _ _ _ _ _; first | (apply GJ.and; exact rfl; intro hg) | (apply GJ.or; exact rfl; intro hg) | refine GJ.t (by omega) ?_ | refine GJ.f (by omega) ?_ | refine GJ.ft (by omega) ?_ | refine GJ.ff (by omega) ?_)
    | (show Br _ _ _; first | with_reducible refine Br.tt ?_ | with_reducible refine Br.ff ?_ | with_reducible refine Br.nt ?_ | with_reducible refine Br.nf ?_ | refine Br.t (by omega) ?_ | refine Br.f (by omega) ?_)
    | (show RetOk _ _ _ _ _ _; refine RetOk.of (by repeat (first | exact RL.nil | refine RL.tmp rfl ?_ | refine RL.row rfl rfl LdN.hasBlk rfl ?_ | refine RL.one rfl rfl (by first | exact Ld.hasBlk rfl | exact Ld.rs (by assumption) (getMap (by omega)) | exact Ld.rds (by assumption) (getMap (by omega)) | exact Ld.hasSl (getMap (by omega)) | exact Ld.hasBlkAt (getMap (by omega))) ?_)) ?_)
    | (show CodeOk _ _ _ _ _ _; refine CodeOk.drawnAuto rfl (by kernel_rfl) rfl (by kernel_rfl) ?_))
  refine readR (k := 0) hr (by omega) (by omega) (fun v many e h1 h2 h3 h4 => ?_)
  repeat (first
    | refine Stop.mk ?_
    | (show _ ∧ _; first | exact ⟨rfl, rfl, rfl⟩ | refine And.intro (by first | omega | exact u8_range _ | exact add_u8 _ _ (by omega) | exact ⟨⟨Int.emod_nonneg _ (by decide), Int.emod_lt_of_pos _ (by decide)⟩, Int.natCast_nonneg _, Int.lt_of_lt_of_le (u8_range _).2 (by decide)⟩ | exact ⟨⟨Int.emod_nonneg _ (by decide), Int.emod_lt_of_pos _ (by decide)⟩, ⟨Int.emod_nonneg _ (by decide), Int.emod_lt_of_pos _ (by decide)⟩⟩) ?_ | refine And.intro (inferInstanceAs (Suf _ _)) ?_)
    | (show OpOk _ _ _ _ _ _ _; first
        | refine OpOk.load rfl rfl (by first | exact Ld.hasBlk rfl | exact Ld.rs (by assumption) (getMap (by omega)) | exact Ld.rds (by assumption) (getMap (by omega)) | exact Ld.hasSl (getMap (by omega)) | exact Ld.hasBlkAt (getMap (by omega))) ?_
        | refine OpOk.loadRow rfl rfl LdN.hasBlk rfl ?_
        | refine OpOk.store rfl rfl rfl rfl (by repeat (first | exact SetR.hit _ _ _ | apply SetR.miss)) ?_
        | refine OpOk.storeRow rfl rfl rfl rfl (by rfl) rfl ?_
        | refine OpOk.idx1 rfl rfl rfl (by omega) (by first | exact AOk.hasSl | exact AOk.rs (by assumption) | exact AOk.rds (by assumption) | exact AOk.lit) ?_
        | refine OpOk.alloc rfl (fun b => ?_)
        | refine OpOk.box rfl (fun b => ?_)
        | refine OpOk.build rfl rfl (by repeat (first | exact Nf.nil | apply Nf.cons)) ?_
        | refine OpOk.buildSlice1 (by rfl) (by rfl) (by rfl) (by rfl) (by rfl) (fun b => ?_)
        | refine OpOk.toStr rfl rfl rfl rfl (by first | exact Rs.rds (by assumption) | exact Rds.up (by assumption) | exact Rds.hasSl (by omega) (by omega) (by first | rfl | (simp; done) | (simp; omega))) ?_
        | refine OpOk.make1 rfl rfl rfl (by omega) (fun b => ?_)
        | refine OpOk.append1 rfl rfl rfl rfl rfl rfl (by omega) (fun a' c' hc1 hc2 => ?_)
        | refine OpOk.append0 rfl rfl rfl rfl rfl rfl (by omega) (fun a' c' hc1 hc2 => ?_)
        | refine OpOk.appendE rfl rfl rfl rfl (by first | exact Rs.rds (by assumption) | exact Rds.up (by assumption) | exact Rds.hasSl (by omega) (by omega) (by first | rfl | (simp; done) | (simp; omega))) (one_u8 _) (by omega) (fun a' c' hc1 hc2 => ?_)
        | refine OpOk.append rfl rfl rfl rfl (by first | exact Rs.rds (by assumption) | exact Rds.up (by assumption) | exact Rds.hasSl (by omega) (by omega) (by first | rfl | (simp; done) | (simp; omega))) (one_u8 _) (by omega) (fun a' c' hc1 hc2 => ?_))
    | (show QOk _ _ _ _ _ _ _; first | refine QOk.load rfl rfl (by first | exact Ld.hasBlk rfl | exact Ld.rs (by assumption) (getMap (by omega)) | exact Ld.rds (by assumption) (getMap (by omega)) | exact Ld.hasSl (getMap (by omega)) | exact Ld.hasBlkAt (getMap (by omega))) ?_ | refine QOk.idx1 rfl rfl rfl (by omega) (by first | exact AOk.hasSl | exact AOk.rs (by assumption) | exact AOk.rds (by assumption) | exact AOk.lit) ?_ | refine QOk.loadRow rfl rfl LdN.hasBlk rfl ?_ | refine QOk.toStr rfl rfl rfl rfl (by first | exact Rs.rds (by assumption) | exact Rds.up (by assumption) | exact Rds.hasSl (by omega) (by omega) (by first | rfl | (simp; done) | (simp; omega))) ?_)
    | (show GJ _ _ _ _ _ _ _; first | (apply GJ.and; exact rfl; intro hg) | (apply GJ.or; exact rfl; intro hg) | refine GJ.t (by omega) ?_ | refine GJ.f (by omega) ?_ | refine GJ.ft (by omega) ?_ | refine GJ.ff (by omega) ?_)
    | (show Br _ _ _; first | with_reducible refine Br.tt ?_ | with_reducible refine Br.ff ?_ | with_reducible refine Br.nt ?_ | with_reducible refine Br.nf ?_ | refine Br.t (by omega) ?_ | refine Br.f (by omega) ?_)
    | (show RetOk _ _ _ _ _ _; refine RetOk.of (by repeat (first | exact RL.nil | refine RL.tmp rfl ?_ | refine RL.row rfl rfl LdN.hasBlk rfl ?_ | refine RL.one rfl rfl (by first | exact Ld.hasBlk rfl | exact Ld.rs (by assumption) (getMap (by omega)) | exact Ld.rds (by assumption) (getMap (by omega)) | exact Ld.hasSl (getMap (by omega)) | exact Ld.hasBlkAt (getMap (by omega))) ?_)) ?_)
    | (show CodeOk _ _ _ _ _ _; refine CodeOk.drawnAuto rfl (by kernel_rfl) rfl (by kernel_rfl) ?_))
  refine rread_ok hr (by omega) (fun v' many' e' h5 h6 h7 h8 => ?_)
  have h1' : rd len 0 0 l = (v, many, e) := h1
  rw [h5] at h1'
  cases h1'
  repeat (first
    | refine Stop.mk ?_
    | (show _ ∧ _; first | exact ⟨rfl, rfl, rfl⟩ | refine And.intro (by first | omega | exact u8_range _ | exact add_u8 _ _ (by omega) | exact ⟨⟨Int.emod_nonneg _ (by decide), Int.emod_lt_of_pos _ (by decide)⟩, Int.natCast_nonneg _, Int.lt_of_lt_of_le (u8_range _).2 (by decide)⟩ | exact ⟨⟨Int.emod_nonneg _ (by decide), Int.emod_lt_of_pos _ (by decide)⟩, ⟨Int.emod_nonneg _ (by decide), Int.emod_lt_of_pos _ (by decide)⟩⟩) ?_ | refine And.intro (inferInstanceAs (Suf _ _)) ?_)
    | (show OpOk _ _ _ _ _ _ _; first
        | refine OpOk.load rfl rfl (by first | exact Ld.hasBlk rfl | exact Ld.rs (by assumption) (getMap (by omega)) | exact Ld.rds (by assumption) (getMap (by omega)) | exact Ld.hasSl (getMap (by omega)) | exact Ld.hasBlkAt (getMap (by omega))) ?_
        | refine OpOk.loadRow rfl rfl LdN.hasBlk rfl ?_
        | refine OpOk.store rfl rfl rfl rfl (by repeat (first | exact SetR.hit _ _ _ | apply SetR.miss)) ?_
        | refine OpOk.storeRow rfl rfl rfl rfl (by rfl) rfl ?_
        | refine OpOk.idx1 rfl rfl rfl (by omega) (by first | exact AOk.hasSl | exact AOk.rs (by assumption) | exact AOk.rds (by assumption) | exact AOk.lit) ?_
        | refine OpOk.alloc rfl (fun b => ?_)
        | refine OpOk.box rfl (fun b => ?_)
        | refine OpOk.build rfl rfl (by repeat (first | exact Nf.nil | apply Nf.cons)) ?_
        | refine OpOk.buildSlice1 (by rfl) (by rfl) (by rfl) (by rfl) (by rfl) (fun b => ?_)
        | refine OpOk.toStr rfl rfl rfl rfl (by first | exact Rs.rds (by assumption) | exact Rds.up (by assumption) | exact Rds.hasSl (by omega) (by omega) (by first | rfl | (simp; done) | (simp; omega))) ?_
        | refine OpOk.make1 rfl rfl rfl (by omega) (fun b => ?_)
        | refine OpOk.append1 rfl rfl rfl rfl rfl rfl (by omega) (fun a' c' hc1 hc2 => ?_)
        | refine OpOk.append0 rfl rfl rfl rfl rfl rfl (by omega) (fun a' c' hc1 hc2 => ?_)
        | refine OpOk.appendE rfl rfl rfl rfl (by first | exact Rs.rds (by assumption) | exact Rds.up (by assumption) | exact Rds.hasSl (by omega) (by omega) (by first | rfl | (simp; done) | (simp; omega))) (one_u8 _) (by omega) (fun a' c' hc1 hc2 => ?_)
        | refine OpOk.append rfl rfl rfl rfl (by first | exact Rs.rds (by assumption) | exact Rds.up (by assumption) | exact Rds.hasSl (by omega) (by omega) (by first | rfl | (simp; done) | (simp; omega))) (one_u8 _) (by omega) (fun a' c' hc1 hc2 => ?_))
    | (show QOk _ _ _ _ _ _ _; first | refine QOk.load rfl rfl (by first | exact Ld.hasBlk rfl | exact Ld.rs (by assumption) (getMap (by omega)) | exact Ld.rds (by assumption) (getMap (by omega)) | exact Ld.hasSl (getMap (by omega)) | exact Ld.hasBlkAt (getMap (by omega))) ?_ | refine QOk.idx1 rfl rfl rfl (by omega) (by first | exact AOk.hasSl | exact AOk.rs (by assumption) | exact AOk.rds (by assumption) | exact AOk.lit) ?_ | refine QOk.loadRow rfl rfl LdN.hasBlk rfl ?_ | refine QOk.toStr rfl rfl rfl rfl (by first | exact Rs.rds (by assumption) | exact Rds.up (by assumption) | exact Rds.hasSl (by omega) (by omega) (by first | rfl | (simp; done) | (simp; omega))) ?_)
    | (show GJ _ _ _ _ _ _ _; first | (apply GJ.and; exact rfl; intro hg) | (apply GJ.or; exact rfl; intro hg) | refine GJ.t (by omega) ?_ | refine GJ.f (by omega) ?_ | refine GJ.ft (by omega) ?_ | refine GJ.ff (by omega) ?_)
    | (show Br _ _ _; first | with_reducible refine Br.tt ?_ | with_reducible refine Br.ff ?_ | with_reducible refine Br.nt ?_ | with_reducible refine Br.nf ?_ | refine Br.t (by omega) ?_ | refine Br.f (by omega) ?_)
    | (show RetOk _ _ _ _ _ _; refine RetOk.of (by repeat (first | exact RL.nil | refine RL.tmp rfl ?_ | refine RL.row rfl rfl LdN.hasBlk rfl ?_ | refine RL.one rfl rfl (by first | exact Ld.hasBlk rfl | exact Ld.rs (by assumption) (getMap (by omega)) | exact Ld.rds (by assumption) (getMap (by omega)) | exact Ld.hasSl (getMap (by omega)) | exact Ld.hasBlkAt (getMap (by omega))) ?_)) ?_)
    | (show CodeOk _ _ _ _ _ _; refine CodeOk.drawnAuto rfl (by kernel_rfl) rfl (by kernel_rfl) ?_))
  refine at_ok ?_
  repeat (first
    | refine Stop.mk ?_
    | (show _ ∧ _; first | exact ⟨rfl, rfl, rfl⟩ | refine And.intro (by first | omega | exact u8_range _ | exact add_u8 _ _ (by omega) | exact ⟨⟨Int.emod_nonneg _ (by decide), Int.emod_lt_of_pos _ (by decide)⟩, Int.natCast_nonneg _, Int.lt_of_lt_of_le (u8_range _).2 (by decide)⟩ | exact ⟨⟨Int.emod_nonneg _ (by decide), Int.emod_lt_of_pos _ (by decide)⟩, ⟨Int.emod_nonneg _ (by decide), Int.emod_lt_of_pos _ (by decide)⟩⟩) ?_ | refine And.intro (inferInstanceAs (Suf _ _)) ?_)
    | (show OpOk _ _ _ _ _ _ _; first
        | refine OpOk.load rfl rfl (by first | exact Ld.hasBlk rfl | exact Ld.rs (by assumption) (getMap (by omega)) | exact Ld.rds (by assumption) (getMap (by omega)) | exact Ld.hasSl (getMap (by omega)) | exact Ld.hasBlkAt (getMap (by omega))) ?_
        | refine OpOk.loadRow rfl rfl LdN.hasBlk rfl ?_
        | refine OpOk.store rfl rfl rfl rfl (by repeat (first | exact SetR.hit _ _ _ | apply SetR.miss)) ?_
        | refine OpOk.storeRow rfl rfl rfl rfl (by rfl) rfl ?_
        | refine OpOk.idx1 rfl rfl rfl (by omega) (by first | exact AOk.hasSl | exact AOk.rs (by assumption) | exact AOk.rds (by assumption) | exact AOk.lit) ?_
        | refine OpOk.alloc rfl (fun b => ?_)
        | refine OpOk.box rfl (fun b => ?_)
        | refine OpOk.build rfl rfl (by repeat (first | exact Nf.nil | apply Nf.cons)) ?_
        | refine OpOk.buildSlice1 (by rfl) (by rfl) (by rfl) (by rfl) (by rfl) (fun b => ?_)
        | refine OpOk.toStr rfl rfl rfl rfl (by first | exact Rs.rds (by assumption) | exact Rds.up (by assumption) | exact Rds.hasSl (by omega) (by omega) (by first | rfl | (simp; done) | (simp; omega))) ?_
        | refine OpOk.make1 rfl rfl rfl (by omega) (fun b => ?_)
        | refine OpOk.append1 rfl rfl rfl rfl rfl rfl (by omega) (fun a' c' hc1 hc2 => ?_)
        | refine OpOk.append0 rfl rfl rfl rfl rfl rfl (by omega) (fun a' c' hc1 hc2 => ?_)
        | refine OpOk.appendE rfl rfl rfl rfl (by first | exact Rs.rds (by assumption) | exact Rds.up (by assumption) | exact Rds.hasSl (by omega) (by omega) (by first | rfl | (simp; done) | (simp; omega))) (one_u8 _) (by omega) (fun a' c' hc1 hc2 => ?_)
        | refine OpOk.append rfl rfl rfl rfl (by first | exact Rs.rds (by assumption) | exact Rds.up (by assumption) | exact Rds.hasSl (by omega) (by omega) (by first | rfl | (simp; done) | (simp; omega))) (one_u8 _) (by omega) (fun a' c' hc1 hc2 => ?_))
    | (show QOk _ _ _ _ _ _ _; first | refine QOk.load rfl rfl (by first | exact Ld.hasBlk rfl | exact Ld.rs (by assumption) (getMap (by omega)) | exact Ld.rds (by assumption) (getMap (by omega)) | exact Ld.hasSl (getMap (by omega)) | exact Ld.hasBlkAt (getMap (by omega))) ?_ | refine QOk.idx1 rfl rfl rfl (by omega) (by first | exact AOk.hasSl | exact AOk.rs (by assumption) | exact AOk.rds (by assumption) | exact AOk.lit) ?_ | refine QOk.loadRow rfl rfl LdN.hasBlk rfl ?_ | refine QOk.toStr rfl rfl rfl rfl (by first | exact Rs.rds (by assumption) | exact Rds.up (by assumption) | exact Rds.hasSl (by omega) (by omega) (by first | rfl | (simp; done) | (simp; omega))) ?_)
    | (show GJ _ _ _ _ _ _ _; first | (apply GJ.and; exact rfl; intro hg) | (apply GJ.or; exact rfl; intro hg) | refine GJ.t (by omega) ?_ | refine GJ.f (by omega) ?_ | refine GJ.ft (by omega) ?_ | refine GJ.ff (by omega) ?_)
    | (show Br _ _ _; first | with_reducible refine Br.tt ?_ | with_reducible refine Br.ff ?_ | with_reducible refine Br.nt ?_ | with_reducible refine Br.nf ?_ | refine Br.t (by omega) ?_ | refine Br.f (by omega) ?_)
    | (show RetOk _ _ _ _ _ _; refine RetOk.of (by repeat (first | exact RL.nil | refine RL.tmp rfl ?_ | refine RL.row rfl rfl LdN.hasBlk rfl ?_ | refine RL.one rfl rfl (by first | exact Ld.hasBlk rfl | exact Ld.rs (by assumption) (getMap (by omega)) | exact Ld.rds (by assumption) (getMap (by omega)) | exact Ld.hasSl (getMap (by omega)) | exact Ld.hasBlkAt (getMap (by omega))) ?_)) ?_)
    | (show CodeOk _ _ _ _ _ _; refine CodeOk.drawnAuto rfl (by kernel_rfl) rfl (by kernel_rfl) ?_))
  refine Wk.backB ?_ (by repeat (first | exact Sup.all _ | exact Sup.nil _ | refine Sup.cons (by first | exact Take.hit _ _ | exact Take.miss _ (Take.hit _ _) | exact Take.miss _ (Take.miss _ (Take.hit _ _)) | exact Take.miss _ (Take.miss _ (Take.miss _ (Take.hit _ _))) | exact Take.miss _ (Take.miss _ (Take.miss _ (Take.miss _ (Take.hit _ _)))) | exact Take.miss _ (Take.miss _ (Take.miss _ (Take.miss _ (Take.miss _ (Take.hit _ _))))) | exact Take.miss _ (Take.miss _ (Take.miss _ (Take.miss _ (Take.miss _ (Take.miss _ (Take.hit _ _))))))) ?_ | refine Sup.nilc ?_ | refine Sup.drop _ ?_)) (.refl _) hk
  simp
end
end Go.Proofs.Ytpajhgnkagifbaa
