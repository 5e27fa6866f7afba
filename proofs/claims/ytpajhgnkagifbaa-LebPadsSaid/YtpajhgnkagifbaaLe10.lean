/- The laws' contracts of leb. -/
import Derived.Test.YtpajhgnkagifbaaLe9
namespace Go.Proofs.Ytpajhgnkagifbaa
open Go Go.E
set_option linter.unusedVariables false
set_option maxRecDepth 10000
section
variable {ro : Ro} {own : Chs} {K : Value → Ro → Chs → Prop} {f : Chunk → Chs}
theorem lebFolds_ok {a b : Int} (ha : -9223372036854775808 ≤ a ∧ a ≤ 9223372036854775807) (hb : -9223372036854775808 ≤ b ∧ b ≤ 9223372036854775807) (hk : K (.bool true) ro own) : CallOk Try.prog 7 #[.int .i64 a, .int .i64 b] ro own K := by
  obtain ⟨m, hm⟩ : ∃ m : Nat, a % 18446744073709551616 = m := ⟨(a % 18446744073709551616).toNat, by omega⟩
  have hm2 : m < 18446744073709551616 := by omega
  refine CallOk.back ?_
  refine CallOk.intro (args := [_, _]) (rs := [_]) T_ok Try.func7 Try.call7 rfl rfl (by kernel_rfl) rfl rfl ?_
  repeat (first
    | refine Stop.mk ?_
    | (show _ ∧ _; first | exact ⟨rfl, rfl, rfl⟩ | refine And.intro (by first | omega | exact u8_range _ | exact add_u8 _ _ (by omega)) ?_ | refine And.intro (inferInstanceAs (Suf _ _)) ?_)
    | (show OpOk _ _ _ _ _ _ _; first
        | refine OpOk.load rfl rfl (by first | exact Ld.hasBlk rfl | exact Ld.rs (by assumption) (getMap (by omega)) | exact Ld.rds (by assumption) (getMap (by omega)) | exact Ld.hasSl (getMap (by omega)) | exact Ld.hasBlkAt (getMap (by omega))) ?_
        | refine OpOk.loadRow rfl rfl LdN.hasBlk rfl ?_
        | refine OpOk.store rfl rfl rfl rfl (by repeat (first | exact SetR.hit _ _ _ | apply SetR.miss)) ?_
        | refine OpOk.storeRow rfl rfl rfl rfl (by rfl) rfl ?_
        | refine OpOk.idx1 rfl rfl rfl (by omega) (by first | exact AOk.hasSl | exact AOk.rs (by assumption) | exact AOk.rds (by assumption) | exact AOk.lit) ?_
        | refine OpOk.alloc rfl (fun b => ?_)
        | refine OpOk.box rfl (fun b => ?_)
        | refine OpOk.build rfl rfl (by repeat (first | exact Nf.nil | apply Nf.cons)) ?_
        | refine OpOk.buildSlice1 (by rfl) (by rfl) (by rfl) (by rfl) (by rfl) (fun b => ?_)
        | refine OpOk.toStr rfl rfl rfl rfl (by first | exact Rs.rds (by assumption) | exact Rds.up (by assumption) | exact Rds.hasSl (by omega) (by omega) (by first | rfl | (simp; done) | (simp; omega))) ?_
        | refine OpOk.make1 rfl rfl rfl (by omega) (fun b => ?_)
        | refine OpOk.append1 rfl rfl rfl rfl rfl rfl (by omega) (fun a' c' hc1 hc2 => ?_)
        | refine OpOk.append0 rfl rfl rfl rfl rfl rfl (by omega) (fun a' c' hc1 hc2 => ?_)
        | refine OpOk.appendE rfl rfl rfl rfl (by first | exact Rs.rds (by assumption) | exact Rds.up (by assumption) | exact Rds.hasSl (by omega) (by omega) (by first | rfl | (simp; done) | (simp; omega))) (one_u8 _) (by omega) (fun a' c' hc1 hc2 => ?_)
        | refine OpOk.append rfl rfl rfl rfl (by first | exact Rs.rds (by assumption) | exact Rds.up (by assumption) | exact Rds.hasSl (by omega) (by omega) (by first | rfl | (simp; done) | (simp; omega))) (one_u8 _) (by omega) (fun a' c' hc1 hc2 => ?_))
    | (show QOk _ _ _ _ _ _ _; first | refine QOk.load rfl rfl (by first | exact Ld.hasBlk rfl | exact Ld.rs (by assumption) (getMap (by omega)) | exact Ld.rds (by assumption) (getMap (by omega)) | exact Ld.hasSl (getMap (by omega)) | exact Ld.hasBlkAt (getMap (by omega))) ?_ | refine QOk.idx1 rfl rfl rfl (by omega) (by first | exact AOk.hasSl | exact AOk.rs (by assumption) | exact AOk.rds (by assumption) | exact AOk.lit) ?_ | refine QOk.loadRow rfl rfl LdN.hasBlk rfl ?_ | refine QOk.toStr rfl rfl rfl rfl (by first | exact Rs.rds (by assumption) | exact Rds.up (by assumption) | exact Rds.hasSl (by omega) (by omega) (by first | rfl | (simp; done) | (simp; omega))) ?_)
    | (show GJ _ _ _ _ _ _ _; first | (apply GJ.and; exact rfl; intro hg) | (apply GJ.or; exact rfl; intro hg) | refine GJ.t (by omega) ?_ | refine GJ.f (by omega) ?_ | refine GJ.ft (by omega) ?_ | refine GJ.ff (by omega) ?_)
    | (show Br _ _ _; first | with_reducible refine Br.tt ?_ | with_reducible refine Br.ff ?_ | with_reducible refine Br.nt ?_ | with_reducible refine Br.nf ?_ | refine Br.t (by omega) ?_ | refine Br.f (by omega) ?_)
    | (show CodeOk _ _ _ _ _ _; refine CodeOk.drawnAuto rfl (by kernel_rfl) rfl (by kernel_rfl) ?_))
  refine folds_ok ?_
  repeat (first
    | refine Stop.mk ?_
    | (show _ ∧ _; first | exact ⟨rfl, rfl, rfl⟩ | refine And.intro (by first | omega | exact u8_range _ | exact add_u8 _ _ (by omega)) ?_ | refine And.intro (inferInstanceAs (Suf _ _)) ?_)
    | (show OpOk _ _ _ _ _ _ _; first
        | refine OpOk.load rfl rfl (by first | exact Ld.hasBlk rfl | exact Ld.rs (by assumption) (getMap (by omega)) | exact Ld.rds (by assumption) (getMap (by omega)) | exact Ld.hasSl (getMap (by omega)) | exact Ld.hasBlkAt (getMap (by omega))) ?_
        | refine OpOk.loadRow rfl rfl LdN.hasBlk rfl ?_
        | refine OpOk.store rfl rfl rfl rfl (by repeat (first | exact SetR.hit _ _ _ | apply SetR.miss)) ?_
        | refine OpOk.storeRow rfl rfl rfl rfl (by rfl) rfl ?_
        | refine OpOk.idx1 rfl rfl rfl (by omega) (by first | exact AOk.hasSl | exact AOk.rs (by assumption) | exact AOk.rds (by assumption) | exact AOk.lit) ?_
        | refine OpOk.alloc rfl (fun b => ?_)
        | refine OpOk.box rfl (fun b => ?_)
        | refine OpOk.build rfl rfl (by repeat (first | exact Nf.nil | apply Nf.cons)) ?_
        | refine OpOk.buildSlice1 (by rfl) (by rfl) (by rfl) (by rfl) (by rfl) (fun b => ?_)
        | refine OpOk.toStr rfl rfl rfl rfl (by first | exact Rs.rds (by assumption) | exact Rds.up (by assumption) | exact Rds.hasSl (by omega) (by omega) (by first | rfl | (simp; done) | (simp; omega))) ?_
        | refine OpOk.make1 rfl rfl rfl (by omega) (fun b => ?_)
        | refine OpOk.append1 rfl rfl rfl rfl rfl rfl (by omega) (fun a' c' hc1 hc2 => ?_)
        | refine OpOk.append0 rfl rfl rfl rfl rfl rfl (by omega) (fun a' c' hc1 hc2 => ?_)
        | refine OpOk.appendE rfl rfl rfl rfl (by first | exact Rs.rds (by assumption) | exact Rds.up (by assumption) | exact Rds.hasSl (by omega) (by omega) (by first | rfl | (simp; done) | (simp; omega))) (one_u8 _) (by omega) (fun a' c' hc1 hc2 => ?_)
        | refine OpOk.append rfl rfl rfl rfl (by first | exact Rs.rds (by assumption) | exact Rds.up (by assumption) | exact Rds.hasSl (by omega) (by omega) (by first | rfl | (simp; done) | (simp; omega))) (one_u8 _) (by omega) (fun a' c' hc1 hc2 => ?_))
    | (show QOk _ _ _ _ _ _ _; first | refine QOk.load rfl rfl (by first | exact Ld.hasBlk rfl | exact Ld.rs (by assumption) (getMap (by omega)) | exact Ld.rds (by assumption) (getMap (by omega)) | exact Ld.hasSl (getMap (by omega)) | exact Ld.hasBlkAt (getMap (by omega))) ?_ | refine QOk.idx1 rfl rfl rfl (by omega) (by first | exact AOk.hasSl | exact AOk.rs (by assumption) | exact AOk.rds (by assumption) | exact AOk.lit) ?_ | refine QOk.loadRow rfl rfl LdN.hasBlk rfl ?_ | refine QOk.toStr rfl rfl rfl rfl (by first | exact Rs.rds (by assumption) | exact Rds.up (by assumption) | exact Rds.hasSl (by omega) (by omega) (by first | rfl | (simp; done) | (simp; omega))) ?_)
    | (show GJ _ _ _ _ _ _ _; first | (apply GJ.and; exact rfl; intro hg) | (apply GJ.or; exact rfl; intro hg) | refine GJ.t (by omega) ?_ | refine GJ.f (by omega) ?_ | refine GJ.ft (by omega) ?_ | refine GJ.ff (by omega) ?_)
    | (show Br _ _ _; first | with_reducible refine Br.tt ?_ | with_reducible refine Br.ff ?_ | with_reducible refine Br.nt ?_ | with_reducible refine Br.nf ?_ | refine Br.t (by omega) ?_ | refine Br.f (by omega) ?_)
    | (show CodeOk _ _ _ _ _ _; refine CodeOk.drawnAuto rfl (by kernel_rfl) rfl (by kernel_rfl) ?_))
  refine fold_ok ha ?_
  repeat (first
    | refine Stop.mk ?_
    | (show _ ∧ _; first | exact ⟨rfl, rfl, rfl⟩ | refine And.intro (by first | omega | exact u8_range _ | exact add_u8 _ _ (by omega)) ?_ | refine And.intro (inferInstanceAs (Suf _ _)) ?_)
    | (show OpOk _ _ _ _ _ _ _; first
        | refine OpOk.load rfl rfl (by first | exact Ld.hasBlk rfl | exact Ld.rs (by assumption) (getMap (by omega)) | exact Ld.rds (by assumption) (getMap (by omega)) | exact Ld.hasSl (getMap (by omega)) | exact Ld.hasBlkAt (getMap (by omega))) ?_
        | refine OpOk.loadRow rfl rfl LdN.hasBlk rfl ?_
        | refine OpOk.store rfl rfl rfl rfl (by repeat (first | exact SetR.hit _ _ _ | apply SetR.miss)) ?_
        | refine OpOk.storeRow rfl rfl rfl rfl (by rfl) rfl ?_
        | refine OpOk.idx1 rfl rfl rfl (by omega) (by first | exact AOk.hasSl | exact AOk.rs (by assumption) | exact AOk.rds (by assumption) | exact AOk.lit) ?_
        | refine OpOk.alloc rfl (fun b => ?_)
        | refine OpOk.box rfl (fun b => ?_)
        | refine OpOk.build rfl rfl (by repeat (first | exact Nf.nil | apply Nf.cons)) ?_
        | refine OpOk.buildSlice1 (by rfl) (by rfl) (by rfl) (by rfl) (by rfl) (fun b => ?_)
        | refine OpOk.toStr rfl rfl rfl rfl (by first | exact Rs.rds (by assumption) | exact Rds.up (by assumption) | exact Rds.hasSl (by omega) (by omega) (by first | rfl | (simp; done) | (simp; omega))) ?_
        | refine OpOk.make1 rfl rfl rfl (by omega) (fun b => ?_)
        | refine OpOk.append1 rfl rfl rfl rfl rfl rfl (by omega) (fun a' c' hc1 hc2 => ?_)
        | refine OpOk.append0 rfl rfl rfl rfl rfl rfl (by omega) (fun a' c' hc1 hc2 => ?_)
        | refine OpOk.appendE rfl rfl rfl rfl (by first | exact Rs.rds (by assumption) | exact Rds.up (by assumption) | exact Rds.hasSl (by omega) (by omega) (by first | rfl | (simp; done) | (simp; omega))) (one_u8 _) (by omega) (fun a' c' hc1 hc2 => ?_)
        | refine OpOk.append rfl rfl rfl rfl (by first | exact Rs.rds (by assumption) | exact Rds.up (by assumption) | exact Rds.hasSl (by omega) (by omega) (by first | rfl | (simp; done) | (simp; omega))) (one_u8 _) (by omega) (fun a' c' hc1 hc2 => ?_))
    | (show QOk _ _ _ _ _ _ _; first | refine QOk.load rfl rfl (by first | exact Ld.hasBlk rfl | exact Ld.rs (by assumption) (getMap (by omega)) | exact Ld.rds (by assumption) (getMap (by omega)) | exact Ld.hasSl (getMap (by omega)) | exact Ld.hasBlkAt (getMap (by omega))) ?_ | refine QOk.idx1 rfl rfl rfl (by omega) (by first | exact AOk.hasSl | exact AOk.rs (by assumption) | exact AOk.rds (by assumption) | exact AOk.lit) ?_ | refine QOk.loadRow rfl rfl LdN.hasBlk rfl ?_ | refine QOk.toStr rfl rfl rfl rfl (by first | exact Rs.rds (by assumption) | exact Rds.up (by assumption) | exact Rds.hasSl (by omega) (by omega) (by first | rfl | (simp; done) | (simp; omega))) ?_)
    | (show GJ _ _ _ _ _ _ _; first | (apply GJ.and; exact rfl; intro hg) | (apply GJ.or; exact rfl; intro hg) | refine GJ.t (by omega) ?_ | refine GJ.f (by omega) ?_ | refine GJ.ft (by omega) ?_ | refine GJ.ff (by omega) ?_)
    | (show Br _ _ _; first | with_reducible refine Br.tt ?_ | with_reducible refine Br.ff ?_ | with_reducible refine Br.nt ?_ | with_reducible refine Br.nf ?_ | refine Br.t (by omega) ?_ | refine Br.f (by omega) ?_)
    | (show CodeOk _ _ _ _ _ _; refine CodeOk.drawnAuto rfl (by kernel_rfl) rfl (by kernel_rfl) ?_))
  refine fold_ok hb ?_
  repeat (first
    | refine Stop.mk ?_
    | (show _ ∧ _; first | exact ⟨rfl, rfl, rfl⟩ | refine And.intro (by first | omega | exact u8_range _ | exact add_u8 _ _ (by omega)) ?_ | refine And.intro (inferInstanceAs (Suf _ _)) ?_)
    | (show OpOk _ _ _ _ _ _ _; first
        | refine OpOk.load rfl rfl (by first | exact Ld.hasBlk rfl | exact Ld.rs (by assumption) (getMap (by omega)) | exact Ld.rds (by assumption) (getMap (by omega)) | exact Ld.hasSl (getMap (by omega)) | exact Ld.hasBlkAt (getMap (by omega))) ?_
        | refine OpOk.loadRow rfl rfl LdN.hasBlk rfl ?_
        | refine OpOk.store rfl rfl rfl rfl (by repeat (first | exact SetR.hit _ _ _ | apply SetR.miss)) ?_
        | refine OpOk.storeRow rfl rfl rfl rfl (by rfl) rfl ?_
        | refine OpOk.idx1 rfl rfl rfl (by omega) (by first | exact AOk.hasSl | exact AOk.rs (by assumption) | exact AOk.rds (by assumption) | exact AOk.lit) ?_
        | refine OpOk.alloc rfl (fun b => ?_)
        | refine OpOk.box rfl (fun b => ?_)
        | refine OpOk.build rfl rfl (by repeat (first | exact Nf.nil | apply Nf.cons)) ?_
        | refine OpOk.buildSlice1 (by rfl) (by rfl) (by rfl) (by rfl) (by rfl) (fun b => ?_)
        | refine OpOk.toStr rfl rfl rfl rfl (by first | exact Rs.rds (by assumption) | exact Rds.up (by assumption) | exact Rds.hasSl (by omega) (by omega) (by first | rfl | (simp; done) | (simp; omega))) ?_
        | refine OpOk.make1 rfl rfl rfl (by omega) (fun b => ?_)
        | refine OpOk.append1 rfl rfl rfl rfl rfl rfl (by omega) (fun a' c' hc1 hc2 => ?_)
        | refine OpOk.append0 rfl rfl rfl rfl rfl rfl (by omega) (fun a' c' hc1 hc2 => ?_)
        | refine OpOk.appendE rfl rfl rfl rfl (by first | exact Rs.rds (by assumption) | exact Rds.up (by assumption) | exact Rds.hasSl (by omega) (by omega) (by first | rfl | (simp; done) | (simp; omega))) (one_u8 _) (by omega) (fun a' c' hc1 hc2 => ?_)
        | refine OpOk.append rfl rfl rfl rfl (by first | exact Rs.rds (by assumption) | exact Rds.up (by assumption) | exact Rds.hasSl (by omega) (by omega) (by first | rfl | (simp; done) | (simp; omega))) (one_u8 _) (by omega) (fun a' c' hc1 hc2 => ?_))
    | (show QOk _ _ _ _ _ _ _; first | refine QOk.load rfl rfl (by first | exact Ld.hasBlk rfl | exact Ld.rs (by assumption) (getMap (by omega)) | exact Ld.rds (by assumption) (getMap (by omega)) | exact Ld.hasSl (getMap (by omega)) | exact Ld.hasBlkAt (getMap (by omega))) ?_ | refine QOk.idx1 rfl rfl rfl (by omega) (by first | exact AOk.hasSl | exact AOk.rs (by assumption) | exact AOk.rds (by assumption) | exact AOk.lit) ?_ | refine QOk.loadRow rfl rfl LdN.hasBlk rfl ?_ | refine QOk.toStr rfl rfl rfl rfl (by first | exact Rs.rds (by assumption) | exact Rds.up (by assumption) | exact Rds.hasSl (by omega) (by omega) (by first | rfl | (simp; done) | (simp; omega))) ?_)
    | (show GJ _ _ _ _ _ _ _; first | (apply GJ.and; exact rfl; intro hg) | (apply GJ.or; exact rfl; intro hg) | refine GJ.t (by omega) ?_ | refine GJ.f (by omega) ?_ | refine GJ.ft (by omega) ?_ | refine GJ.ff (by omega) ?_)
    | (show Br _ _ _; first | with_reducible refine Br.tt ?_ | with_reducible refine Br.ff ?_ | with_reducible refine Br.nt ?_ | with_reducible refine Br.nf ?_ | refine Br.t (by omega) ?_ | refine Br.f (by omega) ?_)
    | (show CodeOk _ _ _ _ _ _; refine CodeOk.drawnAuto rfl (by kernel_rfl) rfl (by kernel_rfl) ?_))
  refine unfold_ok (foldZ_lt ha) ?_
  rw [unfold_fold a ha]
  repeat (first
    | refine Stop.mk ?_
    | (show _ ∧ _; first | exact ⟨rfl, rfl, rfl⟩ | refine And.intro (by first | omega | exact u8_range _ | exact add_u8 _ _ (by omega)) ?_ | refine And.intro (inferInstanceAs (Suf _ _)) ?_)
    | (show OpOk _ _ _ _ _ _ _; first
        | refine OpOk.load rfl rfl (by first | exact Ld.hasBlk rfl | exact Ld.rs (by assumption) (getMap (by omega)) | exact Ld.rds (by assumption) (getMap (by omega)) | exact Ld.hasSl (getMap (by omega)) | exact Ld.hasBlkAt (getMap (by omega))) ?_
        | refine OpOk.loadRow rfl rfl LdN.hasBlk rfl ?_
        | refine OpOk.store rfl rfl rfl rfl (by repeat (first | exact SetR.hit _ _ _ | apply SetR.miss)) ?_
        | refine OpOk.storeRow rfl rfl rfl rfl (by rfl) rfl ?_
        | refine OpOk.idx1 rfl rfl rfl (by omega) (by first | exact AOk.hasSl | exact AOk.rs (by assumption) | exact AOk.rds (by assumption) | exact AOk.lit) ?_
        | refine OpOk.alloc rfl (fun b => ?_)
        | refine OpOk.box rfl (fun b => ?_)
        | refine OpOk.build rfl rfl (by repeat (first | exact Nf.nil | apply Nf.cons)) ?_
        | refine OpOk.buildSlice1 (by rfl) (by rfl) (by rfl) (by rfl) (by rfl) (fun b => ?_)
        | refine OpOk.toStr rfl rfl rfl rfl (by first | exact Rs.rds (by assumption) | exact Rds.up (by assumption) | exact Rds.hasSl (by omega) (by omega) (by first | rfl | (simp; done) | (simp; omega))) ?_
        | refine OpOk.make1 rfl rfl rfl (by omega) (fun b => ?_)
        | refine OpOk.append1 rfl rfl rfl rfl rfl rfl (by omega) (fun a' c' hc1 hc2 => ?_)
        | refine OpOk.append0 rfl rfl rfl rfl rfl rfl (by omega) (fun a' c' hc1 hc2 => ?_)
        | refine OpOk.appendE rfl rfl rfl rfl (by first | exact Rs.rds (by assumption) | exact Rds.up (by assumption) | exact Rds.hasSl (by omega) (by omega) (by first | rfl | (simp; done) | (simp; omega))) (one_u8 _) (by omega) (fun a' c' hc1 hc2 => ?_)
        | refine OpOk.append rfl rfl rfl rfl (by first | exact Rs.rds (by assumption) | exact Rds.up (by assumption) | exact Rds.hasSl (by omega) (by omega) (by first | rfl | (simp; done) | (simp; omega))) (one_u8 _) (by omega) (fun a' c' hc1 hc2 => ?_))
    | (show QOk _ _ _ _ _ _ _; first | refine QOk.load rfl rfl (by first | exact Ld.hasBlk rfl | exact Ld.rs (by assumption) (getMap (by omega)) | exact Ld.rds (by assumption) (getMap (by omega)) | exact Ld.hasSl (getMap (by omega)) | exact Ld.hasBlkAt (getMap (by omega))) ?_ | refine QOk.idx1 rfl rfl rfl (by omega) (by first | exact AOk.hasSl | exact AOk.rs (by assumption) | exact AOk.rds (by assumption) | exact AOk.lit) ?_ | refine QOk.loadRow rfl rfl LdN.hasBlk rfl ?_ | refine QOk.toStr rfl rfl rfl rfl (by first | exact Rs.rds (by assumption) | exact Rds.up (by assumption) | exact Rds.hasSl (by omega) (by omega) (by first | rfl | (simp; done) | (simp; omega))) ?_)
    | (show GJ _ _ _ _ _ _ _; first | (apply GJ.and; exact rfl; intro hg) | (apply GJ.or; exact rfl; intro hg) | refine GJ.t (by omega) ?_ | refine GJ.f (by omega) ?_ | refine GJ.ft (by omega) ?_ | refine GJ.ff (by omega) ?_)
    | (show Br _ _ _; first | with_reducible refine Br.tt ?_ | with_reducible refine Br.ff ?_ | with_reducible refine Br.nt ?_ | with_reducible refine Br.nf ?_ | refine Br.t (by omega) ?_ | refine Br.f (by omega) ?_)
    | (show CodeOk _ _ _ _ _ _; refine CodeOk.drawnAuto rfl (by kernel_rfl) rfl (by kernel_rfl) ?_))
  rw [hm]
  refine unfold_ok hm2 ?_
  repeat (first
    | refine Stop.mk ?_
    | (show _ ∧ _; first | exact ⟨rfl, rfl, rfl⟩ | refine And.intro (by first | omega | exact u8_range _ | exact add_u8 _ _ (by omega)) ?_ | refine And.intro (inferInstanceAs (Suf _ _)) ?_)
    | (show OpOk _ _ _ _ _ _ _; first
        | refine OpOk.load rfl rfl (by first | exact Ld.hasBlk rfl | exact Ld.rs (by assumption) (getMap (by omega)) | exact Ld.rds (by assumption) (getMap (by omega)) | exact Ld.hasSl (getMap (by omega)) | exact Ld.hasBlkAt (getMap (by omega))) ?_
        | refine OpOk.loadRow rfl rfl LdN.hasBlk rfl ?_
        | refine OpOk.store rfl rfl rfl rfl (by repeat (first | exact SetR.hit _ _ _ | apply SetR.miss)) ?_
        | refine OpOk.storeRow rfl rfl rfl rfl (by rfl) rfl ?_
        | refine OpOk.idx1 rfl rfl rfl (by omega) (by first | exact AOk.hasSl | exact AOk.rs (by assumption) | exact AOk.rds (by assumption) | exact AOk.lit) ?_
        | refine OpOk.alloc rfl (fun b => ?_)
        | refine OpOk.box rfl (fun b => ?_)
        | refine OpOk.build rfl rfl (by repeat (first | exact Nf.nil | apply Nf.cons)) ?_
        | refine OpOk.buildSlice1 (by rfl) (by rfl) (by rfl) (by rfl) (by rfl) (fun b => ?_)
        | refine OpOk.toStr rfl rfl rfl rfl (by first | exact Rs.rds (by assumption) | exact Rds.up (by assumption) | exact Rds.hasSl (by omega) (by omega) (by first | rfl | (simp; done) | (simp; omega))) ?_
        | refine OpOk.make1 rfl rfl rfl (by omega) (fun b => ?_)
        | refine OpOk.append1 rfl rfl rfl rfl rfl rfl (by omega) (fun a' c' hc1 hc2 => ?_)
        | refine OpOk.append0 rfl rfl rfl rfl rfl rfl (by omega) (fun a' c' hc1 hc2 => ?_)
        | refine OpOk.appendE rfl rfl rfl rfl (by first | exact Rs.rds (by assumption) | exact Rds.up (by assumption) | exact Rds.hasSl (by omega) (by omega) (by first | rfl | (simp; done) | (simp; omega))) (one_u8 _) (by omega) (fun a' c' hc1 hc2 => ?_)
        | refine OpOk.append rfl rfl rfl rfl (by first | exact Rs.rds (by assumption) | exact Rds.up (by assumption) | exact Rds.hasSl (by omega) (by omega) (by first | rfl | (simp; done) | (simp; omega))) (one_u8 _) (by omega) (fun a' c' hc1 hc2 => ?_))
    | (show QOk _ _ _ _ _ _ _; first | refine QOk.load rfl rfl (by first | exact Ld.hasBlk rfl | exact Ld.rs (by assumption) (getMap (by omega)) | exact Ld.rds (by assumption) (getMap (by omega)) | exact Ld.hasSl (getMap (by omega)) | exact Ld.hasBlkAt (getMap (by omega))) ?_ | refine QOk.idx1 rfl rfl rfl (by omega) (by first | exact AOk.hasSl | exact AOk.rs (by assumption) | exact AOk.rds (by assumption) | exact AOk.lit) ?_ | refine QOk.loadRow rfl rfl LdN.hasBlk rfl ?_ | refine QOk.toStr rfl rfl rfl rfl (by first | exact Rs.rds (by assumption) | exact Rds.up (by assumption) | exact Rds.hasSl (by omega) (by omega) (by first | rfl | (simp; done) | (simp; omega))) ?_)
    | (show GJ _ _ _ _ _ _ _; first | (apply GJ.and; exact rfl; intro hg) | (apply GJ.or; exact rfl; intro hg) | refine GJ.t (by omega) ?_ | refine GJ.f (by omega) ?_ | refine GJ.ft (by omega) ?_ | refine GJ.ff (by omega) ?_)
    | (show Br _ _ _; first | with_reducible refine Br.tt ?_ | with_reducible refine Br.ff ?_ | with_reducible refine Br.nt ?_ | with_reducible refine Br.nf ?_ | refine Br.t (by omega) ?_ | refine Br.f (by omega) ?_)
    | (show CodeOk _ _ _ _ _ _; refine CodeOk.drawnAuto rfl (by kernel_rfl) rfl (by kernel_rfl) ?_))
  refine fold_ok (unfoldZ_in hm2) ?_
  rw [fold_unfold]
  repeat (first
    | refine Stop.mk ?_
    | (show _ ∧ _; first | exact ⟨rfl, rfl, rfl⟩ | refine And.intro (by first | omega | exact u8_range _ | exact add_u8 _ _ (by omega)) ?_ | refine And.intro (inferInstanceAs (Suf _ _)) ?_)
    | (show OpOk _ _ _ _ _ _ _; first
        | refine OpOk.load rfl rfl (by first | exact Ld.hasBlk rfl | exact Ld.rs (by assumption) (getMap (by omega)) | exact Ld.rds (by assumption) (getMap (by omega)) | exact Ld.hasSl (getMap (by omega)) | exact Ld.hasBlkAt (getMap (by omega))) ?_
        | refine OpOk.loadRow rfl rfl LdN.hasBlk rfl ?_
        | refine OpOk.store rfl rfl rfl rfl (by repeat (first | exact SetR.hit _ _ _ | apply SetR.miss)) ?_
        | refine OpOk.storeRow rfl rfl rfl rfl (by rfl) rfl ?_
        | refine OpOk.idx1 rfl rfl rfl (by omega) (by first | exact AOk.hasSl | exact AOk.rs (by assumption) | exact AOk.rds (by assumption) | exact AOk.lit) ?_
        | refine OpOk.alloc rfl (fun b => ?_)
        | refine OpOk.box rfl (fun b => ?_)
        | refine OpOk.build rfl rfl (by repeat (first | exact Nf.nil | apply Nf.cons)) ?_
        | refine OpOk.buildSlice1 (by rfl) (by rfl) (by rfl) (by rfl) (by rfl) (fun b => ?_)
        | refine OpOk.toStr rfl rfl rfl rfl (by first | exact Rs.rds (by assumption) | exact Rds.up (by assumption) | exact Rds.hasSl (by omega) (by omega) (by first | rfl | (simp; done) | (simp; omega))) ?_
        | refine OpOk.make1 rfl rfl rfl (by omega) (fun b => ?_)
        | refine OpOk.append1 rfl rfl rfl rfl rfl rfl (by omega) (fun a' c' hc1 hc2 => ?_)
        | refine OpOk.append0 rfl rfl rfl rfl rfl rfl (by omega) (fun a' c' hc1 hc2 => ?_)
        | refine OpOk.appendE rfl rfl rfl rfl (by first | exact Rs.rds (by assumption) | exact Rds.up (by assumption) | exact Rds.hasSl (by omega) (by omega) (by first | rfl | (simp; done) | (simp; omega))) (one_u8 _) (by omega) (fun a' c' hc1 hc2 => ?_)
        | refine OpOk.append rfl rfl rfl rfl (by first | exact Rs.rds (by assumption) | exact Rds.up (by assumption) | exact Rds.hasSl (by omega) (by omega) (by first | rfl | (simp; done) | (simp; omega))) (one_u8 _) (by omega) (fun a' c' hc1 hc2 => ?_))
    | (show QOk _ _ _ _ _ _ _; first | refine QOk.load rfl rfl (by first | exact Ld.hasBlk rfl | exact Ld.rs (by assumption) (getMap (by omega)) | exact Ld.rds (by assumption) (getMap (by omega)) | exact Ld.hasSl (getMap (by omega)) | exact Ld.hasBlkAt (getMap (by omega))) ?_ | refine QOk.idx1 rfl rfl rfl (by omega) (by first | exact AOk.hasSl | exact AOk.rs (by assumption) | exact AOk.rds (by assumption) | exact AOk.lit) ?_ | refine QOk.loadRow rfl rfl LdN.hasBlk rfl ?_ | refine QOk.toStr rfl rfl rfl rfl (by first | exact Rs.rds (by assumption) | exact Rds.up (by assumption) | exact Rds.hasSl (by omega) (by omega) (by first | rfl | (simp; done) | (simp; omega))) ?_)
    | (show GJ _ _ _ _ _ _ _; first | (apply GJ.and; exact rfl; intro hg) | (apply GJ.or; exact rfl; intro hg) | refine GJ.t (by omega) ?_ | refine GJ.f (by omega) ?_ | refine GJ.ft (by omega) ?_ | refine GJ.ff (by omega) ?_)
    | (show Br _ _ _; first | with_reducible refine Br.tt ?_ | with_reducible refine Br.ff ?_ | with_reducible refine Br.nt ?_ | with_reducible refine Br.nf ?_ | refine Br.t (by omega) ?_ | refine Br.f (by omega) ?_)
    | (show CodeOk _ _ _ _ _ _; refine CodeOk.drawnAuto rfl (by kernel_rfl) rfl (by kernel_rfl) ?_))
  rw [hm]
  repeat (first
    | refine Stop.mk ?_
    | (show _ ∧ _; first | exact ⟨rfl, rfl, rfl⟩ | refine And.intro (by first | omega | exact u8_range _ | exact add_u8 _ _ (by omega)) ?_ | refine And.intro (inferInstanceAs (Suf _ _)) ?_)
    | (show OpOk _ _ _ _ _ _ _; first
        | refine OpOk.load rfl rfl (by first | exact Ld.hasBlk rfl | exact Ld.rs (by assumption) (getMap (by omega)) | exact Ld.rds (by assumption) (getMap (by omega)) | exact Ld.hasSl (getMap (by omega)) | exact Ld.hasBlkAt (getMap (by omega))) ?_
        | refine OpOk.loadRow rfl rfl LdN.hasBlk rfl ?_
        | refine OpOk.store rfl rfl rfl rfl (by repeat (first | exact SetR.hit _ _ _ | apply SetR.miss)) ?_
        | refine OpOk.storeRow rfl rfl rfl rfl (by rfl) rfl ?_
        | refine OpOk.idx1 rfl rfl rfl (by omega) (by first | exact AOk.hasSl | exact AOk.rs (by assumption) | exact AOk.rds (by assumption) | exact AOk.lit) ?_
        | refine OpOk.alloc rfl (fun b => ?_)
        | refine OpOk.box rfl (fun b => ?_)
        | refine OpOk.build rfl rfl (by repeat (first | exact Nf.nil | apply Nf.cons)) ?_
        | refine OpOk.buildSlice1 (by rfl) (by rfl) (by rfl) (by rfl) (by rfl) (fun b => ?_)
        | refine OpOk.toStr rfl rfl rfl rfl (by first | exact Rs.rds (by assumption) | exact Rds.up (by assumption) | exact Rds.hasSl (by omega) (by omega) (by first | rfl | (simp; done) | (simp; omega))) ?_
        | refine OpOk.make1 rfl rfl rfl (by omega) (fun b => ?_)
        | refine OpOk.append1 rfl rfl rfl rfl rfl rfl (by omega) (fun a' c' hc1 hc2 => ?_)
        | refine OpOk.append0 rfl rfl rfl rfl rfl rfl (by omega) (fun a' c' hc1 hc2 => ?_)
        | refine OpOk.appendE rfl rfl rfl rfl (by first | exact Rs.rds (by assumption) | exact Rds.up (by assumption) | exact Rds.hasSl (by omega) (by omega) (by first | rfl | (simp; done) | (simp; omega))) (one_u8 _) (by omega) (fun a' c' hc1 hc2 => ?_)
        | refine OpOk.append rfl rfl rfl rfl (by first | exact Rs.rds (by assumption) | exact Rds.up (by assumption) | exact Rds.hasSl (by omega) (by omega) (by first | rfl | (simp; done) | (simp; omega))) (one_u8 _) (by omega) (fun a' c' hc1 hc2 => ?_))
    | (show QOk _ _ _ _ _ _ _; first | refine QOk.load rfl rfl (by first | exact Ld.hasBlk rfl | exact Ld.rs (by assumption) (getMap (by omega)) | exact Ld.rds (by assumption) (getMap (by omega)) | exact Ld.hasSl (getMap (by omega)) | exact Ld.hasBlkAt (getMap (by omega))) ?_ | refine QOk.idx1 rfl rfl rfl (by omega) (by first | exact AOk.hasSl | exact AOk.rs (by assumption) | exact AOk.rds (by assumption) | exact AOk.lit) ?_ | refine QOk.loadRow rfl rfl LdN.hasBlk rfl ?_ | refine QOk.toStr rfl rfl rfl rfl (by first | exact Rs.rds (by assumption) | exact Rds.up (by assumption) | exact Rds.hasSl (by omega) (by omega) (by first | rfl | (simp; done) | (simp; omega))) ?_)
    | (show GJ _ _ _ _ _ _ _; first | (apply GJ.and; exact rfl; intro hg) | (apply GJ.or; exact rfl; intro hg) | refine GJ.t (by omega) ?_ | refine GJ.f (by omega) ?_ | refine GJ.ft (by omega) ?_ | refine GJ.ff (by omega) ?_)
    | (show Br _ _ _; first | with_reducible refine Br.tt ?_ | with_reducible refine Br.ff ?_ | with_reducible refine Br.nt ?_ | with_reducible refine Br.nf ?_ | refine Br.t (by omega) ?_ | refine Br.f (by omega) ?_)
    | (show CodeOk _ _ _ _ _ _; refine CodeOk.drawnAuto rfl (by kernel_rfl) rfl (by kernel_rfl) ?_))
  refine Br.cases (fun hc => ?_) (fun hc => ?_)
  · repeat (first
      | refine Stop.mk ?_
      | (show _ ∧ _; first | exact ⟨rfl, rfl, rfl⟩ | refine And.intro (by first | omega | exact u8_range _ | exact add_u8 _ _ (by omega)) ?_ | refine And.intro (inferInstanceAs (Suf _ _)) ?_)
      | (show OpOk _ _ _ _ _ _ _; first
          | refine OpOk.load rfl rfl (by first | exact Ld.hasBlk rfl | exact Ld.rs (by assumption) (getMap (by omega)) | exact Ld.rds (by assumption) (getMap (by omega)) | exact Ld.hasSl (getMap (by omega)) | exact Ld.hasBlkAt (getMap (by omega))) ?_
          | refine OpOk.loadRow rfl rfl LdN.hasBlk rfl ?_
          | refine OpOk.store rfl rfl rfl rfl (by repeat (first | exact SetR.hit _ _ _ | apply SetR.miss)) ?_
          | refine OpOk.storeRow rfl rfl rfl rfl (by rfl) rfl ?_
          | refine OpOk.idx1 rfl rfl rfl (by omega) (by first | exact AOk.hasSl | exact AOk.rs (by assumption) | exact AOk.rds (by assumption) | exact AOk.lit) ?_
          | refine OpOk.alloc rfl (fun b => ?_)
          | refine OpOk.box rfl (fun b => ?_)
          | refine OpOk.build rfl rfl (by repeat (first | exact Nf.nil | apply Nf.cons)) ?_
          | refine OpOk.buildSlice1 (by rfl) (by rfl) (by rfl) (by rfl) (by rfl) (fun b => ?_)
          | refine OpOk.toStr rfl rfl rfl rfl (by first | exact Rs.rds (by assumption) | exact Rds.up (by assumption) | exact Rds.hasSl (by omega) (by omega) (by first | rfl | (simp; done) | (simp; omega))) ?_
          | refine OpOk.make1 rfl rfl rfl (by omega) (fun b => ?_)
          | refine OpOk.append1 rfl rfl rfl rfl rfl rfl (by omega) (fun a' c' hc1 hc2 => ?_)
          | refine OpOk.append0 rfl rfl rfl rfl rfl rfl (by omega) (fun a' c' hc1 hc2 => ?_)
          | refine OpOk.appendE rfl rfl rfl rfl (by first | exact Rs.rds (by assumption) | exact Rds.up (by assumption) | exact Rds.hasSl (by omega) (by omega) (by first | rfl | (simp; done) | (simp; omega))) (one_u8 _) (by omega) (fun a' c' hc1 hc2 => ?_)
          | refine OpOk.append rfl rfl rfl rfl (by first | exact Rs.rds (by assumption) | exact Rds.up (by assumption) | exact Rds.hasSl (by omega) (by omega) (by first | rfl | (simp; done) | (simp; omega))) (one_u8 _) (by omega) (fun a' c' hc1 hc2 => ?_))
      | (show QOk _ _ _ _ _ _ _; first | refine QOk.load rfl rfl (by first | exact Ld.hasBlk rfl | exact Ld.rs (by assumption) (getMap (by omega)) | exact Ld.rds (by assumption) (getMap (by omega)) | exact Ld.hasSl (getMap (by omega)) | exact Ld.hasBlkAt (getMap (by omega))) ?_ | refine QOk.idx1 rfl rfl rfl (by omega) (by first | exact AOk.hasSl | exact AOk.rs (by assumption) | exact AOk.rds (by assumption) | exact AOk.lit) ?_ | refine QOk.loadRow rfl rfl LdN.hasBlk rfl ?_ | refine QOk.toStr rfl rfl rfl rfl (by first | exact Rs.rds (by assumption) | exact Rds.up (by assumption) | exact Rds.hasSl (by omega) (by omega) (by first | rfl | (simp; done) | (simp; omega))) ?_)
      | (show GJ _ _ _ _ _ _ _; first | (apply GJ.and; exact rfl; intro hg) | (apply GJ.or; exact rfl; intro hg) | refine GJ.t (by omega) ?_ | refine GJ.f (by omega) ?_ | refine GJ.ft (by omega) ?_ | refine GJ.ff (by omega) ?_)
      | (show Br _ _ _; first | with_reducible refine Br.tt ?_ | with_reducible refine Br.ff ?_ | with_reducible refine Br.nt ?_ | with_reducible refine Br.nf ?_ | refine Br.t (by omega) ?_ | refine Br.f (by omega) ?_)
      | (show CodeOk _ _ _ _ _ _; refine CodeOk.drawnAuto rfl (by kernel_rfl) rfl (by kernel_rfl) ?_))
    refine Wk.backB ?_ (by repeat (first | exact Sup.all _ | exact Sup.nil _ | refine Sup.cons (by first | exact Take.hit _ _ | exact Take.miss _ (Take.hit _ _) | exact Take.miss _ (Take.miss _ (Take.hit _ _)) | exact Take.miss _ (Take.miss _ (Take.miss _ (Take.hit _ _))) | exact Take.miss _ (Take.miss _ (Take.miss _ (Take.miss _ (Take.hit _ _)))) | exact Take.miss _ (Take.miss _ (Take.miss _ (Take.miss _ (Take.miss _ (Take.hit _ _))))) | exact Take.miss _ (Take.miss _ (Take.miss _ (Take.miss _ (Take.miss _ (Take.miss _ (Take.hit _ _))))))) ?_ | refine Sup.nilc ?_ | refine Sup.drop _ ?_)) (.refl _) hk
    rw [decide_eq_true_iff]
    unfold foldZ
    split <;> split <;> omega
  · repeat (first
      | refine Stop.mk ?_
      | (show _ ∧ _; first | exact ⟨rfl, rfl, rfl⟩ | refine And.intro (by first | omega | exact u8_range _ | exact add_u8 _ _ (by omega)) ?_ | refine And.intro (inferInstanceAs (Suf _ _)) ?_)
      | (show OpOk _ _ _ _ _ _ _; first
          | refine OpOk.load rfl rfl (by first | exact Ld.hasBlk rfl | exact Ld.rs (by assumption) (getMap (by omega)) | exact Ld.rds (by assumption) (getMap (by omega)) | exact Ld.hasSl (getMap (by omega)) | exact Ld.hasBlkAt (getMap (by omega))) ?_
          | refine OpOk.loadRow rfl rfl LdN.hasBlk rfl ?_
          | refine OpOk.store rfl rfl rfl rfl (by repeat (first | exact SetR.hit _ _ _ | apply SetR.miss)) ?_
          | refine OpOk.storeRow rfl rfl rfl rfl (by rfl) rfl ?_
          | refine OpOk.idx1 rfl rfl rfl (by omega) (by first | exact AOk.hasSl | exact AOk.rs (by assumption) | exact AOk.rds (by assumption) | exact AOk.lit) ?_
          | refine OpOk.alloc rfl (fun b => ?_)
          | refine OpOk.box rfl (fun b => ?_)
          | refine OpOk.build rfl rfl (by repeat (first | exact Nf.nil | apply Nf.cons)) ?_
          | refine OpOk.buildSlice1 (by rfl) (by rfl) (by rfl) (by rfl) (by rfl) (fun b => ?_)
          | refine OpOk.toStr rfl rfl rfl rfl (by first | exact Rs.rds (by assumption) | exact Rds.up (by assumption) | exact Rds.hasSl (by omega) (by omega) (by first | rfl | (simp; done) | (simp; omega))) ?_
          | refine OpOk.make1 rfl rfl rfl (by omega) (fun b => ?_)
          | refine OpOk.append1 rfl rfl rfl rfl rfl rfl (by omega) (fun a' c' hc1 hc2 => ?_)
          | refine OpOk.append0 rfl rfl rfl rfl rfl rfl (by omega) (fun a' c' hc1 hc2 => ?_)
          | refine OpOk.appendE rfl rfl rfl rfl (by first | exact Rs.rds (by assumption) | exact Rds.up (by assumption) | exact Rds.hasSl (by omega) (by omega) (by first | rfl | (simp; done) | (simp; omega))) (one_u8 _) (by omega) (fun a' c' hc1 hc2 => ?_)
          | refine OpOk.append rfl rfl rfl rfl (by first | exact Rs.rds (by assumption) | exact Rds.up (by assumption) | exact Rds.hasSl (by omega) (by omega) (by first | rfl | (simp; done) | (simp; omega))) (one_u8 _) (by omega) (fun a' c' hc1 hc2 => ?_))
      | (show QOk _ _ _ _ _ _ _; first | refine QOk.load rfl rfl (by first | exact Ld.hasBlk rfl | exact Ld.rs (by assumption) (getMap (by omega)) | exact Ld.rds (by assumption) (getMap (by omega)) | exact Ld.hasSl (getMap (by omega)) | exact Ld.hasBlkAt (getMap (by omega))) ?_ | refine QOk.idx1 rfl rfl rfl (by omega) (by first | exact AOk.hasSl | exact AOk.rs (by assumption) | exact AOk.rds (by assumption) | exact AOk.lit) ?_ | refine QOk.loadRow rfl rfl LdN.hasBlk rfl ?_ | refine QOk.toStr rfl rfl rfl rfl (by first | exact Rs.rds (by assumption) | exact Rds.up (by assumption) | exact Rds.hasSl (by omega) (by omega) (by first | rfl | (simp; done) | (simp; omega))) ?_)
      | (show GJ _ _ _ _ _ _ _; first | (apply GJ.and; exact rfl; intro hg) | (apply GJ.or; exact rfl; intro hg) | refine GJ.t (by omega) ?_ | refine GJ.f (by omega) ?_ | refine GJ.ft (by omega) ?_ | refine GJ.ff (by omega) ?_)
      | (show Br _ _ _; first | with_reducible refine Br.tt ?_ | with_reducible refine Br.ff ?_ | with_reducible refine Br.nt ?_ | with_reducible refine Br.nf ?_ | refine Br.t (by omega) ?_ | refine Br.f (by omega) ?_)
      | (show CodeOk _ _ _ _ _ _; refine CodeOk.drawnAuto rfl (by kernel_rfl) rfl (by kernel_rfl) ?_))
    refine Br.cases (fun hd => ?_) (fun hd => ?_)
    · repeat (first
        | refine Stop.mk ?_
        | (show _ ∧ _; first | exact ⟨rfl, rfl, rfl⟩ | refine And.intro (by first | omega | exact u8_range _ | exact add_u8 _ _ (by omega)) ?_ | refine And.intro (inferInstanceAs (Suf _ _)) ?_)
        | (show OpOk _ _ _ _ _ _ _; first
            | refine OpOk.load rfl rfl (by first | exact Ld.hasBlk rfl | exact Ld.rs (by assumption) (getMap (by omega)) | exact Ld.rds (by assumption) (getMap (by omega)) | exact Ld.hasSl (getMap (by omega)) | exact Ld.hasBlkAt (getMap (by omega))) ?_
            | refine OpOk.loadRow rfl rfl LdN.hasBlk rfl ?_
            | refine OpOk.store rfl rfl rfl rfl (by repeat (first | exact SetR.hit _ _ _ | apply SetR.miss)) ?_
            | refine OpOk.storeRow rfl rfl rfl rfl (by rfl) rfl ?_
            | refine OpOk.idx1 rfl rfl rfl (by omega) (by first | exact AOk.hasSl | exact AOk.rs (by assumption) | exact AOk.rds (by assumption) | exact AOk.lit) ?_
            | refine OpOk.alloc rfl (fun b => ?_)
            | refine OpOk.box rfl (fun b => ?_)
            | refine OpOk.build rfl rfl (by repeat (first | exact Nf.nil | apply Nf.cons)) ?_
            | refine OpOk.buildSlice1 (by rfl) (by rfl) (by rfl) (by rfl) (by rfl) (fun b => ?_)
            | refine OpOk.toStr rfl rfl rfl rfl (by first | exact Rs.rds (by assumption) | exact Rds.up (by assumption) | exact Rds.hasSl (by omega) (by omega) (by first | rfl | (simp; done) | (simp; omega))) ?_
            | refine OpOk.make1 rfl rfl rfl (by omega) (fun b => ?_)
            | refine OpOk.append1 rfl rfl rfl rfl rfl rfl (by omega) (fun a' c' hc1 hc2 => ?_)
            | refine OpOk.append0 rfl rfl rfl rfl rfl rfl (by omega) (fun a' c' hc1 hc2 => ?_)
            | refine OpOk.appendE rfl rfl rfl rfl (by first | exact Rs.rds (by assumption) | exact Rds.up (by assumption) | exact Rds.hasSl (by omega) (by omega) (by first | rfl | (simp; done) | (simp; omega))) (one_u8 _) (by omega) (fun a' c' hc1 hc2 => ?_)
            | refine OpOk.append rfl rfl rfl rfl (by first | exact Rs.rds (by assumption) | exact Rds.up (by assumption) | exact Rds.hasSl (by omega) (by omega) (by first | rfl | (simp; done) | (simp; omega))) (one_u8 _) (by omega) (fun a' c' hc1 hc2 => ?_))
        | (show QOk _ _ _ _ _ _ _; first | refine QOk.load rfl rfl (by first | exact Ld.hasBlk rfl | exact Ld.rs (by assumption) (getMap (by omega)) | exact Ld.rds (by assumption) (getMap (by omega)) | exact Ld.hasSl (getMap (by omega)) | exact Ld.hasBlkAt (getMap (by omega))) ?_ | refine QOk.idx1 rfl rfl rfl (by omega) (by first | exact AOk.hasSl | exact AOk.rs (by assumption) | exact AOk.rds (by assumption) | exact AOk.lit) ?_ | refine QOk.loadRow rfl rfl LdN.hasBlk rfl ?_ | refine QOk.toStr rfl rfl rfl rfl (by first | exact Rs.rds (by assumption) | exact Rds.up (by assumption) | exact Rds.hasSl (by omega) (by omega) (by first | rfl | (simp; done) | (simp; omega))) ?_)
        | (show GJ _ _ _ _ _ _ _; first | (apply GJ.and; exact rfl; intro hg) | (apply GJ.or; exact rfl; intro hg) | refine GJ.t (by omega) ?_ | refine GJ.f (by omega) ?_ | refine GJ.ft (by omega) ?_ | refine GJ.ff (by omega) ?_)
        | (show Br _ _ _; first | with_reducible refine Br.tt ?_ | with_reducible refine Br.ff ?_ | with_reducible refine Br.nt ?_ | with_reducible refine Br.nf ?_ | refine Br.t (by omega) ?_ | refine Br.f (by omega) ?_)
        | (show CodeOk _ _ _ _ _ _; refine CodeOk.drawnAuto rfl (by kernel_rfl) rfl (by kernel_rfl) ?_))
      refine Wk.backB ?_ (by repeat (first | exact Sup.all _ | exact Sup.nil _ | refine Sup.cons (by first | exact Take.hit _ _ | exact Take.miss _ (Take.hit _ _) | exact Take.miss _ (Take.miss _ (Take.hit _ _)) | exact Take.miss _ (Take.miss _ (Take.miss _ (Take.hit _ _))) | exact Take.miss _ (Take.miss _ (Take.miss _ (Take.miss _ (Take.hit _ _)))) | exact Take.miss _ (Take.miss _ (Take.miss _ (Take.miss _ (Take.miss _ (Take.hit _ _))))) | exact Take.miss _ (Take.miss _ (Take.miss _ (Take.miss _ (Take.miss _ (Take.miss _ (Take.hit _ _))))))) ?_ | refine Sup.nilc ?_ | refine Sup.drop _ ?_)) (.refl _) hk
      rw [decide_eq_true_iff]
      unfold foldZ
      split <;> omega
    · repeat (first
        | refine Stop.mk ?_
        | (show _ ∧ _; first | exact ⟨rfl, rfl, rfl⟩ | refine And.intro (by first | omega | exact u8_range _ | exact add_u8 _ _ (by omega)) ?_ | refine And.intro (inferInstanceAs (Suf _ _)) ?_)
        | (show OpOk _ _ _ _ _ _ _; first
            | refine OpOk.load rfl rfl (by first | exact Ld.hasBlk rfl | exact Ld.rs (by assumption) (getMap (by omega)) | exact Ld.rds (by assumption) (getMap (by omega)) | exact Ld.hasSl (getMap (by omega)) | exact Ld.hasBlkAt (getMap (by omega))) ?_
            | refine OpOk.loadRow rfl rfl LdN.hasBlk rfl ?_
            | refine OpOk.store rfl rfl rfl rfl (by repeat (first | exact SetR.hit _ _ _ | apply SetR.miss)) ?_
            | refine OpOk.storeRow rfl rfl rfl rfl (by rfl) rfl ?_
            | refine OpOk.idx1 rfl rfl rfl (by omega) (by first | exact AOk.hasSl | exact AOk.rs (by assumption) | exact AOk.rds (by assumption) | exact AOk.lit) ?_
            | refine OpOk.alloc rfl (fun b => ?_)
            | refine OpOk.box rfl (fun b => ?_)
            | refine OpOk.build rfl rfl (by repeat (first | exact Nf.nil | apply Nf.cons)) ?_
            | refine OpOk.buildSlice1 (by rfl) (by rfl) (by rfl) (by rfl) (by rfl) (fun b => ?_)
            | refine OpOk.toStr rfl rfl rfl rfl (by first | exact Rs.rds (by assumption) | exact Rds.up (by assumption) | exact Rds.hasSl (by omega) (by omega) (by first | rfl | (simp; done) | (simp; omega))) ?_
            | refine OpOk.make1 rfl rfl rfl (by omega) (fun b => ?_)
            | refine OpOk.append1 rfl rfl rfl rfl rfl rfl (by omega) (fun a' c' hc1 hc2 => ?_)
            | refine OpOk.append0 rfl rfl rfl rfl rfl rfl (by omega) (fun a' c' hc1 hc2 => ?_)
            | refine OpOk.appendE rfl rfl rfl rfl (by first | exact Rs.rds (by assumption) | exact Rds.up (by assumption) | exact Rds.hasSl (by omega) (by omega) (by first | rfl | (simp; done) | (simp; omega))) (one_u8 _) (by omega) (fun a' c' hc1 hc2 => ?_)
            | refine OpOk.append rfl rfl rfl rfl (by first | exact Rs.rds (by assumption) | exact Rds.up (by assumption) | exact Rds.hasSl (by omega) (by omega) (by first | rfl | (simp; done) | (simp; omega))) (one_u8 _) (by omega) (fun a' c' hc1 hc2 => ?_))
        | (show QOk _ _ _ _ _ _ _; first | refine QOk.load rfl rfl (by first | exact Ld.hasBlk rfl | exact Ld.rs (by assumption) (getMap (by omega)) | exact Ld.rds (by assumption) (getMap (by omega)) | exact Ld.hasSl (getMap (by omega)) | exact Ld.hasBlkAt (getMap (by omega))) ?_ | refine QOk.idx1 rfl rfl rfl (by omega) (by first | exact AOk.hasSl | exact AOk.rs (by assumption) | exact AOk.rds (by assumption) | exact AOk.lit) ?_ | refine QOk.loadRow rfl rfl LdN.hasBlk rfl ?_ | refine QOk.toStr rfl rfl rfl rfl (by first | exact Rs.rds (by assumption) | exact Rds.up (by assumption) | exact Rds.hasSl (by omega) (by omega) (by first | rfl | (simp; done) | (simp; omega))) ?_)
        | (show GJ _ _ _ _ _ _ _; first | (apply GJ.and; exact rfl; intro hg) | (apply GJ.or; exact rfl; intro hg) | refine GJ.t (by omega) ?_ | refine GJ.f (by omega) ?_ | refine GJ.ft (by omega) ?_ | refine GJ.ff (by omega) ?_)
        | (show Br _ _ _; first | with_reducible refine Br.tt ?_ | with_reducible refine Br.ff ?_ | with_reducible refine Br.nt ?_ | with_reducible refine Br.nf ?_ | refine Br.t (by omega) ?_ | refine Br.f (by omega) ?_)
        | (show CodeOk _ _ _ _ _ _; refine CodeOk.drawnAuto rfl (by kernel_rfl) rfl (by kernel_rfl) ?_))
      refine Wk.backB ?_ (by repeat (first | exact Sup.all _ | exact Sup.nil _ | refine Sup.cons (by first | exact Take.hit _ _ | exact Take.miss _ (Take.hit _ _) | exact Take.miss _ (Take.miss _ (Take.hit _ _)) | exact Take.miss _ (Take.miss _ (Take.miss _ (Take.hit _ _))) | exact Take.miss _ (Take.miss _ (Take.miss _ (Take.miss _ (Take.hit _ _)))) | exact Take.miss _ (Take.miss _ (Take.miss _ (Take.miss _ (Take.miss _ (Take.hit _ _))))) | exact Take.miss _ (Take.miss _ (Take.miss _ (Take.miss _ (Take.miss _ (Take.miss _ (Take.hit _ _))))))) ?_ | refine Sup.nilc ?_ | refine Sup.drop _ ?_)) (.refl _) hk
      rw [decide_eq_true_iff]
      unfold foldZ
      split <;> omega
theorem lebOne_ok {n c : Nat} {a : Option Addr} {l : List UInt8} (hr : Bys ro a n c l) (hk : K (.bool true) ro own) : CallOk Try.prog 10 #[.slice a n c] ro own K := by
  have hl := hr.n
  refine CallOk.back ?_
  refine CallOk.intro (args := [_]) (rs := [_]) T_ok Try.func10 Try.call10 rfl rfl (by kernel_rfl) rfl rfl ?_
  repeat (first
    | refine Stop.mk ?_
    | (show _ ∧ _; first | exact ⟨rfl, rfl, rfl⟩ | refine And.intro (by first | omega | exact u8_range _ | exact add_u8 _ _ (by omega)) ?_ | refine And.intro (inferInstanceAs (Suf _ _)) ?_)
    | (show OpOk _ _ _ _ _ _ _; first
        | refine OpOk.load rfl rfl (by first | exact Ld.hasBlk rfl | exact Ld.rs (by assumption) (getMap (by omega)) | exact Ld.rds (by assumption) (getMap (by omega)) | exact Ld.hasSl (getMap (by omega)) | exact Ld.hasBlkAt (getMap (by omega))) ?_
        | refine OpOk.loadRow rfl rfl LdN.hasBlk rfl ?_
        | refine OpOk.store rfl rfl rfl rfl (by repeat (first | exact SetR.hit _ _ _ | apply SetR.miss)) ?_
        | refine OpOk.storeRow rfl rfl rfl rfl (by rfl) rfl ?_
        | refine OpOk.idx1 rfl rfl rfl (by omega) (by first | exact AOk.hasSl | exact AOk.rs (by assumption) | exact AOk.rds (by assumption) | exact AOk.lit) ?_
        | refine OpOk.alloc rfl (fun b => ?_)
        | refine OpOk.box rfl (fun b => ?_)
        | refine OpOk.build rfl rfl (by repeat (first | exact Nf.nil | apply Nf.cons)) ?_
        | refine OpOk.buildSlice1 (by rfl) (by rfl) (by rfl) (by rfl) (by rfl) (fun b => ?_)
        | refine OpOk.toStr rfl rfl rfl rfl (by first | exact Rs.rds (by assumption) | exact Rds.up (by assumption) | exact Rds.hasSl (by omega) (by omega) (by first | rfl | (simp; done) | (simp; omega))) ?_
        | refine OpOk.make1 rfl rfl rfl (by omega) (fun b => ?_)
        | refine OpOk.append1 rfl rfl rfl rfl rfl rfl (by omega) (fun a' c' hc1 hc2 => ?_)
        | refine OpOk.append0 rfl rfl rfl rfl rfl rfl (by omega) (fun a' c' hc1 hc2 => ?_)
        | refine OpOk.appendE rfl rfl rfl rfl (by first | exact Rs.rds (by assumption) | exact Rds.up (by assumption) | exact Rds.hasSl (by omega) (by omega) (by first | rfl | (simp; done) | (simp; omega))) (one_u8 _) (by omega) (fun a' c' hc1 hc2 => ?_)
        | refine OpOk.append rfl rfl rfl rfl (by first | exact Rs.rds (by assumption) | exact Rds.up (by assumption) | exact Rds.hasSl (by omega) (by omega) (by first | rfl | (simp; done) | (simp; omega))) (one_u8 _) (by omega) (fun a' c' hc1 hc2 => ?_))
    | (show QOk _ _ _ _ _ _ _; first | refine QOk.load rfl rfl (by first | exact Ld.hasBlk rfl | exact Ld.rs (by assumption) (getMap (by omega)) | exact Ld.rds (by assumption) (getMap (by omega)) | exact Ld.hasSl (getMap (by omega)) | exact Ld.hasBlkAt (getMap (by omega))) ?_ | refine QOk.idx1 rfl rfl rfl (by omega) (by first | exact AOk.hasSl | exact AOk.rs (by assumption) | exact AOk.rds (by assumption) | exact AOk.lit) ?_ | refine QOk.loadRow rfl rfl LdN.hasBlk rfl ?_ | refine QOk.toStr rfl rfl rfl rfl (by first | exact Rs.rds (by assumption) | exact Rds.up (by assumption) | exact Rds.hasSl (by omega) (by omega) (by first | rfl | (simp; done) | (simp; omega))) ?_)
    | (show GJ _ _ _ _ _ _ _; first | (apply GJ.and; exact rfl; intro hg) | (apply GJ.or; exact rfl; intro hg) | refine GJ.t (by omega) ?_ | refine GJ.f (by omega) ?_ | refine GJ.ft (by omega) ?_ | refine GJ.ff (by omega) ?_)
    | (show Br _ _ _; first | with_reducible refine Br.tt ?_ | with_reducible refine Br.ff ?_ | with_reducible refine Br.nt ?_ | with_reducible refine Br.nf ?_ | refine Br.t (by omega) ?_ | refine Br.f (by omega) ?_)
    | (show CodeOk _ _ _ _ _ _; refine CodeOk.drawnAuto rfl (by kernel_rfl) rfl (by kernel_rfl) ?_))
  refine folds_ok ?_
  repeat (first
    | refine Stop.mk ?_
    | (show _ ∧ _; first | exact ⟨rfl, rfl, rfl⟩ | refine And.intro (by first | omega | exact u8_range _ | exact add_u8 _ _ (by omega)) ?_ | refine And.intro (inferInstanceAs (Suf _ _)) ?_)
    | (show OpOk _ _ _ _ _ _ _; first
        | refine OpOk.load rfl rfl (by first | exact Ld.hasBlk rfl | exact Ld.rs (by assumption) (getMap (by omega)) | exact Ld.rds (by assumption) (getMap (by omega)) | exact Ld.hasSl (getMap (by omega)) | exact Ld.hasBlkAt (getMap (by omega))) ?_
        | refine OpOk.loadRow rfl rfl LdN.hasBlk rfl ?_
        | refine OpOk.store rfl rfl rfl rfl (by repeat (first | exact SetR.hit _ _ _ | apply SetR.miss)) ?_
        | refine OpOk.storeRow rfl rfl rfl rfl (by rfl) rfl ?_
        | refine OpOk.idx1 rfl rfl rfl (by omega) (by first | exact AOk.hasSl | exact AOk.rs (by assumption) | exact AOk.rds (by assumption) | exact AOk.lit) ?_
        | refine OpOk.alloc rfl (fun b => ?_)
        | refine OpOk.box rfl (fun b => ?_)
        | refine OpOk.build rfl rfl (by repeat (first | exact Nf.nil | apply Nf.cons)) ?_
        | refine OpOk.buildSlice1 (by rfl) (by rfl) (by rfl) (by rfl) (by rfl) (fun b => ?_)
        | refine OpOk.toStr rfl rfl rfl rfl (by first | exact Rs.rds (by assumption) | exact Rds.up (by assumption) | exact Rds.hasSl (by omega) (by omega) (by first | rfl | (simp; done) | (simp; omega))) ?_
        | refine OpOk.make1 rfl rfl rfl (by omega) (fun b => ?_)
        | refine OpOk.append1 rfl rfl rfl rfl rfl rfl (by omega) (fun a' c' hc1 hc2 => ?_)
        | refine OpOk.append0 rfl rfl rfl rfl rfl rfl (by omega) (fun a' c' hc1 hc2 => ?_)
        | refine OpOk.appendE rfl rfl rfl rfl (by first | exact Rs.rds (by assumption) | exact Rds.up (by assumption) | exact Rds.hasSl (by omega) (by omega) (by first | rfl | (simp; done) | (simp; omega))) (one_u8 _) (by omega) (fun a' c' hc1 hc2 => ?_)
        | refine OpOk.append rfl rfl rfl rfl (by first | exact Rs.rds (by assumption) | exact Rds.up (by assumption) | exact Rds.hasSl (by omega) (by omega) (by first | rfl | (simp; done) | (simp; omega))) (one_u8 _) (by omega) (fun a' c' hc1 hc2 => ?_))
    | (show QOk _ _ _ _ _ _ _; first | refine QOk.load rfl rfl (by first | exact Ld.hasBlk rfl | exact Ld.rs (by assumption) (getMap (by omega)) | exact Ld.rds (by assumption) (getMap (by omega)) | exact Ld.hasSl (getMap (by omega)) | exact Ld.hasBlkAt (getMap (by omega))) ?_ | refine QOk.idx1 rfl rfl rfl (by omega) (by first | exact AOk.hasSl | exact AOk.rs (by assumption) | exact AOk.rds (by assumption) | exact AOk.lit) ?_ | refine QOk.loadRow rfl rfl LdN.hasBlk rfl ?_ | refine QOk.toStr rfl rfl rfl rfl (by first | exact Rs.rds (by assumption) | exact Rds.up (by assumption) | exact Rds.hasSl (by omega) (by omega) (by first | rfl | (simp; done) | (simp; omega))) ?_)
    | (show GJ _ _ _ _ _ _ _; first | (apply GJ.and; exact rfl; intro hg) | (apply GJ.or; exact rfl; intro hg) | refine GJ.t (by omega) ?_ | refine GJ.f (by omega) ?_ | refine GJ.ft (by omega) ?_ | refine GJ.ff (by omega) ?_)
    | (show Br _ _ _; first | with_reducible refine Br.tt ?_ | with_reducible refine Br.ff ?_ | with_reducible refine Br.nt ?_ | with_reducible refine Br.nf ?_ | refine Br.t (by omega) ?_ | refine Br.f (by omega) ?_)
    | (show CodeOk _ _ _ _ _ _; refine CodeOk.drawnAuto rfl (by kernel_rfl) rfl (by kernel_rfl) ?_))
  refine Br.cases (fun hc => ?_) (fun hc => ?_)
  · repeat (first
      | refine Stop.mk ?_
      | (show _ ∧ _; first | exact ⟨rfl, rfl, rfl⟩ | refine And.intro (by first | omega | exact u8_range _ | exact add_u8 _ _ (by omega)) ?_ | refine And.intro (inferInstanceAs (Suf _ _)) ?_)
      | (show OpOk _ _ _ _ _ _ _; first
          | refine OpOk.load rfl rfl (by first | exact Ld.hasBlk rfl | exact Ld.rs (by assumption) (getMap (by omega)) | exact Ld.rds (by assumption) (getMap (by omega)) | exact Ld.hasSl (getMap (by omega)) | exact Ld.hasBlkAt (getMap (by omega))) ?_
          | refine OpOk.loadRow rfl rfl LdN.hasBlk rfl ?_
          | refine OpOk.store rfl rfl rfl rfl (by repeat (first | exact SetR.hit _ _ _ | apply SetR.miss)) ?_
          | refine OpOk.storeRow rfl rfl rfl rfl (by rfl) rfl ?_
          | refine OpOk.idx1 rfl rfl rfl (by omega) (by first | exact AOk.hasSl | exact AOk.rs (by assumption) | exact AOk.rds (by assumption) | exact AOk.lit) ?_
          | refine OpOk.alloc rfl (fun b => ?_)
          | refine OpOk.box rfl (fun b => ?_)
          | refine OpOk.build rfl rfl (by repeat (first | exact Nf.nil | apply Nf.cons)) ?_
          | refine OpOk.buildSlice1 (by rfl) (by rfl) (by rfl) (by rfl) (by rfl) (fun b => ?_)
          | refine OpOk.toStr rfl rfl rfl rfl (by first | exact Rs.rds (by assumption) | exact Rds.up (by assumption) | exact Rds.hasSl (by omega) (by omega) (by first | rfl | (simp; done) | (simp; omega))) ?_
          | refine OpOk.make1 rfl rfl rfl (by omega) (fun b => ?_)
          | refine OpOk.append1 rfl rfl rfl rfl rfl rfl (by omega) (fun a' c' hc1 hc2 => ?_)
          | refine OpOk.append0 rfl rfl rfl rfl rfl rfl (by omega) (fun a' c' hc1 hc2 => ?_)
          | refine OpOk.appendE rfl rfl rfl rfl (by first | exact Rs.rds (by assumption) | exact Rds.up (by assumption) | exact Rds.hasSl (by omega) (by omega) (by first | rfl | (simp; done) | (simp; omega))) (one_u8 _) (by omega) (fun a' c' hc1 hc2 => ?_)
          | refine OpOk.append rfl rfl rfl rfl (by first | exact Rs.rds (by assumption) | exact Rds.up (by assumption) | exact Rds.hasSl (by omega) (by omega) (by first | rfl | (simp; done) | (simp; omega))) (one_u8 _) (by omega) (fun a' c' hc1 hc2 => ?_))
      | (show QOk _ _ _ _ _ _ _; first | refine QOk.load rfl rfl (by first | exact Ld.hasBlk rfl | exact Ld.rs (by assumption) (getMap (by omega)) | exact Ld.rds (by assumption) (getMap (by omega)) | exact Ld.hasSl (getMap (by omega)) | exact Ld.hasBlkAt (getMap (by omega))) ?_ | refine QOk.idx1 rfl rfl rfl (by omega) (by first | exact AOk.hasSl | exact AOk.rs (by assumption) | exact AOk.rds (by assumption) | exact AOk.lit) ?_ | refine QOk.loadRow rfl rfl LdN.hasBlk rfl ?_ | refine QOk.toStr rfl rfl rfl rfl (by first | exact Rs.rds (by assumption) | exact Rds.up (by assumption) | exact Rds.hasSl (by omega) (by omega) (by first | rfl | (simp; done) | (simp; omega))) ?_)
      | (show GJ _ _ _ _ _ _ _; first | (apply GJ.and; exact rfl; intro hg) | (apply GJ.or; exact rfl; intro hg) | refine GJ.t (by omega) ?_ | refine GJ.f (by omega) ?_ | refine GJ.ft (by omega) ?_ | refine GJ.ff (by omega) ?_)
      | (show Br _ _ _; first | with_reducible refine Br.tt ?_ | with_reducible refine Br.ff ?_ | with_reducible refine Br.nt ?_ | with_reducible refine Br.nf ?_ | refine Br.t (by omega) ?_ | refine Br.f (by omega) ?_)
      | (show CodeOk _ _ _ _ _ _; refine CodeOk.drawnAuto rfl (by kernel_rfl) rfl (by kernel_rfl) ?_))
    exact Wk.back1 (by repeat (first | exact Sup.all _ | exact Sup.nil _ | refine Sup.cons (by first | exact Take.hit _ _ | exact Take.miss _ (Take.hit _ _) | exact Take.miss _ (Take.miss _ (Take.hit _ _)) | exact Take.miss _ (Take.miss _ (Take.miss _ (Take.hit _ _))) | exact Take.miss _ (Take.miss _ (Take.miss _ (Take.miss _ (Take.hit _ _)))) | exact Take.miss _ (Take.miss _ (Take.miss _ (Take.miss _ (Take.miss _ (Take.hit _ _))))) | exact Take.miss _ (Take.miss _ (Take.miss _ (Take.miss _ (Take.miss _ (Take.miss _ (Take.hit _ _))))))) ?_ | refine Sup.nilc ?_ | refine Sup.drop _ ?_)) (.refl _) hk
  repeat (first
    | refine Stop.mk ?_
    | (show _ ∧ _; first | exact ⟨rfl, rfl, rfl⟩ | refine And.intro (by first | omega | exact u8_range _ | exact add_u8 _ _ (by omega)) ?_ | refine And.intro (inferInstanceAs (Suf _ _)) ?_)
    | (show OpOk _ _ _ _ _ _ _; first
        | refine OpOk.load rfl rfl (by first | exact Ld.hasBlk rfl | exact Ld.rs (by assumption) (getMap (by omega)) | exact Ld.rds (by assumption) (getMap (by omega)) | exact Ld.hasSl (getMap (by omega)) | exact Ld.hasBlkAt (getMap (by omega))) ?_
        | refine OpOk.loadRow rfl rfl LdN.hasBlk rfl ?_
        | refine OpOk.store rfl rfl rfl rfl (by repeat (first | exact SetR.hit _ _ _ | apply SetR.miss)) ?_
        | refine OpOk.storeRow rfl rfl rfl rfl (by rfl) rfl ?_
        | refine OpOk.idx1 rfl rfl rfl (by omega) (by first | exact AOk.hasSl | exact AOk.rs (by assumption) | exact AOk.rds (by assumption) | exact AOk.lit) ?_
        | refine OpOk.alloc rfl (fun b => ?_)
        | refine OpOk.box rfl (fun b => ?_)
        | refine OpOk.build rfl rfl (by repeat (first | exact Nf.nil | apply Nf.cons)) ?_
        | refine OpOk.buildSlice1 (by rfl) (by rfl) (by rfl) (by rfl) (by rfl) (fun b => ?_)
        | refine OpOk.toStr rfl rfl rfl rfl (by first | exact Rs.rds (by assumption) | exact Rds.up (by assumption) | exact Rds.hasSl (by omega) (by omega) (by first | rfl | (simp; done) | (simp; omega))) ?_
        | refine OpOk.make1 rfl rfl rfl (by omega) (fun b => ?_)
        | refine OpOk.append1 rfl rfl rfl rfl rfl rfl (by omega) (fun a' c' hc1 hc2 => ?_)
        | refine OpOk.append0 rfl rfl rfl rfl rfl rfl (by omega) (fun a' c' hc1 hc2 => ?_)
        | refine OpOk.appendE rfl rfl rfl rfl (by first | exact Rs.rds (by assumption) | exact Rds.up (by assumption) | exact Rds.hasSl (by omega) (by omega) (by first | rfl | (simp; done) | (simp; omega))) (one_u8 _) (by omega) (fun a' c' hc1 hc2 => ?_)
        | refine OpOk.append rfl rfl rfl rfl (by first | exact Rs.rds (by assumption) | exact Rds.up (by assumption) | exact Rds.hasSl (by omega) (by omega) (by first | rfl | (simp; done) | (simp; omega))) (one_u8 _) (by omega) (fun a' c' hc1 hc2 => ?_))
    | (show QOk _ _ _ _ _ _ _; first | refine QOk.load rfl rfl (by first | exact Ld.hasBlk rfl | exact Ld.rs (by assumption) (getMap (by omega)) | exact Ld.rds (by assumption) (getMap (by omega)) | exact Ld.hasSl (getMap (by omega)) | exact Ld.hasBlkAt (getMap (by omega))) ?_ | refine QOk.idx1 rfl rfl rfl (by omega) (by first | exact AOk.hasSl | exact AOk.rs (by assumption) | exact AOk.rds (by assumption) | exact AOk.lit) ?_ | refine QOk.loadRow rfl rfl LdN.hasBlk rfl ?_ | refine QOk.toStr rfl rfl rfl rfl (by first | exact Rs.rds (by assumption) | exact Rds.up (by assumption) | exact Rds.hasSl (by omega) (by omega) (by first | rfl | (simp; done) | (simp; omega))) ?_)
    | (show GJ _ _ _ _ _ _ _; first | (apply GJ.and; exact rfl; intro hg) | (apply GJ.or; exact rfl; intro hg) | refine GJ.t (by omega) ?_ | refine GJ.f (by omega) ?_ | refine GJ.ft (by omega) ?_ | refine GJ.ff (by omega) ?_)
    | (show Br _ _ _; first | with_reducible refine Br.tt ?_ | with_reducible refine Br.ff ?_ | with_reducible refine Br.nt ?_ | with_reducible refine Br.nf ?_ | refine Br.t (by omega) ?_ | refine Br.f (by omega) ?_)
    | (show CodeOk _ _ _ _ _ _; refine CodeOk.drawnAuto rfl (by kernel_rfl) rfl (by kernel_rfl) ?_))
  refine new_ok (fun b1 => ?_)
  repeat (first
    | refine Stop.mk ?_
    | (show _ ∧ _; first | exact ⟨rfl, rfl, rfl⟩ | refine And.intro (by first | omega | exact u8_range _ | exact add_u8 _ _ (by omega)) ?_ | refine And.intro (inferInstanceAs (Suf _ _)) ?_)
    | (show OpOk _ _ _ _ _ _ _; first
        | refine OpOk.load rfl rfl (by first | exact Ld.hasBlk rfl | exact Ld.rs (by assumption) (getMap (by omega)) | exact Ld.rds (by assumption) (getMap (by omega)) | exact Ld.hasSl (getMap (by omega)) | exact Ld.hasBlkAt (getMap (by omega))) ?_
        | refine OpOk.loadRow rfl rfl LdN.hasBlk rfl ?_
        | refine OpOk.store rfl rfl rfl rfl (by repeat (first | exact SetR.hit _ _ _ | apply SetR.miss)) ?_
        | refine OpOk.storeRow rfl rfl rfl rfl (by rfl) rfl ?_
        | refine OpOk.idx1 rfl rfl rfl (by omega) (by first | exact AOk.hasSl | exact AOk.rs (by assumption) | exact AOk.rds (by assumption) | exact AOk.lit) ?_
        | refine OpOk.alloc rfl (fun b => ?_)
        | refine OpOk.box rfl (fun b => ?_)
        | refine OpOk.build rfl rfl (by repeat (first | exact Nf.nil | apply Nf.cons)) ?_
        | refine OpOk.buildSlice1 (by rfl) (by rfl) (by rfl) (by rfl) (by rfl) (fun b => ?_)
        | refine OpOk.toStr rfl rfl rfl rfl (by first | exact Rs.rds (by assumption) | exact Rds.up (by assumption) | exact Rds.hasSl (by omega) (by omega) (by first | rfl | (simp; done) | (simp; omega))) ?_
        | refine OpOk.make1 rfl rfl rfl (by omega) (fun b => ?_)
        | refine OpOk.append1 rfl rfl rfl rfl rfl rfl (by omega) (fun a' c' hc1 hc2 => ?_)
        | refine OpOk.append0 rfl rfl rfl rfl rfl rfl (by omega) (fun a' c' hc1 hc2 => ?_)
        | refine OpOk.appendE rfl rfl rfl rfl (by first | exact Rs.rds (by assumption) | exact Rds.up (by assumption) | exact Rds.hasSl (by omega) (by omega) (by first | rfl | (simp; done) | (simp; omega))) (one_u8 _) (by omega) (fun a' c' hc1 hc2 => ?_)
        | refine OpOk.append rfl rfl rfl rfl (by first | exact Rs.rds (by assumption) | exact Rds.up (by assumption) | exact Rds.hasSl (by omega) (by omega) (by first | rfl | (simp; done) | (simp; omega))) (one_u8 _) (by omega) (fun a' c' hc1 hc2 => ?_))
    | (show QOk _ _ _ _ _ _ _; first | refine QOk.load rfl rfl (by first | exact Ld.hasBlk rfl | exact Ld.rs (by assumption) (getMap (by omega)) | exact Ld.rds (by assumption) (getMap (by omega)) | exact Ld.hasSl (getMap (by omega)) | exact Ld.hasBlkAt (getMap (by omega))) ?_ | refine QOk.idx1 rfl rfl rfl (by omega) (by first | exact AOk.hasSl | exact AOk.rs (by assumption) | exact AOk.rds (by assumption) | exact AOk.lit) ?_ | refine QOk.loadRow rfl rfl LdN.hasBlk rfl ?_ | refine QOk.toStr rfl rfl rfl rfl (by first | exact Rs.rds (by assumption) | exact Rds.up (by assumption) | exact Rds.hasSl (by omega) (by omega) (by first | rfl | (simp; done) | (simp; omega))) ?_)
    | (show GJ _ _ _ _ _ _ _; first | (apply GJ.and; exact rfl; intro hg) | (apply GJ.or; exact rfl; intro hg) | refine GJ.t (by omega) ?_ | refine GJ.f (by omega) ?_ | refine GJ.ft (by omega) ?_ | refine GJ.ff (by omega) ?_)
    | (show Br _ _ _; first | with_reducible refine Br.tt ?_ | with_reducible refine Br.ff ?_ | with_reducible refine Br.nt ?_ | with_reducible refine Br.nf ?_ | refine Br.t (by omega) ?_ | refine Br.f (by omega) ?_)
    | (show CodeOk _ _ _ _ _ _; refine CodeOk.drawnAuto rfl (by kernel_rfl) rfl (by kernel_rfl) ?_))
  refine readR (k := 0) hr (by omega) (by omega) (fun v many e h1 h2 h3 h4 => ?_)
  repeat (first
    | refine Stop.mk ?_
    | (show _ ∧ _; first | exact ⟨rfl, rfl, rfl⟩ | refine And.intro (by first | omega | exact u8_range _ | exact add_u8 _ _ (by omega)) ?_ | refine And.intro (inferInstanceAs (Suf _ _)) ?_)
    | (show OpOk _ _ _ _ _ _ _; first
        | refine OpOk.load rfl rfl (by first | exact Ld.hasBlk rfl | exact Ld.rs (by assumption) (getMap (by omega)) | exact Ld.rds (by assumption) (getMap (by omega)) | exact Ld.hasSl (getMap (by omega)) | exact Ld.hasBlkAt (getMap (by omega))) ?_
        | refine OpOk.loadRow rfl rfl LdN.hasBlk rfl ?_
        | refine OpOk.store rfl rfl rfl rfl (by repeat (first | exact SetR.hit _ _ _ | apply SetR.miss)) ?_
        | refine OpOk.storeRow rfl rfl rfl rfl (by rfl) rfl ?_
        | refine OpOk.idx1 rfl rfl rfl (by omega) (by first | exact AOk.hasSl | exact AOk.rs (by assumption) | exact AOk.rds (by assumption) | exact AOk.lit) ?_
        | refine OpOk.alloc rfl (fun b => ?_)
        | refine OpOk.box rfl (fun b => ?_)
        | refine OpOk.build rfl rfl (by repeat (first | exact Nf.nil | apply Nf.cons)) ?_
        | refine OpOk.buildSlice1 (by rfl) (by rfl) (by rfl) (by rfl) (by rfl) (fun b => ?_)
        | refine OpOk.toStr rfl rfl rfl rfl (by first | exact Rs.rds (by assumption) | exact Rds.up (by assumption) | exact Rds.hasSl (by omega) (by omega) (by first | rfl | (simp; done) | (simp; omega))) ?_
        | refine OpOk.make1 rfl rfl rfl (by omega) (fun b => ?_)
        | refine OpOk.append1 rfl rfl rfl rfl rfl rfl (by omega) (fun a' c' hc1 hc2 => ?_)
        | refine OpOk.append0 rfl rfl rfl rfl rfl rfl (by omega) (fun a' c' hc1 hc2 => ?_)
        | refine OpOk.appendE rfl rfl rfl rfl (by first | exact Rs.rds (by assumption) | exact Rds.up (by assumption) | exact Rds.hasSl (by omega) (by omega) (by first | rfl | (simp; done) | (simp; omega))) (one_u8 _) (by omega) (fun a' c' hc1 hc2 => ?_)
        | refine OpOk.append rfl rfl rfl rfl (by first | exact Rs.rds (by assumption) | exact Rds.up (by assumption) | exact Rds.hasSl (by omega) (by omega) (by first | rfl | (simp; done) | (simp; omega))) (one_u8 _) (by omega) (fun a' c' hc1 hc2 => ?_))
    | (show QOk _ _ _ _ _ _ _; first | refine QOk.load rfl rfl (by first | exact Ld.hasBlk rfl | exact Ld.rs (by assumption) (getMap (by omega)) | exact Ld.rds (by assumption) (getMap (by omega)) | exact Ld.hasSl (getMap (by omega)) | exact Ld.hasBlkAt (getMap (by omega))) ?_ | refine QOk.idx1 rfl rfl rfl (by omega) (by first | exact AOk.hasSl | exact AOk.rs (by assumption) | exact AOk.rds (by assumption) | exact AOk.lit) ?_ | refine QOk.loadRow rfl rfl LdN.hasBlk rfl ?_ | refine QOk.toStr rfl rfl rfl rfl (by first | exact Rs.rds (by assumption) | exact Rds.up (by assumption) | exact Rds.hasSl (by omega) (by omega) (by first | rfl | (simp; done) | (simp; omega))) ?_)
    | (show GJ _ _ _ _ _ _ _; first | (apply GJ.and; exact rfl; intro hg) | (apply GJ.or; exact rfl; intro hg) | refine GJ.t (by omega) ?_ | refine GJ.f (by omega) ?_ | refine GJ.ft (by omega) ?_ | refine GJ.ff (by omega) ?_)
    | (show Br _ _ _; first | with_reducible refine Br.tt ?_ | with_reducible refine Br.ff ?_ | with_reducible refine Br.nt ?_ | with_reducible refine Br.nf ?_ | refine Br.t (by omega) ?_ | refine Br.f (by omega) ?_)
    | (show CodeOk _ _ _ _ _ _; refine CodeOk.drawnAuto rfl (by kernel_rfl) rfl (by kernel_rfl) ?_))
  refine new_ok (fun b2 => ?_)
  repeat (first
    | refine Stop.mk ?_
    | (show _ ∧ _; first | exact ⟨rfl, rfl, rfl⟩ | refine And.intro (by first | omega | exact u8_range _ | exact add_u8 _ _ (by omega)) ?_ | refine And.intro (inferInstanceAs (Suf _ _)) ?_)
    | (show OpOk _ _ _ _ _ _ _; first
        | refine OpOk.load rfl rfl (by first | exact Ld.hasBlk rfl | exact Ld.rs (by assumption) (getMap (by omega)) | exact Ld.rds (by assumption) (getMap (by omega)) | exact Ld.hasSl (getMap (by omega)) | exact Ld.hasBlkAt (getMap (by omega))) ?_
        | refine OpOk.loadRow rfl rfl LdN.hasBlk rfl ?_
        | refine OpOk.store rfl rfl rfl rfl (by repeat (first | exact SetR.hit _ _ _ | apply SetR.miss)) ?_
        | refine OpOk.storeRow rfl rfl rfl rfl (by rfl) rfl ?_
        | refine OpOk.idx1 rfl rfl rfl (by omega) (by first | exact AOk.hasSl | exact AOk.rs (by assumption) | exact AOk.rds (by assumption) | exact AOk.lit) ?_
        | refine OpOk.alloc rfl (fun b => ?_)
        | refine OpOk.box rfl (fun b => ?_)
        | refine OpOk.build rfl rfl (by repeat (first | exact Nf.nil | apply Nf.cons)) ?_
        | refine OpOk.buildSlice1 (by rfl) (by rfl) (by rfl) (by rfl) (by rfl) (fun b => ?_)
        | refine OpOk.toStr rfl rfl rfl rfl (by first | exact Rs.rds (by assumption) | exact Rds.up (by assumption) | exact Rds.hasSl (by omega) (by omega) (by first | rfl | (simp; done) | (simp; omega))) ?_
        | refine OpOk.make1 rfl rfl rfl (by omega) (fun b => ?_)
        | refine OpOk.append1 rfl rfl rfl rfl rfl rfl (by omega) (fun a' c' hc1 hc2 => ?_)
        | refine OpOk.append0 rfl rfl rfl rfl rfl rfl (by omega) (fun a' c' hc1 hc2 => ?_)
        | refine OpOk.appendE rfl rfl rfl rfl (by first | exact Rs.rds (by assumption) | exact Rds.up (by assumption) | exact Rds.hasSl (by omega) (by omega) (by first | rfl | (simp; done) | (simp; omega))) (one_u8 _) (by omega) (fun a' c' hc1 hc2 => ?_)
        | refine OpOk.append rfl rfl rfl rfl (by first | exact Rs.rds (by assumption) | exact Rds.up (by assumption) | exact Rds.hasSl (by omega) (by omega) (by first | rfl | (simp; done) | (simp; omega))) (one_u8 _) (by omega) (fun a' c' hc1 hc2 => ?_))
    | (show QOk _ _ _ _ _ _ _; first | refine QOk.load rfl rfl (by first | exact Ld.hasBlk rfl | exact Ld.rs (by assumption) (getMap (by omega)) | exact Ld.rds (by assumption) (getMap (by omega)) | exact Ld.hasSl (getMap (by omega)) | exact Ld.hasBlkAt (getMap (by omega))) ?_ | refine QOk.idx1 rfl rfl rfl (by omega) (by first | exact AOk.hasSl | exact AOk.rs (by assumption) | exact AOk.rds (by assumption) | exact AOk.lit) ?_ | refine QOk.loadRow rfl rfl LdN.hasBlk rfl ?_ | refine QOk.toStr rfl rfl rfl rfl (by first | exact Rs.rds (by assumption) | exact Rds.up (by assumption) | exact Rds.hasSl (by omega) (by omega) (by first | rfl | (simp; done) | (simp; omega))) ?_)
    | (show GJ _ _ _ _ _ _ _; first | (apply GJ.and; exact rfl; intro hg) | (apply GJ.or; exact rfl; intro hg) | refine GJ.t (by omega) ?_ | refine GJ.f (by omega) ?_ | refine GJ.ft (by omega) ?_ | refine GJ.ff (by omega) ?_)
    | (show Br _ _ _; first | with_reducible refine Br.tt ?_ | with_reducible refine Br.ff ?_ | with_reducible refine Br.nt ?_ | with_reducible refine Br.nf ?_ | refine Br.t (by omega) ?_ | refine Br.f (by omega) ?_)
    | (show CodeOk _ _ _ _ _ _; refine CodeOk.drawnAuto rfl (by kernel_rfl) rfl (by kernel_rfl) ?_))
  refine readR (k := 0) hr (by omega) (by omega) (fun v' many' e' h5 h6 h7 h8 => ?_)
  rw [List.drop_zero] at h1 h5
  repeat (first
    | refine Stop.mk ?_
    | (show _ ∧ _; first | exact ⟨rfl, rfl, rfl⟩ | refine And.intro (by first | omega | exact u8_range _ | exact add_u8 _ _ (by omega)) ?_ | refine And.intro (inferInstanceAs (Suf _ _)) ?_)
    | (show OpOk _ _ _ _ _ _ _; first
        | refine OpOk.load rfl rfl (by first | exact Ld.hasBlk rfl | exact Ld.rs (by assumption) (getMap (by omega)) | exact Ld.rds (by assumption) (getMap (by omega)) | exact Ld.hasSl (getMap (by omega)) | exact Ld.hasBlkAt (getMap (by omega))) ?_
        | refine OpOk.loadRow rfl rfl LdN.hasBlk rfl ?_
        | refine OpOk.store rfl rfl rfl rfl (by repeat (first | exact SetR.hit _ _ _ | apply SetR.miss)) ?_
        | refine OpOk.storeRow rfl rfl rfl rfl (by rfl) rfl ?_
        | refine OpOk.idx1 rfl rfl rfl (by omega) (by first | exact AOk.hasSl | exact AOk.rs (by assumption) | exact AOk.rds (by assumption) | exact AOk.lit) ?_
        | refine OpOk.alloc rfl (fun b => ?_)
        | refine OpOk.box rfl (fun b => ?_)
        | refine OpOk.build rfl rfl (by repeat (first | exact Nf.nil | apply Nf.cons)) ?_
        | refine OpOk.buildSlice1 (by rfl) (by rfl) (by rfl) (by rfl) (by rfl) (fun b => ?_)
        | refine OpOk.toStr rfl rfl rfl rfl (by first | exact Rs.rds (by assumption) | exact Rds.up (by assumption) | exact Rds.hasSl (by omega) (by omega) (by first | rfl | (simp; done) | (simp; omega))) ?_
        | refine OpOk.make1 rfl rfl rfl (by omega) (fun b => ?_)
        | refine OpOk.append1 rfl rfl rfl rfl rfl rfl (by omega) (fun a' c' hc1 hc2 => ?_)
        | refine OpOk.append0 rfl rfl rfl rfl rfl rfl (by omega) (fun a' c' hc1 hc2 => ?_)
        | refine OpOk.appendE rfl rfl rfl rfl (by first | exact Rs.rds (by assumption) | exact Rds.up (by assumption) | exact Rds.hasSl (by omega) (by omega) (by first | rfl | (simp; done) | (simp; omega))) (one_u8 _) (by omega) (fun a' c' hc1 hc2 => ?_)
        | refine OpOk.append rfl rfl rfl rfl (by first | exact Rs.rds (by assumption) | exact Rds.up (by assumption) | exact Rds.hasSl (by omega) (by omega) (by first | rfl | (simp; done) | (simp; omega))) (one_u8 _) (by omega) (fun a' c' hc1 hc2 => ?_))
    | (show QOk _ _ _ _ _ _ _; first | refine QOk.load rfl rfl (by first | exact Ld.hasBlk rfl | exact Ld.rs (by assumption) (getMap (by omega)) | exact Ld.rds (by assumption) (getMap (by omega)) | exact Ld.hasSl (getMap (by omega)) | exact Ld.hasBlkAt (getMap (by omega))) ?_ | refine QOk.idx1 rfl rfl rfl (by omega) (by first | exact AOk.hasSl | exact AOk.rs (by assumption) | exact AOk.rds (by assumption) | exact AOk.lit) ?_ | refine QOk.loadRow rfl rfl LdN.hasBlk rfl ?_ | refine QOk.toStr rfl rfl rfl rfl (by first | exact Rs.rds (by assumption) | exact Rds.up (by assumption) | exact Rds.hasSl (by omega) (by omega) (by first | rfl | (simp; done) | (simp; omega))) ?_)
    | (show GJ _ _ _ _ _ _ _; first | (apply GJ.and; exact rfl; intro hg) | (apply GJ.or; exact rfl; intro hg) | refine GJ.t (by omega) ?_ | refine GJ.f (by omega) ?_ | refine GJ.ft (by omega) ?_ | refine GJ.ff (by omega) ?_)
    | (show Br _ _ _; first | with_reducible refine Br.tt ?_ | with_reducible refine Br.ff ?_ | with_reducible refine Br.nt ?_ | with_reducible refine Br.nf ?_ | refine Br.t (by omega) ?_ | refine Br.f (by omega) ?_)
    | (show CodeOk _ _ _ _ _ _; refine CodeOk.drawnAuto rfl (by kernel_rfl) rfl (by kernel_rfl) ?_))
  refine Br.cases (fun hd => ?_) (fun hd => ?_)
  · repeat (first
      | refine Stop.mk ?_
      | (show _ ∧ _; first | exact ⟨rfl, rfl, rfl⟩ | refine And.intro (by first | omega | exact u8_range _ | exact add_u8 _ _ (by omega)) ?_ | refine And.intro (inferInstanceAs (Suf _ _)) ?_)
      | (show OpOk _ _ _ _ _ _ _; first
          | refine OpOk.load rfl rfl (by first | exact Ld.hasBlk rfl | exact Ld.rs (by assumption) (getMap (by omega)) | exact Ld.rds (by assumption) (getMap (by omega)) | exact Ld.hasSl (getMap (by omega)) | exact Ld.hasBlkAt (getMap (by omega))) ?_
          | refine OpOk.loadRow rfl rfl LdN.hasBlk rfl ?_
          | refine OpOk.store rfl rfl rfl rfl (by repeat (first | exact SetR.hit _ _ _ | apply SetR.miss)) ?_
          | refine OpOk.storeRow rfl rfl rfl rfl (by rfl) rfl ?_
          | refine OpOk.idx1 rfl rfl rfl (by omega) (by first | exact AOk.hasSl | exact AOk.rs (by assumption) | exact AOk.rds (by assumption) | exact AOk.lit) ?_
          | refine OpOk.alloc rfl (fun b => ?_)
          | refine OpOk.box rfl (fun b => ?_)
          | refine OpOk.build rfl rfl (by repeat (first | exact Nf.nil | apply Nf.cons)) ?_
          | refine OpOk.buildSlice1 (by rfl) (by rfl) (by rfl) (by rfl) (by rfl) (fun b => ?_)
          | refine OpOk.toStr rfl rfl rfl rfl (by first | exact Rs.rds (by assumption) | exact Rds.up (by assumption) | exact Rds.hasSl (by omega) (by omega) (by first | rfl | (simp; done) | (simp; omega))) ?_
          | refine OpOk.make1 rfl rfl rfl (by omega) (fun b => ?_)
          | refine OpOk.append1 rfl rfl rfl rfl rfl rfl (by omega) (fun a' c' hc1 hc2 => ?_)
          | refine OpOk.append0 rfl rfl rfl rfl rfl rfl (by omega) (fun a' c' hc1 hc2 => ?_)
          | refine OpOk.appendE rfl rfl rfl rfl (by first | exact Rs.rds (by assumption) | exact Rds.up (by assumption) | exact Rds.hasSl (by omega) (by omega) (by first | rfl | (simp; done) | (simp; omega))) (one_u8 _) (by omega) (fun a' c' hc1 hc2 => ?_)
          | refine OpOk.append rfl rfl rfl rfl (by first | exact Rs.rds (by assumption) | exact Rds.up (by assumption) | exact Rds.hasSl (by omega) (by omega) (by first | rfl | (simp; done) | (simp; omega))) (one_u8 _) (by omega) (fun a' c' hc1 hc2 => ?_))
      | (show QOk _ _ _ _ _ _ _; first | refine QOk.load rfl rfl (by first | exact Ld.hasBlk rfl | exact Ld.rs (by assumption) (getMap (by omega)) | exact Ld.rds (by assumption) (getMap (by omega)) | exact Ld.hasSl (getMap (by omega)) | exact Ld.hasBlkAt (getMap (by omega))) ?_ | refine QOk.idx1 rfl rfl rfl (by omega) (by first | exact AOk.hasSl | exact AOk.rs (by assumption) | exact AOk.rds (by assumption) | exact AOk.lit) ?_ | refine QOk.loadRow rfl rfl LdN.hasBlk rfl ?_ | refine QOk.toStr rfl rfl rfl rfl (by first | exact Rs.rds (by assumption) | exact Rds.up (by assumption) | exact Rds.hasSl (by omega) (by omega) (by first | rfl | (simp; done) | (simp; omega))) ?_)
      | (show GJ _ _ _ _ _ _ _; first | (apply GJ.and; exact rfl; intro hg) | (apply GJ.or; exact rfl; intro hg) | refine GJ.t (by omega) ?_ | refine GJ.f (by omega) ?_ | refine GJ.ft (by omega) ?_ | refine GJ.ff (by omega) ?_)
      | (show Br _ _ _; first | with_reducible refine Br.tt ?_ | with_reducible refine Br.ff ?_ | with_reducible refine Br.nt ?_ | with_reducible refine Br.nf ?_ | refine Br.t (by omega) ?_ | refine Br.f (by omega) ?_)
      | (show CodeOk _ _ _ _ _ _; refine CodeOk.drawnAuto rfl (by kernel_rfl) rfl (by kernel_rfl) ?_))
    refine Wk.backB ?_ (by repeat (first | exact Sup.all _ | exact Sup.nil _ | refine Sup.cons (by first | exact Take.hit _ _ | exact Take.miss _ (Take.hit _ _) | exact Take.miss _ (Take.miss _ (Take.hit _ _)) | exact Take.miss _ (Take.miss _ (Take.miss _ (Take.hit _ _))) | exact Take.miss _ (Take.miss _ (Take.miss _ (Take.miss _ (Take.hit _ _)))) | exact Take.miss _ (Take.miss _ (Take.miss _ (Take.miss _ (Take.miss _ (Take.hit _ _))))) | exact Take.miss _ (Take.miss _ (Take.miss _ (Take.miss _ (Take.miss _ (Take.miss _ (Take.hit _ _))))))) ?_ | refine Sup.nilc ?_ | refine Sup.drop _ ?_)) (.refl _) hk
    by_cases h21 : e = 21
    · subst h21
      obtain ⟨x, y, hx⟩ := rd_canon _ _ _ h1
      rw [hx] at h5
      cases h5
      simp
    · simp; omega
  · obtain rfl : e = 0 := by omega
    have h9 := rd_true _ _ _ h1
    rw [h9] at h5
    cases h5
    obtain ⟨y, hy1, hy2, hy3, hy4⟩ := enc_of_rd _ _ _ h1
    have hvy : v = y := by simpa using hy1
    subst hvy
    repeat (first
      | refine Stop.mk ?_
      | (show _ ∧ _; first | exact ⟨rfl, rfl, rfl⟩ | refine And.intro (by first | omega | exact u8_range _ | exact add_u8 _ _ (by omega)) ?_ | refine And.intro (inferInstanceAs (Suf _ _)) ?_)
      | (show OpOk _ _ _ _ _ _ _; first
          | refine OpOk.load rfl rfl (by first | exact Ld.hasBlk rfl | exact Ld.rs (by assumption) (getMap (by omega)) | exact Ld.rds (by assumption) (getMap (by omega)) | exact Ld.hasSl (getMap (by omega)) | exact Ld.hasBlkAt (getMap (by omega))) ?_
          | refine OpOk.loadRow rfl rfl LdN.hasBlk rfl ?_
          | refine OpOk.store rfl rfl rfl rfl (by repeat (first | exact SetR.hit _ _ _ | apply SetR.miss)) ?_
          | refine OpOk.storeRow rfl rfl rfl rfl (by rfl) rfl ?_
          | refine OpOk.idx1 rfl rfl rfl (by omega) (by first | exact AOk.hasSl | exact AOk.rs (by assumption) | exact AOk.rds (by assumption) | exact AOk.lit) ?_
          | refine OpOk.alloc rfl (fun b => ?_)
          | refine OpOk.box rfl (fun b => ?_)
          | refine OpOk.build rfl rfl (by repeat (first | exact Nf.nil | apply Nf.cons)) ?_
          | refine OpOk.buildSlice1 (by rfl) (by rfl) (by rfl) (by rfl) (by rfl) (fun b => ?_)
          | refine OpOk.toStr rfl rfl rfl rfl (by first | exact Rs.rds (by assumption) | exact Rds.up (by assumption) | exact Rds.hasSl (by omega) (by omega) (by first | rfl | (simp; done) | (simp; omega))) ?_
          | refine OpOk.make1 rfl rfl rfl (by omega) (fun b => ?_)
          | refine OpOk.append1 rfl rfl rfl rfl rfl rfl (by omega) (fun a' c' hc1 hc2 => ?_)
          | refine OpOk.append0 rfl rfl rfl rfl rfl rfl (by omega) (fun a' c' hc1 hc2 => ?_)
          | refine OpOk.appendE rfl rfl rfl rfl (by first | exact Rs.rds (by assumption) | exact Rds.up (by assumption) | exact Rds.hasSl (by omega) (by omega) (by first | rfl | (simp; done) | (simp; omega))) (one_u8 _) (by omega) (fun a' c' hc1 hc2 => ?_)
          | refine OpOk.append rfl rfl rfl rfl (by first | exact Rs.rds (by assumption) | exact Rds.up (by assumption) | exact Rds.hasSl (by omega) (by omega) (by first | rfl | (simp; done) | (simp; omega))) (one_u8 _) (by omega) (fun a' c' hc1 hc2 => ?_))
      | (show QOk _ _ _ _ _ _ _; first | refine QOk.load rfl rfl (by first | exact Ld.hasBlk rfl | exact Ld.rs (by assumption) (getMap (by omega)) | exact Ld.rds (by assumption) (getMap (by omega)) | exact Ld.hasSl (getMap (by omega)) | exact Ld.hasBlkAt (getMap (by omega))) ?_ | refine QOk.idx1 rfl rfl rfl (by omega) (by first | exact AOk.hasSl | exact AOk.rs (by assumption) | exact AOk.rds (by assumption) | exact AOk.lit) ?_ | refine QOk.loadRow rfl rfl LdN.hasBlk rfl ?_ | refine QOk.toStr rfl rfl rfl rfl (by first | exact Rs.rds (by assumption) | exact Rds.up (by assumption) | exact Rds.hasSl (by omega) (by omega) (by first | rfl | (simp; done) | (simp; omega))) ?_)
      | (show GJ _ _ _ _ _ _ _; first | (apply GJ.and; exact rfl; intro hg) | (apply GJ.or; exact rfl; intro hg) | refine GJ.t (by omega) ?_ | refine GJ.f (by omega) ?_ | refine GJ.ft (by omega) ?_ | refine GJ.ff (by omega) ?_)
      | (show Br _ _ _; first | with_reducible refine Br.tt ?_ | with_reducible refine Br.ff ?_ | with_reducible refine Br.nt ?_ | with_reducible refine Br.nf ?_ | refine Br.t (by omega) ?_ | refine Br.f (by omega) ?_)
      | (show CodeOk _ _ _ _ _ _; refine CodeOk.drawnAuto rfl (by kernel_rfl) rfl (by kernel_rfl) ?_))
    refine put_ok (l := []) (x := v) (Rds.nil _ _ _) (by simp) h3 (fun a1 n1 c1 h11 h12 h13 => ?_)
    rw [List.nil_append] at h11 ⊢
    repeat (first
      | refine Stop.mk ?_
      | (show _ ∧ _; first | exact ⟨rfl, rfl, rfl⟩ | refine And.intro (by first | omega | exact u8_range _ | exact add_u8 _ _ (by omega)) ?_ | refine And.intro (inferInstanceAs (Suf _ _)) ?_)
      | (show OpOk _ _ _ _ _ _ _; first
          | refine OpOk.load rfl rfl (by first | exact Ld.hasBlk rfl | exact Ld.rs (by assumption) (getMap (by omega)) | exact Ld.rds (by assumption) (getMap (by omega)) | exact Ld.hasSl (getMap (by omega)) | exact Ld.hasBlkAt (getMap (by omega))) ?_
          | refine OpOk.loadRow rfl rfl LdN.hasBlk rfl ?_
          | refine OpOk.store rfl rfl rfl rfl (by repeat (first | exact SetR.hit _ _ _ | apply SetR.miss)) ?_
          | refine OpOk.storeRow rfl rfl rfl rfl (by rfl) rfl ?_
          | refine OpOk.idx1 rfl rfl rfl (by omega) (by first | exact AOk.hasSl | exact AOk.rs (by assumption) | exact AOk.rds (by assumption) | exact AOk.lit) ?_
          | refine OpOk.alloc rfl (fun b => ?_)
          | refine OpOk.box rfl (fun b => ?_)
          | refine OpOk.build rfl rfl (by repeat (first | exact Nf.nil | apply Nf.cons)) ?_
          | refine OpOk.buildSlice1 (by rfl) (by rfl) (by rfl) (by rfl) (by rfl) (fun b => ?_)
          | refine OpOk.toStr rfl rfl rfl rfl (by first | exact Rs.rds (by assumption) | exact Rds.up (by assumption) | exact Rds.hasSl (by omega) (by omega) (by first | rfl | (simp; done) | (simp; omega))) ?_
          | refine OpOk.make1 rfl rfl rfl (by omega) (fun b => ?_)
          | refine OpOk.append1 rfl rfl rfl rfl rfl rfl (by omega) (fun a' c' hc1 hc2 => ?_)
          | refine OpOk.append0 rfl rfl rfl rfl rfl rfl (by omega) (fun a' c' hc1 hc2 => ?_)
          | refine OpOk.appendE rfl rfl rfl rfl (by first | exact Rs.rds (by assumption) | exact Rds.up (by assumption) | exact Rds.hasSl (by omega) (by omega) (by first | rfl | (simp; done) | (simp; omega))) (one_u8 _) (by omega) (fun a' c' hc1 hc2 => ?_)
          | refine OpOk.append rfl rfl rfl rfl (by first | exact Rs.rds (by assumption) | exact Rds.up (by assumption) | exact Rds.hasSl (by omega) (by omega) (by first | rfl | (simp; done) | (simp; omega))) (one_u8 _) (by omega) (fun a' c' hc1 hc2 => ?_))
      | (show QOk _ _ _ _ _ _ _; first | refine QOk.load rfl rfl (by first | exact Ld.hasBlk rfl | exact Ld.rs (by assumption) (getMap (by omega)) | exact Ld.rds (by assumption) (getMap (by omega)) | exact Ld.hasSl (getMap (by omega)) | exact Ld.hasBlkAt (getMap (by omega))) ?_ | refine QOk.idx1 rfl rfl rfl (by omega) (by first | exact AOk.hasSl | exact AOk.rs (by assumption) | exact AOk.rds (by assumption) | exact AOk.lit) ?_ | refine QOk.loadRow rfl rfl LdN.hasBlk rfl ?_ | refine QOk.toStr rfl rfl rfl rfl (by first | exact Rs.rds (by assumption) | exact Rds.up (by assumption) | exact Rds.hasSl (by omega) (by omega) (by first | rfl | (simp; done) | (simp; omega))) ?_)
      | (show GJ _ _ _ _ _ _ _; first | (apply GJ.and; exact rfl; intro hg) | (apply GJ.or; exact rfl; intro hg) | refine GJ.t (by omega) ?_ | refine GJ.f (by omega) ?_ | refine GJ.ft (by omega) ?_ | refine GJ.ff (by omega) ?_)
      | (show Br _ _ _; first | with_reducible refine Br.tt ?_ | with_reducible refine Br.ff ?_ | with_reducible refine Br.nt ?_ | with_reducible refine Br.nf ?_ | refine Br.t (by omega) ?_ | refine Br.f (by omega) ?_)
      | (show CodeOk _ _ _ _ _ _; refine CodeOk.drawnAuto rfl (by kernel_rfl) rfl (by kernel_rfl) ?_))
    refine at_ok ?_
    have hle := hr.le
    repeat (first
      | refine Stop.mk ?_
      | (show _ ∧ _; first | exact ⟨rfl, rfl, rfl⟩ | refine And.intro (by first | omega | exact u8_range _ | exact add_u8 _ _ (by omega)) ?_ | refine And.intro (inferInstanceAs (Suf _ _)) ?_)
      | (show OpOk _ _ _ _ _ _ _; first
          | refine OpOk.load rfl rfl (by first | exact Ld.hasBlk rfl | exact Ld.rs (by assumption) (getMap (by omega)) | exact Ld.rds (by assumption) (getMap (by omega)) | exact Ld.hasSl (getMap (by omega)) | exact Ld.hasBlkAt (getMap (by omega))) ?_
          | refine OpOk.loadRow rfl rfl LdN.hasBlk rfl ?_
          | refine OpOk.store rfl rfl rfl rfl (by repeat (first | exact SetR.hit _ _ _ | apply SetR.miss)) ?_
          | refine OpOk.storeRow rfl rfl rfl rfl (by rfl) rfl ?_
          | refine OpOk.idx1 rfl rfl rfl (by omega) (by first | exact AOk.hasSl | exact AOk.rs (by assumption) | exact AOk.rds (by assumption) | exact AOk.lit) ?_
          | refine OpOk.alloc rfl (fun b => ?_)
          | refine OpOk.box rfl (fun b => ?_)
          | refine OpOk.build rfl rfl (by repeat (first | exact Nf.nil | apply Nf.cons)) ?_
          | refine OpOk.buildSlice1 (by rfl) (by rfl) (by rfl) (by rfl) (by rfl) (fun b => ?_)
          | refine OpOk.toStr rfl rfl rfl rfl (by first | exact Rs.rds (by assumption) | exact Rds.up (by assumption) | exact Rds.hasSl (by omega) (by omega) (by first | rfl | (simp; done) | (simp; omega))) ?_
          | refine OpOk.make1 rfl rfl rfl (by omega) (fun b => ?_)
          | refine OpOk.append1 rfl rfl rfl rfl rfl rfl (by omega) (fun a' c' hc1 hc2 => ?_)
          | refine OpOk.append0 rfl rfl rfl rfl rfl rfl (by omega) (fun a' c' hc1 hc2 => ?_)
          | refine OpOk.appendE rfl rfl rfl rfl (by first | exact Rs.rds (by assumption) | exact Rds.up (by assumption) | exact Rds.hasSl (by omega) (by omega) (by first | rfl | (simp; done) | (simp; omega))) (one_u8 _) (by omega) (fun a' c' hc1 hc2 => ?_)
          | refine OpOk.append rfl rfl rfl rfl (by first | exact Rs.rds (by assumption) | exact Rds.up (by assumption) | exact Rds.hasSl (by omega) (by omega) (by first | rfl | (simp; done) | (simp; omega))) (one_u8 _) (by omega) (fun a' c' hc1 hc2 => ?_))
      | (show QOk _ _ _ _ _ _ _; first | refine QOk.load rfl rfl (by first | exact Ld.hasBlk rfl | exact Ld.rs (by assumption) (getMap (by omega)) | exact Ld.rds (by assumption) (getMap (by omega)) | exact Ld.hasSl (getMap (by omega)) | exact Ld.hasBlkAt (getMap (by omega))) ?_ | refine QOk.idx1 rfl rfl rfl (by omega) (by first | exact AOk.hasSl | exact AOk.rs (by assumption) | exact AOk.rds (by assumption) | exact AOk.lit) ?_ | refine QOk.loadRow rfl rfl LdN.hasBlk rfl ?_ | refine QOk.toStr rfl rfl rfl rfl (by first | exact Rs.rds (by assumption) | exact Rds.up (by assumption) | exact Rds.hasSl (by omega) (by omega) (by first | rfl | (simp; done) | (simp; omega))) ?_)
      | (show GJ _ _ _ _ _ _ _; first | (apply GJ.and; exact rfl; intro hg) | (apply GJ.or; exact rfl; intro hg) | refine GJ.t (by omega) ?_ | refine GJ.f (by omega) ?_ | refine GJ.ft (by omega) ?_ | refine GJ.ff (by omega) ?_)
      | (show Br _ _ _; first | with_reducible refine Br.tt ?_ | with_reducible refine Br.ff ?_ | with_reducible refine Br.nt ?_ | with_reducible refine Br.nf ?_ | refine Br.t (by omega) ?_ | refine Br.f (by omega) ?_)
      | (show CodeOk _ _ _ _ _ _; refine CodeOk.drawnAuto rfl (by kernel_rfl) rfl (by kernel_rfl) ?_))
    have hcut := hr.cutB (lo := 0) (hi := ((0 + many : Nat) : Int)) (by omega)
    repeat (first
      | refine Stop.mk ?_
      | (show _ ∧ _; first | exact ⟨rfl, rfl, rfl⟩ | refine And.intro (by first | omega | exact u8_range _ | exact add_u8 _ _ (by omega)) ?_ | refine And.intro (inferInstanceAs (Suf _ _)) ?_)
      | (show OpOk _ _ _ _ _ _ _; first
          | refine OpOk.load rfl rfl (by first | exact Ld.hasBlk rfl | exact Ld.rs (by assumption) (getMap (by omega)) | exact Ld.rds (by assumption) (getMap (by omega)) | exact Ld.hasSl (getMap (by omega)) | exact Ld.hasBlkAt (getMap (by omega))) ?_
          | refine OpOk.loadRow rfl rfl LdN.hasBlk rfl ?_
          | refine OpOk.store rfl rfl rfl rfl (by repeat (first | exact SetR.hit _ _ _ | apply SetR.miss)) ?_
          | refine OpOk.storeRow rfl rfl rfl rfl (by rfl) rfl ?_
          | refine OpOk.idx1 rfl rfl rfl (by omega) (by first | exact AOk.hasSl | exact AOk.rs (by assumption) | exact AOk.rds (by assumption) | exact AOk.lit) ?_
          | refine OpOk.alloc rfl (fun b => ?_)
          | refine OpOk.box rfl (fun b => ?_)
          | refine OpOk.build rfl rfl (by repeat (first | exact Nf.nil | apply Nf.cons)) ?_
          | refine OpOk.buildSlice1 (by rfl) (by rfl) (by rfl) (by rfl) (by rfl) (fun b => ?_)
          | refine OpOk.toStr rfl rfl rfl rfl (by first | exact Rs.rds (by assumption) | exact Rds.up (by assumption) | exact Rds.hasSl (by omega) (by omega) (by first | rfl | (simp; done) | (simp; omega))) ?_
          | refine OpOk.make1 rfl rfl rfl (by omega) (fun b => ?_)
          | refine OpOk.append1 rfl rfl rfl rfl rfl rfl (by omega) (fun a' c' hc1 hc2 => ?_)
          | refine OpOk.append0 rfl rfl rfl rfl rfl rfl (by omega) (fun a' c' hc1 hc2 => ?_)
          | refine OpOk.appendE rfl rfl rfl rfl (by first | exact Rs.rds (by assumption) | exact Rds.up (by assumption) | exact Rds.hasSl (by omega) (by omega) (by first | rfl | (simp; done) | (simp; omega))) (one_u8 _) (by omega) (fun a' c' hc1 hc2 => ?_)
          | refine OpOk.append rfl rfl rfl rfl (by first | exact Rs.rds (by assumption) | exact Rds.up (by assumption) | exact Rds.hasSl (by omega) (by omega) (by first | rfl | (simp; done) | (simp; omega))) (one_u8 _) (by omega) (fun a' c' hc1 hc2 => ?_))
      | (show QOk _ _ _ _ _ _ _; first | refine QOk.load rfl rfl (by first | exact Ld.hasBlk rfl | exact Ld.rs (by assumption) (getMap (by omega)) | exact Ld.rds (by assumption) (getMap (by omega)) | exact Ld.hasSl (getMap (by omega)) | exact Ld.hasBlkAt (getMap (by omega))) ?_ | refine QOk.idx1 rfl rfl rfl (by omega) (by first | exact AOk.hasSl | exact AOk.rs (by assumption) | exact AOk.rds (by assumption) | exact AOk.lit) ?_ | refine QOk.loadRow rfl rfl LdN.hasBlk rfl ?_ | refine QOk.toStr rfl rfl rfl rfl (by first | exact Rs.rds (by assumption) | exact Rds.up (by assumption) | exact Rds.hasSl (by omega) (by omega) (by first | rfl | (simp; done) | (simp; omega))) ?_)
      | (show GJ _ _ _ _ _ _ _; first | (apply GJ.and; exact rfl; intro hg) | (apply GJ.or; exact rfl; intro hg) | refine GJ.t (by omega) ?_ | refine GJ.f (by omega) ?_ | refine GJ.ft (by omega) ?_ | refine GJ.ff (by omega) ?_)
      | (show Br _ _ _; first | with_reducible refine Br.tt ?_ | with_reducible refine Br.ff ?_ | with_reducible refine Br.nt ?_ | with_reducible refine Br.nf ?_ | refine Br.t (by omega) ?_ | refine Br.f (by omega) ?_)
      | (show CodeOk _ _ _ _ _ _; refine CodeOk.drawnAuto rfl (by kernel_rfl) rfl (by kernel_rfl) ?_))
    refine Wk.backB ?_ (by repeat (first | exact Sup.all _ | exact Sup.nil _ | refine Sup.cons (by first | exact Take.hit _ _ | exact Take.miss _ (Take.hit _ _) | exact Take.miss _ (Take.miss _ (Take.hit _ _)) | exact Take.miss _ (Take.miss _ (Take.miss _ (Take.hit _ _))) | exact Take.miss _ (Take.miss _ (Take.miss _ (Take.miss _ (Take.hit _ _)))) | exact Take.miss _ (Take.miss _ (Take.miss _ (Take.miss _ (Take.miss _ (Take.hit _ _))))) | exact Take.miss _ (Take.miss _ (Take.miss _ (Take.miss _ (Take.miss _ (Take.miss _ (Take.hit _ _))))))) ?_ | refine Sup.nilc ?_ | refine Sup.drop _ ?_)) (.refl _) hk
    simp [hy3]
theorem lebMeters_ok {n c : Nat} {a : Option Addr} {l : List UInt8} {len : Bool} (hr : Bys ro a n c l) (hk : K (.bool true) ro own) : CallOk Try.prog 9 #[.slice a n c, .bool len] ro own K := by
  have hl := hr.n
  refine CallOk.back ?_
  refine CallOk.intro (args := [_, _]) (rs := [_]) T_ok Try.func9 Try.call9 rfl rfl (by kernel_rfl) rfl rfl ?_
  repeat (first
    | refine Stop.mk ?_
    | (show _ ∧ _; first | exact ⟨rfl, rfl, rfl⟩ | refine And.intro (by first | omega | exact u8_range _ | exact add_u8 _ _ (by omega)) ?_ | refine And.intro (inferInstanceAs (Suf _ _)) ?_)
    | (show OpOk _ _ _ _ _ _ _; first
        | refine OpOk.load rfl rfl (by first | exact Ld.hasBlk rfl | exact Ld.rs (by assumption) (getMap (by omega)) | exact Ld.rds (by assumption) (getMap (by omega)) | exact Ld.hasSl (getMap (by omega)) | exact Ld.hasBlkAt (getMap (by omega))) ?_
        | refine OpOk.loadRow rfl rfl LdN.hasBlk rfl ?_
        | refine OpOk.store rfl rfl rfl rfl (by repeat (first | exact SetR.hit _ _ _ | apply SetR.miss)) ?_
        | refine OpOk.storeRow rfl rfl rfl rfl (by rfl) rfl ?_
        | refine OpOk.idx1 rfl rfl rfl (by omega) (by first | exact AOk.hasSl | exact AOk.rs (by assumption) | exact AOk.rds (by assumption) | exact AOk.lit) ?_
        | refine OpOk.alloc rfl (fun b => ?_)
        | refine OpOk.box rfl (fun b => ?_)
        | refine OpOk.build rfl rfl (by repeat (first | exact Nf.nil | apply Nf.cons)) ?_
        | refine OpOk.buildSlice1 (by rfl) (by rfl) (by rfl) (by rfl) (by rfl) (fun b => ?_)
        | refine OpOk.toStr rfl rfl rfl rfl (by first | exact Rs.rds (by assumption) | exact Rds.up (by assumption) | exact Rds.hasSl (by omega) (by omega) (by first | rfl | (simp; done) | (simp; omega))) ?_
        | refine OpOk.make1 rfl rfl rfl (by omega) (fun b => ?_)
        | refine OpOk.append1 rfl rfl rfl rfl rfl rfl (by omega) (fun a' c' hc1 hc2 => ?_)
        | refine OpOk.append0 rfl rfl rfl rfl rfl rfl (by omega) (fun a' c' hc1 hc2 => ?_)
        | refine OpOk.appendE rfl rfl rfl rfl (by first | exact Rs.rds (by assumption) | exact Rds.up (by assumption) | exact Rds.hasSl (by omega) (by omega) (by first | rfl | (simp; done) | (simp; omega))) (one_u8 _) (by omega) (fun a' c' hc1 hc2 => ?_)
        | refine OpOk.append rfl rfl rfl rfl (by first | exact Rs.rds (by assumption) | exact Rds.up (by assumption) | exact Rds.hasSl (by omega) (by omega) (by first | rfl | (simp; done) | (simp; omega))) (one_u8 _) (by omega) (fun a' c' hc1 hc2 => ?_))
    | (show QOk _ _ _ _ _ _ _; first | refine QOk.load rfl rfl (by first | exact Ld.hasBlk rfl | exact Ld.rs (by assumption) (getMap (by omega)) | exact Ld.rds (by assumption) (getMap (by omega)) | exact Ld.hasSl (getMap (by omega)) | exact Ld.hasBlkAt (getMap (by omega))) ?_ | refine QOk.idx1 rfl rfl rfl (by omega) (by first | exact AOk.hasSl | exact AOk.rs (by assumption) | exact AOk.rds (by assumption) | exact AOk.lit) ?_ | refine QOk.loadRow rfl rfl LdN.hasBlk rfl ?_ | refine QOk.toStr rfl rfl rfl rfl (by first | exact Rs.rds (by assumption) | exact Rds.up (by assumption) | exact Rds.hasSl (by omega) (by omega) (by first | rfl | (simp; done) | (simp; omega))) ?_)
    | (show GJ _ _ _ _ _ _ _; first | (apply GJ.and; exact rfl; intro hg) | (apply GJ.or; exact rfl; intro hg) | refine GJ.t (by omega) ?_ | refine GJ.f (by omega) ?_ | refine GJ.ft (by omega) ?_ | refine GJ.ff (by omega) ?_)
    | (show Br _ _ _; first | with_reducible refine Br.tt ?_ | with_reducible refine Br.ff ?_ | with_reducible refine Br.nt ?_ | with_reducible refine Br.nf ?_ | refine Br.t (by omega) ?_ | refine Br.f (by omega) ?_)
    | (show CodeOk _ _ _ _ _ _; refine CodeOk.drawnAuto rfl (by kernel_rfl) rfl (by kernel_rfl) ?_))
  refine folds_ok ?_
  repeat (first
    | refine Stop.mk ?_
    | (show _ ∧ _; first | exact ⟨rfl, rfl, rfl⟩ | refine And.intro (by first | omega | exact u8_range _ | exact add_u8 _ _ (by omega)) ?_ | refine And.intro (inferInstanceAs (Suf _ _)) ?_)
    | (show OpOk _ _ _ _ _ _ _; first
        | refine OpOk.load rfl rfl (by first | exact Ld.hasBlk rfl | exact Ld.rs (by assumption) (getMap (by omega)) | exact Ld.rds (by assumption) (getMap (by omega)) | exact Ld.hasSl (getMap (by omega)) | exact Ld.hasBlkAt (getMap (by omega))) ?_
        | refine OpOk.loadRow rfl rfl LdN.hasBlk rfl ?_
        | refine OpOk.store rfl rfl rfl rfl (by repeat (first | exact SetR.hit _ _ _ | apply SetR.miss)) ?_
        | refine OpOk.storeRow rfl rfl rfl rfl (by rfl) rfl ?_
        | refine OpOk.idx1 rfl rfl rfl (by omega) (by first | exact AOk.hasSl | exact AOk.rs (by assumption) | exact AOk.rds (by assumption) | exact AOk.lit) ?_
        | refine OpOk.alloc rfl (fun b => ?_)
        | refine OpOk.box rfl (fun b => ?_)
        | refine OpOk.build rfl rfl (by repeat (first | exact Nf.nil | apply Nf.cons)) ?_
        | refine OpOk.buildSlice1 (by rfl) (by rfl) (by rfl) (by rfl) (by rfl) (fun b => ?_)
        | refine OpOk.toStr rfl rfl rfl rfl (by first | exact Rs.rds (by assumption) | exact Rds.up (by assumption) | exact Rds.hasSl (by omega) (by omega) (by first | rfl | (simp; done) | (simp; omega))) ?_
        | refine OpOk.make1 rfl rfl rfl (by omega) (fun b => ?_)
        | refine OpOk.append1 rfl rfl rfl rfl rfl rfl (by omega) (fun a' c' hc1 hc2 => ?_)
        | refine OpOk.append0 rfl rfl rfl rfl rfl rfl (by omega) (fun a' c' hc1 hc2 => ?_)
        | refine OpOk.appendE rfl rfl rfl rfl (by first | exact Rs.rds (by assumption) | exact Rds.up (by assumption) | exact Rds.hasSl (by omega) (by omega) (by first | rfl | (simp; done) | (simp; omega))) (one_u8 _) (by omega) (fun a' c' hc1 hc2 => ?_)
        | refine OpOk.append rfl rfl rfl rfl (by first | exact Rs.rds (by assumption) | exact Rds.up (by assumption) | exact Rds.hasSl (by omega) (by omega) (by first | rfl | (simp; done) | (simp; omega))) (one_u8 _) (by omega) (fun a' c' hc1 hc2 => ?_))
    | (show QOk _ _ _ _ _ _ _; first | refine QOk.load rfl rfl (by first | exact Ld.hasBlk rfl | exact Ld.rs (by assumption) (getMap (by omega)) | exact Ld.rds (by assumption) (getMap (by omega)) | exact Ld.hasSl (getMap (by omega)) | exact Ld.hasBlkAt (getMap (by omega))) ?_ | refine QOk.idx1 rfl rfl rfl (by omega) (by first | exact AOk.hasSl | exact AOk.rs (by assumption) | exact AOk.rds (by assumption) | exact AOk.lit) ?_ | refine QOk.loadRow rfl rfl LdN.hasBlk rfl ?_ | refine QOk.toStr rfl rfl rfl rfl (by first | exact Rs.rds (by assumption) | exact Rds.up (by assumption) | exact Rds.hasSl (by omega) (by omega) (by first | rfl | (simp; done) | (simp; omega))) ?_)
    | (show GJ _ _ _ _ _ _ _; first | (apply GJ.and; exact rfl; intro hg) | (apply GJ.or; exact rfl; intro hg) | refine GJ.t (by omega) ?_ | refine GJ.f (by omega) ?_ | refine GJ.ft (by omega) ?_ | refine GJ.ff (by omega) ?_)
    | (show Br _ _ _; first | with_reducible refine Br.tt ?_ | with_reducible refine Br.ff ?_ | with_reducible refine Br.nt ?_ | with_reducible refine Br.nf ?_ | refine Br.t (by omega) ?_ | refine Br.f (by omega) ?_)
    | (show CodeOk _ _ _ _ _ _; refine CodeOk.drawnAuto rfl (by kernel_rfl) rfl (by kernel_rfl) ?_))
  refine Br.cases (fun hc => ?_) (fun hc => ?_)
  · repeat (first
      | refine Stop.mk ?_
      | (show _ ∧ _; first | exact ⟨rfl, rfl, rfl⟩ | refine And.intro (by first | omega | exact u8_range _ | exact add_u8 _ _ (by omega)) ?_ | refine And.intro (inferInstanceAs (Suf _ _)) ?_)
      | (show OpOk _ _ _ _ _ _ _; first
          | refine OpOk.load rfl rfl (by first | exact Ld.hasBlk rfl | exact Ld.rs (by assumption) (getMap (by omega)) | exact Ld.rds (by assumption) (getMap (by omega)) | exact Ld.hasSl (getMap (by omega)) | exact Ld.hasBlkAt (getMap (by omega))) ?_
          | refine OpOk.loadRow rfl rfl LdN.hasBlk rfl ?_
          | refine OpOk.store rfl rfl rfl rfl (by repeat (first | exact SetR.hit _ _ _ | apply SetR.miss)) ?_
          | refine OpOk.storeRow rfl rfl rfl rfl (by rfl) rfl ?_
          | refine OpOk.idx1 rfl rfl rfl (by omega) (by first | exact AOk.hasSl | exact AOk.rs (by assumption) | exact AOk.rds (by assumption) | exact AOk.lit) ?_
          | refine OpOk.alloc rfl (fun b => ?_)
          | refine OpOk.box rfl (fun b => ?_)
          | refine OpOk.build rfl rfl (by repeat (first | exact Nf.nil | apply Nf.cons)) ?_
          | refine OpOk.buildSlice1 (by rfl) (by rfl) (by rfl) (by rfl) (by rfl) (fun b => ?_)
          | refine OpOk.toStr rfl rfl rfl rfl (by first | exact Rs.rds (by assumption) | exact Rds.up (by assumption) | exact Rds.hasSl (by omega) (by omega) (by first | rfl | (simp; done) | (simp; omega))) ?_
          | refine OpOk.make1 rfl rfl rfl (by omega) (fun b => ?_)
          | refine OpOk.append1 rfl rfl rfl rfl rfl rfl (by omega) (fun a' c' hc1 hc2 => ?_)
          | refine OpOk.append0 rfl rfl rfl rfl rfl rfl (by omega) (fun a' c' hc1 hc2 => ?_)
          | refine OpOk.appendE rfl rfl rfl rfl (by first | exact Rs.rds (by assumption) | exact Rds.up (by assumption) | exact Rds.hasSl (by omega) (by omega) (by first | rfl | (simp; done) | (simp; omega))) (one_u8 _) (by omega) (fun a' c' hc1 hc2 => ?_)
          | refine OpOk.append rfl rfl rfl rfl (by first | exact Rs.rds (by assumption) | exact Rds.up (by assumption) | exact Rds.hasSl (by omega) (by omega) (by first | rfl | (simp; done) | (simp; omega))) (one_u8 _) (by omega) (fun a' c' hc1 hc2 => ?_))
      | (show QOk _ _ _ _ _ _ _; first | refine QOk.load rfl rfl (by first | exact Ld.hasBlk rfl | exact Ld.rs (by assumption) (getMap (by omega)) | exact Ld.rds (by assumption) (getMap (by omega)) | exact Ld.hasSl (getMap (by omega)) | exact Ld.hasBlkAt (getMap (by omega))) ?_ | refine QOk.idx1 rfl rfl rfl (by omega) (by first | exact AOk.hasSl | exact AOk.rs (by assumption) | exact AOk.rds (by assumption) | exact AOk.lit) ?_ | refine QOk.loadRow rfl rfl LdN.hasBlk rfl ?_ | refine QOk.toStr rfl rfl rfl rfl (by first | exact Rs.rds (by assumption) | exact Rds.up (by assumption) | exact Rds.hasSl (by omega) (by omega) (by first | rfl | (simp; done) | (simp; omega))) ?_)
      | (show GJ _ _ _ _ _ _ _; first | (apply GJ.and; exact rfl; intro hg) | (apply GJ.or; exact rfl; intro hg) | refine GJ.t (by omega) ?_ | refine GJ.f (by omega) ?_ | refine GJ.ft (by omega) ?_ | refine GJ.ff (by omega) ?_)
      | (show Br _ _ _; first | with_reducible refine Br.tt ?_ | with_reducible refine Br.ff ?_ | with_reducible refine Br.nt ?_ | with_reducible refine Br.nf ?_ | refine Br.t (by omega) ?_ | refine Br.f (by omega) ?_)
      | (show CodeOk _ _ _ _ _ _; refine CodeOk.drawnAuto rfl (by kernel_rfl) rfl (by kernel_rfl) ?_))
    exact Wk.back1 (by repeat (first | exact Sup.all _ | exact Sup.nil _ | refine Sup.cons (by first | exact Take.hit _ _ | exact Take.miss _ (Take.hit _ _) | exact Take.miss _ (Take.miss _ (Take.hit _ _)) | exact Take.miss _ (Take.miss _ (Take.miss _ (Take.hit _ _))) | exact Take.miss _ (Take.miss _ (Take.miss _ (Take.miss _ (Take.hit _ _)))) | exact Take.miss _ (Take.miss _ (Take.miss _ (Take.miss _ (Take.miss _ (Take.hit _ _))))) | exact Take.miss _ (Take.miss _ (Take.miss _ (Take.miss _ (Take.miss _ (Take.miss _ (Take.hit _ _))))))) ?_ | refine Sup.nilc ?_ | refine Sup.drop _ ?_)) (.refl _) hk
  repeat (first
    | refine Stop.mk ?_
    | (show _ ∧ _; first | exact ⟨rfl, rfl, rfl⟩ | refine And.intro (by first | omega | exact u8_range _ | exact add_u8 _ _ (by omega)) ?_ | refine And.intro (inferInstanceAs (Suf _ _)) ?_)
    | (show OpOk _ _ _ _ _ _ _; first
        | refine OpOk.load rfl rfl (by first | exact Ld.hasBlk rfl | exact Ld.rs (by assumption) (getMap (by omega)) | exact Ld.rds (by assumption) (getMap (by omega)) | exact Ld.hasSl (getMap (by omega)) | exact Ld.hasBlkAt (getMap (by omega))) ?_
        | refine OpOk.loadRow rfl rfl LdN.hasBlk rfl ?_
        | refine OpOk.store rfl rfl rfl rfl (by repeat (first | exact SetR.hit _ _ _ | apply SetR.miss)) ?_
        | refine OpOk.storeRow rfl rfl rfl rfl (by rfl) rfl ?_
        | refine OpOk.idx1 rfl rfl rfl (by omega) (by first | exact AOk.hasSl | exact AOk.rs (by assumption) | exact AOk.rds (by assumption) | exact AOk.lit) ?_
        | refine OpOk.alloc rfl (fun b => ?_)
        | refine OpOk.box rfl (fun b => ?_)
        | refine OpOk.build rfl rfl (by repeat (first | exact Nf.nil | apply Nf.cons)) ?_
        | refine OpOk.buildSlice1 (by rfl) (by rfl) (by rfl) (by rfl) (by rfl) (fun b => ?_)
        | refine OpOk.toStr rfl rfl rfl rfl (by first | exact Rs.rds (by assumption) | exact Rds.up (by assumption) | exact Rds.hasSl (by omega) (by omega) (by first | rfl | (simp; done) | (simp; omega))) ?_
        | refine OpOk.make1 rfl rfl rfl (by omega) (fun b => ?_)
        | refine OpOk.append1 rfl rfl rfl rfl rfl rfl (by omega) (fun a' c' hc1 hc2 => ?_)
        | refine OpOk.append0 rfl rfl rfl rfl rfl rfl (by omega) (fun a' c' hc1 hc2 => ?_)
        | refine OpOk.appendE rfl rfl rfl rfl (by first | exact Rs.rds (by assumption) | exact Rds.up (by assumption) | exact Rds.hasSl (by omega) (by omega) (by first | rfl | (simp; done) | (simp; omega))) (one_u8 _) (by omega) (fun a' c' hc1 hc2 => ?_)
        | refine OpOk.append rfl rfl rfl rfl (by first | exact Rs.rds (by assumption) | exact Rds.up (by assumption) | exact Rds.hasSl (by omega) (by omega) (by first | rfl | (simp; done) | (simp; omega))) (one_u8 _) (by omega) (fun a' c' hc1 hc2 => ?_))
    | (show QOk _ _ _ _ _ _ _; first | refine QOk.load rfl rfl (by first | exact Ld.hasBlk rfl | exact Ld.rs (by assumption) (getMap (by omega)) | exact Ld.rds (by assumption) (getMap (by omega)) | exact Ld.hasSl (getMap (by omega)) | exact Ld.hasBlkAt (getMap (by omega))) ?_ | refine QOk.idx1 rfl rfl rfl (by omega) (by first | exact AOk.hasSl | exact AOk.rs (by assumption) | exact AOk.rds (by assumption) | exact AOk.lit) ?_ | refine QOk.loadRow rfl rfl LdN.hasBlk rfl ?_ | refine QOk.toStr rfl rfl rfl rfl (by first | exact Rs.rds (by assumption) | exact Rds.up (by assumption) | exact Rds.hasSl (by omega) (by omega) (by first | rfl | (simp; done) | (simp; omega))) ?_)
    | (show GJ _ _ _ _ _ _ _; first | (apply GJ.and; exact rfl; intro hg) | (apply GJ.or; exact rfl; intro hg) | refine GJ.t (by omega) ?_ | refine GJ.f (by omega) ?_ | refine GJ.ft (by omega) ?_ | refine GJ.ff (by omega) ?_)
    | (show Br _ _ _; first | with_reducible refine Br.tt ?_ | with_reducible refine Br.ff ?_ | with_reducible refine Br.nt ?_ | with_reducible refine Br.nf ?_ | refine Br.t (by omega) ?_ | refine Br.f (by omega) ?_)
    | (show CodeOk _ _ _ _ _ _; refine CodeOk.drawnAuto rfl (by kernel_rfl) rfl (by kernel_rfl) ?_))
  refine rread_ok hr (by omega) (fun v many e h1 h2 h3 h4 => ?_)
  repeat (first
    | refine Stop.mk ?_
    | (show _ ∧ _; first | exact ⟨rfl, rfl, rfl⟩ | refine And.intro (by first | omega | exact u8_range _ | exact add_u8 _ _ (by omega)) ?_ | refine And.intro (inferInstanceAs (Suf _ _)) ?_)
    | (show OpOk _ _ _ _ _ _ _; first
        | refine OpOk.load rfl rfl (by first | exact Ld.hasBlk rfl | exact Ld.rs (by assumption) (getMap (by omega)) | exact Ld.rds (by assumption) (getMap (by omega)) | exact Ld.hasSl (getMap (by omega)) | exact Ld.hasBlkAt (getMap (by omega))) ?_
        | refine OpOk.loadRow rfl rfl LdN.hasBlk rfl ?_
        | refine OpOk.store rfl rfl rfl rfl (by repeat (first | exact SetR.hit _ _ _ | apply SetR.miss)) ?_
        | refine OpOk.storeRow rfl rfl rfl rfl (by rfl) rfl ?_
        | refine OpOk.idx1 rfl rfl rfl (by omega) (by first | exact AOk.hasSl | exact AOk.rs (by assumption) | exact AOk.rds (by assumption) | exact AOk.lit) ?_
        | refine OpOk.alloc rfl (fun b => ?_)
        | refine OpOk.box rfl (fun b => ?_)
        | refine OpOk.build rfl rfl (by repeat (first | exact Nf.nil | apply Nf.cons)) ?_
        | refine OpOk.buildSlice1 (by rfl) (by rfl) (by rfl) (by rfl) (by rfl) (fun b => ?_)
        | refine OpOk.toStr rfl rfl rfl rfl (by first | exact Rs.rds (by assumption) | exact Rds.up (by assumption) | exact Rds.hasSl (by omega) (by omega) (by first | rfl | (simp; done) | (simp; omega))) ?_
        | refine OpOk.make1 rfl rfl rfl (by omega) (fun b => ?_)
        | refine OpOk.append1 rfl rfl rfl rfl rfl rfl (by omega) (fun a' c' hc1 hc2 => ?_)
        | refine OpOk.append0 rfl rfl rfl rfl rfl rfl (by omega) (fun a' c' hc1 hc2 => ?_)
        | refine OpOk.appendE rfl rfl rfl rfl (by first | exact Rs.rds (by assumption) | exact Rds.up (by assumption) | exact Rds.hasSl (by omega) (by omega) (by first | rfl | (simp; done) | (simp; omega))) (one_u8 _) (by omega) (fun a' c' hc1 hc2 => ?_)
        | refine OpOk.append rfl rfl rfl rfl (by first | exact Rs.rds (by assumption) | exact Rds.up (by assumption) | exact Rds.hasSl (by omega) (by omega) (by first | rfl | (simp; done) | (simp; omega))) (one_u8 _) (by omega) (fun a' c' hc1 hc2 => ?_))
    | (show QOk _ _ _ _ _ _ _; first | refine QOk.load rfl rfl (by first | exact Ld.hasBlk rfl | exact Ld.rs (by assumption) (getMap (by omega)) | exact Ld.rds (by assumption) (getMap (by omega)) | exact Ld.hasSl (getMap (by omega)) | exact Ld.hasBlkAt (getMap (by omega))) ?_ | refine QOk.idx1 rfl rfl rfl (by omega) (by first | exact AOk.hasSl | exact AOk.rs (by assumption) | exact AOk.rds (by assumption) | exact AOk.lit) ?_ | refine QOk.loadRow rfl rfl LdN.hasBlk rfl ?_ | refine QOk.toStr rfl rfl rfl rfl (by first | exact Rs.rds (by assumption) | exact Rds.up (by assumption) | exact Rds.hasSl (by omega) (by omega) (by first | rfl | (simp; done) | (simp; omega))) ?_)
    | (show GJ _ _ _ _ _ _ _; first | (apply GJ.and; exact rfl; intro hg) | (apply GJ.or; exact rfl; intro hg) | refine GJ.t (by omega) ?_ | refine GJ.f (by omega) ?_ | refine GJ.ft (by omega) ?_ | refine GJ.ff (by omega) ?_)
    | (show Br _ _ _; first | with_reducible refine Br.tt ?_ | with_reducible refine Br.ff ?_ | with_reducible refine Br.nt ?_ | with_reducible refine Br.nf ?_ | refine Br.t (by omega) ?_ | refine Br.f (by omega) ?_)
    | (show CodeOk _ _ _ _ _ _; refine CodeOk.drawnAuto rfl (by kernel_rfl) rfl (by kernel_rfl) ?_))
  refine LoopOk.at (ι := Nat × Nat) (by repeat (first | exact Keep.nil _ | apply Keep.skip (by rfl) | apply Keep.keep (by rfl) | apply Keep.args (by rfl))) (fun (k, m) => [(29, .int .i64 (k : Int))]) (fun (k, m) => .blk b 58 (mtr len m k) :: own) (fun (k, m) => k ≤ n ∧ k ≤ 10 ∧ m < 2 ^ (7 * k) ∧ rd len k m (l.drop k) = (v, many, e)) (fun (k, m) => n - k) (0, 0) ?_ (by repeat (first | exact trivial | refine Sub.cons rfl ?_ | refine Sub.consE rfl (congrArg (Value.int _) (by omega)) ?_)) (by repeat (first | exact Sup.all _ | exact Sup.nil _ | refine Sup.cons (by first | exact Take.hit _ _ | exact Take.miss _ (Take.hit _ _) | exact Take.miss _ (Take.miss _ (Take.hit _ _)) | exact Take.miss _ (Take.miss _ (Take.miss _ (Take.hit _ _))) | exact Take.miss _ (Take.miss _ (Take.miss _ (Take.miss _ (Take.hit _ _)))) | exact Take.miss _ (Take.miss _ (Take.miss _ (Take.miss _ (Take.miss _ (Take.hit _ _))))) | exact Take.miss _ (Take.miss _ (Take.miss _ (Take.miss _ (Take.miss _ (Take.miss _ (Take.hit _ _))))))) ?_ | refine Sup.nilc ?_ | refine Sup.drop _ ?_)) ?_
  · exact ⟨by omega, by omega, by simp, h1⟩
  rintro ⟨k, m⟩ ⟨i1, i2, i3, i4⟩
  dsimp only [List.cons_append, List.nil_append]
  repeat (first
    | refine Stop.mk ?_
    | (show _ ∧ _; first | exact ⟨rfl, rfl, rfl⟩ | refine And.intro (by first | omega | exact u8_range _ | exact add_u8 _ _ (by omega)) ?_ | refine And.intro (inferInstanceAs (Suf _ _)) ?_)
    | (show OpOk _ _ _ _ _ _ _; first
        | refine OpOk.load rfl rfl (by first | exact Ld.hasBlk rfl | exact Ld.rs (by assumption) (getMap (by omega)) | exact Ld.rds (by assumption) (getMap (by omega)) | exact Ld.hasSl (getMap (by omega)) | exact Ld.hasBlkAt (getMap (by omega))) ?_
        | refine OpOk.loadRow rfl rfl LdN.hasBlk rfl ?_
        | refine OpOk.store rfl rfl rfl rfl (by repeat (first | exact SetR.hit _ _ _ | apply SetR.miss)) ?_
        | refine OpOk.storeRow rfl rfl rfl rfl (by rfl) rfl ?_
        | refine OpOk.idx1 rfl rfl rfl (by omega) (by first | exact AOk.hasSl | exact AOk.rs (by assumption) | exact AOk.rds (by assumption) | exact AOk.lit) ?_
        | refine OpOk.alloc rfl (fun b => ?_)
        | refine OpOk.box rfl (fun b => ?_)
        | refine OpOk.build rfl rfl (by repeat (first | exact Nf.nil | apply Nf.cons)) ?_
        | refine OpOk.buildSlice1 (by rfl) (by rfl) (by rfl) (by rfl) (by rfl) (fun b => ?_)
        | refine OpOk.toStr rfl rfl rfl rfl (by first | exact Rs.rds (by assumption) | exact Rds.up (by assumption) | exact Rds.hasSl (by omega) (by omega) (by first | rfl | (simp; done) | (simp; omega))) ?_
        | refine OpOk.make1 rfl rfl rfl (by omega) (fun b => ?_)
        | refine OpOk.append1 rfl rfl rfl rfl rfl rfl (by omega) (fun a' c' hc1 hc2 => ?_)
        | refine OpOk.append0 rfl rfl rfl rfl rfl rfl (by omega) (fun a' c' hc1 hc2 => ?_)
        | refine OpOk.appendE rfl rfl rfl rfl (by first | exact Rs.rds (by assumption) | exact Rds.up (by assumption) | exact Rds.hasSl (by omega) (by omega) (by first | rfl | (simp; done) | (simp; omega))) (one_u8 _) (by omega) (fun a' c' hc1 hc2 => ?_)
        | refine OpOk.append rfl rfl rfl rfl (by first | exact Rs.rds (by assumption) | exact Rds.up (by assumption) | exact Rds.hasSl (by omega) (by omega) (by first | rfl | (simp; done) | (simp; omega))) (one_u8 _) (by omega) (fun a' c' hc1 hc2 => ?_))
    | (show QOk _ _ _ _ _ _ _; first | refine QOk.load rfl rfl (by first | exact Ld.hasBlk rfl | exact Ld.rs (by assumption) (getMap (by omega)) | exact Ld.rds (by assumption) (getMap (by omega)) | exact Ld.hasSl (getMap (by omega)) | exact Ld.hasBlkAt (getMap (by omega))) ?_ | refine QOk.idx1 rfl rfl rfl (by omega) (by first | exact AOk.hasSl | exact AOk.rs (by assumption) | exact AOk.rds (by assumption) | exact AOk.lit) ?_ | refine QOk.loadRow rfl rfl LdN.hasBlk rfl ?_ | refine QOk.toStr rfl rfl rfl rfl (by first | exact Rs.rds (by assumption) | exact Rds.up (by assumption) | exact Rds.hasSl (by omega) (by omega) (by first | rfl | (simp; done) | (simp; omega))) ?_)
    | (show GJ _ _ _ _ _ _ _; first | (apply GJ.and; exact rfl; intro hg) | (apply GJ.or; exact rfl; intro hg) | refine GJ.t (by omega) ?_ | refine GJ.f (by omega) ?_ | refine GJ.ft (by omega) ?_ | refine GJ.ff (by omega) ?_)
    | (show Br _ _ _; first | with_reducible refine Br.tt ?_ | with_reducible refine Br.ff ?_ | with_reducible refine Br.nt ?_ | with_reducible refine Br.nf ?_ | refine Br.t (by omega) ?_ | refine Br.f (by omega) ?_)
    | (show CodeOk _ _ _ _ _ _; refine CodeOk.drawnAuto rfl (by kernel_rfl) rfl (by kernel_rfl) ?_))
  refine Br.cases (fun hd => ?_) (fun hd => ?_)
  · have h0 : k < l.length := by omega
    rw [drop_get h0, rd] at i4
    repeat (first
      | refine Stop.mk ?_
      | (show _ ∧ _; first | exact ⟨rfl, rfl, rfl⟩ | refine And.intro (by first | omega | exact u8_range _ | exact add_u8 _ _ (by omega)) ?_ | refine And.intro (inferInstanceAs (Suf _ _)) ?_)
      | (show OpOk _ _ _ _ _ _ _; first
          | refine OpOk.load rfl rfl (by first | exact Ld.hasBlk rfl | exact Ld.rs (by assumption) (getMap (by omega)) | exact Ld.rds (by assumption) (getMap (by omega)) | exact Ld.hasSl (getMap (by omega)) | exact Ld.hasBlkAt (getMap (by omega))) ?_
          | refine OpOk.loadRow rfl rfl LdN.hasBlk rfl ?_
          | refine OpOk.store rfl rfl rfl rfl (by repeat (first | exact SetR.hit _ _ _ | apply SetR.miss)) ?_
          | refine OpOk.storeRow rfl rfl rfl rfl (by rfl) rfl ?_
          | refine OpOk.idx1 rfl rfl rfl (by omega) (by first | exact AOk.hasSl | exact AOk.rs (by assumption) | exact AOk.rds (by assumption) | exact AOk.lit) ?_
          | refine OpOk.alloc rfl (fun b => ?_)
          | refine OpOk.box rfl (fun b => ?_)
          | refine OpOk.build rfl rfl (by repeat (first | exact Nf.nil | apply Nf.cons)) ?_
          | refine OpOk.buildSlice1 (by rfl) (by rfl) (by rfl) (by rfl) (by rfl) (fun b => ?_)
          | refine OpOk.toStr rfl rfl rfl rfl (by first | exact Rs.rds (by assumption) | exact Rds.up (by assumption) | exact Rds.hasSl (by omega) (by omega) (by first | rfl | (simp; done) | (simp; omega))) ?_
          | refine OpOk.make1 rfl rfl rfl (by omega) (fun b => ?_)
          | refine OpOk.append1 rfl rfl rfl rfl rfl rfl (by omega) (fun a' c' hc1 hc2 => ?_)
          | refine OpOk.append0 rfl rfl rfl rfl rfl rfl (by omega) (fun a' c' hc1 hc2 => ?_)
          | refine OpOk.appendE rfl rfl rfl rfl (by first | exact Rs.rds (by assumption) | exact Rds.up (by assumption) | exact Rds.hasSl (by omega) (by omega) (by first | rfl | (simp; done) | (simp; omega))) (one_u8 _) (by omega) (fun a' c' hc1 hc2 => ?_)
          | refine OpOk.append rfl rfl rfl rfl (by first | exact Rs.rds (by assumption) | exact Rds.up (by assumption) | exact Rds.hasSl (by omega) (by omega) (by first | rfl | (simp; done) | (simp; omega))) (one_u8 _) (by omega) (fun a' c' hc1 hc2 => ?_))
      | (show QOk _ _ _ _ _ _ _; first | refine QOk.load rfl rfl (by first | exact Ld.hasBlk rfl | exact Ld.rs (by assumption) (getMap (by omega)) | exact Ld.rds (by assumption) (getMap (by omega)) | exact Ld.hasSl (getMap (by omega)) | exact Ld.hasBlkAt (getMap (by omega))) ?_ | refine QOk.idx1 rfl rfl rfl (by omega) (by first | exact AOk.hasSl | exact AOk.rs (by assumption) | exact AOk.rds (by assumption) | exact AOk.lit) ?_ | refine QOk.loadRow rfl rfl LdN.hasBlk rfl ?_ | refine QOk.toStr rfl rfl rfl rfl (by first | exact Rs.rds (by assumption) | exact Rds.up (by assumption) | exact Rds.hasSl (by omega) (by omega) (by first | rfl | (simp; done) | (simp; omega))) ?_)
      | (show GJ _ _ _ _ _ _ _; first | (apply GJ.and; exact rfl; intro hg) | (apply GJ.or; exact rfl; intro hg) | refine GJ.t (by omega) ?_ | refine GJ.f (by omega) ?_ | refine GJ.ft (by omega) ?_ | refine GJ.ff (by omega) ?_)
      | (show Br _ _ _; first | with_reducible refine Br.tt ?_ | with_reducible refine Br.ff ?_ | with_reducible refine Br.nt ?_ | with_reducible refine Br.nf ?_ | refine Br.t (by omega) ?_ | refine Br.f (by omega) ?_)
      | (show CodeOk _ _ _ _ _ _; refine CodeOk.drawnAuto rfl (by kernel_rfl) rfl (by kernel_rfl) ?_))
    simp only [Int.toNat_natCast]
    generalize hch : l[k]! = ch
    rw [hch] at i4
    refine step_ok i3 i2 (fun hs => ?_) (fun hs1 hs2 hs3 => ?_) (fun hs1 hs2 hs3 hs4 => ?_) (fun hs1 hs2 hs3 hs4 => ?_)
    · rw [if_pos hs] at i4
      cases i4
      repeat (first
        | refine Stop.mk ?_
        | (show _ ∧ _; first | exact ⟨rfl, rfl, rfl⟩ | refine And.intro (by first | omega | exact u8_range _ | exact add_u8 _ _ (by omega)) ?_ | refine And.intro (inferInstanceAs (Suf _ _)) ?_)
        | (show OpOk _ _ _ _ _ _ _; first
            | refine OpOk.load rfl rfl (by first | exact Ld.hasBlk rfl | exact Ld.rs (by assumption) (getMap (by omega)) | exact Ld.rds (by assumption) (getMap (by omega)) | exact Ld.hasSl (getMap (by omega)) | exact Ld.hasBlkAt (getMap (by omega))) ?_
            | refine OpOk.loadRow rfl rfl LdN.hasBlk rfl ?_
            | refine OpOk.store rfl rfl rfl rfl (by repeat (first | exact SetR.hit _ _ _ | apply SetR.miss)) ?_
            | refine OpOk.storeRow rfl rfl rfl rfl (by rfl) rfl ?_
            | refine OpOk.idx1 rfl rfl rfl (by omega) (by first | exact AOk.hasSl | exact AOk.rs (by assumption) | exact AOk.rds (by assumption) | exact AOk.lit) ?_
            | refine OpOk.alloc rfl (fun b => ?_)
            | refine OpOk.box rfl (fun b => ?_)
            | refine OpOk.build rfl rfl (by repeat (first | exact Nf.nil | apply Nf.cons)) ?_
            | refine OpOk.buildSlice1 (by rfl) (by rfl) (by rfl) (by rfl) (by rfl) (fun b => ?_)
            | refine OpOk.toStr rfl rfl rfl rfl (by first | exact Rs.rds (by assumption) | exact Rds.up (by assumption) | exact Rds.hasSl (by omega) (by omega) (by first | rfl | (simp; done) | (simp; omega))) ?_
            | refine OpOk.make1 rfl rfl rfl (by omega) (fun b => ?_)
            | refine OpOk.append1 rfl rfl rfl rfl rfl rfl (by omega) (fun a' c' hc1 hc2 => ?_)
            | refine OpOk.append0 rfl rfl rfl rfl rfl rfl (by omega) (fun a' c' hc1 hc2 => ?_)
            | refine OpOk.appendE rfl rfl rfl rfl (by first | exact Rs.rds (by assumption) | exact Rds.up (by assumption) | exact Rds.hasSl (by omega) (by omega) (by first | rfl | (simp; done) | (simp; omega))) (one_u8 _) (by omega) (fun a' c' hc1 hc2 => ?_)
            | refine OpOk.append rfl rfl rfl rfl (by first | exact Rs.rds (by assumption) | exact Rds.up (by assumption) | exact Rds.hasSl (by omega) (by omega) (by first | rfl | (simp; done) | (simp; omega))) (one_u8 _) (by omega) (fun a' c' hc1 hc2 => ?_))
        | (show QOk _ _ _ _ _ _ _; first | refine QOk.load rfl rfl (by first | exact Ld.hasBlk rfl | exact Ld.rs (by assumption) (getMap (by omega)) | exact Ld.rds (by assumption) (getMap (by omega)) | exact Ld.hasSl (getMap (by omega)) | exact Ld.hasBlkAt (getMap (by omega))) ?_ | refine QOk.idx1 rfl rfl rfl (by omega) (by first | exact AOk.hasSl | exact AOk.rs (by assumption) | exact AOk.rds (by assumption) | exact AOk.lit) ?_ | refine QOk.loadRow rfl rfl LdN.hasBlk rfl ?_ | refine QOk.toStr rfl rfl rfl rfl (by first | exact Rs.rds (by assumption) | exact Rds.up (by assumption) | exact Rds.hasSl (by omega) (by omega) (by first | rfl | (simp; done) | (simp; omega))) ?_)
        | (show GJ _ _ _ _ _ _ _; first | (apply GJ.and; exact rfl; intro hg) | (apply GJ.or; exact rfl; intro hg) | refine GJ.t (by omega) ?_ | refine GJ.f (by omega) ?_ | refine GJ.ft (by omega) ?_ | refine GJ.ff (by omega) ?_)
        | (show Br _ _ _; first | with_reducible refine Br.tt ?_ | with_reducible refine Br.ff ?_ | with_reducible refine Br.nt ?_ | with_reducible refine Br.nf ?_ | refine Br.t (by omega) ?_ | refine Br.f (by omega) ?_)
        | (show CodeOk _ _ _ _ _ _; refine CodeOk.drawnAuto rfl (by kernel_rfl) rfl (by kernel_rfl) ?_))
      refine Wk.backB ?_ (by repeat (first | exact Sup.all _ | exact Sup.nil _ | refine Sup.cons (by first | exact Take.hit _ _ | exact Take.miss _ (Take.hit _ _) | exact Take.miss _ (Take.miss _ (Take.hit _ _)) | exact Take.miss _ (Take.miss _ (Take.miss _ (Take.hit _ _))) | exact Take.miss _ (Take.miss _ (Take.miss _ (Take.miss _ (Take.hit _ _)))) | exact Take.miss _ (Take.miss _ (Take.miss _ (Take.miss _ (Take.miss _ (Take.hit _ _))))) | exact Take.miss _ (Take.miss _ (Take.miss _ (Take.miss _ (Take.miss _ (Take.miss _ (Take.hit _ _))))))) ?_ | refine Sup.nilc ?_ | refine Sup.drop _ ?_)) (.refl _) hk
      simp
    · rw [if_neg (by omega), if_pos hs3] at i4
      repeat (first
        | refine Stop.mk ?_
        | (show _ ∧ _; first | exact ⟨rfl, rfl, rfl⟩ | refine And.intro (by first | omega | exact u8_range _ | exact add_u8 _ _ (by omega)) ?_ | refine And.intro (inferInstanceAs (Suf _ _)) ?_)
        | (show OpOk _ _ _ _ _ _ _; first
            | refine OpOk.load rfl rfl (by first | exact Ld.hasBlk rfl | exact Ld.rs (by assumption) (getMap (by omega)) | exact Ld.rds (by assumption) (getMap (by omega)) | exact Ld.hasSl (getMap (by omega)) | exact Ld.hasBlkAt (getMap (by omega))) ?_
            | refine OpOk.loadRow rfl rfl LdN.hasBlk rfl ?_
            | refine OpOk.store rfl rfl rfl rfl (by repeat (first | exact SetR.hit _ _ _ | apply SetR.miss)) ?_
            | refine OpOk.storeRow rfl rfl rfl rfl (by rfl) rfl ?_
            | refine OpOk.idx1 rfl rfl rfl (by omega) (by first | exact AOk.hasSl | exact AOk.rs (by assumption) | exact AOk.rds (by assumption) | exact AOk.lit) ?_
            | refine OpOk.alloc rfl (fun b => ?_)
            | refine OpOk.box rfl (fun b => ?_)
            | refine OpOk.build rfl rfl (by repeat (first | exact Nf.nil | apply Nf.cons)) ?_
            | refine OpOk.buildSlice1 (by rfl) (by rfl) (by rfl) (by rfl) (by rfl) (fun b => ?_)
            | refine OpOk.toStr rfl rfl rfl rfl (by first | exact Rs.rds (by assumption) | exact Rds.up (by assumption) | exact Rds.hasSl (by omega) (by omega) (by first | rfl | (simp; done) | (simp; omega))) ?_
            | refine OpOk.make1 rfl rfl rfl (by omega) (fun b => ?_)
            | refine OpOk.append1 rfl rfl rfl rfl rfl rfl (by omega) (fun a' c' hc1 hc2 => ?_)
            | refine OpOk.append0 rfl rfl rfl rfl rfl rfl (by omega) (fun a' c' hc1 hc2 => ?_)
            | refine OpOk.appendE rfl rfl rfl rfl (by first | exact Rs.rds (by assumption) | exact Rds.up (by assumption) | exact Rds.hasSl (by omega) (by omega) (by first | rfl | (simp; done) | (simp; omega))) (one_u8 _) (by omega) (fun a' c' hc1 hc2 => ?_)
            | refine OpOk.append rfl rfl rfl rfl (by first | exact Rs.rds (by assumption) | exact Rds.up (by assumption) | exact Rds.hasSl (by omega) (by omega) (by first | rfl | (simp; done) | (simp; omega))) (one_u8 _) (by omega) (fun a' c' hc1 hc2 => ?_))
        | (show QOk _ _ _ _ _ _ _; first | refine QOk.load rfl rfl (by first | exact Ld.hasBlk rfl | exact Ld.rs (by assumption) (getMap (by omega)) | exact Ld.rds (by assumption) (getMap (by omega)) | exact Ld.hasSl (getMap (by omega)) | exact Ld.hasBlkAt (getMap (by omega))) ?_ | refine QOk.idx1 rfl rfl rfl (by omega) (by first | exact AOk.hasSl | exact AOk.rs (by assumption) | exact AOk.rds (by assumption) | exact AOk.lit) ?_ | refine QOk.loadRow rfl rfl LdN.hasBlk rfl ?_ | refine QOk.toStr rfl rfl rfl rfl (by first | exact Rs.rds (by assumption) | exact Rds.up (by assumption) | exact Rds.hasSl (by omega) (by omega) (by first | rfl | (simp; done) | (simp; omega))) ?_)
        | (show GJ _ _ _ _ _ _ _; first | (apply GJ.and; exact rfl; intro hg) | (apply GJ.or; exact rfl; intro hg) | refine GJ.t (by omega) ?_ | refine GJ.f (by omega) ?_ | refine GJ.ft (by omega) ?_ | refine GJ.ff (by omega) ?_)
        | (show Br _ _ _; first | with_reducible refine Br.tt ?_ | with_reducible refine Br.ff ?_ | with_reducible refine Br.nt ?_ | with_reducible refine Br.nf ?_ | refine Br.t (by omega) ?_ | refine Br.f (by omega) ?_)
        | (show CodeOk _ _ _ _ _ _; refine CodeOk.drawnAuto rfl (by kernel_rfl) rfl (by kernel_rfl) ?_))
      refine Wk.id ⟨(_, _), ⟨rfl, ?_⟩, ?_, (by repeat (first | exact trivial | refine Sub.cons rfl ?_ | refine Sub.consE rfl (congrArg (Value.int _) (by omega)) ?_)), (by repeat (first | exact Sup.all _ | exact Sup.nil _ | refine Sup.cons (by first | exact Take.hit _ _ | exact Take.miss _ (Take.hit _ _) | exact Take.miss _ (Take.miss _ (Take.hit _ _)) | exact Take.miss _ (Take.miss _ (Take.miss _ (Take.hit _ _))) | exact Take.miss _ (Take.miss _ (Take.miss _ (Take.miss _ (Take.hit _ _)))) | exact Take.miss _ (Take.miss _ (Take.miss _ (Take.miss _ (Take.miss _ (Take.hit _ _))))) | exact Take.miss _ (Take.miss _ (Take.miss _ (Take.miss _ (Take.miss _ (Take.miss _ (Take.hit _ _))))))) ?_ | refine Sup.nilc ?_ | refine Sup.drop _ ?_))⟩
      all_goals try dsimp only
      · exact ⟨by omega, by omega, more_lt i3, i4⟩
      · omega
    · rw [if_neg (by omega), if_neg (by omega), if_pos hs4] at i4
      cases i4
      repeat (first
        | refine Stop.mk ?_
        | (show _ ∧ _; first | exact ⟨rfl, rfl, rfl⟩ | refine And.intro (by first | omega | exact u8_range _ | exact add_u8 _ _ (by omega)) ?_ | refine And.intro (inferInstanceAs (Suf _ _)) ?_)
        | (show OpOk _ _ _ _ _ _ _; first
            | refine OpOk.load rfl rfl (by first | exact Ld.hasBlk rfl | exact Ld.rs (by assumption) (getMap (by omega)) | exact Ld.rds (by assumption) (getMap (by omega)) | exact Ld.hasSl (getMap (by omega)) | exact Ld.hasBlkAt (getMap (by omega))) ?_
            | refine OpOk.loadRow rfl rfl LdN.hasBlk rfl ?_
            | refine OpOk.store rfl rfl rfl rfl (by repeat (first | exact SetR.hit _ _ _ | apply SetR.miss)) ?_
            | refine OpOk.storeRow rfl rfl rfl rfl (by rfl) rfl ?_
            | refine OpOk.idx1 rfl rfl rfl (by omega) (by first | exact AOk.hasSl | exact AOk.rs (by assumption) | exact AOk.rds (by assumption) | exact AOk.lit) ?_
            | refine OpOk.alloc rfl (fun b => ?_)
            | refine OpOk.box rfl (fun b => ?_)
            | refine OpOk.build rfl rfl (by repeat (first | exact Nf.nil | apply Nf.cons)) ?_
            | refine OpOk.buildSlice1 (by rfl) (by rfl) (by rfl) (by rfl) (by rfl) (fun b => ?_)
            | refine OpOk.toStr rfl rfl rfl rfl (by first | exact Rs.rds (by assumption) | exact Rds.up (by assumption) | exact Rds.hasSl (by omega) (by omega) (by first | rfl | (simp; done) | (simp; omega))) ?_
            | refine OpOk.make1 rfl rfl rfl (by omega) (fun b => ?_)
            | refine OpOk.append1 rfl rfl rfl rfl rfl rfl (by omega) (fun a' c' hc1 hc2 => ?_)
            | refine OpOk.append0 rfl rfl rfl rfl rfl rfl (by omega) (fun a' c' hc1 hc2 => ?_)
            | refine OpOk.appendE rfl rfl rfl rfl (by first | exact Rs.rds (by assumption) | exact Rds.up (by assumption) | exact Rds.hasSl (by omega) (by omega) (by first | rfl | (simp; done) | (simp; omega))) (one_u8 _) (by omega) (fun a' c' hc1 hc2 => ?_)
            | refine OpOk.append rfl rfl rfl rfl (by first | exact Rs.rds (by assumption) | exact Rds.up (by assumption) | exact Rds.hasSl (by omega) (by omega) (by first | rfl | (simp; done) | (simp; omega))) (one_u8 _) (by omega) (fun a' c' hc1 hc2 => ?_))
        | (show QOk _ _ _ _ _ _ _; first | refine QOk.load rfl rfl (by first | exact Ld.hasBlk rfl | exact Ld.rs (by assumption) (getMap (by omega)) | exact Ld.rds (by assumption) (getMap (by omega)) | exact Ld.hasSl (getMap (by omega)) | exact Ld.hasBlkAt (getMap (by omega))) ?_ | refine QOk.idx1 rfl rfl rfl (by omega) (by first | exact AOk.hasSl | exact AOk.rs (by assumption) | exact AOk.rds (by assumption) | exact AOk.lit) ?_ | refine QOk.loadRow rfl rfl LdN.hasBlk rfl ?_ | refine QOk.toStr rfl rfl rfl rfl (by first | exact Rs.rds (by assumption) | exact Rds.up (by assumption) | exact Rds.hasSl (by omega) (by omega) (by first | rfl | (simp; done) | (simp; omega))) ?_)
        | (show GJ _ _ _ _ _ _ _; first | (apply GJ.and; exact rfl; intro hg) | (apply GJ.or; exact rfl; intro hg) | refine GJ.t (by omega) ?_ | refine GJ.f (by omega) ?_ | refine GJ.ft (by omega) ?_ | refine GJ.ff (by omega) ?_)
        | (show Br _ _ _; first | with_reducible refine Br.tt ?_ | with_reducible refine Br.ff ?_ | with_reducible refine Br.nt ?_ | with_reducible refine Br.nf ?_ | refine Br.t (by omega) ?_ | refine Br.f (by omega) ?_)
        | (show CodeOk _ _ _ _ _ _; refine CodeOk.drawnAuto rfl (by kernel_rfl) rfl (by kernel_rfl) ?_))
      refine Wk.backB ?_ (by repeat (first | exact Sup.all _ | exact Sup.nil _ | refine Sup.cons (by first | exact Take.hit _ _ | exact Take.miss _ (Take.hit _ _) | exact Take.miss _ (Take.miss _ (Take.hit _ _)) | exact Take.miss _ (Take.miss _ (Take.miss _ (Take.hit _ _))) | exact Take.miss _ (Take.miss _ (Take.miss _ (Take.miss _ (Take.hit _ _)))) | exact Take.miss _ (Take.miss _ (Take.miss _ (Take.miss _ (Take.miss _ (Take.hit _ _))))) | exact Take.miss _ (Take.miss _ (Take.miss _ (Take.miss _ (Take.miss _ (Take.miss _ (Take.hit _ _))))))) ?_ | refine Sup.nilc ?_ | refine Sup.drop _ ?_)) (.refl _) hk
      simp
    · rw [if_neg (by omega), if_neg (by omega), if_neg hs4] at i4
      cases i4
      repeat (first
        | refine Stop.mk ?_
        | (show _ ∧ _; first | exact ⟨rfl, rfl, rfl⟩ | refine And.intro (by first | omega | exact u8_range _ | exact add_u8 _ _ (by omega)) ?_ | refine And.intro (inferInstanceAs (Suf _ _)) ?_)
        | (show OpOk _ _ _ _ _ _ _; first
            | refine OpOk.load rfl rfl (by first | exact Ld.hasBlk rfl | exact Ld.rs (by assumption) (getMap (by omega)) | exact Ld.rds (by assumption) (getMap (by omega)) | exact Ld.hasSl (getMap (by omega)) | exact Ld.hasBlkAt (getMap (by omega))) ?_
            | refine OpOk.loadRow rfl rfl LdN.hasBlk rfl ?_
            | refine OpOk.store rfl rfl rfl rfl (by repeat (first | exact SetR.hit _ _ _ | apply SetR.miss)) ?_
            | refine OpOk.storeRow rfl rfl rfl rfl (by rfl) rfl ?_
            | refine OpOk.idx1 rfl rfl rfl (by omega) (by first | exact AOk.hasSl | exact AOk.rs (by assumption) | exact AOk.rds (by assumption) | exact AOk.lit) ?_
            | refine OpOk.alloc rfl (fun b => ?_)
            | refine OpOk.box rfl (fun b => ?_)
            | refine OpOk.build rfl rfl (by repeat (first | exact Nf.nil | apply Nf.cons)) ?_
            | refine OpOk.buildSlice1 (by rfl) (by rfl) (by rfl) (by rfl) (by rfl) (fun b => ?_)
            | refine OpOk.toStr rfl rfl rfl rfl (by first | exact Rs.rds (by assumption) | exact Rds.up (by assumption) | exact Rds.hasSl (by omega) (by omega) (by first | rfl | (simp; done) | (simp; omega))) ?_
            | refine OpOk.make1 rfl rfl rfl (by omega) (fun b => ?_)
            | refine OpOk.append1 rfl rfl rfl rfl rfl rfl (by omega) (fun a' c' hc1 hc2 => ?_)
            | refine OpOk.append0 rfl rfl rfl rfl rfl rfl (by omega) (fun a' c' hc1 hc2 => ?_)
            | refine OpOk.appendE rfl rfl rfl rfl (by first | exact Rs.rds (by assumption) | exact Rds.up (by assumption) | exact Rds.hasSl (by omega) (by omega) (by first | rfl | (simp; done) | (simp; omega))) (one_u8 _) (by omega) (fun a' c' hc1 hc2 => ?_)
            | refine OpOk.append rfl rfl rfl rfl (by first | exact Rs.rds (by assumption) | exact Rds.up (by assumption) | exact Rds.hasSl (by omega) (by omega) (by first | rfl | (simp; done) | (simp; omega))) (one_u8 _) (by omega) (fun a' c' hc1 hc2 => ?_))
        | (show QOk _ _ _ _ _ _ _; first | refine QOk.load rfl rfl (by first | exact Ld.hasBlk rfl | exact Ld.rs (by assumption) (getMap (by omega)) | exact Ld.rds (by assumption) (getMap (by omega)) | exact Ld.hasSl (getMap (by omega)) | exact Ld.hasBlkAt (getMap (by omega))) ?_ | refine QOk.idx1 rfl rfl rfl (by omega) (by first | exact AOk.hasSl | exact AOk.rs (by assumption) | exact AOk.rds (by assumption) | exact AOk.lit) ?_ | refine QOk.loadRow rfl rfl LdN.hasBlk rfl ?_ | refine QOk.toStr rfl rfl rfl rfl (by first | exact Rs.rds (by assumption) | exact Rds.up (by assumption) | exact Rds.hasSl (by omega) (by omega) (by first | rfl | (simp; done) | (simp; omega))) ?_)
        | (show GJ _ _ _ _ _ _ _; first | (apply GJ.and; exact rfl; intro hg) | (apply GJ.or; exact rfl; intro hg) | refine GJ.t (by omega) ?_ | refine GJ.f (by omega) ?_ | refine GJ.ft (by omega) ?_ | refine GJ.ff (by omega) ?_)
        | (show Br _ _ _; first | with_reducible refine Br.tt ?_ | with_reducible refine Br.ff ?_ | with_reducible refine Br.nt ?_ | with_reducible refine Br.nf ?_ | refine Br.t (by omega) ?_ | refine Br.f (by omega) ?_)
        | (show CodeOk _ _ _ _ _ _; refine CodeOk.drawnAuto rfl (by kernel_rfl) rfl (by kernel_rfl) ?_))
      refine mval_ok ?_
      repeat (first
        | refine Stop.mk ?_
        | (show _ ∧ _; first | exact ⟨rfl, rfl, rfl⟩ | refine And.intro (by first | omega | exact u8_range _ | exact add_u8 _ _ (by omega)) ?_ | refine And.intro (inferInstanceAs (Suf _ _)) ?_)
        | (show OpOk _ _ _ _ _ _ _; first
            | refine OpOk.load rfl rfl (by first | exact Ld.hasBlk rfl | exact Ld.rs (by assumption) (getMap (by omega)) | exact Ld.rds (by assumption) (getMap (by omega)) | exact Ld.hasSl (getMap (by omega)) | exact Ld.hasBlkAt (getMap (by omega))) ?_
            | refine OpOk.loadRow rfl rfl LdN.hasBlk rfl ?_
            | refine OpOk.store rfl rfl rfl rfl (by repeat (first | exact SetR.hit _ _ _ | apply SetR.miss)) ?_
            | refine OpOk.storeRow rfl rfl rfl rfl (by rfl) rfl ?_
            | refine OpOk.idx1 rfl rfl rfl (by omega) (by first | exact AOk.hasSl | exact AOk.rs (by assumption) | exact AOk.rds (by assumption) | exact AOk.lit) ?_
            | refine OpOk.alloc rfl (fun b => ?_)
            | refine OpOk.box rfl (fun b => ?_)
            | refine OpOk.build rfl rfl (by repeat (first | exact Nf.nil | apply Nf.cons)) ?_
            | refine OpOk.buildSlice1 (by rfl) (by rfl) (by rfl) (by rfl) (by rfl) (fun b => ?_)
            | refine OpOk.toStr rfl rfl rfl rfl (by first | exact Rs.rds (by assumption) | exact Rds.up (by assumption) | exact Rds.hasSl (by omega) (by omega) (by first | rfl | (simp; done) | (simp; omega))) ?_
            | refine OpOk.make1 rfl rfl rfl (by omega) (fun b => ?_)
            | refine OpOk.append1 rfl rfl rfl rfl rfl rfl (by omega) (fun a' c' hc1 hc2 => ?_)
            | refine OpOk.append0 rfl rfl rfl rfl rfl rfl (by omega) (fun a' c' hc1 hc2 => ?_)
            | refine OpOk.appendE rfl rfl rfl rfl (by first | exact Rs.rds (by assumption) | exact Rds.up (by assumption) | exact Rds.hasSl (by omega) (by omega) (by first | rfl | (simp; done) | (simp; omega))) (one_u8 _) (by omega) (fun a' c' hc1 hc2 => ?_)
            | refine OpOk.append rfl rfl rfl rfl (by first | exact Rs.rds (by assumption) | exact Rds.up (by assumption) | exact Rds.hasSl (by omega) (by omega) (by first | rfl | (simp; done) | (simp; omega))) (one_u8 _) (by omega) (fun a' c' hc1 hc2 => ?_))
        | (show QOk _ _ _ _ _ _ _; first | refine QOk.load rfl rfl (by first | exact Ld.hasBlk rfl | exact Ld.rs (by assumption) (getMap (by omega)) | exact Ld.rds (by assumption) (getMap (by omega)) | exact Ld.hasSl (getMap (by omega)) | exact Ld.hasBlkAt (getMap (by omega))) ?_ | refine QOk.idx1 rfl rfl rfl (by omega) (by first | exact AOk.hasSl | exact AOk.rs (by assumption) | exact AOk.rds (by assumption) | exact AOk.lit) ?_ | refine QOk.loadRow rfl rfl LdN.hasBlk rfl ?_ | refine QOk.toStr rfl rfl rfl rfl (by first | exact Rs.rds (by assumption) | exact Rds.up (by assumption) | exact Rds.hasSl (by omega) (by omega) (by first | rfl | (simp; done) | (simp; omega))) ?_)
        | (show GJ _ _ _ _ _ _ _; first | (apply GJ.and; exact rfl; intro hg) | (apply GJ.or; exact rfl; intro hg) | refine GJ.t (by omega) ?_ | refine GJ.f (by omega) ?_ | refine GJ.ft (by omega) ?_ | refine GJ.ff (by omega) ?_)
        | (show Br _ _ _; first | with_reducible refine Br.tt ?_ | with_reducible refine Br.ff ?_ | with_reducible refine Br.nt ?_ | with_reducible refine Br.nf ?_ | refine Br.t (by omega) ?_ | refine Br.f (by omega) ?_)
        | (show CodeOk _ _ _ _ _ _; refine CodeOk.drawnAuto rfl (by kernel_rfl) rfl (by kernel_rfl) ?_))
      refine mcount_ok ?_
      repeat (first
        | refine Stop.mk ?_
        | (show _ ∧ _; first | exact ⟨rfl, rfl, rfl⟩ | refine And.intro (by first | omega | exact u8_range _ | exact add_u8 _ _ (by omega)) ?_ | refine And.intro (inferInstanceAs (Suf _ _)) ?_)
        | (show OpOk _ _ _ _ _ _ _; first
            | refine OpOk.load rfl rfl (by first | exact Ld.hasBlk rfl | exact Ld.rs (by assumption) (getMap (by omega)) | exact Ld.rds (by assumption) (getMap (by omega)) | exact Ld.hasSl (getMap (by omega)) | exact Ld.hasBlkAt (getMap (by omega))) ?_
            | refine OpOk.loadRow rfl rfl LdN.hasBlk rfl ?_
            | refine OpOk.store rfl rfl rfl rfl (by repeat (first | exact SetR.hit _ _ _ | apply SetR.miss)) ?_
            | refine OpOk.storeRow rfl rfl rfl rfl (by rfl) rfl ?_
            | refine OpOk.idx1 rfl rfl rfl (by omega) (by first | exact AOk.hasSl | exact AOk.rs (by assumption) | exact AOk.rds (by assumption) | exact AOk.lit) ?_
            | refine OpOk.alloc rfl (fun b => ?_)
            | refine OpOk.box rfl (fun b => ?_)
            | refine OpOk.build rfl rfl (by repeat (first | exact Nf.nil | apply Nf.cons)) ?_
            | refine OpOk.buildSlice1 (by rfl) (by rfl) (by rfl) (by rfl) (by rfl) (fun b => ?_)
            | refine OpOk.toStr rfl rfl rfl rfl (by first | exact Rs.rds (by assumption) | exact Rds.up (by assumption) | exact Rds.hasSl (by omega) (by omega) (by first | rfl | (simp; done) | (simp; omega))) ?_
            | refine OpOk.make1 rfl rfl rfl (by omega) (fun b => ?_)
            | refine OpOk.append1 rfl rfl rfl rfl rfl rfl (by omega) (fun a' c' hc1 hc2 => ?_)
            | refine OpOk.append0 rfl rfl rfl rfl rfl rfl (by omega) (fun a' c' hc1 hc2 => ?_)
            | refine OpOk.appendE rfl rfl rfl rfl (by first | exact Rs.rds (by assumption) | exact Rds.up (by assumption) | exact Rds.hasSl (by omega) (by omega) (by first | rfl | (simp; done) | (simp; omega))) (one_u8 _) (by omega) (fun a' c' hc1 hc2 => ?_)
            | refine OpOk.append rfl rfl rfl rfl (by first | exact Rs.rds (by assumption) | exact Rds.up (by assumption) | exact Rds.hasSl (by omega) (by omega) (by first | rfl | (simp; done) | (simp; omega))) (one_u8 _) (by omega) (fun a' c' hc1 hc2 => ?_))
        | (show QOk _ _ _ _ _ _ _; first | refine QOk.load rfl rfl (by first | exact Ld.hasBlk rfl | exact Ld.rs (by assumption) (getMap (by omega)) | exact Ld.rds (by assumption) (getMap (by omega)) | exact Ld.hasSl (getMap (by omega)) | exact Ld.hasBlkAt (getMap (by omega))) ?_ | refine QOk.idx1 rfl rfl rfl (by omega) (by first | exact AOk.hasSl | exact AOk.rs (by assumption) | exact AOk.rds (by assumption) | exact AOk.lit) ?_ | refine QOk.loadRow rfl rfl LdN.hasBlk rfl ?_ | refine QOk.toStr rfl rfl rfl rfl (by first | exact Rs.rds (by assumption) | exact Rds.up (by assumption) | exact Rds.hasSl (by omega) (by omega) (by first | rfl | (simp; done) | (simp; omega))) ?_)
        | (show GJ _ _ _ _ _ _ _; first | (apply GJ.and; exact rfl; intro hg) | (apply GJ.or; exact rfl; intro hg) | refine GJ.t (by omega) ?_ | refine GJ.f (by omega) ?_ | refine GJ.ft (by omega) ?_ | refine GJ.ff (by omega) ?_)
        | (show Br _ _ _; first | with_reducible refine Br.tt ?_ | with_reducible refine Br.ff ?_ | with_reducible refine Br.nt ?_ | with_reducible refine Br.nf ?_ | refine Br.t (by omega) ?_ | refine Br.f (by omega) ?_)
        | (show CodeOk _ _ _ _ _ _; refine CodeOk.drawnAuto rfl (by kernel_rfl) rfl (by kernel_rfl) ?_))
      refine Wk.backB ?_ (by repeat (first | exact Sup.all _ | exact Sup.nil _ | refine Sup.cons (by first | exact Take.hit _ _ | exact Take.miss _ (Take.hit _ _) | exact Take.miss _ (Take.miss _ (Take.hit _ _)) | exact Take.miss _ (Take.miss _ (Take.miss _ (Take.hit _ _))) | exact Take.miss _ (Take.miss _ (Take.miss _ (Take.miss _ (Take.hit _ _)))) | exact Take.miss _ (Take.miss _ (Take.miss _ (Take.miss _ (Take.miss _ (Take.hit _ _))))) | exact Take.miss _ (Take.miss _ (Take.miss _ (Take.miss _ (Take.miss _ (Take.miss _ (Take.hit _ _))))))) ?_ | refine Sup.nilc ?_ | refine Sup.drop _ ?_)) (.refl _) hk
      simp
  · rw [List.drop_eq_nil_of_le (by omega), rd] at i4
    cases i4
    repeat (first
      | refine Stop.mk ?_
      | (show _ ∧ _; first | exact ⟨rfl, rfl, rfl⟩ | refine And.intro (by first | omega | exact u8_range _ | exact add_u8 _ _ (by omega)) ?_ | refine And.intro (inferInstanceAs (Suf _ _)) ?_)
      | (show OpOk _ _ _ _ _ _ _; first
          | refine OpOk.load rfl rfl (by first | exact Ld.hasBlk rfl | exact Ld.rs (by assumption) (getMap (by omega)) | exact Ld.rds (by assumption) (getMap (by omega)) | exact Ld.hasSl (getMap (by omega)) | exact Ld.hasBlkAt (getMap (by omega))) ?_
          | refine OpOk.loadRow rfl rfl LdN.hasBlk rfl ?_
          | refine OpOk.store rfl rfl rfl rfl (by repeat (first | exact SetR.hit _ _ _ | apply SetR.miss)) ?_
          | refine OpOk.storeRow rfl rfl rfl rfl (by rfl) rfl ?_
          | refine OpOk.idx1 rfl rfl rfl (by omega) (by first | exact AOk.hasSl | exact AOk.rs (by assumption) | exact AOk.rds (by assumption) | exact AOk.lit) ?_
          | refine OpOk.alloc rfl (fun b => ?_)
          | refine OpOk.box rfl (fun b => ?_)
          | refine OpOk.build rfl rfl (by repeat (first | exact Nf.nil | apply Nf.cons)) ?_
          | refine OpOk.buildSlice1 (by rfl) (by rfl) (by rfl) (by rfl) (by rfl) (fun b => ?_)
          | refine OpOk.toStr rfl rfl rfl rfl (by first | exact Rs.rds (by assumption) | exact Rds.up (by assumption) | exact Rds.hasSl (by omega) (by omega) (by first | rfl | (simp; done) | (simp; omega))) ?_
          | refine OpOk.make1 rfl rfl rfl (by omega) (fun b => ?_)
          | refine OpOk.append1 rfl rfl rfl rfl rfl rfl (by omega) (fun a' c' hc1 hc2 => ?_)
          | refine OpOk.append0 rfl rfl rfl rfl rfl rfl (by omega) (fun a' c' hc1 hc2 => ?_)
          | refine OpOk.appendE rfl rfl rfl rfl (by first | exact Rs.rds (by assumption) | exact Rds.up (by assumption) | exact Rds.hasSl (by omega) (by omega) (by first | rfl | (simp; done) | (simp; omega))) (one_u8 _) (by omega) (fun a' c' hc1 hc2 => ?_)
          | refine OpOk.append rfl rfl rfl rfl (by first | exact Rs.rds (by assumption) | exact Rds.up (by assumption) | exact Rds.hasSl (by omega) (by omega) (by first | rfl | (simp; done) | (simp; omega))) (one_u8 _) (by omega) (fun a' c' hc1 hc2 => ?_))
      | (show QOk _ _ _ _ _ _ _; first | refine QOk.load rfl rfl (by first | exact Ld.hasBlk rfl | exact Ld.rs (by assumption) (getMap (by omega)) | exact Ld.rds (by assumption) (getMap (by omega)) | exact Ld.hasSl (getMap (by omega)) | exact Ld.hasBlkAt (getMap (by omega))) ?_ | refine QOk.idx1 rfl rfl rfl (by omega) (by first | exact AOk.hasSl | exact AOk.rs (by assumption) | exact AOk.rds (by assumption) | exact AOk.lit) ?_ | refine QOk.loadRow rfl rfl LdN.hasBlk rfl ?_ | refine QOk.toStr rfl rfl rfl rfl (by first | exact Rs.rds (by assumption) | exact Rds.up (by assumption) | exact Rds.hasSl (by omega) (by omega) (by first | rfl | (simp; done) | (simp; omega))) ?_)
      | (show GJ _ _ _ _ _ _ _; first | (apply GJ.and; exact rfl; intro hg) | (apply GJ.or; exact rfl; intro hg) | refine GJ.t (by omega) ?_ | refine GJ.f (by omega) ?_ | refine GJ.ft (by omega) ?_ | refine GJ.ff (by omega) ?_)
      | (show Br _ _ _; first | with_reducible refine Br.tt ?_ | with_reducible refine Br.ff ?_ | with_reducible refine Br.nt ?_ | with_reducible refine Br.nf ?_ | refine Br.t (by omega) ?_ | refine Br.f (by omega) ?_)
      | (show CodeOk _ _ _ _ _ _; refine CodeOk.drawnAuto rfl (by kernel_rfl) rfl (by kernel_rfl) ?_))
    refine mcount_ok ?_
    repeat (first
      | refine Stop.mk ?_
      | (show _ ∧ _; first | exact ⟨rfl, rfl, rfl⟩ | refine And.intro (by first | omega | exact u8_range _ | exact add_u8 _ _ (by omega)) ?_ | refine And.intro (inferInstanceAs (Suf _ _)) ?_)
      | (show OpOk _ _ _ _ _ _ _; first
          | refine OpOk.load rfl rfl (by first | exact Ld.hasBlk rfl | exact Ld.rs (by assumption) (getMap (by omega)) | exact Ld.rds (by assumption) (getMap (by omega)) | exact Ld.hasSl (getMap (by omega)) | exact Ld.hasBlkAt (getMap (by omega))) ?_
          | refine OpOk.loadRow rfl rfl LdN.hasBlk rfl ?_
          | refine OpOk.store rfl rfl rfl rfl (by repeat (first | exact SetR.hit _ _ _ | apply SetR.miss)) ?_
          | refine OpOk.storeRow rfl rfl rfl rfl (by rfl) rfl ?_
          | refine OpOk.idx1 rfl rfl rfl (by omega) (by first | exact AOk.hasSl | exact AOk.rs (by assumption) | exact AOk.rds (by assumption) | exact AOk.lit) ?_
          | refine OpOk.alloc rfl (fun b => ?_)
          | refine OpOk.box rfl (fun b => ?_)
          | refine OpOk.build rfl rfl (by repeat (first | exact Nf.nil | apply Nf.cons)) ?_
          | refine OpOk.buildSlice1 (by rfl) (by rfl) (by rfl) (by rfl) (by rfl) (fun b => ?_)
          | refine OpOk.toStr rfl rfl rfl rfl (by first | exact Rs.rds (by assumption) | exact Rds.up (by assumption) | exact Rds.hasSl (by omega) (by omega) (by first | rfl | (simp; done) | (simp; omega))) ?_
          | refine OpOk.make1 rfl rfl rfl (by omega) (fun b => ?_)
          | refine OpOk.append1 rfl rfl rfl rfl rfl rfl (by omega) (fun a' c' hc1 hc2 => ?_)
          | refine OpOk.append0 rfl rfl rfl rfl rfl rfl (by omega) (fun a' c' hc1 hc2 => ?_)
          | refine OpOk.appendE rfl rfl rfl rfl (by first | exact Rs.rds (by assumption) | exact Rds.up (by assumption) | exact Rds.hasSl (by omega) (by omega) (by first | rfl | (simp; done) | (simp; omega))) (one_u8 _) (by omega) (fun a' c' hc1 hc2 => ?_)
          | refine OpOk.append rfl rfl rfl rfl (by first | exact Rs.rds (by assumption) | exact Rds.up (by assumption) | exact Rds.hasSl (by omega) (by omega) (by first | rfl | (simp; done) | (simp; omega))) (one_u8 _) (by omega) (fun a' c' hc1 hc2 => ?_))
      | (show QOk _ _ _ _ _ _ _; first | refine QOk.load rfl rfl (by first | exact Ld.hasBlk rfl | exact Ld.rs (by assumption) (getMap (by omega)) | exact Ld.rds (by assumption) (getMap (by omega)) | exact Ld.hasSl (getMap (by omega)) | exact Ld.hasBlkAt (getMap (by omega))) ?_ | refine QOk.idx1 rfl rfl rfl (by omega) (by first | exact AOk.hasSl | exact AOk.rs (by assumption) | exact AOk.rds (by assumption) | exact AOk.lit) ?_ | refine QOk.loadRow rfl rfl LdN.hasBlk rfl ?_ | refine QOk.toStr rfl rfl rfl rfl (by first | exact Rs.rds (by assumption) | exact Rds.up (by assumption) | exact Rds.hasSl (by omega) (by omega) (by first | rfl | (simp; done) | (simp; omega))) ?_)
      | (show GJ _ _ _ _ _ _ _; first | (apply GJ.and; exact rfl; intro hg) | (apply GJ.or; exact rfl; intro hg) | refine GJ.t (by omega) ?_ | refine GJ.f (by omega) ?_ | refine GJ.ft (by omega) ?_ | refine GJ.ff (by omega) ?_)
      | (show Br _ _ _; first | with_reducible refine Br.tt ?_ | with_reducible refine Br.ff ?_ | with_reducible refine Br.nt ?_ | with_reducible refine Br.nf ?_ | refine Br.t (by omega) ?_ | refine Br.f (by omega) ?_)
      | (show CodeOk _ _ _ _ _ _; refine CodeOk.drawnAuto rfl (by kernel_rfl) rfl (by kernel_rfl) ?_))
    refine Wk.backB ?_ (by repeat (first | exact Sup.all _ | exact Sup.nil _ | refine Sup.cons (by first | exact Take.hit _ _ | exact Take.miss _ (Take.hit _ _) | exact Take.miss _ (Take.miss _ (Take.hit _ _)) | exact Take.miss _ (Take.miss _ (Take.miss _ (Take.hit _ _))) | exact Take.miss _ (Take.miss _ (Take.miss _ (Take.miss _ (Take.hit _ _)))) | exact Take.miss _ (Take.miss _ (Take.miss _ (Take.miss _ (Take.miss _ (Take.hit _ _))))) | exact Take.miss _ (Take.miss _ (Take.miss _ (Take.miss _ (Take.miss _ (Take.miss _ (Take.hit _ _))))))) ?_ | refine Sup.nilc ?_ | refine Sup.drop _ ?_)) (.refl _) hk
    simp; omega
theorem lebBack_ok {n c : Nat} {a : Option Addr} {l : List UInt8} {x : Nat} (hx : x < 18446744073709551616) (hr : Bys ro a n c l) (hk : K (.bool true) ro own) : CallOk Try.prog 6 #[.int .u64 x, .slice a n c] ro own K := by
  have hl := hr.n
  have hx10 := enc_10 hx
  refine CallOk.back ?_
  refine CallOk.intro (args := [_, _]) (rs := [_]) T_ok Try.func6 Try.call6 rfl rfl (by kernel_rfl) rfl rfl ?_
  repeat (first
    | refine Stop.mk ?_
    | (show _ ∧ _; first | exact ⟨rfl, rfl, rfl⟩ | refine And.intro (by first | omega | exact u8_range _ | exact add_u8 _ _ (by omega)) ?_ | refine And.intro (inferInstanceAs (Suf _ _)) ?_)
    | (show OpOk _ _ _ _ _ _ _; first
        | refine OpOk.load rfl rfl (by first | exact Ld.hasBlk rfl | exact Ld.rs (by assumption) (getMap (by omega)) | exact Ld.rds (by assumption) (getMap (by omega)) | exact Ld.hasSl (getMap (by omega)) | exact Ld.hasBlkAt (getMap (by omega))) ?_
        | refine OpOk.loadRow rfl rfl LdN.hasBlk rfl ?_
        | refine OpOk.store rfl rfl rfl rfl (by repeat (first | exact SetR.hit _ _ _ | apply SetR.miss)) ?_
        | refine OpOk.storeRow rfl rfl rfl rfl (by rfl) rfl ?_
        | refine OpOk.idx1 rfl rfl rfl (by omega) (by first | exact AOk.hasSl | exact AOk.rs (by assumption) | exact AOk.rds (by assumption) | exact AOk.lit) ?_
        | refine OpOk.alloc rfl (fun b => ?_)
        | refine OpOk.box rfl (fun b => ?_)
        | refine OpOk.build rfl rfl (by repeat (first | exact Nf.nil | apply Nf.cons)) ?_
        | refine OpOk.buildSlice1 (by rfl) (by rfl) (by rfl) (by rfl) (by rfl) (fun b => ?_)
        | refine OpOk.toStr rfl rfl rfl rfl (by first | exact Rs.rds (by assumption) | exact Rds.up (by assumption) | exact Rds.hasSl (by omega) (by omega) (by first | rfl | (simp; done) | (simp; omega))) ?_
        | refine OpOk.make1 rfl rfl rfl (by omega) (fun b => ?_)
        | refine OpOk.append1 rfl rfl rfl rfl rfl rfl (by omega) (fun a' c' hc1 hc2 => ?_)
        | refine OpOk.append0 rfl rfl rfl rfl rfl rfl (by omega) (fun a' c' hc1 hc2 => ?_)
        | refine OpOk.appendE rfl rfl rfl rfl (by first | exact Rs.rds (by assumption) | exact Rds.up (by assumption) | exact Rds.hasSl (by omega) (by omega) (by first | rfl | (simp; done) | (simp; omega))) (one_u8 _) (by omega) (fun a' c' hc1 hc2 => ?_)
        | refine OpOk.append rfl rfl rfl rfl (by first | exact Rs.rds (by assumption) | exact Rds.up (by assumption) | exact Rds.hasSl (by omega) (by omega) (by first | rfl | (simp; done) | (simp; omega))) (one_u8 _) (by omega) (fun a' c' hc1 hc2 => ?_))
    | (show QOk _ _ _ _ _ _ _; first | refine QOk.load rfl rfl (by first | exact Ld.hasBlk rfl | exact Ld.rs (by assumption) (getMap (by omega)) | exact Ld.rds (by assumption) (getMap (by omega)) | exact Ld.hasSl (getMap (by omega)) | exact Ld.hasBlkAt (getMap (by omega))) ?_ | refine QOk.idx1 rfl rfl rfl (by omega) (by first | exact AOk.hasSl | exact AOk.rs (by assumption) | exact AOk.rds (by assumption) | exact AOk.lit) ?_ | refine QOk.loadRow rfl rfl LdN.hasBlk rfl ?_ | refine QOk.toStr rfl rfl rfl rfl (by first | exact Rs.rds (by assumption) | exact Rds.up (by assumption) | exact Rds.hasSl (by omega) (by omega) (by first | rfl | (simp; done) | (simp; omega))) ?_)
    | (show GJ _ _ _ _ _ _ _; first | (apply GJ.and; exact rfl; intro hg) | (apply GJ.or; exact rfl; intro hg) | refine GJ.t (by omega) ?_ | refine GJ.f (by omega) ?_ | refine GJ.ft (by omega) ?_ | refine GJ.ff (by omega) ?_)
    | (show Br _ _ _; first | with_reducible refine Br.tt ?_ | with_reducible refine Br.ff ?_ | with_reducible refine Br.nt ?_ | with_reducible refine Br.nf ?_ | refine Br.t (by omega) ?_ | refine Br.f (by omega) ?_)
    | (show CodeOk _ _ _ _ _ _; refine CodeOk.drawnAuto rfl (by kernel_rfl) rfl (by kernel_rfl) ?_))
  refine folds_ok ?_
  repeat (first
    | refine Stop.mk ?_
    | (show _ ∧ _; first | exact ⟨rfl, rfl, rfl⟩ | refine And.intro (by first | omega | exact u8_range _ | exact add_u8 _ _ (by omega)) ?_ | refine And.intro (inferInstanceAs (Suf _ _)) ?_)
    | (show OpOk _ _ _ _ _ _ _; first
        | refine OpOk.load rfl rfl (by first | exact Ld.hasBlk rfl | exact Ld.rs (by assumption) (getMap (by omega)) | exact Ld.rds (by assumption) (getMap (by omega)) | exact Ld.hasSl (getMap (by omega)) | exact Ld.hasBlkAt (getMap (by omega))) ?_
        | refine OpOk.loadRow rfl rfl LdN.hasBlk rfl ?_
        | refine OpOk.store rfl rfl rfl rfl (by repeat (first | exact SetR.hit _ _ _ | apply SetR.miss)) ?_
        | refine OpOk.storeRow rfl rfl rfl rfl (by rfl) rfl ?_
        | refine OpOk.idx1 rfl rfl rfl (by omega) (by first | exact AOk.hasSl | exact AOk.rs (by assumption) | exact AOk.rds (by assumption) | exact AOk.lit) ?_
        | refine OpOk.alloc rfl (fun b => ?_)
        | refine OpOk.box rfl (fun b => ?_)
        | refine OpOk.build rfl rfl (by repeat (first | exact Nf.nil | apply Nf.cons)) ?_
        | refine OpOk.buildSlice1 (by rfl) (by rfl) (by rfl) (by rfl) (by rfl) (fun b => ?_)
        | refine OpOk.toStr rfl rfl rfl rfl (by first | exact Rs.rds (by assumption) | exact Rds.up (by assumption) | exact Rds.hasSl (by omega) (by omega) (by first | rfl | (simp; done) | (simp; omega))) ?_
        | refine OpOk.make1 rfl rfl rfl (by omega) (fun b => ?_)
        | refine OpOk.append1 rfl rfl rfl rfl rfl rfl (by omega) (fun a' c' hc1 hc2 => ?_)
        | refine OpOk.append0 rfl rfl rfl rfl rfl rfl (by omega) (fun a' c' hc1 hc2 => ?_)
        | refine OpOk.appendE rfl rfl rfl rfl (by first | exact Rs.rds (by assumption) | exact Rds.up (by assumption) | exact Rds.hasSl (by omega) (by omega) (by first | rfl | (simp; done) | (simp; omega))) (one_u8 _) (by omega) (fun a' c' hc1 hc2 => ?_)
        | refine OpOk.append rfl rfl rfl rfl (by first | exact Rs.rds (by assumption) | exact Rds.up (by assumption) | exact Rds.hasSl (by omega) (by omega) (by first | rfl | (simp; done) | (simp; omega))) (one_u8 _) (by omega) (fun a' c' hc1 hc2 => ?_))
    | (show QOk _ _ _ _ _ _ _; first | refine QOk.load rfl rfl (by first | exact Ld.hasBlk rfl | exact Ld.rs (by assumption) (getMap (by omega)) | exact Ld.rds (by assumption) (getMap (by omega)) | exact Ld.hasSl (getMap (by omega)) | exact Ld.hasBlkAt (getMap (by omega))) ?_ | refine QOk.idx1 rfl rfl rfl (by omega) (by first | exact AOk.hasSl | exact AOk.rs (by assumption) | exact AOk.rds (by assumption) | exact AOk.lit) ?_ | refine QOk.loadRow rfl rfl LdN.hasBlk rfl ?_ | refine QOk.toStr rfl rfl rfl rfl (by first | exact Rs.rds (by assumption) | exact Rds.up (by assumption) | exact Rds.hasSl (by omega) (by omega) (by first | rfl | (simp; done) | (simp; omega))) ?_)
    | (show GJ _ _ _ _ _ _ _; first | (apply GJ.and; exact rfl; intro hg) | (apply GJ.or; exact rfl; intro hg) | refine GJ.t (by omega) ?_ | refine GJ.f (by omega) ?_ | refine GJ.ft (by omega) ?_ | refine GJ.ff (by omega) ?_)
    | (show Br _ _ _; first | with_reducible refine Br.tt ?_ | with_reducible refine Br.ff ?_ | with_reducible refine Br.nt ?_ | with_reducible refine Br.nf ?_ | refine Br.t (by omega) ?_ | refine Br.f (by omega) ?_)
    | (show CodeOk _ _ _ _ _ _; refine CodeOk.drawnAuto rfl (by kernel_rfl) rfl (by kernel_rfl) ?_))
  refine Br.cases (fun hc => ?_) (fun hc => ?_)
  · repeat (first
      | refine Stop.mk ?_
      | (show _ ∧ _; first | exact ⟨rfl, rfl, rfl⟩ | refine And.intro (by first | omega | exact u8_range _ | exact add_u8 _ _ (by omega)) ?_ | refine And.intro (inferInstanceAs (Suf _ _)) ?_)
      | (show OpOk _ _ _ _ _ _ _; first
          | refine OpOk.load rfl rfl (by first | exact Ld.hasBlk rfl | exact Ld.rs (by assumption) (getMap (by omega)) | exact Ld.rds (by assumption) (getMap (by omega)) | exact Ld.hasSl (getMap (by omega)) | exact Ld.hasBlkAt (getMap (by omega))) ?_
          | refine OpOk.loadRow rfl rfl LdN.hasBlk rfl ?_
          | refine OpOk.store rfl rfl rfl rfl (by repeat (first | exact SetR.hit _ _ _ | apply SetR.miss)) ?_
          | refine OpOk.storeRow rfl rfl rfl rfl (by rfl) rfl ?_
          | refine OpOk.idx1 rfl rfl rfl (by omega) (by first | exact AOk.hasSl | exact AOk.rs (by assumption) | exact AOk.rds (by assumption) | exact AOk.lit) ?_
          | refine OpOk.alloc rfl (fun b => ?_)
          | refine OpOk.box rfl (fun b => ?_)
          | refine OpOk.build rfl rfl (by repeat (first | exact Nf.nil | apply Nf.cons)) ?_
          | refine OpOk.buildSlice1 (by rfl) (by rfl) (by rfl) (by rfl) (by rfl) (fun b => ?_)
          | refine OpOk.toStr rfl rfl rfl rfl (by first | exact Rs.rds (by assumption) | exact Rds.up (by assumption) | exact Rds.hasSl (by omega) (by omega) (by first | rfl | (simp; done) | (simp; omega))) ?_
          | refine OpOk.make1 rfl rfl rfl (by omega) (fun b => ?_)
          | refine OpOk.append1 rfl rfl rfl rfl rfl rfl (by omega) (fun a' c' hc1 hc2 => ?_)
          | refine OpOk.append0 rfl rfl rfl rfl rfl rfl (by omega) (fun a' c' hc1 hc2 => ?_)
          | refine OpOk.appendE rfl rfl rfl rfl (by first | exact Rs.rds (by assumption) | exact Rds.up (by assumption) | exact Rds.hasSl (by omega) (by omega) (by first | rfl | (simp; done) | (simp; omega))) (one_u8 _) (by omega) (fun a' c' hc1 hc2 => ?_)
          | refine OpOk.append rfl rfl rfl rfl (by first | exact Rs.rds (by assumption) | exact Rds.up (by assumption) | exact Rds.hasSl (by omega) (by omega) (by first | rfl | (simp; done) | (simp; omega))) (one_u8 _) (by omega) (fun a' c' hc1 hc2 => ?_))
      | (show QOk _ _ _ _ _ _ _; first | refine QOk.load rfl rfl (by first | exact Ld.hasBlk rfl | exact Ld.rs (by assumption) (getMap (by omega)) | exact Ld.rds (by assumption) (getMap (by omega)) | exact Ld.hasSl (getMap (by omega)) | exact Ld.hasBlkAt (getMap (by omega))) ?_ | refine QOk.idx1 rfl rfl rfl (by omega) (by first | exact AOk.hasSl | exact AOk.rs (by assumption) | exact AOk.rds (by assumption) | exact AOk.lit) ?_ | refine QOk.loadRow rfl rfl LdN.hasBlk rfl ?_ | refine QOk.toStr rfl rfl rfl rfl (by first | exact Rs.rds (by assumption) | exact Rds.up (by assumption) | exact Rds.hasSl (by omega) (by omega) (by first | rfl | (simp; done) | (simp; omega))) ?_)
      | (show GJ _ _ _ _ _ _ _; first | (apply GJ.and; exact rfl; intro hg) | (apply GJ.or; exact rfl; intro hg) | refine GJ.t (by omega) ?_ | refine GJ.f (by omega) ?_ | refine GJ.ft (by omega) ?_ | refine GJ.ff (by omega) ?_)
      | (show Br _ _ _; first | with_reducible refine Br.tt ?_ | with_reducible refine Br.ff ?_ | with_reducible refine Br.nt ?_ | with_reducible refine Br.nf ?_ | refine Br.t (by omega) ?_ | refine Br.f (by omega) ?_)
      | (show CodeOk _ _ _ _ _ _; refine CodeOk.drawnAuto rfl (by kernel_rfl) rfl (by kernel_rfl) ?_))
    exact Wk.back1 (by repeat (first | exact Sup.all _ | exact Sup.nil _ | refine Sup.cons (by first | exact Take.hit _ _ | exact Take.miss _ (Take.hit _ _) | exact Take.miss _ (Take.miss _ (Take.hit _ _)) | exact Take.miss _ (Take.miss _ (Take.miss _ (Take.hit _ _))) | exact Take.miss _ (Take.miss _ (Take.miss _ (Take.miss _ (Take.hit _ _)))) | exact Take.miss _ (Take.miss _ (Take.miss _ (Take.miss _ (Take.miss _ (Take.hit _ _))))) | exact Take.miss _ (Take.miss _ (Take.miss _ (Take.miss _ (Take.miss _ (Take.miss _ (Take.hit _ _))))))) ?_ | refine Sup.nilc ?_ | refine Sup.drop _ ?_)) (.refl _) hk
  repeat (first
    | refine Stop.mk ?_
    | (show _ ∧ _; first | exact ⟨rfl, rfl, rfl⟩ | refine And.intro (by first | omega | exact u8_range _ | exact add_u8 _ _ (by omega)) ?_ | refine And.intro (inferInstanceAs (Suf _ _)) ?_)
    | (show OpOk _ _ _ _ _ _ _; first
        | refine OpOk.load rfl rfl (by first | exact Ld.hasBlk rfl | exact Ld.rs (by assumption) (getMap (by omega)) | exact Ld.rds (by assumption) (getMap (by omega)) | exact Ld.hasSl (getMap (by omega)) | exact Ld.hasBlkAt (getMap (by omega))) ?_
        | refine OpOk.loadRow rfl rfl LdN.hasBlk rfl ?_
        | refine OpOk.store rfl rfl rfl rfl (by repeat (first | exact SetR.hit _ _ _ | apply SetR.miss)) ?_
        | refine OpOk.storeRow rfl rfl rfl rfl (by rfl) rfl ?_
        | refine OpOk.idx1 rfl rfl rfl (by omega) (by first | exact AOk.hasSl | exact AOk.rs (by assumption) | exact AOk.rds (by assumption) | exact AOk.lit) ?_
        | refine OpOk.alloc rfl (fun b => ?_)
        | refine OpOk.box rfl (fun b => ?_)
        | refine OpOk.build rfl rfl (by repeat (first | exact Nf.nil | apply Nf.cons)) ?_
        | refine OpOk.buildSlice1 (by rfl) (by rfl) (by rfl) (by rfl) (by rfl) (fun b => ?_)
        | refine OpOk.toStr rfl rfl rfl rfl (by first | exact Rs.rds (by assumption) | exact Rds.up (by assumption) | exact Rds.hasSl (by omega) (by omega) (by first | rfl | (simp; done) | (simp; omega))) ?_
        | refine OpOk.make1 rfl rfl rfl (by omega) (fun b => ?_)
        | refine OpOk.append1 rfl rfl rfl rfl rfl rfl (by omega) (fun a' c' hc1 hc2 => ?_)
        | refine OpOk.append0 rfl rfl rfl rfl rfl rfl (by omega) (fun a' c' hc1 hc2 => ?_)
        | refine OpOk.appendE rfl rfl rfl rfl (by first | exact Rs.rds (by assumption) | exact Rds.up (by assumption) | exact Rds.hasSl (by omega) (by omega) (by first | rfl | (simp; done) | (simp; omega))) (one_u8 _) (by omega) (fun a' c' hc1 hc2 => ?_)
        | refine OpOk.append rfl rfl rfl rfl (by first | exact Rs.rds (by assumption) | exact Rds.up (by assumption) | exact Rds.hasSl (by omega) (by omega) (by first | rfl | (simp; done) | (simp; omega))) (one_u8 _) (by omega) (fun a' c' hc1 hc2 => ?_))
    | (show QOk _ _ _ _ _ _ _; first | refine QOk.load rfl rfl (by first | exact Ld.hasBlk rfl | exact Ld.rs (by assumption) (getMap (by omega)) | exact Ld.rds (by assumption) (getMap (by omega)) | exact Ld.hasSl (getMap (by omega)) | exact Ld.hasBlkAt (getMap (by omega))) ?_ | refine QOk.idx1 rfl rfl rfl (by omega) (by first | exact AOk.hasSl | exact AOk.rs (by assumption) | exact AOk.rds (by assumption) | exact AOk.lit) ?_ | refine QOk.loadRow rfl rfl LdN.hasBlk rfl ?_ | refine QOk.toStr rfl rfl rfl rfl (by first | exact Rs.rds (by assumption) | exact Rds.up (by assumption) | exact Rds.hasSl (by omega) (by omega) (by first | rfl | (simp; done) | (simp; omega))) ?_)
    | (show GJ _ _ _ _ _ _ _; first | (apply GJ.and; exact rfl; intro hg) | (apply GJ.or; exact rfl; intro hg) | refine GJ.t (by omega) ?_ | refine GJ.f (by omega) ?_ | refine GJ.ft (by omega) ?_ | refine GJ.ff (by omega) ?_)
    | (show Br _ _ _; first | with_reducible refine Br.tt ?_ | with_reducible refine Br.ff ?_ | with_reducible refine Br.nt ?_ | with_reducible refine Br.nf ?_ | refine Br.t (by omega) ?_ | refine Br.f (by omega) ?_)
    | (show CodeOk _ _ _ _ _ _; refine CodeOk.drawnAuto rfl (by kernel_rfl) rfl (by kernel_rfl) ?_))
  refine rput_ok hx (fun a1 n1 c1 h1 h2 h3 => ?_)
  repeat (first
    | refine Stop.mk ?_
    | (show _ ∧ _; first | exact ⟨rfl, rfl, rfl⟩ | refine And.intro (by first | omega | exact u8_range _ | exact add_u8 _ _ (by omega)) ?_ | refine And.intro (inferInstanceAs (Suf _ _)) ?_)
    | (show OpOk _ _ _ _ _ _ _; first
        | refine OpOk.load rfl rfl (by first | exact Ld.hasBlk rfl | exact Ld.rs (by assumption) (getMap (by omega)) | exact Ld.rds (by assumption) (getMap (by omega)) | exact Ld.hasSl (getMap (by omega)) | exact Ld.hasBlkAt (getMap (by omega))) ?_
        | refine OpOk.loadRow rfl rfl LdN.hasBlk rfl ?_
        | refine OpOk.store rfl rfl rfl rfl (by repeat (first | exact SetR.hit _ _ _ | apply SetR.miss)) ?_
        | refine OpOk.storeRow rfl rfl rfl rfl (by rfl) rfl ?_
        | refine OpOk.idx1 rfl rfl rfl (by omega) (by first | exact AOk.hasSl | exact AOk.rs (by assumption) | exact AOk.rds (by assumption) | exact AOk.lit) ?_
        | refine OpOk.alloc rfl (fun b => ?_)
        | refine OpOk.box rfl (fun b => ?_)
        | refine OpOk.build rfl rfl (by repeat (first | exact Nf.nil | apply Nf.cons)) ?_
        | refine OpOk.buildSlice1 (by rfl) (by rfl) (by rfl) (by rfl) (by rfl) (fun b => ?_)
        | refine OpOk.toStr rfl rfl rfl rfl (by first | exact Rs.rds (by assumption) | exact Rds.up (by assumption) | exact Rds.hasSl (by omega) (by omega) (by first | rfl | (simp; done) | (simp; omega))) ?_
        | refine OpOk.make1 rfl rfl rfl (by omega) (fun b => ?_)
        | refine OpOk.append1 rfl rfl rfl rfl rfl rfl (by omega) (fun a' c' hc1 hc2 => ?_)
        | refine OpOk.append0 rfl rfl rfl rfl rfl rfl (by omega) (fun a' c' hc1 hc2 => ?_)
        | refine OpOk.appendE rfl rfl rfl rfl (by first | exact Rs.rds (by assumption) | exact Rds.up (by assumption) | exact Rds.hasSl (by omega) (by omega) (by first | rfl | (simp; done) | (simp; omega))) (one_u8 _) (by omega) (fun a' c' hc1 hc2 => ?_)
        | refine OpOk.append rfl rfl rfl rfl (by first | exact Rs.rds (by assumption) | exact Rds.up (by assumption) | exact Rds.hasSl (by omega) (by omega) (by first | rfl | (simp; done) | (simp; omega))) (one_u8 _) (by omega) (fun a' c' hc1 hc2 => ?_))
    | (show QOk _ _ _ _ _ _ _; first | refine QOk.load rfl rfl (by first | exact Ld.hasBlk rfl | exact Ld.rs (by assumption) (getMap (by omega)) | exact Ld.rds (by assumption) (getMap (by omega)) | exact Ld.hasSl (getMap (by omega)) | exact Ld.hasBlkAt (getMap (by omega))) ?_ | refine QOk.idx1 rfl rfl rfl (by omega) (by first | exact AOk.hasSl | exact AOk.rs (by assumption) | exact AOk.rds (by assumption) | exact AOk.lit) ?_ | refine QOk.loadRow rfl rfl LdN.hasBlk rfl ?_ | refine QOk.toStr rfl rfl rfl rfl (by first | exact Rs.rds (by assumption) | exact Rds.up (by assumption) | exact Rds.hasSl (by omega) (by omega) (by first | rfl | (simp; done) | (simp; omega))) ?_)
    | (show GJ _ _ _ _ _ _ _; first | (apply GJ.and; exact rfl; intro hg) | (apply GJ.or; exact rfl; intro hg) | refine GJ.t (by omega) ?_ | refine GJ.f (by omega) ?_ | refine GJ.ft (by omega) ?_ | refine GJ.ff (by omega) ?_)
    | (show Br _ _ _; first | with_reducible refine Br.tt ?_ | with_reducible refine Br.ff ?_ | with_reducible refine Br.nt ?_ | with_reducible refine Br.nf ?_ | refine Br.t (by omega) ?_ | refine Br.f (by omega) ?_)
    | (show CodeOk _ _ _ _ _ _; refine CodeOk.drawnAuto rfl (by kernel_rfl) rfl (by kernel_rfl) ?_))
  refine put_ok (Rs.rds hr) (by omega) hx (fun a2 n2 c2 h4 h5 h6 => ?_)
  simp only [List.length_append] at h4
  repeat (first
    | refine Stop.mk ?_
    | (show _ ∧ _; first | exact ⟨rfl, rfl, rfl⟩ | refine And.intro (by first | omega | exact u8_range _ | exact add_u8 _ _ (by omega)) ?_ | refine And.intro (inferInstanceAs (Suf _ _)) ?_)
    | (show OpOk _ _ _ _ _ _ _; first
        | refine OpOk.load rfl rfl (by first | exact Ld.hasBlk rfl | exact Ld.rs (by assumption) (getMap (by omega)) | exact Ld.rds (by assumption) (getMap (by omega)) | exact Ld.hasSl (getMap (by omega)) | exact Ld.hasBlkAt (getMap (by omega))) ?_
        | refine OpOk.loadRow rfl rfl LdN.hasBlk rfl ?_
        | refine OpOk.store rfl rfl rfl rfl (by repeat (first | exact SetR.hit _ _ _ | apply SetR.miss)) ?_
        | refine OpOk.storeRow rfl rfl rfl rfl (by rfl) rfl ?_
        | refine OpOk.idx1 rfl rfl rfl (by omega) (by first | exact AOk.hasSl | exact AOk.rs (by assumption) | exact AOk.rds (by assumption) | exact AOk.lit) ?_
        | refine OpOk.alloc rfl (fun b => ?_)
        | refine OpOk.box rfl (fun b => ?_)
        | refine OpOk.build rfl rfl (by repeat (first | exact Nf.nil | apply Nf.cons)) ?_
        | refine OpOk.buildSlice1 (by rfl) (by rfl) (by rfl) (by rfl) (by rfl) (fun b => ?_)
        | refine OpOk.toStr rfl rfl rfl rfl (by first | exact Rs.rds (by assumption) | exact Rds.up (by assumption) | exact Rds.hasSl (by omega) (by omega) (by first | rfl | (simp; done) | (simp; omega))) ?_
        | refine OpOk.make1 rfl rfl rfl (by omega) (fun b => ?_)
        | refine OpOk.append1 rfl rfl rfl rfl rfl rfl (by omega) (fun a' c' hc1 hc2 => ?_)
        | refine OpOk.append0 rfl rfl rfl rfl rfl rfl (by omega) (fun a' c' hc1 hc2 => ?_)
        | refine OpOk.appendE rfl rfl rfl rfl (by first | exact Rs.rds (by assumption) | exact Rds.up (by assumption) | exact Rds.hasSl (by omega) (by omega) (by first | rfl | (simp; done) | (simp; omega))) (one_u8 _) (by omega) (fun a' c' hc1 hc2 => ?_)
        | refine OpOk.append rfl rfl rfl rfl (by first | exact Rs.rds (by assumption) | exact Rds.up (by assumption) | exact Rds.hasSl (by omega) (by omega) (by first | rfl | (simp; done) | (simp; omega))) (one_u8 _) (by omega) (fun a' c' hc1 hc2 => ?_))
    | (show QOk _ _ _ _ _ _ _; first | refine QOk.load rfl rfl (by first | exact Ld.hasBlk rfl | exact Ld.rs (by assumption) (getMap (by omega)) | exact Ld.rds (by assumption) (getMap (by omega)) | exact Ld.hasSl (getMap (by omega)) | exact Ld.hasBlkAt (getMap (by omega))) ?_ | refine QOk.idx1 rfl rfl rfl (by omega) (by first | exact AOk.hasSl | exact AOk.rs (by assumption) | exact AOk.rds (by assumption) | exact AOk.lit) ?_ | refine QOk.loadRow rfl rfl LdN.hasBlk rfl ?_ | refine QOk.toStr rfl rfl rfl rfl (by first | exact Rs.rds (by assumption) | exact Rds.up (by assumption) | exact Rds.hasSl (by omega) (by omega) (by first | rfl | (simp; done) | (simp; omega))) ?_)
    | (show GJ _ _ _ _ _ _ _; first | (apply GJ.and; exact rfl; intro hg) | (apply GJ.or; exact rfl; intro hg) | refine GJ.t (by omega) ?_ | refine GJ.f (by omega) ?_ | refine GJ.ft (by omega) ?_ | refine GJ.ff (by omega) ?_)
    | (show Br _ _ _; first | with_reducible refine Br.tt ?_ | with_reducible refine Br.ff ?_ | with_reducible refine Br.nt ?_ | with_reducible refine Br.nf ?_ | refine Br.t (by omega) ?_ | refine Br.f (by omega) ?_)
    | (show CodeOk _ _ _ _ _ _; refine CodeOk.drawnAuto rfl (by kernel_rfl) rfl (by kernel_rfl) ?_))
  refine llen_ok hx ?_
  rw [← enc_len]
  repeat (first
    | refine Stop.mk ?_
    | (show _ ∧ _; first | exact ⟨rfl, rfl, rfl⟩ | refine And.intro (by first | omega | exact u8_range _ | exact add_u8 _ _ (by omega)) ?_ | refine And.intro (inferInstanceAs (Suf _ _)) ?_)
    | (show OpOk _ _ _ _ _ _ _; first
        | refine OpOk.load rfl rfl (by first | exact Ld.hasBlk rfl | exact Ld.rs (by assumption) (getMap (by omega)) | exact Ld.rds (by assumption) (getMap (by omega)) | exact Ld.hasSl (getMap (by omega)) | exact Ld.hasBlkAt (getMap (by omega))) ?_
        | refine OpOk.loadRow rfl rfl LdN.hasBlk rfl ?_
        | refine OpOk.store rfl rfl rfl rfl (by repeat (first | exact SetR.hit _ _ _ | apply SetR.miss)) ?_
        | refine OpOk.storeRow rfl rfl rfl rfl (by rfl) rfl ?_
        | refine OpOk.idx1 rfl rfl rfl (by omega) (by first | exact AOk.hasSl | exact AOk.rs (by assumption) | exact AOk.rds (by assumption) | exact AOk.lit) ?_
        | refine OpOk.alloc rfl (fun b => ?_)
        | refine OpOk.box rfl (fun b => ?_)
        | refine OpOk.build rfl rfl (by repeat (first | exact Nf.nil | apply Nf.cons)) ?_
        | refine OpOk.buildSlice1 (by rfl) (by rfl) (by rfl) (by rfl) (by rfl) (fun b => ?_)
        | refine OpOk.toStr rfl rfl rfl rfl (by first | exact Rs.rds (by assumption) | exact Rds.up (by assumption) | exact Rds.hasSl (by omega) (by omega) (by first | rfl | (simp; done) | (simp; omega))) ?_
        | refine OpOk.make1 rfl rfl rfl (by omega) (fun b => ?_)
        | refine OpOk.append1 rfl rfl rfl rfl rfl rfl (by omega) (fun a' c' hc1 hc2 => ?_)
        | refine OpOk.append0 rfl rfl rfl rfl rfl rfl (by omega) (fun a' c' hc1 hc2 => ?_)
        | refine OpOk.appendE rfl rfl rfl rfl (by first | exact Rs.rds (by assumption) | exact Rds.up (by assumption) | exact Rds.hasSl (by omega) (by omega) (by first | rfl | (simp; done) | (simp; omega))) (one_u8 _) (by omega) (fun a' c' hc1 hc2 => ?_)
        | refine OpOk.append rfl rfl rfl rfl (by first | exact Rs.rds (by assumption) | exact Rds.up (by assumption) | exact Rds.hasSl (by omega) (by omega) (by first | rfl | (simp; done) | (simp; omega))) (one_u8 _) (by omega) (fun a' c' hc1 hc2 => ?_))
    | (show QOk _ _ _ _ _ _ _; first | refine QOk.load rfl rfl (by first | exact Ld.hasBlk rfl | exact Ld.rs (by assumption) (getMap (by omega)) | exact Ld.rds (by assumption) (getMap (by omega)) | exact Ld.hasSl (getMap (by omega)) | exact Ld.hasBlkAt (getMap (by omega))) ?_ | refine QOk.idx1 rfl rfl rfl (by omega) (by first | exact AOk.hasSl | exact AOk.rs (by assumption) | exact AOk.rds (by assumption) | exact AOk.lit) ?_ | refine QOk.loadRow rfl rfl LdN.hasBlk rfl ?_ | refine QOk.toStr rfl rfl rfl rfl (by first | exact Rs.rds (by assumption) | exact Rds.up (by assumption) | exact Rds.hasSl (by omega) (by omega) (by first | rfl | (simp; done) | (simp; omega))) ?_)
    | (show GJ _ _ _ _ _ _ _; first | (apply GJ.and; exact rfl; intro hg) | (apply GJ.or; exact rfl; intro hg) | refine GJ.t (by omega) ?_ | refine GJ.f (by omega) ?_ | refine GJ.ft (by omega) ?_ | refine GJ.ff (by omega) ?_)
    | (show Br _ _ _; first | with_reducible refine Br.tt ?_ | with_reducible refine Br.ff ?_ | with_reducible refine Br.nt ?_ | with_reducible refine Br.nf ?_ | refine Br.t (by omega) ?_ | refine Br.f (by omega) ?_)
    | (show CodeOk _ _ _ _ _ _; refine CodeOk.drawnAuto rfl (by kernel_rfl) rfl (by kernel_rfl) ?_))
  refine Br.f (by simp [h1]) ?_
  repeat (first
    | refine Stop.mk ?_
    | (show _ ∧ _; first | exact ⟨rfl, rfl, rfl⟩ | refine And.intro (by first | omega | exact u8_range _ | exact add_u8 _ _ (by omega)) ?_ | refine And.intro (inferInstanceAs (Suf _ _)) ?_)
    | (show OpOk _ _ _ _ _ _ _; first
        | refine OpOk.load rfl rfl (by first | exact Ld.hasBlk rfl | exact Ld.rs (by assumption) (getMap (by omega)) | exact Ld.rds (by assumption) (getMap (by omega)) | exact Ld.hasSl (getMap (by omega)) | exact Ld.hasBlkAt (getMap (by omega))) ?_
        | refine OpOk.loadRow rfl rfl LdN.hasBlk rfl ?_
        | refine OpOk.store rfl rfl rfl rfl (by repeat (first | exact SetR.hit _ _ _ | apply SetR.miss)) ?_
        | refine OpOk.storeRow rfl rfl rfl rfl (by rfl) rfl ?_
        | refine OpOk.idx1 rfl rfl rfl (by omega) (by first | exact AOk.hasSl | exact AOk.rs (by assumption) | exact AOk.rds (by assumption) | exact AOk.lit) ?_
        | refine OpOk.alloc rfl (fun b => ?_)
        | refine OpOk.box rfl (fun b => ?_)
        | refine OpOk.build rfl rfl (by repeat (first | exact Nf.nil | apply Nf.cons)) ?_
        | refine OpOk.buildSlice1 (by rfl) (by rfl) (by rfl) (by rfl) (by rfl) (fun b => ?_)
        | refine OpOk.toStr rfl rfl rfl rfl (by first | exact Rs.rds (by assumption) | exact Rds.up (by assumption) | exact Rds.hasSl (by omega) (by omega) (by first | rfl | (simp; done) | (simp; omega))) ?_
        | refine OpOk.make1 rfl rfl rfl (by omega) (fun b => ?_)
        | refine OpOk.append1 rfl rfl rfl rfl rfl rfl (by omega) (fun a' c' hc1 hc2 => ?_)
        | refine OpOk.append0 rfl rfl rfl rfl rfl rfl (by omega) (fun a' c' hc1 hc2 => ?_)
        | refine OpOk.appendE rfl rfl rfl rfl (by first | exact Rs.rds (by assumption) | exact Rds.up (by assumption) | exact Rds.hasSl (by omega) (by omega) (by first | rfl | (simp; done) | (simp; omega))) (one_u8 _) (by omega) (fun a' c' hc1 hc2 => ?_)
        | refine OpOk.append rfl rfl rfl rfl (by first | exact Rs.rds (by assumption) | exact Rds.up (by assumption) | exact Rds.hasSl (by omega) (by omega) (by first | rfl | (simp; done) | (simp; omega))) (one_u8 _) (by omega) (fun a' c' hc1 hc2 => ?_))
    | (show QOk _ _ _ _ _ _ _; first | refine QOk.load rfl rfl (by first | exact Ld.hasBlk rfl | exact Ld.rs (by assumption) (getMap (by omega)) | exact Ld.rds (by assumption) (getMap (by omega)) | exact Ld.hasSl (getMap (by omega)) | exact Ld.hasBlkAt (getMap (by omega))) ?_ | refine QOk.idx1 rfl rfl rfl (by omega) (by first | exact AOk.hasSl | exact AOk.rs (by assumption) | exact AOk.rds (by assumption) | exact AOk.lit) ?_ | refine QOk.loadRow rfl rfl LdN.hasBlk rfl ?_ | refine QOk.toStr rfl rfl rfl rfl (by first | exact Rs.rds (by assumption) | exact Rds.up (by assumption) | exact Rds.hasSl (by omega) (by omega) (by first | rfl | (simp; done) | (simp; omega))) ?_)
    | (show GJ _ _ _ _ _ _ _; first | (apply GJ.and; exact rfl; intro hg) | (apply GJ.or; exact rfl; intro hg) | refine GJ.t (by omega) ?_ | refine GJ.f (by omega) ?_ | refine GJ.ft (by omega) ?_ | refine GJ.ff (by omega) ?_)
    | (show Br _ _ _; first | with_reducible refine Br.tt ?_ | with_reducible refine Br.ff ?_ | with_reducible refine Br.nt ?_ | with_reducible refine Br.nf ?_ | refine Br.t (by omega) ?_ | refine Br.f (by omega) ?_)
    | (show CodeOk _ _ _ _ _ _; refine CodeOk.drawnAuto rfl (by kernel_rfl) rfl (by kernel_rfl) ?_))
  refine new_ok (fun b1 => ?_)
  repeat (first
    | refine Stop.mk ?_
    | (show _ ∧ _; first | exact ⟨rfl, rfl, rfl⟩ | refine And.intro (by first | omega | exact u8_range _ | exact add_u8 _ _ (by omega)) ?_ | refine And.intro (inferInstanceAs (Suf _ _)) ?_)
    | (show OpOk _ _ _ _ _ _ _; first
        | refine OpOk.load rfl rfl (by first | exact Ld.hasBlk rfl | exact Ld.rs (by assumption) (getMap (by omega)) | exact Ld.rds (by assumption) (getMap (by omega)) | exact Ld.hasSl (getMap (by omega)) | exact Ld.hasBlkAt (getMap (by omega))) ?_
        | refine OpOk.loadRow rfl rfl LdN.hasBlk rfl ?_
        | refine OpOk.store rfl rfl rfl rfl (by repeat (first | exact SetR.hit _ _ _ | apply SetR.miss)) ?_
        | refine OpOk.storeRow rfl rfl rfl rfl (by rfl) rfl ?_
        | refine OpOk.idx1 rfl rfl rfl (by omega) (by first | exact AOk.hasSl | exact AOk.rs (by assumption) | exact AOk.rds (by assumption) | exact AOk.lit) ?_
        | refine OpOk.alloc rfl (fun b => ?_)
        | refine OpOk.box rfl (fun b => ?_)
        | refine OpOk.build rfl rfl (by repeat (first | exact Nf.nil | apply Nf.cons)) ?_
        | refine OpOk.buildSlice1 (by rfl) (by rfl) (by rfl) (by rfl) (by rfl) (fun b => ?_)
        | refine OpOk.toStr rfl rfl rfl rfl (by first | exact Rs.rds (by assumption) | exact Rds.up (by assumption) | exact Rds.hasSl (by omega) (by omega) (by first | rfl | (simp; done) | (simp; omega))) ?_
        | refine OpOk.make1 rfl rfl rfl (by omega) (fun b => ?_)
        | refine OpOk.append1 rfl rfl rfl rfl rfl rfl (by omega) (fun a' c' hc1 hc2 => ?_)
        | refine OpOk.append0 rfl rfl rfl rfl rfl rfl (by omega) (fun a' c' hc1 hc2 => ?_)
        | refine OpOk.appendE rfl rfl rfl rfl (by first | exact Rs.rds (by assumption) | exact Rds.up (by assumption) | exact Rds.hasSl (by omega) (by omega) (by first | rfl | (simp; done) | (simp; omega))) (one_u8 _) (by omega) (fun a' c' hc1 hc2 => ?_)
        | refine OpOk.append rfl rfl rfl rfl (by first | exact Rs.rds (by assumption) | exact Rds.up (by assumption) | exact Rds.hasSl (by omega) (by omega) (by first | rfl | (simp; done) | (simp; omega))) (one_u8 _) (by omega) (fun a' c' hc1 hc2 => ?_))
    | (show QOk _ _ _ _ _ _ _; first | refine QOk.load rfl rfl (by first | exact Ld.hasBlk rfl | exact Ld.rs (by assumption) (getMap (by omega)) | exact Ld.rds (by assumption) (getMap (by omega)) | exact Ld.hasSl (getMap (by omega)) | exact Ld.hasBlkAt (getMap (by omega))) ?_ | refine QOk.idx1 rfl rfl rfl (by omega) (by first | exact AOk.hasSl | exact AOk.rs (by assumption) | exact AOk.rds (by assumption) | exact AOk.lit) ?_ | refine QOk.loadRow rfl rfl LdN.hasBlk rfl ?_ | refine QOk.toStr rfl rfl rfl rfl (by first | exact Rs.rds (by assumption) | exact Rds.up (by assumption) | exact Rds.hasSl (by omega) (by omega) (by first | rfl | (simp; done) | (simp; omega))) ?_)
    | (show GJ _ _ _ _ _ _ _; first | (apply GJ.and; exact rfl; intro hg) | (apply GJ.or; exact rfl; intro hg) | refine GJ.t (by omega) ?_ | refine GJ.f (by omega) ?_ | refine GJ.ft (by omega) ?_ | refine GJ.ff (by omega) ?_)
    | (show Br _ _ _; first | with_reducible refine Br.tt ?_ | with_reducible refine Br.ff ?_ | with_reducible refine Br.nt ?_ | with_reducible refine Br.nf ?_ | refine Br.t (by omega) ?_ | refine Br.f (by omega) ?_)
    | (show CodeOk _ _ _ _ _ _; refine CodeOk.drawnAuto rfl (by kernel_rfl) rfl (by kernel_rfl) ?_))
  refine CallOk.freeze (c := .sl a' _ _ _ _ _) (by first | exact Take.hit _ _ | exact Take.miss _ (Take.hit _ _) | exact Take.miss _ (Take.miss _ (Take.hit _ _)) | exact Take.miss _ (Take.miss _ (Take.miss _ (Take.hit _ _))) | exact Take.miss _ (Take.miss _ (Take.miss _ (Take.miss _ (Take.hit _ _)))) | exact Take.miss _ (Take.miss _ (Take.miss _ (Take.miss _ (Take.miss _ (Take.hit _ _))))) | exact Take.miss _ (Take.miss _ (Take.miss _ (Take.miss _ (Take.miss _ (Take.miss _ (Take.hit _ _))))))) (fun ro1 hl1 hz1 => ?_) Try.call32
  have hB : Bys ro1 a' (n1 + n) c' (enc x ++ l) := by
    have := Rs.last hz1
    rw [← List.map_append] at this
    exact this
  refine readR (k := 0) hB (by omega) (by omega) (fun v many e h7 h8 h9 h10 => ?_)
  rw [List.drop_zero, rd_enc l x 0 0 (by simpa using hx) (.inl rfl)] at h7
  simp only [Nat.zero_add, Nat.mul_zero, Nat.pow_zero, Nat.mul_one] at h7
  cases h7
  repeat (first
    | refine Stop.mk ?_
    | (show _ ∧ _; first | exact ⟨rfl, rfl, rfl⟩ | refine And.intro (by first | omega | exact u8_range _ | exact add_u8 _ _ (by omega)) ?_ | refine And.intro (inferInstanceAs (Suf _ _)) ?_)
    | (show OpOk _ _ _ _ _ _ _; first
        | refine OpOk.load rfl rfl (by first | exact Ld.hasBlk rfl | exact Ld.rs (by assumption) (getMap (by omega)) | exact Ld.rds (by assumption) (getMap (by omega)) | exact Ld.hasSl (getMap (by omega)) | exact Ld.hasBlkAt (getMap (by omega))) ?_
        | refine OpOk.loadRow rfl rfl LdN.hasBlk rfl ?_
        | refine OpOk.store rfl rfl rfl rfl (by repeat (first | exact SetR.hit _ _ _ | apply SetR.miss)) ?_
        | refine OpOk.storeRow rfl rfl rfl rfl (by rfl) rfl ?_
        | refine OpOk.idx1 rfl rfl rfl (by omega) (by first | exact AOk.hasSl | exact AOk.rs (by assumption) | exact AOk.rds (by assumption) | exact AOk.lit) ?_
        | refine OpOk.alloc rfl (fun b => ?_)
        | refine OpOk.box rfl (fun b => ?_)
        | refine OpOk.build rfl rfl (by repeat (first | exact Nf.nil | apply Nf.cons)) ?_
        | refine OpOk.buildSlice1 (by rfl) (by rfl) (by rfl) (by rfl) (by rfl) (fun b => ?_)
        | refine OpOk.toStr rfl rfl rfl rfl (by first | exact Rs.rds (by assumption) | exact Rds.up (by assumption) | exact Rds.hasSl (by omega) (by omega) (by first | rfl | (simp; done) | (simp; omega))) ?_
        | refine OpOk.make1 rfl rfl rfl (by omega) (fun b => ?_)
        | refine OpOk.append1 rfl rfl rfl rfl rfl rfl (by omega) (fun a' c' hc1 hc2 => ?_)
        | refine OpOk.append0 rfl rfl rfl rfl rfl rfl (by omega) (fun a' c' hc1 hc2 => ?_)
        | refine OpOk.appendE rfl rfl rfl rfl (by first | exact Rs.rds (by assumption) | exact Rds.up (by assumption) | exact Rds.hasSl (by omega) (by omega) (by first | rfl | (simp; done) | (simp; omega))) (one_u8 _) (by omega) (fun a' c' hc1 hc2 => ?_)
        | refine OpOk.append rfl rfl rfl rfl (by first | exact Rs.rds (by assumption) | exact Rds.up (by assumption) | exact Rds.hasSl (by omega) (by omega) (by first | rfl | (simp; done) | (simp; omega))) (one_u8 _) (by omega) (fun a' c' hc1 hc2 => ?_))
    | (show QOk _ _ _ _ _ _ _; first | refine QOk.load rfl rfl (by first | exact Ld.hasBlk rfl | exact Ld.rs (by assumption) (getMap (by omega)) | exact Ld.rds (by assumption) (getMap (by omega)) | exact Ld.hasSl (getMap (by omega)) | exact Ld.hasBlkAt (getMap (by omega))) ?_ | refine QOk.idx1 rfl rfl rfl (by omega) (by first | exact AOk.hasSl | exact AOk.rs (by assumption) | exact AOk.rds (by assumption) | exact AOk.lit) ?_ | refine QOk.loadRow rfl rfl LdN.hasBlk rfl ?_ | refine QOk.toStr rfl rfl rfl rfl (by first | exact Rs.rds (by assumption) | exact Rds.up (by assumption) | exact Rds.hasSl (by omega) (by omega) (by first | rfl | (simp; done) | (simp; omega))) ?_)
    | (show GJ _ _ _ _ _ _ _; first | (apply GJ.and; exact rfl; intro hg) | (apply GJ.or; exact rfl; intro hg) | refine GJ.t (by omega) ?_ | refine GJ.f (by omega) ?_ | refine GJ.ft (by omega) ?_ | refine GJ.ff (by omega) ?_)
    | (show Br _ _ _; first | with_reducible refine Br.tt ?_ | with_reducible refine Br.ff ?_ | with_reducible refine Br.nt ?_ | with_reducible refine Br.nf ?_ | refine Br.t (by omega) ?_ | refine Br.f (by omega) ?_)
    | (show CodeOk _ _ _ _ _ _; refine CodeOk.drawnAuto rfl (by kernel_rfl) rfl (by kernel_rfl) ?_))
  refine left_ok (by omega) (by omega) ?_
  repeat (first
    | refine Stop.mk ?_
    | (show _ ∧ _; first | exact ⟨rfl, rfl, rfl⟩ | refine And.intro (by first | omega | exact u8_range _ | exact add_u8 _ _ (by omega)) ?_ | refine And.intro (inferInstanceAs (Suf _ _)) ?_)
    | (show OpOk _ _ _ _ _ _ _; first
        | refine OpOk.load rfl rfl (by first | exact Ld.hasBlk rfl | exact Ld.rs (by assumption) (getMap (by omega)) | exact Ld.rds (by assumption) (getMap (by omega)) | exact Ld.hasSl (getMap (by omega)) | exact Ld.hasBlkAt (getMap (by omega))) ?_
        | refine OpOk.loadRow rfl rfl LdN.hasBlk rfl ?_
        | refine OpOk.store rfl rfl rfl rfl (by repeat (first | exact SetR.hit _ _ _ | apply SetR.miss)) ?_
        | refine OpOk.storeRow rfl rfl rfl rfl (by rfl) rfl ?_
        | refine OpOk.idx1 rfl rfl rfl (by omega) (by first | exact AOk.hasSl | exact AOk.rs (by assumption) | exact AOk.rds (by assumption) | exact AOk.lit) ?_
        | refine OpOk.alloc rfl (fun b => ?_)
        | refine OpOk.box rfl (fun b => ?_)
        | refine OpOk.build rfl rfl (by repeat (first | exact Nf.nil | apply Nf.cons)) ?_
        | refine OpOk.buildSlice1 (by rfl) (by rfl) (by rfl) (by rfl) (by rfl) (fun b => ?_)
        | refine OpOk.toStr rfl rfl rfl rfl (by first | exact Rs.rds (by assumption) | exact Rds.up (by assumption) | exact Rds.hasSl (by omega) (by omega) (by first | rfl | (simp; done) | (simp; omega))) ?_
        | refine OpOk.make1 rfl rfl rfl (by omega) (fun b => ?_)
        | refine OpOk.append1 rfl rfl rfl rfl rfl rfl (by omega) (fun a' c' hc1 hc2 => ?_)
        | refine OpOk.append0 rfl rfl rfl rfl rfl rfl (by omega) (fun a' c' hc1 hc2 => ?_)
        | refine OpOk.appendE rfl rfl rfl rfl (by first | exact Rs.rds (by assumption) | exact Rds.up (by assumption) | exact Rds.hasSl (by omega) (by omega) (by first | rfl | (simp; done) | (simp; omega))) (one_u8 _) (by omega) (fun a' c' hc1 hc2 => ?_)
        | refine OpOk.append rfl rfl rfl rfl (by first | exact Rs.rds (by assumption) | exact Rds.up (by assumption) | exact Rds.hasSl (by omega) (by omega) (by first | rfl | (simp; done) | (simp; omega))) (one_u8 _) (by omega) (fun a' c' hc1 hc2 => ?_))
    | (show QOk _ _ _ _ _ _ _; first | refine QOk.load rfl rfl (by first | exact Ld.hasBlk rfl | exact Ld.rs (by assumption) (getMap (by omega)) | exact Ld.rds (by assumption) (getMap (by omega)) | exact Ld.hasSl (getMap (by omega)) | exact Ld.hasBlkAt (getMap (by omega))) ?_ | refine QOk.idx1 rfl rfl rfl (by omega) (by first | exact AOk.hasSl | exact AOk.rs (by assumption) | exact AOk.rds (by assumption) | exact AOk.lit) ?_ | refine QOk.loadRow rfl rfl LdN.hasBlk rfl ?_ | refine QOk.toStr rfl rfl rfl rfl (by first | exact Rs.rds (by assumption) | exact Rds.up (by assumption) | exact Rds.hasSl (by omega) (by omega) (by first | rfl | (simp; done) | (simp; omega))) ?_)
    | (show GJ _ _ _ _ _ _ _; first | (apply GJ.and; exact rfl; intro hg) | (apply GJ.or; exact rfl; intro hg) | refine GJ.t (by omega) ?_ | refine GJ.f (by omega) ?_ | refine GJ.ft (by omega) ?_ | refine GJ.ff (by omega) ?_)
    | (show Br _ _ _; first | with_reducible refine Br.tt ?_ | with_reducible refine Br.ff ?_ | with_reducible refine Br.nt ?_ | with_reducible refine Br.nf ?_ | refine Br.t (by omega) ?_ | refine Br.f (by omega) ?_)
    | (show CodeOk _ _ _ _ _ _; refine CodeOk.drawnAuto rfl (by kernel_rfl) rfl (by kernel_rfl) ?_))
  refine new_ok (fun b2 => ?_)
  repeat (first
    | refine Stop.mk ?_
    | (show _ ∧ _; first | exact ⟨rfl, rfl, rfl⟩ | refine And.intro (by first | omega | exact u8_range _ | exact add_u8 _ _ (by omega)) ?_ | refine And.intro (inferInstanceAs (Suf _ _)) ?_)
    | (show OpOk _ _ _ _ _ _ _; first
        | refine OpOk.load rfl rfl (by first | exact Ld.hasBlk rfl | exact Ld.rs (by assumption) (getMap (by omega)) | exact Ld.rds (by assumption) (getMap (by omega)) | exact Ld.hasSl (getMap (by omega)) | exact Ld.hasBlkAt (getMap (by omega))) ?_
        | refine OpOk.loadRow rfl rfl LdN.hasBlk rfl ?_
        | refine OpOk.store rfl rfl rfl rfl (by repeat (first | exact SetR.hit _ _ _ | apply SetR.miss)) ?_
        | refine OpOk.storeRow rfl rfl rfl rfl (by rfl) rfl ?_
        | refine OpOk.idx1 rfl rfl rfl (by omega) (by first | exact AOk.hasSl | exact AOk.rs (by assumption) | exact AOk.rds (by assumption) | exact AOk.lit) ?_
        | refine OpOk.alloc rfl (fun b => ?_)
        | refine OpOk.box rfl (fun b => ?_)
        | refine OpOk.build rfl rfl (by repeat (first | exact Nf.nil | apply Nf.cons)) ?_
        | refine OpOk.buildSlice1 (by rfl) (by rfl) (by rfl) (by rfl) (by rfl) (fun b => ?_)
        | refine OpOk.toStr rfl rfl rfl rfl (by first | exact Rs.rds (by assumption) | exact Rds.up (by assumption) | exact Rds.hasSl (by omega) (by omega) (by first | rfl | (simp; done) | (simp; omega))) ?_
        | refine OpOk.make1 rfl rfl rfl (by omega) (fun b => ?_)
        | refine OpOk.append1 rfl rfl rfl rfl rfl rfl (by omega) (fun a' c' hc1 hc2 => ?_)
        | refine OpOk.append0 rfl rfl rfl rfl rfl rfl (by omega) (fun a' c' hc1 hc2 => ?_)
        | refine OpOk.appendE rfl rfl rfl rfl (by first | exact Rs.rds (by assumption) | exact Rds.up (by assumption) | exact Rds.hasSl (by omega) (by omega) (by first | rfl | (simp; done) | (simp; omega))) (one_u8 _) (by omega) (fun a' c' hc1 hc2 => ?_)
        | refine OpOk.append rfl rfl rfl rfl (by first | exact Rs.rds (by assumption) | exact Rds.up (by assumption) | exact Rds.hasSl (by omega) (by omega) (by first | rfl | (simp; done) | (simp; omega))) (one_u8 _) (by omega) (fun a' c' hc1 hc2 => ?_))
    | (show QOk _ _ _ _ _ _ _; first | refine QOk.load rfl rfl (by first | exact Ld.hasBlk rfl | exact Ld.rs (by assumption) (getMap (by omega)) | exact Ld.rds (by assumption) (getMap (by omega)) | exact Ld.hasSl (getMap (by omega)) | exact Ld.hasBlkAt (getMap (by omega))) ?_ | refine QOk.idx1 rfl rfl rfl (by omega) (by first | exact AOk.hasSl | exact AOk.rs (by assumption) | exact AOk.rds (by assumption) | exact AOk.lit) ?_ | refine QOk.loadRow rfl rfl LdN.hasBlk rfl ?_ | refine QOk.toStr rfl rfl rfl rfl (by first | exact Rs.rds (by assumption) | exact Rds.up (by assumption) | exact Rds.hasSl (by omega) (by omega) (by first | rfl | (simp; done) | (simp; omega))) ?_)
    | (show GJ _ _ _ _ _ _ _; first | (apply GJ.and; exact rfl; intro hg) | (apply GJ.or; exact rfl; intro hg) | refine GJ.t (by omega) ?_ | refine GJ.f (by omega) ?_ | refine GJ.ft (by omega) ?_ | refine GJ.ff (by omega) ?_)
    | (show Br _ _ _; first | with_reducible refine Br.tt ?_ | with_reducible refine Br.ff ?_ | with_reducible refine Br.nt ?_ | with_reducible refine Br.nf ?_ | refine Br.t (by omega) ?_ | refine Br.f (by omega) ?_)
    | (show CodeOk _ _ _ _ _ _; refine CodeOk.drawnAuto rfl (by kernel_rfl) rfl (by kernel_rfl) ?_))
  refine CallOk.freeze (c := .sl a1 _ _ _ _ _) (by first | exact Take.hit _ _ | exact Take.miss _ (Take.hit _ _) | exact Take.miss _ (Take.miss _ (Take.hit _ _)) | exact Take.miss _ (Take.miss _ (Take.miss _ (Take.hit _ _))) | exact Take.miss _ (Take.miss _ (Take.miss _ (Take.miss _ (Take.hit _ _)))) | exact Take.miss _ (Take.miss _ (Take.miss _ (Take.miss _ (Take.miss _ (Take.hit _ _))))) | exact Take.miss _ (Take.miss _ (Take.miss _ (Take.miss _ (Take.miss _ (Take.miss _ (Take.hit _ _))))))) (fun ro2 hl2 hz2 => ?_) Try.call32
  have hE : Bys ro2 a1 n1 c1 (enc x) := Rs.last hz2
  have hcut := hE.cutB (lo := 0) (hi := (n1 : Int) - 1) (by omega)
  refine readR (k := 0) hcut (by omega) (by omega) (fun v many e h11 h12 h13 h14 => ?_)
  have h15 : (List.take (((n1 : Int) - 1).toNat - Int.toNat 0) (List.drop (Int.toNat 0) (enc x))) = (enc x).take ((enc x).length - 1) := by
    rw [Int.toNat_zero, List.drop_zero]; congr 1; omega
  rw [List.drop_zero, h15, rd_short x 0 0 (by simpa using hx)] at h11
  cases h11
  repeat (first
    | refine Stop.mk ?_
    | (show _ ∧ _; first | exact ⟨rfl, rfl, rfl⟩ | refine And.intro (by first | omega | exact u8_range _ | exact add_u8 _ _ (by omega)) ?_ | refine And.intro (inferInstanceAs (Suf _ _)) ?_)
    | (show OpOk _ _ _ _ _ _ _; first
        | refine OpOk.load rfl rfl (by first | exact Ld.hasBlk rfl | exact Ld.rs (by assumption) (getMap (by omega)) | exact Ld.rds (by assumption) (getMap (by omega)) | exact Ld.hasSl (getMap (by omega)) | exact Ld.hasBlkAt (getMap (by omega))) ?_
        | refine OpOk.loadRow rfl rfl LdN.hasBlk rfl ?_
        | refine OpOk.store rfl rfl rfl rfl (by repeat (first | exact SetR.hit _ _ _ | apply SetR.miss)) ?_
        | refine OpOk.storeRow rfl rfl rfl rfl (by rfl) rfl ?_
        | refine OpOk.idx1 rfl rfl rfl (by omega) (by first | exact AOk.hasSl | exact AOk.rs (by assumption) | exact AOk.rds (by assumption) | exact AOk.lit) ?_
        | refine OpOk.alloc rfl (fun b => ?_)
        | refine OpOk.box rfl (fun b => ?_)
        | refine OpOk.build rfl rfl (by repeat (first | exact Nf.nil | apply Nf.cons)) ?_
        | refine OpOk.buildSlice1 (by rfl) (by rfl) (by rfl) (by rfl) (by rfl) (fun b => ?_)
        | refine OpOk.toStr rfl rfl rfl rfl (by first | exact Rs.rds (by assumption) | exact Rds.up (by assumption) | exact Rds.hasSl (by omega) (by omega) (by first | rfl | (simp; done) | (simp; omega))) ?_
        | refine OpOk.make1 rfl rfl rfl (by omega) (fun b => ?_)
        | refine OpOk.append1 rfl rfl rfl rfl rfl rfl (by omega) (fun a' c' hc1 hc2 => ?_)
        | refine OpOk.append0 rfl rfl rfl rfl rfl rfl (by omega) (fun a' c' hc1 hc2 => ?_)
        | refine OpOk.appendE rfl rfl rfl rfl (by first | exact Rs.rds (by assumption) | exact Rds.up (by assumption) | exact Rds.hasSl (by omega) (by omega) (by first | rfl | (simp; done) | (simp; omega))) (one_u8 _) (by omega) (fun a' c' hc1 hc2 => ?_)
        | refine OpOk.append rfl rfl rfl rfl (by first | exact Rs.rds (by assumption) | exact Rds.up (by assumption) | exact Rds.hasSl (by omega) (by omega) (by first | rfl | (simp; done) | (simp; omega))) (one_u8 _) (by omega) (fun a' c' hc1 hc2 => ?_))
    | (show QOk _ _ _ _ _ _ _; first | refine QOk.load rfl rfl (by first | exact Ld.hasBlk rfl | exact Ld.rs (by assumption) (getMap (by omega)) | exact Ld.rds (by assumption) (getMap (by omega)) | exact Ld.hasSl (getMap (by omega)) | exact Ld.hasBlkAt (getMap (by omega))) ?_ | refine QOk.idx1 rfl rfl rfl (by omega) (by first | exact AOk.hasSl | exact AOk.rs (by assumption) | exact AOk.rds (by assumption) | exact AOk.lit) ?_ | refine QOk.loadRow rfl rfl LdN.hasBlk rfl ?_ | refine QOk.toStr rfl rfl rfl rfl (by first | exact Rs.rds (by assumption) | exact Rds.up (by assumption) | exact Rds.hasSl (by omega) (by omega) (by first | rfl | (simp; done) | (simp; omega))) ?_)
    | (show GJ _ _ _ _ _ _ _; first | (apply GJ.and; exact rfl; intro hg) | (apply GJ.or; exact rfl; intro hg) | refine GJ.t (by omega) ?_ | refine GJ.f (by omega) ?_ | refine GJ.ft (by omega) ?_ | refine GJ.ff (by omega) ?_)
    | (show Br _ _ _; first | with_reducible refine Br.tt ?_ | with_reducible refine Br.ff ?_ | with_reducible refine Br.nt ?_ | with_reducible refine Br.nf ?_ | refine Br.t (by omega) ?_ | refine Br.f (by omega) ?_)
    | (show CodeOk _ _ _ _ _ _; refine CodeOk.drawnAuto rfl (by kernel_rfl) rfl (by kernel_rfl) ?_))
  refine Wk.backB ?_ (by repeat (first | exact Sup.all _ | exact Sup.nil _ | refine Sup.cons (by first | exact Take.hit _ _ | exact Take.miss _ (Take.hit _ _) | exact Take.miss _ (Take.miss _ (Take.hit _ _)) | exact Take.miss _ (Take.miss _ (Take.miss _ (Take.hit _ _))) | exact Take.miss _ (Take.miss _ (Take.miss _ (Take.miss _ (Take.hit _ _)))) | exact Take.miss _ (Take.miss _ (Take.miss _ (Take.miss _ (Take.miss _ (Take.hit _ _))))) | exact Take.miss _ (Take.miss _ (Take.miss _ (Take.miss _ (Take.miss _ (Take.miss _ (Take.hit _ _))))))) ?_ | refine Sup.nilc ?_ | refine Sup.drop _ ?_)) (.refl _) hk
  rfl
theorem lebPads_ok {x : Nat} {cnt : Int} (hx : x < 18446744073709551616) (hcnt : -9223372036854775808 ≤ cnt ∧ cnt ≤ 9223372036854775807) (hk : K (.bool true) ro own) : CallOk Try.prog 13 #[.int .u64 x, .int .i64 cnt] ro own K := by
  have hlen := enc_len x
  have hx10 := enc_10 hx
  refine CallOk.back ?_
  refine CallOk.intro (args := [_, _]) (rs := [_]) T_ok Try.func13 Try.call13 rfl rfl (by kernel_rfl) rfl rfl ?_
  repeat (first
    | refine Stop.mk ?_
    | (show _ ∧ _; first | exact ⟨rfl, rfl, rfl⟩ | refine And.intro (by first | omega | exact u8_range _ | exact add_u8 _ _ (by omega)) ?_ | refine And.intro (inferInstanceAs (Suf _ _)) ?_)
    | (show OpOk _ _ _ _ _ _ _; first
        | refine OpOk.load rfl rfl (by first | exact Ld.hasBlk rfl | exact Ld.rs (by assumption) (getMap (by omega)) | exact Ld.rds (by assumption) (getMap (by omega)) | exact Ld.hasSl (getMap (by omega)) | exact Ld.hasBlkAt (getMap (by omega))) ?_
        | refine OpOk.loadRow rfl rfl LdN.hasBlk rfl ?_
        | refine OpOk.store rfl rfl rfl rfl (by repeat (first | exact SetR.hit _ _ _ | apply SetR.miss)) ?_
        | refine OpOk.storeRow rfl rfl rfl rfl (by rfl) rfl ?_
        | refine OpOk.idx1 rfl rfl rfl (by omega) (by first | exact AOk.hasSl | exact AOk.rs (by assumption) | exact AOk.rds (by assumption) | exact AOk.lit) ?_
        | refine OpOk.alloc rfl (fun b => ?_)
        | refine OpOk.box rfl (fun b => ?_)
        | refine OpOk.build rfl rfl (by repeat (first | exact Nf.nil | apply Nf.cons)) ?_
        | refine OpOk.buildSlice1 (by rfl) (by rfl) (by rfl) (by rfl) (by rfl) (fun b => ?_)
        | refine OpOk.toStr rfl rfl rfl rfl (by first | exact Rs.rds (by assumption) | exact Rds.up (by assumption) | exact Rds.hasSl (by omega) (by omega) (by first | rfl | (simp; done) | (simp; omega))) ?_
        | refine OpOk.make1 rfl rfl rfl (by omega) (fun b => ?_)
        | refine OpOk.append1 rfl rfl rfl rfl rfl rfl (by omega) (fun a' c' hc1 hc2 => ?_)
        | refine OpOk.append0 rfl rfl rfl rfl rfl rfl (by omega) (fun a' c' hc1 hc2 => ?_)
        | refine OpOk.appendE rfl rfl rfl rfl (by first | exact Rs.rds (by assumption) | exact Rds.up (by assumption) | exact Rds.hasSl (by omega) (by omega) (by first | rfl | (simp; done) | (simp; omega))) (one_u8 _) (by omega) (fun a' c' hc1 hc2 => ?_)
        | refine OpOk.append rfl rfl rfl rfl (by first | exact Rs.rds (by assumption) | exact Rds.up (by assumption) | exact Rds.hasSl (by omega) (by omega) (by first | rfl | (simp; done) | (simp; omega))) (one_u8 _) (by omega) (fun a' c' hc1 hc2 => ?_))
    | (show QOk _ _ _ _ _ _ _; first | refine QOk.load rfl rfl (by first | exact Ld.hasBlk rfl | exact Ld.rs (by assumption) (getMap (by omega)) | exact Ld.rds (by assumption) (getMap (by omega)) | exact Ld.hasSl (getMap (by omega)) | exact Ld.hasBlkAt (getMap (by omega))) ?_ | refine QOk.idx1 rfl rfl rfl (by omega) (by first | exact AOk.hasSl | exact AOk.rs (by assumption) | exact AOk.rds (by assumption) | exact AOk.lit) ?_ | refine QOk.loadRow rfl rfl LdN.hasBlk rfl ?_ | refine QOk.toStr rfl rfl rfl rfl (by first | exact Rs.rds (by assumption) | exact Rds.up (by assumption) | exact Rds.hasSl (by omega) (by omega) (by first | rfl | (simp; done) | (simp; omega))) ?_)
    | (show GJ _ _ _ _ _ _ _; first | (apply GJ.and; exact rfl; intro hg) | (apply GJ.or; exact rfl; intro hg) | refine GJ.t (by omega) ?_ | refine GJ.f (by omega) ?_ | refine GJ.ft (by omega) ?_ | refine GJ.ff (by omega) ?_)
    | (show Br _ _ _; first | with_reducible refine Br.tt ?_ | with_reducible refine Br.ff ?_ | with_reducible refine Br.nt ?_ | with_reducible refine Br.nf ?_ | refine Br.t (by omega) ?_ | refine Br.f (by omega) ?_)
    | (show CodeOk _ _ _ _ _ _; refine CodeOk.drawnAuto rfl (by kernel_rfl) rfl (by kernel_rfl) ?_))
  refine folds_ok ?_
  repeat (first
    | refine Stop.mk ?_
    | (show _ ∧ _; first | exact ⟨rfl, rfl, rfl⟩ | refine And.intro (by first | omega | exact u8_range _ | exact add_u8 _ _ (by omega)) ?_ | refine And.intro (inferInstanceAs (Suf _ _)) ?_)
    | (show OpOk _ _ _ _ _ _ _; first
        | refine OpOk.load rfl rfl (by first | exact Ld.hasBlk rfl | exact Ld.rs (by assumption) (getMap (by omega)) | exact Ld.rds (by assumption) (getMap (by omega)) | exact Ld.hasSl (getMap (by omega)) | exact Ld.hasBlkAt (getMap (by omega))) ?_
        | refine OpOk.loadRow rfl rfl LdN.hasBlk rfl ?_
        | refine OpOk.store rfl rfl rfl rfl (by repeat (first | exact SetR.hit _ _ _ | apply SetR.miss)) ?_
        | refine OpOk.storeRow rfl rfl rfl rfl (by rfl) rfl ?_
        | refine OpOk.idx1 rfl rfl rfl (by omega) (by first | exact AOk.hasSl | exact AOk.rs (by assumption) | exact AOk.rds (by assumption) | exact AOk.lit) ?_
        | refine OpOk.alloc rfl (fun b => ?_)
        | refine OpOk.box rfl (fun b => ?_)
        | refine OpOk.build rfl rfl (by repeat (first | exact Nf.nil | apply Nf.cons)) ?_
        | refine OpOk.buildSlice1 (by rfl) (by rfl) (by rfl) (by rfl) (by rfl) (fun b => ?_)
        | refine OpOk.toStr rfl rfl rfl rfl (by first | exact Rs.rds (by assumption) | exact Rds.up (by assumption) | exact Rds.hasSl (by omega) (by omega) (by first | rfl | (simp; done) | (simp; omega))) ?_
        | refine OpOk.make1 rfl rfl rfl (by omega) (fun b => ?_)
        | refine OpOk.append1 rfl rfl rfl rfl rfl rfl (by omega) (fun a' c' hc1 hc2 => ?_)
        | refine OpOk.append0 rfl rfl rfl rfl rfl rfl (by omega) (fun a' c' hc1 hc2 => ?_)
        | refine OpOk.appendE rfl rfl rfl rfl (by first | exact Rs.rds (by assumption) | exact Rds.up (by assumption) | exact Rds.hasSl (by omega) (by omega) (by first | rfl | (simp; done) | (simp; omega))) (one_u8 _) (by omega) (fun a' c' hc1 hc2 => ?_)
        | refine OpOk.append rfl rfl rfl rfl (by first | exact Rs.rds (by assumption) | exact Rds.up (by assumption) | exact Rds.hasSl (by omega) (by omega) (by first | rfl | (simp; done) | (simp; omega))) (one_u8 _) (by omega) (fun a' c' hc1 hc2 => ?_))
    | (show QOk _ _ _ _ _ _ _; first | refine QOk.load rfl rfl (by first | exact Ld.hasBlk rfl | exact Ld.rs (by assumption) (getMap (by omega)) | exact Ld.rds (by assumption) (getMap (by omega)) | exact Ld.hasSl (getMap (by omega)) | exact Ld.hasBlkAt (getMap (by omega))) ?_ | refine QOk.idx1 rfl rfl rfl (by omega) (by first | exact AOk.hasSl | exact AOk.rs (by assumption) | exact AOk.rds (by assumption) | exact AOk.lit) ?_ | refine QOk.loadRow rfl rfl LdN.hasBlk rfl ?_ | refine QOk.toStr rfl rfl rfl rfl (by first | exact Rs.rds (by assumption) | exact Rds.up (by assumption) | exact Rds.hasSl (by omega) (by omega) (by first | rfl | (simp; done) | (simp; omega))) ?_)
    | (show GJ _ _ _ _ _ _ _; first | (apply GJ.and; exact rfl; intro hg) | (apply GJ.or; exact rfl; intro hg) | refine GJ.t (by omega) ?_ | refine GJ.f (by omega) ?_ | refine GJ.ft (by omega) ?_ | refine GJ.ff (by omega) ?_)
    | (show Br _ _ _; first | with_reducible refine Br.tt ?_ | with_reducible refine Br.ff ?_ | with_reducible refine Br.nt ?_ | with_reducible refine Br.nf ?_ | refine Br.t (by omega) ?_ | refine Br.f (by omega) ?_)
    | (show CodeOk _ _ _ _ _ _; refine CodeOk.drawnAuto rfl (by kernel_rfl) rfl (by kernel_rfl) ?_))
  refine pad_ok (l := []) (Rds.nil _ _ _) (by simp) hx hcnt (fun h1 => ?_) (fun h1 a1 n1 c1 h2 h3 h4 => ?_)
  · repeat (first
      | refine Stop.mk ?_
      | (show _ ∧ _; first | exact ⟨rfl, rfl, rfl⟩ | refine And.intro (by first | omega | exact u8_range _ | exact add_u8 _ _ (by omega)) ?_ | refine And.intro (inferInstanceAs (Suf _ _)) ?_)
      | (show OpOk _ _ _ _ _ _ _; first
          | refine OpOk.load rfl rfl (by first | exact Ld.hasBlk rfl | exact Ld.rs (by assumption) (getMap (by omega)) | exact Ld.rds (by assumption) (getMap (by omega)) | exact Ld.hasSl (getMap (by omega)) | exact Ld.hasBlkAt (getMap (by omega))) ?_
          | refine OpOk.loadRow rfl rfl LdN.hasBlk rfl ?_
          | refine OpOk.store rfl rfl rfl rfl (by repeat (first | exact SetR.hit _ _ _ | apply SetR.miss)) ?_
          | refine OpOk.storeRow rfl rfl rfl rfl (by rfl) rfl ?_
          | refine OpOk.idx1 rfl rfl rfl (by omega) (by first | exact AOk.hasSl | exact AOk.rs (by assumption) | exact AOk.rds (by assumption) | exact AOk.lit) ?_
          | refine OpOk.alloc rfl (fun b => ?_)
          | refine OpOk.box rfl (fun b => ?_)
          | refine OpOk.build rfl rfl (by repeat (first | exact Nf.nil | apply Nf.cons)) ?_
          | refine OpOk.buildSlice1 (by rfl) (by rfl) (by rfl) (by rfl) (by rfl) (fun b => ?_)
          | refine OpOk.toStr rfl rfl rfl rfl (by first | exact Rs.rds (by assumption) | exact Rds.up (by assumption) | exact Rds.hasSl (by omega) (by omega) (by first | rfl | (simp; done) | (simp; omega))) ?_
          | refine OpOk.make1 rfl rfl rfl (by omega) (fun b => ?_)
          | refine OpOk.append1 rfl rfl rfl rfl rfl rfl (by omega) (fun a' c' hc1 hc2 => ?_)
          | refine OpOk.append0 rfl rfl rfl rfl rfl rfl (by omega) (fun a' c' hc1 hc2 => ?_)
          | refine OpOk.appendE rfl rfl rfl rfl (by first | exact Rs.rds (by assumption) | exact Rds.up (by assumption) | exact Rds.hasSl (by omega) (by omega) (by first | rfl | (simp; done) | (simp; omega))) (one_u8 _) (by omega) (fun a' c' hc1 hc2 => ?_)
          | refine OpOk.append rfl rfl rfl rfl (by first | exact Rs.rds (by assumption) | exact Rds.up (by assumption) | exact Rds.hasSl (by omega) (by omega) (by first | rfl | (simp; done) | (simp; omega))) (one_u8 _) (by omega) (fun a' c' hc1 hc2 => ?_))
      | (show QOk _ _ _ _ _ _ _; first | refine QOk.load rfl rfl (by first | exact Ld.hasBlk rfl | exact Ld.rs (by assumption) (getMap (by omega)) | exact Ld.rds (by assumption) (getMap (by omega)) | exact Ld.hasSl (getMap (by omega)) | exact Ld.hasBlkAt (getMap (by omega))) ?_ | refine QOk.idx1 rfl rfl rfl (by omega) (by first | exact AOk.hasSl | exact AOk.rs (by assumption) | exact AOk.rds (by assumption) | exact AOk.lit) ?_ | refine QOk.loadRow rfl rfl LdN.hasBlk rfl ?_ | refine QOk.toStr rfl rfl rfl rfl (by first | exact Rs.rds (by assumption) | exact Rds.up (by assumption) | exact Rds.hasSl (by omega) (by omega) (by first | rfl | (simp; done) | (simp; omega))) ?_)
      | (show GJ _ _ _ _ _ _ _; first | (apply GJ.and; exact rfl; intro hg) | (apply GJ.or; exact rfl; intro hg) | refine GJ.t (by omega) ?_ | refine GJ.f (by omega) ?_ | refine GJ.ft (by omega) ?_ | refine GJ.ff (by omega) ?_)
      | (show Br _ _ _; first | with_reducible refine Br.tt ?_ | with_reducible refine Br.ff ?_ | with_reducible refine Br.nt ?_ | with_reducible refine Br.nf ?_ | refine Br.t (by omega) ?_ | refine Br.f (by omega) ?_)
      | (show CodeOk _ _ _ _ _ _; refine CodeOk.drawnAuto rfl (by kernel_rfl) rfl (by kernel_rfl) ?_))
    refine rput_ok hx (fun a2 n2 c2 h5 h6 h7 => ?_)
    repeat (first
      | refine Stop.mk ?_
      | (show _ ∧ _; first | exact ⟨rfl, rfl, rfl⟩ | refine And.intro (by first | omega | exact u8_range _ | exact add_u8 _ _ (by omega)) ?_ | refine And.intro (inferInstanceAs (Suf _ _)) ?_)
      | (show OpOk _ _ _ _ _ _ _; first
          | refine OpOk.load rfl rfl (by first | exact Ld.hasBlk rfl | exact Ld.rs (by assumption) (getMap (by omega)) | exact Ld.rds (by assumption) (getMap (by omega)) | exact Ld.hasSl (getMap (by omega)) | exact Ld.hasBlkAt (getMap (by omega))) ?_
          | refine OpOk.loadRow rfl rfl LdN.hasBlk rfl ?_
          | refine OpOk.store rfl rfl rfl rfl (by repeat (first | exact SetR.hit _ _ _ | apply SetR.miss)) ?_
          | refine OpOk.storeRow rfl rfl rfl rfl (by rfl) rfl ?_
          | refine OpOk.idx1 rfl rfl rfl (by omega) (by first | exact AOk.hasSl | exact AOk.rs (by assumption) | exact AOk.rds (by assumption) | exact AOk.lit) ?_
          | refine OpOk.alloc rfl (fun b => ?_)
          | refine OpOk.box rfl (fun b => ?_)
          | refine OpOk.build rfl rfl (by repeat (first | exact Nf.nil | apply Nf.cons)) ?_
          | refine OpOk.buildSlice1 (by rfl) (by rfl) (by rfl) (by rfl) (by rfl) (fun b => ?_)
          | refine OpOk.toStr rfl rfl rfl rfl (by first | exact Rs.rds (by assumption) | exact Rds.up (by assumption) | exact Rds.hasSl (by omega) (by omega) (by first | rfl | (simp; done) | (simp; omega))) ?_
          | refine OpOk.make1 rfl rfl rfl (by omega) (fun b => ?_)
          | refine OpOk.append1 rfl rfl rfl rfl rfl rfl (by omega) (fun a' c' hc1 hc2 => ?_)
          | refine OpOk.append0 rfl rfl rfl rfl rfl rfl (by omega) (fun a' c' hc1 hc2 => ?_)
          | refine OpOk.appendE rfl rfl rfl rfl (by first | exact Rs.rds (by assumption) | exact Rds.up (by assumption) | exact Rds.hasSl (by omega) (by omega) (by first | rfl | (simp; done) | (simp; omega))) (one_u8 _) (by omega) (fun a' c' hc1 hc2 => ?_)
          | refine OpOk.append rfl rfl rfl rfl (by first | exact Rs.rds (by assumption) | exact Rds.up (by assumption) | exact Rds.hasSl (by omega) (by omega) (by first | rfl | (simp; done) | (simp; omega))) (one_u8 _) (by omega) (fun a' c' hc1 hc2 => ?_))
      | (show QOk _ _ _ _ _ _ _; first | refine QOk.load rfl rfl (by first | exact Ld.hasBlk rfl | exact Ld.rs (by assumption) (getMap (by omega)) | exact Ld.rds (by assumption) (getMap (by omega)) | exact Ld.hasSl (getMap (by omega)) | exact Ld.hasBlkAt (getMap (by omega))) ?_ | refine QOk.idx1 rfl rfl rfl (by omega) (by first | exact AOk.hasSl | exact AOk.rs (by assumption) | exact AOk.rds (by assumption) | exact AOk.lit) ?_ | refine QOk.loadRow rfl rfl LdN.hasBlk rfl ?_ | refine QOk.toStr rfl rfl rfl rfl (by first | exact Rs.rds (by assumption) | exact Rds.up (by assumption) | exact Rds.hasSl (by omega) (by omega) (by first | rfl | (simp; done) | (simp; omega))) ?_)
      | (show GJ _ _ _ _ _ _ _; first | (apply GJ.and; exact rfl; intro hg) | (apply GJ.or; exact rfl; intro hg) | refine GJ.t (by omega) ?_ | refine GJ.f (by omega) ?_ | refine GJ.ft (by omega) ?_ | refine GJ.ff (by omega) ?_)
      | (show Br _ _ _; first | with_reducible refine Br.tt ?_ | with_reducible refine Br.ff ?_ | with_reducible refine Br.nt ?_ | with_reducible refine Br.nf ?_ | refine Br.t (by omega) ?_ | refine Br.f (by omega) ?_)
      | (show CodeOk _ _ _ _ _ _; refine CodeOk.drawnAuto rfl (by kernel_rfl) rfl (by kernel_rfl) ?_))
    refine Wk.backB ?_ (by repeat (first | exact Sup.all _ | exact Sup.nil _ | refine Sup.cons (by first | exact Take.hit _ _ | exact Take.miss _ (Take.hit _ _) | exact Take.miss _ (Take.miss _ (Take.hit _ _)) | exact Take.miss _ (Take.miss _ (Take.miss _ (Take.hit _ _))) | exact Take.miss _ (Take.miss _ (Take.miss _ (Take.miss _ (Take.hit _ _)))) | exact Take.miss _ (Take.miss _ (Take.miss _ (Take.miss _ (Take.miss _ (Take.hit _ _))))) | exact Take.miss _ (Take.miss _ (Take.miss _ (Take.miss _ (Take.miss _ (Take.miss _ (Take.hit _ _))))))) ?_ | refine Sup.nilc ?_ | refine Sup.drop _ ?_)) (.refl _) hk
    rfl
  · rw [List.nil_append] at h2 ⊢
    rw [padE_len] at h2
    repeat (first
      | refine Stop.mk ?_
      | (show _ ∧ _; first | exact ⟨rfl, rfl, rfl⟩ | refine And.intro (by first | omega | exact u8_range _ | exact add_u8 _ _ (by omega)) ?_ | refine And.intro (inferInstanceAs (Suf _ _)) ?_)
      | (show OpOk _ _ _ _ _ _ _; first
          | refine OpOk.load rfl rfl (by first | exact Ld.hasBlk rfl | exact Ld.rs (by assumption) (getMap (by omega)) | exact Ld.rds (by assumption) (getMap (by omega)) | exact Ld.hasSl (getMap (by omega)) | exact Ld.hasBlkAt (getMap (by omega))) ?_
          | refine OpOk.loadRow rfl rfl LdN.hasBlk rfl ?_
          | refine OpOk.store rfl rfl rfl rfl (by repeat (first | exact SetR.hit _ _ _ | apply SetR.miss)) ?_
          | refine OpOk.storeRow rfl rfl rfl rfl (by rfl) rfl ?_
          | refine OpOk.idx1 rfl rfl rfl (by omega) (by first | exact AOk.hasSl | exact AOk.rs (by assumption) | exact AOk.rds (by assumption) | exact AOk.lit) ?_
          | refine OpOk.alloc rfl (fun b => ?_)
          | refine OpOk.box rfl (fun b => ?_)
          | refine OpOk.build rfl rfl (by repeat (first | exact Nf.nil | apply Nf.cons)) ?_
          | refine OpOk.buildSlice1 (by rfl) (by rfl) (by rfl) (by rfl) (by rfl) (fun b => ?_)
          | refine OpOk.toStr rfl rfl rfl rfl (by first | exact Rs.rds (by assumption) | exact Rds.up (by assumption) | exact Rds.hasSl (by omega) (by omega) (by first | rfl | (simp; done) | (simp; omega))) ?_
          | refine OpOk.make1 rfl rfl rfl (by omega) (fun b => ?_)
          | refine OpOk.append1 rfl rfl rfl rfl rfl rfl (by omega) (fun a' c' hc1 hc2 => ?_)
          | refine OpOk.append0 rfl rfl rfl rfl rfl rfl (by omega) (fun a' c' hc1 hc2 => ?_)
          | refine OpOk.appendE rfl rfl rfl rfl (by first | exact Rs.rds (by assumption) | exact Rds.up (by assumption) | exact Rds.hasSl (by omega) (by omega) (by first | rfl | (simp; done) | (simp; omega))) (one_u8 _) (by omega) (fun a' c' hc1 hc2 => ?_)
          | refine OpOk.append rfl rfl rfl rfl (by first | exact Rs.rds (by assumption) | exact Rds.up (by assumption) | exact Rds.hasSl (by omega) (by omega) (by first | rfl | (simp; done) | (simp; omega))) (one_u8 _) (by omega) (fun a' c' hc1 hc2 => ?_))
      | (show QOk _ _ _ _ _ _ _; first | refine QOk.load rfl rfl (by first | exact Ld.hasBlk rfl | exact Ld.rs (by assumption) (getMap (by omega)) | exact Ld.rds (by assumption) (getMap (by omega)) | exact Ld.hasSl (getMap (by omega)) | exact Ld.hasBlkAt (getMap (by omega))) ?_ | refine QOk.idx1 rfl rfl rfl (by omega) (by first | exact AOk.hasSl | exact AOk.rs (by assumption) | exact AOk.rds (by assumption) | exact AOk.lit) ?_ | refine QOk.loadRow rfl rfl LdN.hasBlk rfl ?_ | refine QOk.toStr rfl rfl rfl rfl (by first | exact Rs.rds (by assumption) | exact Rds.up (by assumption) | exact Rds.hasSl (by omega) (by omega) (by first | rfl | (simp; done) | (simp; omega))) ?_)
      | (show GJ _ _ _ _ _ _ _; first | (apply GJ.and; exact rfl; intro hg) | (apply GJ.or; exact rfl; intro hg) | refine GJ.t (by omega) ?_ | refine GJ.f (by omega) ?_ | refine GJ.ft (by omega) ?_ | refine GJ.ff (by omega) ?_)
      | (show Br _ _ _; first | with_reducible refine Br.tt ?_ | with_reducible refine Br.ff ?_ | with_reducible refine Br.nt ?_ | with_reducible refine Br.nf ?_ | refine Br.t (by omega) ?_ | refine Br.f (by omega) ?_)
      | (show CodeOk _ _ _ _ _ _; refine CodeOk.drawnAuto rfl (by kernel_rfl) rfl (by kernel_rfl) ?_))
    refine rput_ok hx (fun a2 n2 c2 h5 h6 h7 => ?_)
    repeat (first
      | refine Stop.mk ?_
      | (show _ ∧ _; first | exact ⟨rfl, rfl, rfl⟩ | refine And.intro (by first | omega | exact u8_range _ | exact add_u8 _ _ (by omega)) ?_ | refine And.intro (inferInstanceAs (Suf _ _)) ?_)
      | (show OpOk _ _ _ _ _ _ _; first
          | refine OpOk.load rfl rfl (by first | exact Ld.hasBlk rfl | exact Ld.rs (by assumption) (getMap (by omega)) | exact Ld.rds (by assumption) (getMap (by omega)) | exact Ld.hasSl (getMap (by omega)) | exact Ld.hasBlkAt (getMap (by omega))) ?_
          | refine OpOk.loadRow rfl rfl LdN.hasBlk rfl ?_
          | refine OpOk.store rfl rfl rfl rfl (by repeat (first | exact SetR.hit _ _ _ | apply SetR.miss)) ?_
          | refine OpOk.storeRow rfl rfl rfl rfl (by rfl) rfl ?_
          | refine OpOk.idx1 rfl rfl rfl (by omega) (by first | exact AOk.hasSl | exact AOk.rs (by assumption) | exact AOk.rds (by assumption) | exact AOk.lit) ?_
          | refine OpOk.alloc rfl (fun b => ?_)
          | refine OpOk.box rfl (fun b => ?_)
          | refine OpOk.build rfl rfl (by repeat (first | exact Nf.nil | apply Nf.cons)) ?_
          | refine OpOk.buildSlice1 (by rfl) (by rfl) (by rfl) (by rfl) (by rfl) (fun b => ?_)
          | refine OpOk.toStr rfl rfl rfl rfl (by first | exact Rs.rds (by assumption) | exact Rds.up (by assumption) | exact Rds.hasSl (by omega) (by omega) (by first | rfl | (simp; done) | (simp; omega))) ?_
          | refine OpOk.make1 rfl rfl rfl (by omega) (fun b => ?_)
          | refine OpOk.append1 rfl rfl rfl rfl rfl rfl (by omega) (fun a' c' hc1 hc2 => ?_)
          | refine OpOk.append0 rfl rfl rfl rfl rfl rfl (by omega) (fun a' c' hc1 hc2 => ?_)
          | refine OpOk.appendE rfl rfl rfl rfl (by first | exact Rs.rds (by assumption) | exact Rds.up (by assumption) | exact Rds.hasSl (by omega) (by omega) (by first | rfl | (simp; done) | (simp; omega))) (one_u8 _) (by omega) (fun a' c' hc1 hc2 => ?_)
          | refine OpOk.append rfl rfl rfl rfl (by first | exact Rs.rds (by assumption) | exact Rds.up (by assumption) | exact Rds.hasSl (by omega) (by omega) (by first | rfl | (simp; done) | (simp; omega))) (one_u8 _) (by omega) (fun a' c' hc1 hc2 => ?_))
      | (show QOk _ _ _ _ _ _ _; first | refine QOk.load rfl rfl (by first | exact Ld.hasBlk rfl | exact Ld.rs (by assumption) (getMap (by omega)) | exact Ld.rds (by assumption) (getMap (by omega)) | exact Ld.hasSl (getMap (by omega)) | exact Ld.hasBlkAt (getMap (by omega))) ?_ | refine QOk.idx1 rfl rfl rfl (by omega) (by first | exact AOk.hasSl | exact AOk.rs (by assumption) | exact AOk.rds (by assumption) | exact AOk.lit) ?_ | refine QOk.loadRow rfl rfl LdN.hasBlk rfl ?_ | refine QOk.toStr rfl rfl rfl rfl (by first | exact Rs.rds (by assumption) | exact Rds.up (by assumption) | exact Rds.hasSl (by omega) (by omega) (by first | rfl | (simp; done) | (simp; omega))) ?_)
      | (show GJ _ _ _ _ _ _ _; first | (apply GJ.and; exact rfl; intro hg) | (apply GJ.or; exact rfl; intro hg) | refine GJ.t (by omega) ?_ | refine GJ.f (by omega) ?_ | refine GJ.ft (by omega) ?_ | refine GJ.ff (by omega) ?_)
      | (show Br _ _ _; first | with_reducible refine Br.tt ?_ | with_reducible refine Br.ff ?_ | with_reducible refine Br.nt ?_ | with_reducible refine Br.nf ?_ | refine Br.t (by omega) ?_ | refine Br.f (by omega) ?_)
      | (show CodeOk _ _ _ _ _ _; refine CodeOk.drawnAuto rfl (by kernel_rfl) rfl (by kernel_rfl) ?_))
    refine CallOk.freeze (c := .sl a1 _ _ _ _ _) (by first | exact Take.hit _ _ | exact Take.miss _ (Take.hit _ _) | exact Take.miss _ (Take.miss _ (Take.hit _ _)) | exact Take.miss _ (Take.miss _ (Take.miss _ (Take.hit _ _))) | exact Take.miss _ (Take.miss _ (Take.miss _ (Take.miss _ (Take.hit _ _)))) | exact Take.miss _ (Take.miss _ (Take.miss _ (Take.miss _ (Take.miss _ (Take.hit _ _))))) | exact Take.miss _ (Take.miss _ (Take.miss _ (Take.miss _ (Take.miss _ (Take.miss _ (Take.hit _ _))))))) (fun ro2 hl2 hz2 => ?_) Try.call35
    have hE : Bys ro2 a1 n1 c1 (padE (cnt.toNat - 1) x) := Rs.last hz2
    refine rread_ok hE (by omega) (fun v many e h11 h12 h13 h14 => ?_)
    have hp : x < 128 ^ (cnt.toNat - 1 + 1) := Nat.lt_of_lt_of_le (lebLen_pow hx) (Nat.pow_le_pow_right (by omega) (by omega))
    have h15 := rd_pad [] (cnt.toNat - 1) x 0 0 (by simpa using hx) hp (by omega)
    rw [List.append_nil] at h15
    rw [h15] at h11
    simp only [Nat.zero_add, Nat.mul_zero, Nat.pow_zero, Nat.mul_one] at h11
    cases h11
    repeat (first
      | refine Stop.mk ?_
      | (show _ ∧ _; first | exact ⟨rfl, rfl, rfl⟩ | refine And.intro (by first | omega | exact u8_range _ | exact add_u8 _ _ (by omega)) ?_ | refine And.intro (inferInstanceAs (Suf _ _)) ?_)
      | (show OpOk _ _ _ _ _ _ _; first
          | refine OpOk.load rfl rfl (by first | exact Ld.hasBlk rfl | exact Ld.rs (by assumption) (getMap (by omega)) | exact Ld.rds (by assumption) (getMap (by omega)) | exact Ld.hasSl (getMap (by omega)) | exact Ld.hasBlkAt (getMap (by omega))) ?_
          | refine OpOk.loadRow rfl rfl LdN.hasBlk rfl ?_
          | refine OpOk.store rfl rfl rfl rfl (by repeat (first | exact SetR.hit _ _ _ | apply SetR.miss)) ?_
          | refine OpOk.storeRow rfl rfl rfl rfl (by rfl) rfl ?_
          | refine OpOk.idx1 rfl rfl rfl (by omega) (by first | exact AOk.hasSl | exact AOk.rs (by assumption) | exact AOk.rds (by assumption) | exact AOk.lit) ?_
          | refine OpOk.alloc rfl (fun b => ?_)
          | refine OpOk.box rfl (fun b => ?_)
          | refine OpOk.build rfl rfl (by repeat (first | exact Nf.nil | apply Nf.cons)) ?_
          | refine OpOk.buildSlice1 (by rfl) (by rfl) (by rfl) (by rfl) (by rfl) (fun b => ?_)
          | refine OpOk.toStr rfl rfl rfl rfl (by first | exact Rs.rds (by assumption) | exact Rds.up (by assumption) | exact Rds.hasSl (by omega) (by omega) (by first | rfl | (simp; done) | (simp; omega))) ?_
          | refine OpOk.make1 rfl rfl rfl (by omega) (fun b => ?_)
          | refine OpOk.append1 rfl rfl rfl rfl rfl rfl (by omega) (fun a' c' hc1 hc2 => ?_)
          | refine OpOk.append0 rfl rfl rfl rfl rfl rfl (by omega) (fun a' c' hc1 hc2 => ?_)
          | refine OpOk.appendE rfl rfl rfl rfl (by first | exact Rs.rds (by assumption) | exact Rds.up (by assumption) | exact Rds.hasSl (by omega) (by omega) (by first | rfl | (simp; done) | (simp; omega))) (one_u8 _) (by omega) (fun a' c' hc1 hc2 => ?_)
          | refine OpOk.append rfl rfl rfl rfl (by first | exact Rs.rds (by assumption) | exact Rds.up (by assumption) | exact Rds.hasSl (by omega) (by omega) (by first | rfl | (simp; done) | (simp; omega))) (one_u8 _) (by omega) (fun a' c' hc1 hc2 => ?_))
      | (show QOk _ _ _ _ _ _ _; first | refine QOk.load rfl rfl (by first | exact Ld.hasBlk rfl | exact Ld.rs (by assumption) (getMap (by omega)) | exact Ld.rds (by assumption) (getMap (by omega)) | exact Ld.hasSl (getMap (by omega)) | exact Ld.hasBlkAt (getMap (by omega))) ?_ | refine QOk.idx1 rfl rfl rfl (by omega) (by first | exact AOk.hasSl | exact AOk.rs (by assumption) | exact AOk.rds (by assumption) | exact AOk.lit) ?_ | refine QOk.loadRow rfl rfl LdN.hasBlk rfl ?_ | refine QOk.toStr rfl rfl rfl rfl (by first | exact Rs.rds (by assumption) | exact Rds.up (by assumption) | exact Rds.hasSl (by omega) (by omega) (by first | rfl | (simp; done) | (simp; omega))) ?_)
      | (show GJ _ _ _ _ _ _ _; first | (apply GJ.and; exact rfl; intro hg) | (apply GJ.or; exact rfl; intro hg) | refine GJ.t (by omega) ?_ | refine GJ.f (by omega) ?_ | refine GJ.ft (by omega) ?_ | refine GJ.ff (by omega) ?_)
      | (show Br _ _ _; first | with_reducible refine Br.tt ?_ | with_reducible refine Br.ff ?_ | with_reducible refine Br.nt ?_ | with_reducible refine Br.nf ?_ | refine Br.t (by omega) ?_ | refine Br.f (by omega) ?_)
      | (show CodeOk _ _ _ _ _ _; refine CodeOk.drawnAuto rfl (by kernel_rfl) rfl (by kernel_rfl) ?_))
    refine Wk.backB ?_ (by repeat (first | exact Sup.all _ | exact Sup.nil _ | refine Sup.cons (by first | exact Take.hit _ _ | exact Take.miss _ (Take.hit _ _) | exact Take.miss _ (Take.miss _ (Take.hit _ _)) | exact Take.miss _ (Take.miss _ (Take.miss _ (Take.hit _ _))) | exact Take.miss _ (Take.miss _ (Take.miss _ (Take.miss _ (Take.hit _ _)))) | exact Take.miss _ (Take.miss _ (Take.miss _ (Take.miss _ (Take.miss _ (Take.hit _ _))))) | exact Take.miss _ (Take.miss _ (Take.miss _ (Take.miss _ (Take.miss _ (Take.miss _ (Take.hit _ _))))))) ?_ | refine Sup.nilc ?_ | refine Sup.drop _ ?_)) (.refl _) hk
    simp; omega
end
end Go.Proofs.Ytpajhgnkagifbaa
