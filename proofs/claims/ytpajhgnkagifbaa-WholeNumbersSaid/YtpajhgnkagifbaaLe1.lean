/- Contracts: bits.Len64, leb.Len, Fold, Unfold, the meter. -/
import Derived.Test.YtpajhgnkagifbaaOcB
namespace Go.Proofs.Ytpajhgnkagifbaa
open Go Go.E
set_option linter.unusedVariables false
section
variable {ro : Ro} {own : Chs} {K : Value → Ro → Chs → Prop} {f : Chunk → Chs}
def bitLen (x : Nat) : Nat := if x = 0 then 0 else Nat.log2 x + 1
theorem bitLen_shift {x k : Nat} (h : x / 2 ^ k ≠ 0) : bitLen x = k + bitLen (x / 2 ^ k) := by
  have hx : x ≠ 0 := fun e => by subst e; simp at h
  have hp : 0 < 2 ^ k := Nat.two_pow_pos k
  simp only [bitLen, hx, h, if_false]
  have h1 := Nat.log2_self_le h
  have h2 := Nat.lt_log2_self (n := x / 2 ^ k)
  have e1 : 2 ^ (k + (x / 2 ^ k).log2) ≤ x := by
    rw [Nat.pow_add, Nat.mul_comm]
    exact Nat.le_trans (Nat.mul_le_mul_right _ h1) (Nat.div_mul_le_self x (2 ^ k))
  have e2 : x < 2 ^ (k + (x / 2 ^ k).log2 + 1) := by
    rw [Nat.add_assoc, Nat.pow_add, Nat.mul_comm]
    exact (Nat.div_lt_iff_lt_mul hp).1 h2
  have e3 := (Nat.le_log2 hx).2 e1
  have e4 := (Nat.log2_lt hx).2 e2
  omega
def tab8 : List UInt8 := [0, 1, 2, 2, 3, 3, 3, 3, 4, 4, 4, 4, 4, 4, 4, 4, 5, 5, 5, 5, 5, 5, 5, 5, 5, 5, 5, 5, 5, 5, 5, 5] ++ List.replicate 32 6 ++ List.replicate 64 7 ++ List.replicate 128 8
theorem tab8_get : ∀ i : Fin 256, (tab8[i.1]!).toNat = bitLen i.1 := by decide +kernel
theorem len_fin (x k : Nat) (k' E : Int) (T : List UInt8) (hT : T = tab8) (hk : k' = k) (hE : E.toNat = x / 2 ^ k) (h : x / 2 ^ k < 256) (h0 : k = 0 ∨ x / 2 ^ k ≠ 0) : (bitLen x : Int) = k' + ((T[E.toNat]!).toNat : Int) := by
  subst hT
  rw [hE, tab8_get ⟨_, h⟩, hk]
  rcases h0 with rfl | h0
  · simp
  · rw [bitLen_shift h0]; simp
set_option maxRecDepth 8000 in
theorem len64_ok {x : Nat} (hx : x < 18446744073709551616) (hk : K (.int .i64 (bitLen x : Int)) ro own) : CallOk Try.prog 46 #[.int .u64 x] ro own K := by
  refine CallOk.intro (args := [_]) (rs := [_]) T_ok Try.func46 Try.call46 rfl rfl (by kernel_rfl) rfl rfl ?_
  repeat' (first
    | refine Stop.mk ?_
    | (show _ ∧ _; first | exact ⟨rfl, rfl, rfl⟩ | refine And.intro (by first | omega | exact u8_range _ | exact add_u8 _ _ (by omega) | exact ⟨⟨Int.emod_nonneg _ (by decide), Int.emod_lt_of_pos _ (by decide)⟩, Int.natCast_nonneg _, Int.lt_of_lt_of_le (u8_range _).2 (by decide)⟩ | exact ⟨⟨Int.emod_nonneg _ (by decide), Int.emod_lt_of_pos _ (by decide)⟩, ⟨Int.emod_nonneg _ (by decide), Int.emod_lt_of_pos _ (by decide)⟩⟩) ?_ | refine And.intro (inferInstanceAs (Suf _ _)) ?_)
    | (show OpOk _ _ _ _ _ _ _; first
        | refine OpOk.load rfl rfl (by first | exact Ld.hasBlk rfl | exact Ld.rs (by assumption) (getMap (by omega)) | exact Ld.rds (by assumption) (getMap (by omega)) | exact Ld.hasSl (getMap (by omega)) | exact Ld.hasBlkAt (getMap (by omega))) ?_
        | refine OpOk.loadRow rfl rfl LdN.hasBlk rfl ?_
        | refine OpOk.store rfl rfl rfl rfl (by repeat (first | exact SetR.hit _ _ _ | apply SetR.miss)) ?_
        | refine OpOk.storeRow rfl rfl rfl rfl (by rfl) rfl ?_
        | refine OpOk.idx1 rfl rfl rfl (by omega) (by first | exact AOk.hasSl | exact AOk.rs (by assumption) | exact AOk.rds (by assumption) | exact AOk.lit) ?_
        | refine OpOk.alloc rfl (fun b => ?_)
        | refine OpOk.box rfl (fun b => ?_)
        | refine OpOk.build rfl rfl (by repeat (first | exact Nf.nil | apply Nf.cons)) ?_
        | refine OpOk.buildSlice1 (by rfl) (by rfl) (by rfl) (by rfl) (by rfl) (fun b => ?_)
        | refine OpOk.toStr rfl rfl rfl rfl (by first | exact Rs.rds (by assumption) | exact Rds.up (by assumption) | exact Rds.hasSl (by omega) (by omega) (by first | rfl | (simp; done) | (simp; omega))) ?_
        | refine OpOk.make1 rfl rfl rfl (by omega) (fun b => ?_)
        | refine OpOk.append1 rfl rfl rfl rfl rfl rfl (by omega) (fun a' c' hc1 hc2 => ?_)
        | refine OpOk.append0 rfl rfl rfl rfl rfl rfl (by omega) (fun a' c' hc1 hc2 => ?_)
        | refine OpOk.appendE rfl rfl rfl rfl (by first | exact Rs.rds (by assumption) | exact Rds.up (by assumption) | exact Rds.hasSl (by omega) (by omega) (by first | rfl | (simp; done) | (simp; omega))) (one_u8 _) (by omega) (fun a' c' hc1 hc2 => ?_)
        | refine OpOk.append rfl rfl rfl rfl (by first | exact Rs.rds (by assumption) | exact Rds.up (by assumption) | exact Rds.hasSl (by omega) (by omega) (by first | rfl | (simp; done) | (simp; omega))) (one_u8 _) (by omega) (fun a' c' hc1 hc2 => ?_))
    | (show QOk _ _ _ _ _ _ _; first | refine QOk.load rfl rfl (by first | exact Ld.hasBlk rfl | exact Ld.rs (by assumption) (getMap (by omega)) | exact Ld.rds (by assumption) (getMap (by omega)) | exact Ld.hasSl (getMap (by omega)) | exact Ld.hasBlkAt (getMap (by omega))) ?_ | refine QOk.idx1 rfl rfl rfl (by omega) (by first | exact AOk.hasSl | exact AOk.rs (by assumption) | exact AOk.rds (by assumption) | exact AOk.lit) ?_ | refine QOk.loadRow rfl rfl LdN.hasBlk rfl ?_ | refine QOk.toStr rfl rfl rfl rfl (by first | exact Rs.rds (by assumption) | exact Rds.up (by assumption) | exact Rds.hasSl (by omega) (by omega) (by first | rfl | (simp; done) | (simp; omega))) ?_)
    | (show GJ _ _ _ _ _ _ _; first | (apply GJ.and; exact rfl; intro hg) | (apply GJ.or; exact rfl; intro hg) | refine GJ.t (by omega) ?_ | refine GJ.f (by omega) ?_ | refine GJ.ft (by omega) ?_ | refine GJ.ff (by omega) ?_)
    | (show Br _ _ _; first | with_reducible refine Br.tt ?_ | with_reducible refine Br.ff ?_ | with_reducible refine Br.nt ?_ | with_reducible refine Br.nf ?_ | refine Br.t (by omega) ?_ | refine Br.f (by omega) ?_)
    | (show RetOk _ _ _ _ _ _; refine RetOk.of (by repeat (first | exact RL.nil | refine RL.tmp rfl ?_ | refine RL.row rfl rfl LdN.hasBlk rfl ?_ | refine RL.one rfl rfl (by first | exact Ld.hasBlk rfl | exact Ld.rs (by assumption) (getMap (by omega)) | exact Ld.rds (by assumption) (getMap (by omega)) | exact Ld.hasSl (getMap (by omega)) | exact Ld.hasBlkAt (getMap (by omega))) ?_)) ?_)
    | (show CodeOk _ _ _ _ _ _; refine CodeOk.drawnAuto rfl (by kernel_rfl) rfl (by kernel_rfl) ?_)
    | refine SeqOk.pass ?_
    | refine Br.cases (fun h => ?_) (fun h => ?_))
  all_goals refine And.intro ⟨by omega, Int.lt_of_lt_of_le (b := 256) (by omega) (by decide)⟩ ?_
  all_goals repeat (first
      | refine Stop.mk ?_
      | (show _ ∧ _; first | exact ⟨rfl, rfl, rfl⟩ | refine And.intro (by first | omega | exact u8_range _ | exact add_u8 _ _ (by omega) | exact ⟨⟨Int.emod_nonneg _ (by decide), Int.emod_lt_of_pos _ (by decide)⟩, Int.natCast_nonneg _, Int.lt_of_lt_of_le (u8_range _).2 (by decide)⟩ | exact ⟨⟨Int.emod_nonneg _ (by decide), Int.emod_lt_of_pos _ (by decide)⟩, ⟨Int.emod_nonneg _ (by decide), Int.emod_lt_of_pos _ (by decide)⟩⟩) ?_ | refine And.intro (inferInstanceAs (Suf _ _)) ?_)
      | (show OpOk _ _ _ _ _ _ _; first
          | refine OpOk.load rfl rfl (by first | exact Ld.hasBlk rfl | exact Ld.rs (by assumption) (getMap (by omega)) | exact Ld.rds (by assumption) (getMap (by omega)) | exact Ld.hasSl (getMap (by omega)) | exact Ld.hasBlkAt (getMap (by omega))) ?_
          | refine OpOk.loadRow rfl rfl LdN.hasBlk rfl ?_
          | refine OpOk.store rfl rfl rfl rfl (by repeat (first | exact SetR.hit _ _ _ | apply SetR.miss)) ?_
          | refine OpOk.storeRow rfl rfl rfl rfl (by rfl) rfl ?_
          | refine OpOk.idx1 rfl rfl rfl (by omega) (by first | exact AOk.hasSl | exact AOk.rs (by assumption) | exact AOk.rds (by assumption) | exact AOk.lit) ?_
          | refine OpOk.alloc rfl (fun b => ?_)
          | refine OpOk.box rfl (fun b => ?_)
          | refine OpOk.build rfl rfl (by repeat (first | exact Nf.nil | apply Nf.cons)) ?_
          | refine OpOk.buildSlice1 (by rfl) (by rfl) (by rfl) (by rfl) (by rfl) (fun b => ?_)
          | refine OpOk.toStr rfl rfl rfl rfl (by first | exact Rs.rds (by assumption) | exact Rds.up (by assumption) | exact Rds.hasSl (by omega) (by omega) (by first | rfl | (simp; done) | (simp; omega))) ?_
          | refine OpOk.make1 rfl rfl rfl (by omega) (fun b => ?_)
          | refine OpOk.append1 rfl rfl rfl rfl rfl rfl (by omega) (fun a' c' hc1 hc2 => ?_)
          | refine OpOk.append0 rfl rfl rfl rfl rfl rfl (by omega) (fun a' c' hc1 hc2 => ?_)
          | refine OpOk.appendE rfl rfl rfl rfl (by first | exact Rs.rds (by assumption) | exact Rds.up (by assumption) | exact Rds.hasSl (by omega) (by omega) (by first | rfl | (simp; done) | (simp; omega))) (one_u8 _) (by omega) (fun a' c' hc1 hc2 => ?_)
          | refine OpOk.append rfl rfl rfl rfl (by first | exact Rs.rds (by assumption) | exact Rds.up (by assumption) | exact Rds.hasSl (by omega) (by omega) (by first | rfl | (simp; done) | (simp; omega))) (one_u8 _) (by omega) (fun a' c' hc1 hc2 => ?_))
      | (show QOk _ _ _ _ _ _ _; first | refine QOk.load rfl rfl (by first | exact Ld.hasBlk rfl | exact Ld.rs (by assumption) (getMap (by omega)) | exact Ld.rds (by assumption) (getMap (by omega)) | exact Ld.hasSl (getMap (by omega)) | exact Ld.hasBlkAt (getMap (by omega))) ?_ | refine QOk.idx1 rfl rfl rfl (by omega) (by first | exact AOk.hasSl | exact AOk.rs (by assumption) | exact AOk.rds (by assumption) | exact AOk.lit) ?_ | refine QOk.loadRow rfl rfl LdN.hasBlk rfl ?_ | refine QOk.toStr rfl rfl rfl rfl (by first | exact Rs.rds (by assumption) | exact Rds.up (by assumption) | exact Rds.hasSl (by omega) (by omega) (by first | rfl | (simp; done) | (simp; omega))) ?_)
      | (show GJ _ _ _ _ _ _ _; first | (apply GJ.and; exact rfl; intro hg) | (apply GJ.or; exact rfl; intro hg) | refine GJ.t (by omega) ?_ | refine GJ.f (by omega) ?_ | refine GJ.ft (by omega) ?_ | refine GJ.ff (by omega) ?_)
      | (show Br _ _ _; first | with_reducible refine Br.tt ?_ | with_reducible refine Br.ff ?_ | with_reducible refine Br.nt ?_ | with_reducible refine Br.nf ?_ | refine Br.t (by omega) ?_ | refine Br.f (by omega) ?_)
      | (show RetOk _ _ _ _ _ _; refine RetOk.of (by repeat (first | exact RL.nil | refine RL.tmp rfl ?_ | refine RL.row rfl rfl LdN.hasBlk rfl ?_ | refine RL.one rfl rfl (by first | exact Ld.hasBlk rfl | exact Ld.rs (by assumption) (getMap (by omega)) | exact Ld.rds (by assumption) (getMap (by omega)) | exact Ld.hasSl (getMap (by omega)) | exact Ld.hasBlkAt (getMap (by omega))) ?_)) ?_)
      | (show CodeOk _ _ _ _ _ _; refine CodeOk.drawnAuto rfl (by kernel_rfl) rfl (by kernel_rfl) ?_))
  all_goals refine Wk.val hk (congrArg (Value.int .i64) ?_)
  all_goals try simp only [Int.reduceToNat, Int.reducePow] at *
  · exact len_fin x 56 _ _ _ rfl rfl (by omega) (by omega) (by omega)
  · exact len_fin x 48 _ _ _ rfl rfl (by omega) (by omega) (by omega)
  · exact len_fin x 40 _ _ _ rfl rfl (by omega) (by omega) (by omega)
  · exact len_fin x 32 _ _ _ rfl rfl (by omega) (by omega) (by omega)
  · exact len_fin x 24 _ _ _ rfl rfl (by omega) (by omega) (by omega)
  · exact len_fin x 16 _ _ _ rfl rfl (by omega) (by omega) (by omega)
  · exact len_fin x 8 _ _ _ rfl rfl (by omega) (by omega) (by omega)
  · exact len_fin x 0 _ _ _ rfl rfl (by omega) (by omega) (by omega)
end
end Go.Proofs.Ytpajhgnkagifbaa
