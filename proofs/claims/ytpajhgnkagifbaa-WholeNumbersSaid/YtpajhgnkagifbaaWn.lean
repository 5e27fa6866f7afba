/- The law WholeNumbers: its contract. -/
import Derived.Test.YtpajhgnkagifbaaLe9
import Derived.Test.YtpajhgnkagifbaaOcW
import Derived.Test.YtpajhgnkagifbaaOc4
import Derived.Test.YtpajhgnkagifbaaV11
namespace Go.Proofs.Ytpajhgnkagifbaa
open Go Go.E
set_option linter.unusedVariables false
set_option maxRecDepth 10000
section
variable {ro : Ro} {own : Chs} {K : Value → Ro → Chs → Prop} {f : Chunk → Chs}
/-- May the number be one of so many bytes? -/
def fitsW (x w : Int) : Prop := (1 ≤ w ∧ w ≤ 8) ∧ x ≤ mostN w
instance (x w : Int) : Decidable (fitsW x w) := by unfold fitsW; infer_instance
/-- The bytes of number i. -/
def piece (xs ws : List Int) (i : Nat) : List UInt8 := if fitsW xs[i]! ws[i]! then putB (decide ((i : Int) % 2 = 0)) (ws[i]!).toNat (xs[i]!).toNat else enc (xs[i]!).toNat
def cat (xs ws : List Int) (i : Nat) : List UInt8 := (List.range i).flatMap (piece xs ws)
theorem cat_succ (xs ws : List Int) (i : Nat) : cat xs ws (i + 1) = cat xs ws i ++ piece xs ws i := by simp [cat, List.range_succ]
theorem cat_split (xs ws : List Int) : ∀ n i, i ≤ n → ∃ rest, cat xs ws n = cat xs ws i ++ rest
  | 0, i, hi => by
    obtain rfl : i = 0 := by omega
    exact ⟨[], by simp⟩
  | n + 1, i, hi => by
    rcases Nat.lt_or_ge i (n + 1) with h | h
    · obtain ⟨r, hr⟩ := cat_split xs ws n i (by omega)
      exact ⟨r ++ piece xs ws n, by rw [cat_succ, hr, List.append_assoc]⟩
    · obtain rfl : i = n + 1 := by omega
      exact ⟨[], by simp⟩
theorem mem_u64 {xs : List Int} (h : ∀ z ∈ xs, (Lit.int .u64 z).wf = true) {i : Nat} (hi : i < xs.length) : ∃ x : Nat, xs[i]! = (x : Int) ∧ x < 18446744073709551616 := by
  have hm : xs[i]! ∈ xs := by rw [List.getElem!_eq_getElem?_getD, List.getElem?_eq_getElem hi]; exact List.getElem_mem hi
  exact wf_u64 (h _ hm)
theorem mem_i64 {xs : List Int} (h : ∀ z ∈ xs, (Lit.int .i64 z).wf = true) {i : Nat} (hi : i < xs.length) : -9223372036854775808 ≤ xs[i]! ∧ xs[i]! ≤ 9223372036854775807 := by
  have hm : xs[i]! ∈ xs := by rw [List.getElem!_eq_getElem?_getD, List.getElem?_eq_getElem hi]; exact List.getElem_mem hi
  exact wf_i64 (h _ hm)
theorem wn_ok {n c n2 c2 : Nat} {a a2 : Option Addr} {xs ws : List Int} (hx : Rs ro a n c 1 (xs.map (Value.int .u64))) (hw : Rs ro a2 n2 c2 1 (ws.map (Value.int .i64))) (gx : ∀ z ∈ xs, (Lit.int .u64 z).wf = true) (gw : ∀ z ∈ ws, (Lit.int .i64 z).wf = true)
    (hk : K (.bool true) ro own) : CallOk Try.prog 14 #[.slice a n c, .slice a2 n2 c2] ro own K := by
  have hl := hx.n1
  have hl2 := hw.n1
  simp at hl hl2
  refine CallOk.back ?_
  refine CallOk.intro (args := [_, _]) (rs := [_]) T_ok Try.func14 Try.call14 rfl rfl (by kernel_rfl) rfl rfl ?_
  repeat (first
    | refine Stop.mk ?_
    | (show _ ∧ _; first | exact ⟨rfl, rfl, rfl⟩ | refine And.intro (by first | omega | exact u8_range _ | exact add_u8 _ _ (by omega) | exact ⟨⟨Int.emod_nonneg _ (by decide), Int.emod_lt_of_pos _ (by decide)⟩, Int.natCast_nonneg _, Int.lt_of_lt_of_le (u8_range _).2 (by decide)⟩ | exact ⟨⟨Int.emod_nonneg _ (by decide), Int.emod_lt_of_pos _ (by decide)⟩, ⟨Int.emod_nonneg _ (by decide), Int.emod_lt_of_pos _ (by decide)⟩⟩) ?_ | refine And.intro (inferInstanceAs (Suf _ _)) ?_)
    | (show OpOk _ _ _ _ _ _ _; first
        | refine OpOk.load rfl rfl (by first | exact Ld.hasBlk rfl | exact Ld.rs (by assumption) (getMap (by omega)) | exact Ld.rds (by assumption) (getMap (by omega)) | exact Ld.hasSl (getMap (by omega)) | exact Ld.hasBlkAt (getMap (by omega))) ?_
        | refine OpOk.loadRow rfl rfl LdN.hasBlk rfl ?_
        | refine OpOk.store rfl rfl rfl rfl (by repeat (first | exact SetR.hit _ _ _ | apply SetR.miss)) ?_
        | refine OpOk.storeRow rfl rfl rfl rfl (by rfl) rfl ?_
        | refine OpOk.idx1 rfl rfl rfl (by omega) (by first | exact AOk.hasSl | exact AOk.rs (by assumption) | exact AOk.rds (by assumption) | exact AOk.lit) ?_
        | refine OpOk.alloc rfl (fun b => ?_)
        | refine OpOk.box rfl (fun b => ?_)
        | refine OpOk.build rfl rfl (by repeat (first | exact Nf.nil | apply Nf.cons)) ?_
        | refine OpOk.buildSlice1 (by rfl) (by rfl) (by rfl) (by rfl) (by rfl) (fun b => ?_)
        | refine OpOk.toStr rfl rfl rfl rfl (by first | exact Rs.rds (by assumption) | exact Rds.up (by assumption) | exact Rds.hasSl (by omega) (by omega) (by first | rfl | (simp; done) | (simp; omega))) ?_
        | refine OpOk.make1 rfl rfl rfl (by omega) (fun b => ?_)
        | refine OpOk.append1 rfl rfl rfl rfl rfl rfl (by omega) (fun a' c' hc1 hc2 => ?_)
        | refine OpOk.append0 rfl rfl rfl rfl rfl rfl (by omega) (fun a' c' hc1 hc2 => ?_)
        | refine OpOk.appendE rfl rfl rfl rfl (by first | exact Rs.rds (by assumption) | exact Rds.up (by assumption) | exact Rds.hasSl (by omega) (by omega) (by first | rfl | (simp; done) | (simp; omega))) (one_u8 _) (by omega) (fun a' c' hc1 hc2 => ?_)
        | refine OpOk.append rfl rfl rfl rfl (by first | exact Rs.rds (by assumption) | exact Rds.up (by assumption) | exact Rds.hasSl (by omega) (by omega) (by first | rfl | (simp; done) | (simp; omega))) (one_u8 _) (by omega) (fun a' c' hc1 hc2 => ?_))
    | (show QOk _ _ _ _ _ _ _; first | refine QOk.load rfl rfl (by first | exact Ld.hasBlk rfl | exact Ld.rs (by assumption) (getMap (by omega)) | exact Ld.rds (by assumption) (getMap (by omega)) | exact Ld.hasSl (getMap (by omega)) | exact Ld.hasBlkAt (getMap (by omega))) ?_ | refine QOk.idx1 rfl rfl rfl (by omega) (by first | exact AOk.hasSl | exact AOk.rs (by assumption) | exact AOk.rds (by assumption) | exact AOk.lit) ?_ | refine QOk.loadRow rfl rfl LdN.hasBlk rfl ?_ | refine QOk.toStr rfl rfl rfl rfl (by first | exact Rs.rds (by assumption) | exact Rds.up (by assumption) | exact Rds.hasSl (by omega) (by omega) (by first | rfl | (simp; done) | (simp; omega))) ?_)
    | (show GJ _ _ _ _ _ _ _; first | (apply GJ.and; exact rfl; intro hg) | (apply GJ.or; exact rfl; intro hg) | refine GJ.t (by omega) ?_ | refine GJ.f (by omega) ?_ | refine GJ.ft (by omega) ?_ | refine GJ.ff (by omega) ?_)
    | (show Br _ _ _; first | with_reducible refine Br.tt ?_ | with_reducible refine Br.ff ?_ | with_reducible refine Br.nt ?_ | with_reducible refine Br.nf ?_ | refine Br.t (by omega) ?_ | refine Br.f (by omega) ?_)
    | (show RetOk _ _ _ _ _ _; refine RetOk.of (by repeat (first | exact RL.nil | refine RL.tmp rfl ?_ | refine RL.row rfl rfl LdN.hasBlk rfl ?_ | refine RL.one rfl rfl (by first | exact Ld.hasBlk rfl | exact Ld.rs (by assumption) (getMap (by omega)) | exact Ld.rds (by assumption) (getMap (by omega)) | exact Ld.hasSl (getMap (by omega)) | exact Ld.hasBlkAt (getMap (by omega))) ?_)) ?_)
    | (show CodeOk _ _ _ _ _ _; refine CodeOk.drawnAuto rfl (by kernel_rfl) rfl (by kernel_rfl) ?_))
  refine new_ok (fun b1 => ?_)
  repeat (first
    | refine Stop.mk ?_
    | (show _ ∧ _; first | exact ⟨rfl, rfl, rfl⟩ | refine And.intro (by first | omega | exact u8_range _ | exact add_u8 _ _ (by omega) | exact ⟨⟨Int.emod_nonneg _ (by decide), Int.emod_lt_of_pos _ (by decide)⟩, Int.natCast_nonneg _, Int.lt_of_lt_of_le (u8_range _).2 (by decide)⟩ | exact ⟨⟨Int.emod_nonneg _ (by decide), Int.emod_lt_of_pos _ (by decide)⟩, ⟨Int.emod_nonneg _ (by decide), Int.emod_lt_of_pos _ (by decide)⟩⟩) ?_ | refine And.intro (inferInstanceAs (Suf _ _)) ?_)
    | (show OpOk _ _ _ _ _ _ _; first
        | refine OpOk.load rfl rfl (by first | exact Ld.hasBlk rfl | exact Ld.rs (by assumption) (getMap (by omega)) | exact Ld.rds (by assumption) (getMap (by omega)) | exact Ld.hasSl (getMap (by omega)) | exact Ld.hasBlkAt (getMap (by omega))) ?_
        | refine OpOk.loadRow rfl rfl LdN.hasBlk rfl ?_
        | refine OpOk.store rfl rfl rfl rfl (by repeat (first | exact SetR.hit _ _ _ | apply SetR.miss)) ?_
        | refine OpOk.storeRow rfl rfl rfl rfl (by rfl) rfl ?_
        | refine OpOk.idx1 rfl rfl rfl (by omega) (by first | exact AOk.hasSl | exact AOk.rs (by assumption) | exact AOk.rds (by assumption) | exact AOk.lit) ?_
        | refine OpOk.alloc rfl (fun b => ?_)
        | refine OpOk.box rfl (fun b => ?_)
        | refine OpOk.build rfl rfl (by repeat (first | exact Nf.nil | apply Nf.cons)) ?_
        | refine OpOk.buildSlice1 (by rfl) (by rfl) (by rfl) (by rfl) (by rfl) (fun b => ?_)
        | refine OpOk.toStr rfl rfl rfl rfl (by first | exact Rs.rds (by assumption) | exact Rds.up (by assumption) | exact Rds.hasSl (by omega) (by omega) (by first | rfl | (simp; done) | (simp; omega))) ?_
        | refine OpOk.make1 rfl rfl rfl (by omega) (fun b => ?_)
        | refine OpOk.append1 rfl rfl rfl rfl rfl rfl (by omega) (fun a' c' hc1 hc2 => ?_)
        | refine OpOk.append0 rfl rfl rfl rfl rfl rfl (by omega) (fun a' c' hc1 hc2 => ?_)
        | refine OpOk.appendE rfl rfl rfl rfl (by first | exact Rs.rds (by assumption) | exact Rds.up (by assumption) | exact Rds.hasSl (by omega) (by omega) (by first | rfl | (simp; done) | (simp; omega))) (one_u8 _) (by omega) (fun a' c' hc1 hc2 => ?_)
        | refine OpOk.append rfl rfl rfl rfl (by first | exact Rs.rds (by assumption) | exact Rds.up (by assumption) | exact Rds.hasSl (by omega) (by omega) (by first | rfl | (simp; done) | (simp; omega))) (one_u8 _) (by omega) (fun a' c' hc1 hc2 => ?_))
    | (show QOk _ _ _ _ _ _ _; first | refine QOk.load rfl rfl (by first | exact Ld.hasBlk rfl | exact Ld.rs (by assumption) (getMap (by omega)) | exact Ld.rds (by assumption) (getMap (by omega)) | exact Ld.hasSl (getMap (by omega)) | exact Ld.hasBlkAt (getMap (by omega))) ?_ | refine QOk.idx1 rfl rfl rfl (by omega) (by first | exact AOk.hasSl | exact AOk.rs (by assumption) | exact AOk.rds (by assumption) | exact AOk.lit) ?_ | refine QOk.loadRow rfl rfl LdN.hasBlk rfl ?_ | refine QOk.toStr rfl rfl rfl rfl (by first | exact Rs.rds (by assumption) | exact Rds.up (by assumption) | exact Rds.hasSl (by omega) (by omega) (by first | rfl | (simp; done) | (simp; omega))) ?_)
    | (show GJ _ _ _ _ _ _ _; first | (apply GJ.and; exact rfl; intro hg) | (apply GJ.or; exact rfl; intro hg) | refine GJ.t (by omega) ?_ | refine GJ.f (by omega) ?_ | refine GJ.ft (by omega) ?_ | refine GJ.ff (by omega) ?_)
    | (show Br _ _ _; first | with_reducible refine Br.tt ?_ | with_reducible refine Br.ff ?_ | with_reducible refine Br.nt ?_ | with_reducible refine Br.nf ?_ | refine Br.t (by omega) ?_ | refine Br.f (by omega) ?_)
    | (show RetOk _ _ _ _ _ _; refine RetOk.of (by repeat (first | exact RL.nil | refine RL.tmp rfl ?_ | refine RL.row rfl rfl LdN.hasBlk rfl ?_ | refine RL.one rfl rfl (by first | exact Ld.hasBlk rfl | exact Ld.rs (by assumption) (getMap (by omega)) | exact Ld.rds (by assumption) (getMap (by omega)) | exact Ld.hasSl (getMap (by omega)) | exact Ld.hasBlkAt (getMap (by omega))) ?_)) ?_)
    | (show CodeOk _ _ _ _ _ _; refine CodeOk.drawnAuto rfl (by kernel_rfl) rfl (by kernel_rfl) ?_))
  refine llen_ok (x := 300) (by omega) ?_
  rw [show lebLen 300 = 2 by decide]
  repeat (first
    | refine Stop.mk ?_
    | (show _ ∧ _; first | exact ⟨rfl, rfl, rfl⟩ | refine And.intro (by first | omega | exact u8_range _ | exact add_u8 _ _ (by omega) | exact ⟨⟨Int.emod_nonneg _ (by decide), Int.emod_lt_of_pos _ (by decide)⟩, Int.natCast_nonneg _, Int.lt_of_lt_of_le (u8_range _).2 (by decide)⟩ | exact ⟨⟨Int.emod_nonneg _ (by decide), Int.emod_lt_of_pos _ (by decide)⟩, ⟨Int.emod_nonneg _ (by decide), Int.emod_lt_of_pos _ (by decide)⟩⟩) ?_ | refine And.intro (inferInstanceAs (Suf _ _)) ?_)
    | (show OpOk _ _ _ _ _ _ _; first
        | refine OpOk.load rfl rfl (by first | exact Ld.hasBlk rfl | exact Ld.rs (by assumption) (getMap (by omega)) | exact Ld.rds (by assumption) (getMap (by omega)) | exact Ld.hasSl (getMap (by omega)) | exact Ld.hasBlkAt (getMap (by omega))) ?_
        | refine OpOk.loadRow rfl rfl LdN.hasBlk rfl ?_
        | refine OpOk.store rfl rfl rfl rfl (by repeat (first | exact SetR.hit _ _ _ | apply SetR.miss)) ?_
        | refine OpOk.storeRow rfl rfl rfl rfl (by rfl) rfl ?_
        | refine OpOk.idx1 rfl rfl rfl (by omega) (by first | exact AOk.hasSl | exact AOk.rs (by assumption) | exact AOk.rds (by assumption) | exact AOk.lit) ?_
        | refine OpOk.alloc rfl (fun b => ?_)
        | refine OpOk.box rfl (fun b => ?_)
        | refine OpOk.build rfl rfl (by repeat (first | exact Nf.nil | apply Nf.cons)) ?_
        | refine OpOk.buildSlice1 (by rfl) (by rfl) (by rfl) (by rfl) (by rfl) (fun b => ?_)
        | refine OpOk.toStr rfl rfl rfl rfl (by first | exact Rs.rds (by assumption) | exact Rds.up (by assumption) | exact Rds.hasSl (by omega) (by omega) (by first | rfl | (simp; done) | (simp; omega))) ?_
        | refine OpOk.make1 rfl rfl rfl (by omega) (fun b => ?_)
        | refine OpOk.append1 rfl rfl rfl rfl rfl rfl (by omega) (fun a' c' hc1 hc2 => ?_)
        | refine OpOk.append0 rfl rfl rfl rfl rfl rfl (by omega) (fun a' c' hc1 hc2 => ?_)
        | refine OpOk.appendE rfl rfl rfl rfl (by first | exact Rs.rds (by assumption) | exact Rds.up (by assumption) | exact Rds.hasSl (by omega) (by omega) (by first | rfl | (simp; done) | (simp; omega))) (one_u8 _) (by omega) (fun a' c' hc1 hc2 => ?_)
        | refine OpOk.append rfl rfl rfl rfl (by first | exact Rs.rds (by assumption) | exact Rds.up (by assumption) | exact Rds.hasSl (by omega) (by omega) (by first | rfl | (simp; done) | (simp; omega))) (one_u8 _) (by omega) (fun a' c' hc1 hc2 => ?_))
    | (show QOk _ _ _ _ _ _ _; first | refine QOk.load rfl rfl (by first | exact Ld.hasBlk rfl | exact Ld.rs (by assumption) (getMap (by omega)) | exact Ld.rds (by assumption) (getMap (by omega)) | exact Ld.hasSl (getMap (by omega)) | exact Ld.hasBlkAt (getMap (by omega))) ?_ | refine QOk.idx1 rfl rfl rfl (by omega) (by first | exact AOk.hasSl | exact AOk.rs (by assumption) | exact AOk.rds (by assumption) | exact AOk.lit) ?_ | refine QOk.loadRow rfl rfl LdN.hasBlk rfl ?_ | refine QOk.toStr rfl rfl rfl rfl (by first | exact Rs.rds (by assumption) | exact Rds.up (by assumption) | exact Rds.hasSl (by omega) (by omega) (by first | rfl | (simp; done) | (simp; omega))) ?_)
    | (show GJ _ _ _ _ _ _ _; first | (apply GJ.and; exact rfl; intro hg) | (apply GJ.or; exact rfl; intro hg) | refine GJ.t (by omega) ?_ | refine GJ.f (by omega) ?_ | refine GJ.ft (by omega) ?_ | refine GJ.ff (by omega) ?_)
    | (show Br _ _ _; first | with_reducible refine Br.tt ?_ | with_reducible refine Br.ff ?_ | with_reducible refine Br.nt ?_ | with_reducible refine Br.nf ?_ | refine Br.t (by omega) ?_ | refine Br.f (by omega) ?_)
    | (show RetOk _ _ _ _ _ _; refine RetOk.of (by repeat (first | exact RL.nil | refine RL.tmp rfl ?_ | refine RL.row rfl rfl LdN.hasBlk rfl ?_ | refine RL.one rfl rfl (by first | exact Ld.hasBlk rfl | exact Ld.rs (by assumption) (getMap (by omega)) | exact Ld.rds (by assumption) (getMap (by omega)) | exact Ld.hasSl (getMap (by omega)) | exact Ld.hasBlkAt (getMap (by omega))) ?_)) ?_)
    | (show CodeOk _ _ _ _ _ _; refine CodeOk.drawnAuto rfl (by kernel_rfl) rfl (by kernel_rfl) ?_))
  refine Br.f (by simp) ?_
  repeat (first
    | refine Stop.mk ?_
    | (show _ ∧ _; first | exact ⟨rfl, rfl, rfl⟩ | refine And.intro (by first | omega | exact u8_range _ | exact add_u8 _ _ (by omega) | exact ⟨⟨Int.emod_nonneg _ (by decide), Int.emod_lt_of_pos _ (by decide)⟩, Int.natCast_nonneg _, Int.lt_of_lt_of_le (u8_range _).2 (by decide)⟩ | exact ⟨⟨Int.emod_nonneg _ (by decide), Int.emod_lt_of_pos _ (by decide)⟩, ⟨Int.emod_nonneg _ (by decide), Int.emod_lt_of_pos _ (by decide)⟩⟩) ?_ | refine And.intro (inferInstanceAs (Suf _ _)) ?_)
    | (show OpOk _ _ _ _ _ _ _; first
        | refine OpOk.load rfl rfl (by first | exact Ld.hasBlk rfl | exact Ld.rs (by assumption) (getMap (by omega)) | exact Ld.rds (by assumption) (getMap (by omega)) | exact Ld.hasSl (getMap (by omega)) | exact Ld.hasBlkAt (getMap (by omega))) ?_
        | refine OpOk.loadRow rfl rfl LdN.hasBlk rfl ?_
        | refine OpOk.store rfl rfl rfl rfl (by repeat (first | exact SetR.hit _ _ _ | apply SetR.miss)) ?_
        | refine OpOk.storeRow rfl rfl rfl rfl (by rfl) rfl ?_
        | refine OpOk.idx1 rfl rfl rfl (by omega) (by first | exact AOk.hasSl | exact AOk.rs (by assumption) | exact AOk.rds (by assumption) | exact AOk.lit) ?_
        | refine OpOk.alloc rfl (fun b => ?_)
        | refine OpOk.box rfl (fun b => ?_)
        | refine OpOk.build rfl rfl (by repeat (first | exact Nf.nil | apply Nf.cons)) ?_
        | refine OpOk.buildSlice1 (by rfl) (by rfl) (by rfl) (by rfl) (by rfl) (fun b => ?_)
        | refine OpOk.toStr rfl rfl rfl rfl (by first | exact Rs.rds (by assumption) | exact Rds.up (by assumption) | exact Rds.hasSl (by omega) (by omega) (by first | rfl | (simp; done) | (simp; omega))) ?_
        | refine OpOk.make1 rfl rfl rfl (by omega) (fun b => ?_)
        | refine OpOk.append1 rfl rfl rfl rfl rfl rfl (by omega) (fun a' c' hc1 hc2 => ?_)
        | refine OpOk.append0 rfl rfl rfl rfl rfl rfl (by omega) (fun a' c' hc1 hc2 => ?_)
        | refine OpOk.appendE rfl rfl rfl rfl (by first | exact Rs.rds (by assumption) | exact Rds.up (by assumption) | exact Rds.hasSl (by omega) (by omega) (by first | rfl | (simp; done) | (simp; omega))) (one_u8 _) (by omega) (fun a' c' hc1 hc2 => ?_)
        | refine OpOk.append rfl rfl rfl rfl (by first | exact Rs.rds (by assumption) | exact Rds.up (by assumption) | exact Rds.hasSl (by omega) (by omega) (by first | rfl | (simp; done) | (simp; omega))) (one_u8 _) (by omega) (fun a' c' hc1 hc2 => ?_))
    | (show QOk _ _ _ _ _ _ _; first | refine QOk.load rfl rfl (by first | exact Ld.hasBlk rfl | exact Ld.rs (by assumption) (getMap (by omega)) | exact Ld.rds (by assumption) (getMap (by omega)) | exact Ld.hasSl (getMap (by omega)) | exact Ld.hasBlkAt (getMap (by omega))) ?_ | refine QOk.idx1 rfl rfl rfl (by omega) (by first | exact AOk.hasSl | exact AOk.rs (by assumption) | exact AOk.rds (by assumption) | exact AOk.lit) ?_ | refine QOk.loadRow rfl rfl LdN.hasBlk rfl ?_ | refine QOk.toStr rfl rfl rfl rfl (by first | exact Rs.rds (by assumption) | exact Rds.up (by assumption) | exact Rds.hasSl (by omega) (by omega) (by first | rfl | (simp; done) | (simp; omega))) ?_)
    | (show GJ _ _ _ _ _ _ _; first | (apply GJ.and; exact rfl; intro hg) | (apply GJ.or; exact rfl; intro hg) | refine GJ.t (by omega) ?_ | refine GJ.f (by omega) ?_ | refine GJ.ft (by omega) ?_ | refine GJ.ff (by omega) ?_)
    | (show Br _ _ _; first | with_reducible refine Br.tt ?_ | with_reducible refine Br.ff ?_ | with_reducible refine Br.nt ?_ | with_reducible refine Br.nf ?_ | refine Br.t (by omega) ?_ | refine Br.f (by omega) ?_)
    | (show RetOk _ _ _ _ _ _; refine RetOk.of (by repeat (first | exact RL.nil | refine RL.tmp rfl ?_ | refine RL.row rfl rfl LdN.hasBlk rfl ?_ | refine RL.one rfl rfl (by first | exact Ld.hasBlk rfl | exact Ld.rs (by assumption) (getMap (by omega)) | exact Ld.rds (by assumption) (getMap (by omega)) | exact Ld.hasSl (getMap (by omega)) | exact Ld.hasBlkAt (getMap (by omega))) ?_)) ?_)
    | (show CodeOk _ _ _ _ _ _; refine CodeOk.drawnAuto rfl (by kernel_rfl) rfl (by kernel_rfl) ?_))
  refine Br.cases (fun hc => ?_) (fun hc => ?_)
  · repeat (first
      | refine Stop.mk ?_
      | (show _ ∧ _; first | exact ⟨rfl, rfl, rfl⟩ | refine And.intro (by first | omega | exact u8_range _ | exact add_u8 _ _ (by omega) | exact ⟨⟨Int.emod_nonneg _ (by decide), Int.emod_lt_of_pos _ (by decide)⟩, Int.natCast_nonneg _, Int.lt_of_lt_of_le (u8_range _).2 (by decide)⟩ | exact ⟨⟨Int.emod_nonneg _ (by decide), Int.emod_lt_of_pos _ (by decide)⟩, ⟨Int.emod_nonneg _ (by decide), Int.emod_lt_of_pos _ (by decide)⟩⟩) ?_ | refine And.intro (inferInstanceAs (Suf _ _)) ?_)
      | (show OpOk _ _ _ _ _ _ _; first
          | refine OpOk.load rfl rfl (by first | exact Ld.hasBlk rfl | exact Ld.rs (by assumption) (getMap (by omega)) | exact Ld.rds (by assumption) (getMap (by omega)) | exact Ld.hasSl (getMap (by omega)) | exact Ld.hasBlkAt (getMap (by omega))) ?_
          | refine OpOk.loadRow rfl rfl LdN.hasBlk rfl ?_
          | refine OpOk.store rfl rfl rfl rfl (by repeat (first | exact SetR.hit _ _ _ | apply SetR.miss)) ?_
          | refine OpOk.storeRow rfl rfl rfl rfl (by rfl) rfl ?_
          | refine OpOk.idx1 rfl rfl rfl (by omega) (by first | exact AOk.hasSl | exact AOk.rs (by assumption) | exact AOk.rds (by assumption) | exact AOk.lit) ?_
          | refine OpOk.alloc rfl (fun b => ?_)
          | refine OpOk.box rfl (fun b => ?_)
          | refine OpOk.build rfl rfl (by repeat (first | exact Nf.nil | apply Nf.cons)) ?_
          | refine OpOk.buildSlice1 (by rfl) (by rfl) (by rfl) (by rfl) (by rfl) (fun b => ?_)
          | refine OpOk.toStr rfl rfl rfl rfl (by first | exact Rs.rds (by assumption) | exact Rds.up (by assumption) | exact Rds.hasSl (by omega) (by omega) (by first | rfl | (simp; done) | (simp; omega))) ?_
          | refine OpOk.make1 rfl rfl rfl (by omega) (fun b => ?_)
          | refine OpOk.append1 rfl rfl rfl rfl rfl rfl (by omega) (fun a' c' hc1 hc2 => ?_)
          | refine OpOk.append0 rfl rfl rfl rfl rfl rfl (by omega) (fun a' c' hc1 hc2 => ?_)
          | refine OpOk.appendE rfl rfl rfl rfl (by first | exact Rs.rds (by assumption) | exact Rds.up (by assumption) | exact Rds.hasSl (by omega) (by omega) (by first | rfl | (simp; done) | (simp; omega))) (one_u8 _) (by omega) (fun a' c' hc1 hc2 => ?_)
          | refine OpOk.append rfl rfl rfl rfl (by first | exact Rs.rds (by assumption) | exact Rds.up (by assumption) | exact Rds.hasSl (by omega) (by omega) (by first | rfl | (simp; done) | (simp; omega))) (one_u8 _) (by omega) (fun a' c' hc1 hc2 => ?_))
      | (show QOk _ _ _ _ _ _ _; first | refine QOk.load rfl rfl (by first | exact Ld.hasBlk rfl | exact Ld.rs (by assumption) (getMap (by omega)) | exact Ld.rds (by assumption) (getMap (by omega)) | exact Ld.hasSl (getMap (by omega)) | exact Ld.hasBlkAt (getMap (by omega))) ?_ | refine QOk.idx1 rfl rfl rfl (by omega) (by first | exact AOk.hasSl | exact AOk.rs (by assumption) | exact AOk.rds (by assumption) | exact AOk.lit) ?_ | refine QOk.loadRow rfl rfl LdN.hasBlk rfl ?_ | refine QOk.toStr rfl rfl rfl rfl (by first | exact Rs.rds (by assumption) | exact Rds.up (by assumption) | exact Rds.hasSl (by omega) (by omega) (by first | rfl | (simp; done) | (simp; omega))) ?_)
      | (show GJ _ _ _ _ _ _ _; first | (apply GJ.and; exact rfl; intro hg) | (apply GJ.or; exact rfl; intro hg) | refine GJ.t (by omega) ?_ | refine GJ.f (by omega) ?_ | refine GJ.ft (by omega) ?_ | refine GJ.ff (by omega) ?_)
      | (show Br _ _ _; first | with_reducible refine Br.tt ?_ | with_reducible refine Br.ff ?_ | with_reducible refine Br.nt ?_ | with_reducible refine Br.nf ?_ | refine Br.t (by omega) ?_ | refine Br.f (by omega) ?_)
      | (show RetOk _ _ _ _ _ _; refine RetOk.of (by repeat (first | exact RL.nil | refine RL.tmp rfl ?_ | refine RL.row rfl rfl LdN.hasBlk rfl ?_ | refine RL.one rfl rfl (by first | exact Ld.hasBlk rfl | exact Ld.rs (by assumption) (getMap (by omega)) | exact Ld.rds (by assumption) (getMap (by omega)) | exact Ld.hasSl (getMap (by omega)) | exact Ld.hasBlkAt (getMap (by omega))) ?_)) ?_)
      | (show CodeOk _ _ _ _ _ _; refine CodeOk.drawnAuto rfl (by kernel_rfl) rfl (by kernel_rfl) ?_))
    exact Wk.back1 (by repeat (first | exact Sup.all _ | exact Sup.nil _ | refine Sup.cons (by first | exact Take.hit _ _ | exact Take.miss _ (Take.hit _ _) | exact Take.miss _ (Take.miss _ (Take.hit _ _)) | exact Take.miss _ (Take.miss _ (Take.miss _ (Take.hit _ _))) | exact Take.miss _ (Take.miss _ (Take.miss _ (Take.miss _ (Take.hit _ _)))) | exact Take.miss _ (Take.miss _ (Take.miss _ (Take.miss _ (Take.miss _ (Take.hit _ _))))) | exact Take.miss _ (Take.miss _ (Take.miss _ (Take.miss _ (Take.miss _ (Take.miss _ (Take.hit _ _))))))) ?_ | refine Sup.nilc ?_ | refine Sup.drop _ ?_)) (.refl _) hk
  repeat (first
    | refine Stop.mk ?_
    | (show _ ∧ _; first | exact ⟨rfl, rfl, rfl⟩ | refine And.intro (by first | omega | exact u8_range _ | exact add_u8 _ _ (by omega) | exact ⟨⟨Int.emod_nonneg _ (by decide), Int.emod_lt_of_pos _ (by decide)⟩, Int.natCast_nonneg _, Int.lt_of_lt_of_le (u8_range _).2 (by decide)⟩ | exact ⟨⟨Int.emod_nonneg _ (by decide), Int.emod_lt_of_pos _ (by decide)⟩, ⟨Int.emod_nonneg _ (by decide), Int.emod_lt_of_pos _ (by decide)⟩⟩) ?_ | refine And.intro (inferInstanceAs (Suf _ _)) ?_)
    | (show OpOk _ _ _ _ _ _ _; first
        | refine OpOk.load rfl rfl (by first | exact Ld.hasBlk rfl | exact Ld.rs (by assumption) (getMap (by omega)) | exact Ld.rds (by assumption) (getMap (by omega)) | exact Ld.hasSl (getMap (by omega)) | exact Ld.hasBlkAt (getMap (by omega))) ?_
        | refine OpOk.loadRow rfl rfl LdN.hasBlk rfl ?_
        | refine OpOk.store rfl rfl rfl rfl (by repeat (first | exact SetR.hit _ _ _ | apply SetR.miss)) ?_
        | refine OpOk.storeRow rfl rfl rfl rfl (by rfl) rfl ?_
        | refine OpOk.idx1 rfl rfl rfl (by omega) (by first | exact AOk.hasSl | exact AOk.rs (by assumption) | exact AOk.rds (by assumption) | exact AOk.lit) ?_
        | refine OpOk.alloc rfl (fun b => ?_)
        | refine OpOk.box rfl (fun b => ?_)
        | refine OpOk.build rfl rfl (by repeat (first | exact Nf.nil | apply Nf.cons)) ?_
        | refine OpOk.buildSlice1 (by rfl) (by rfl) (by rfl) (by rfl) (by rfl) (fun b => ?_)
        | refine OpOk.toStr rfl rfl rfl rfl (by first | exact Rs.rds (by assumption) | exact Rds.up (by assumption) | exact Rds.hasSl (by omega) (by omega) (by first | rfl | (simp; done) | (simp; omega))) ?_
        | refine OpOk.make1 rfl rfl rfl (by omega) (fun b => ?_)
        | refine OpOk.append1 rfl rfl rfl rfl rfl rfl (by omega) (fun a' c' hc1 hc2 => ?_)
        | refine OpOk.append0 rfl rfl rfl rfl rfl rfl (by omega) (fun a' c' hc1 hc2 => ?_)
        | refine OpOk.appendE rfl rfl rfl rfl (by first | exact Rs.rds (by assumption) | exact Rds.up (by assumption) | exact Rds.hasSl (by omega) (by omega) (by first | rfl | (simp; done) | (simp; omega))) (one_u8 _) (by omega) (fun a' c' hc1 hc2 => ?_)
        | refine OpOk.append rfl rfl rfl rfl (by first | exact Rs.rds (by assumption) | exact Rds.up (by assumption) | exact Rds.hasSl (by omega) (by omega) (by first | rfl | (simp; done) | (simp; omega))) (one_u8 _) (by omega) (fun a' c' hc1 hc2 => ?_))
    | (show QOk _ _ _ _ _ _ _; first | refine QOk.load rfl rfl (by first | exact Ld.hasBlk rfl | exact Ld.rs (by assumption) (getMap (by omega)) | exact Ld.rds (by assumption) (getMap (by omega)) | exact Ld.hasSl (getMap (by omega)) | exact Ld.hasBlkAt (getMap (by omega))) ?_ | refine QOk.idx1 rfl rfl rfl (by omega) (by first | exact AOk.hasSl | exact AOk.rs (by assumption) | exact AOk.rds (by assumption) | exact AOk.lit) ?_ | refine QOk.loadRow rfl rfl LdN.hasBlk rfl ?_ | refine QOk.toStr rfl rfl rfl rfl (by first | exact Rs.rds (by assumption) | exact Rds.up (by assumption) | exact Rds.hasSl (by omega) (by omega) (by first | rfl | (simp; done) | (simp; omega))) ?_)
    | (show GJ _ _ _ _ _ _ _; first | (apply GJ.and; exact rfl; intro hg) | (apply GJ.or; exact rfl; intro hg) | refine GJ.t (by omega) ?_ | refine GJ.f (by omega) ?_ | refine GJ.ft (by omega) ?_ | refine GJ.ff (by omega) ?_)
    | (show Br _ _ _; first | with_reducible refine Br.tt ?_ | with_reducible refine Br.ff ?_ | with_reducible refine Br.nt ?_ | with_reducible refine Br.nf ?_ | refine Br.t (by omega) ?_ | refine Br.f (by omega) ?_)
    | (show RetOk _ _ _ _ _ _; refine RetOk.of (by repeat (first | exact RL.nil | refine RL.tmp rfl ?_ | refine RL.row rfl rfl LdN.hasBlk rfl ?_ | refine RL.one rfl rfl (by first | exact Ld.hasBlk rfl | exact Ld.rs (by assumption) (getMap (by omega)) | exact Ld.rds (by assumption) (getMap (by omega)) | exact Ld.hasSl (getMap (by omega)) | exact Ld.hasBlkAt (getMap (by omega))) ?_)) ?_)
    | (show CodeOk _ _ _ _ _ _; refine CodeOk.drawnAuto rfl (by kernel_rfl) rfl (by kernel_rfl) ?_))
  refine owrite_ok (fun b2 => ?_)
  repeat (first
    | refine Stop.mk ?_
    | (show _ ∧ _; first | exact ⟨rfl, rfl, rfl⟩ | refine And.intro (by first | omega | exact u8_range _ | exact add_u8 _ _ (by omega) | exact ⟨⟨Int.emod_nonneg _ (by decide), Int.emod_lt_of_pos _ (by decide)⟩, Int.natCast_nonneg _, Int.lt_of_lt_of_le (u8_range _).2 (by decide)⟩ | exact ⟨⟨Int.emod_nonneg _ (by decide), Int.emod_lt_of_pos _ (by decide)⟩, ⟨Int.emod_nonneg _ (by decide), Int.emod_lt_of_pos _ (by decide)⟩⟩) ?_ | refine And.intro (inferInstanceAs (Suf _ _)) ?_)
    | (show OpOk _ _ _ _ _ _ _; first
        | refine OpOk.load rfl rfl (by first | exact Ld.hasBlk rfl | exact Ld.rs (by assumption) (getMap (by omega)) | exact Ld.rds (by assumption) (getMap (by omega)) | exact Ld.hasSl (getMap (by omega)) | exact Ld.hasBlkAt (getMap (by omega))) ?_
        | refine OpOk.loadRow rfl rfl LdN.hasBlk rfl ?_
        | refine OpOk.store rfl rfl rfl rfl (by repeat (first | exact SetR.hit _ _ _ | apply SetR.miss)) ?_
        | refine OpOk.storeRow rfl rfl rfl rfl (by rfl) rfl ?_
        | refine OpOk.idx1 rfl rfl rfl (by omega) (by first | exact AOk.hasSl | exact AOk.rs (by assumption) | exact AOk.rds (by assumption) | exact AOk.lit) ?_
        | refine OpOk.alloc rfl (fun b => ?_)
        | refine OpOk.box rfl (fun b => ?_)
        | refine OpOk.build rfl rfl (by repeat (first | exact Nf.nil | apply Nf.cons)) ?_
        | refine OpOk.buildSlice1 (by rfl) (by rfl) (by rfl) (by rfl) (by rfl) (fun b => ?_)
        | refine OpOk.toStr rfl rfl rfl rfl (by first | exact Rs.rds (by assumption) | exact Rds.up (by assumption) | exact Rds.hasSl (by omega) (by omega) (by first | rfl | (simp; done) | (simp; omega))) ?_
        | refine OpOk.make1 rfl rfl rfl (by omega) (fun b => ?_)
        | refine OpOk.append1 rfl rfl rfl rfl rfl rfl (by omega) (fun a' c' hc1 hc2 => ?_)
        | refine OpOk.append0 rfl rfl rfl rfl rfl rfl (by omega) (fun a' c' hc1 hc2 => ?_)
        | refine OpOk.appendE rfl rfl rfl rfl (by first | exact Rs.rds (by assumption) | exact Rds.up (by assumption) | exact Rds.hasSl (by omega) (by omega) (by first | rfl | (simp; done) | (simp; omega))) (one_u8 _) (by omega) (fun a' c' hc1 hc2 => ?_)
        | refine OpOk.append rfl rfl rfl rfl (by first | exact Rs.rds (by assumption) | exact Rds.up (by assumption) | exact Rds.hasSl (by omega) (by omega) (by first | rfl | (simp; done) | (simp; omega))) (one_u8 _) (by omega) (fun a' c' hc1 hc2 => ?_))
    | (show QOk _ _ _ _ _ _ _; first | refine QOk.load rfl rfl (by first | exact Ld.hasBlk rfl | exact Ld.rs (by assumption) (getMap (by omega)) | exact Ld.rds (by assumption) (getMap (by omega)) | exact Ld.hasSl (getMap (by omega)) | exact Ld.hasBlkAt (getMap (by omega))) ?_ | refine QOk.idx1 rfl rfl rfl (by omega) (by first | exact AOk.hasSl | exact AOk.rs (by assumption) | exact AOk.rds (by assumption) | exact AOk.lit) ?_ | refine QOk.loadRow rfl rfl LdN.hasBlk rfl ?_ | refine QOk.toStr rfl rfl rfl rfl (by first | exact Rs.rds (by assumption) | exact Rds.up (by assumption) | exact Rds.hasSl (by omega) (by omega) (by first | rfl | (simp; done) | (simp; omega))) ?_)
    | (show GJ _ _ _ _ _ _ _; first | (apply GJ.and; exact rfl; intro hg) | (apply GJ.or; exact rfl; intro hg) | refine GJ.t (by omega) ?_ | refine GJ.f (by omega) ?_ | refine GJ.ft (by omega) ?_ | refine GJ.ff (by omega) ?_)
    | (show Br _ _ _; first | with_reducible refine Br.tt ?_ | with_reducible refine Br.ff ?_ | with_reducible refine Br.nt ?_ | with_reducible refine Br.nf ?_ | refine Br.t (by omega) ?_ | refine Br.f (by omega) ?_)
    | (show RetOk _ _ _ _ _ _; refine RetOk.of (by repeat (first | exact RL.nil | refine RL.tmp rfl ?_ | refine RL.row rfl rfl LdN.hasBlk rfl ?_ | refine RL.one rfl rfl (by first | exact Ld.hasBlk rfl | exact Ld.rs (by assumption) (getMap (by omega)) | exact Ld.rds (by assumption) (getMap (by omega)) | exact Ld.hasSl (getMap (by omega)) | exact Ld.hasBlkAt (getMap (by omega))) ?_)) ?_)
    | (show CodeOk _ _ _ _ _ _; refine CodeOk.drawnAuto rfl (by kernel_rfl) rfl (by kernel_rfl) ?_))
  refine LoopOk.at (ι := Nat × Option Addr × Nat × Nat) (by repeat (first | exact Keep.nil _ | apply Keep.skip (by rfl) | apply Keep.keep (by rfl) | apply Keep.args (by rfl))) (fun (i, a, nn, cc) => [(37, .int .i64 (i : Int))]) (fun (i, a, nn, cc) => .blk b2 80 (wtr a nn cc (max 0 2000)) :: .sl a nn cc 5 1 ((cat xs ws i).map u8) :: own) (fun (i, a, nn, cc) => i ≤ n ∧ nn = (cat xs ws i).length ∧ nn ≤ 10 * i ∧ nn ≤ cc ∧ cc ≤ maxLen) (fun (i, a, nn, cc) => n - i) (0, none, 0, 0) ?_ (by repeat (first | exact trivial | refine Sub.cons rfl ?_ | refine Sub.consE rfl (congrArg (Value.int _) (by omega)) ?_)) (by repeat (first | exact Sup.all _ | exact Sup.nil _ | refine Sup.cons (by first | exact Take.hit _ _ | exact Take.miss _ (Take.hit _ _) | exact Take.miss _ (Take.miss _ (Take.hit _ _)) | exact Take.miss _ (Take.miss _ (Take.miss _ (Take.hit _ _))) | exact Take.miss _ (Take.miss _ (Take.miss _ (Take.miss _ (Take.hit _ _)))) | exact Take.miss _ (Take.miss _ (Take.miss _ (Take.miss _ (Take.miss _ (Take.hit _ _))))) | exact Take.miss _ (Take.miss _ (Take.miss _ (Take.miss _ (Take.miss _ (Take.miss _ (Take.hit _ _))))))) ?_ | refine Sup.nilc ?_ | refine Sup.drop _ ?_)) ?_
  · exact ⟨by omega, rfl, by omega, by omega, by omega⟩
  rintro ⟨i, a1, nn, cc⟩ ⟨i1, i2, i3, i4, i5⟩
  dsimp only [List.cons_append, List.nil_append]
  repeat (first
    | refine Stop.mk ?_
    | (show _ ∧ _; first | exact ⟨rfl, rfl, rfl⟩ | refine And.intro (by first | omega | exact u8_range _ | exact add_u8 _ _ (by omega) | exact ⟨⟨Int.emod_nonneg _ (by decide), Int.emod_lt_of_pos _ (by decide)⟩, Int.natCast_nonneg _, Int.lt_of_lt_of_le (u8_range _).2 (by decide)⟩ | exact ⟨⟨Int.emod_nonneg _ (by decide), Int.emod_lt_of_pos _ (by decide)⟩, ⟨Int.emod_nonneg _ (by decide), Int.emod_lt_of_pos _ (by decide)⟩⟩) ?_ | refine And.intro (inferInstanceAs (Suf _ _)) ?_)
    | (show OpOk _ _ _ _ _ _ _; first
        | refine OpOk.load rfl rfl (by first | exact Ld.hasBlk rfl | exact Ld.rs (by assumption) (getMap (by omega)) | exact Ld.rds (by assumption) (getMap (by omega)) | exact Ld.hasSl (getMap (by omega)) | exact Ld.hasBlkAt (getMap (by omega))) ?_
        | refine OpOk.loadRow rfl rfl LdN.hasBlk rfl ?_
        | refine OpOk.store rfl rfl rfl rfl (by repeat (first | exact SetR.hit _ _ _ | apply SetR.miss)) ?_
        | refine OpOk.storeRow rfl rfl rfl rfl (by rfl) rfl ?_
        | refine OpOk.idx1 rfl rfl rfl (by omega) (by first | exact AOk.hasSl | exact AOk.rs (by assumption) | exact AOk.rds (by assumption) | exact AOk.lit) ?_
        | refine OpOk.alloc rfl (fun b => ?_)
        | refine OpOk.box rfl (fun b => ?_)
        | refine OpOk.build rfl rfl (by repeat (first | exact Nf.nil | apply Nf.cons)) ?_
        | refine OpOk.buildSlice1 (by rfl) (by rfl) (by rfl) (by rfl) (by rfl) (fun b => ?_)
        | refine OpOk.toStr rfl rfl rfl rfl (by first | exact Rs.rds (by assumption) | exact Rds.up (by assumption) | exact Rds.hasSl (by omega) (by omega) (by first | rfl | (simp; done) | (simp; omega))) ?_
        | refine OpOk.make1 rfl rfl rfl (by omega) (fun b => ?_)
        | refine OpOk.append1 rfl rfl rfl rfl rfl rfl (by omega) (fun a' c' hc1 hc2 => ?_)
        | refine OpOk.append0 rfl rfl rfl rfl rfl rfl (by omega) (fun a' c' hc1 hc2 => ?_)
        | refine OpOk.appendE rfl rfl rfl rfl (by first | exact Rs.rds (by assumption) | exact Rds.up (by assumption) | exact Rds.hasSl (by omega) (by omega) (by first | rfl | (simp; done) | (simp; omega))) (one_u8 _) (by omega) (fun a' c' hc1 hc2 => ?_)
        | refine OpOk.append rfl rfl rfl rfl (by first | exact Rs.rds (by assumption) | exact Rds.up (by assumption) | exact Rds.hasSl (by omega) (by omega) (by first | rfl | (simp; done) | (simp; omega))) (one_u8 _) (by omega) (fun a' c' hc1 hc2 => ?_))
    | (show QOk _ _ _ _ _ _ _; first | refine QOk.load rfl rfl (by first | exact Ld.hasBlk rfl | exact Ld.rs (by assumption) (getMap (by omega)) | exact Ld.rds (by assumption) (getMap (by omega)) | exact Ld.hasSl (getMap (by omega)) | exact Ld.hasBlkAt (getMap (by omega))) ?_ | refine QOk.idx1 rfl rfl rfl (by omega) (by first | exact AOk.hasSl | exact AOk.rs (by assumption) | exact AOk.rds (by assumption) | exact AOk.lit) ?_ | refine QOk.loadRow rfl rfl LdN.hasBlk rfl ?_ | refine QOk.toStr rfl rfl rfl rfl (by first | exact Rs.rds (by assumption) | exact Rds.up (by assumption) | exact Rds.hasSl (by omega) (by omega) (by first | rfl | (simp; done) | (simp; omega))) ?_)
    | (show GJ _ _ _ _ _ _ _; first | (apply GJ.and; exact rfl; intro hg) | (apply GJ.or; exact rfl; intro hg) | refine GJ.t (by omega) ?_ | refine GJ.f (by omega) ?_ | refine GJ.ft (by omega) ?_ | refine GJ.ff (by omega) ?_)
    | (show Br _ _ _; first | with_reducible refine Br.tt ?_ | with_reducible refine Br.ff ?_ | with_reducible refine Br.nt ?_ | with_reducible refine Br.nf ?_ | refine Br.t (by omega) ?_ | refine Br.f (by omega) ?_)
    | (show RetOk _ _ _ _ _ _; refine RetOk.of (by repeat (first | exact RL.nil | refine RL.tmp rfl ?_ | refine RL.row rfl rfl LdN.hasBlk rfl ?_ | refine RL.one rfl rfl (by first | exact Ld.hasBlk rfl | exact Ld.rs (by assumption) (getMap (by omega)) | exact Ld.rds (by assumption) (getMap (by omega)) | exact Ld.hasSl (getMap (by omega)) | exact Ld.hasBlkAt (getMap (by omega))) ?_)) ?_)
    | (show CodeOk _ _ _ _ _ _; refine CodeOk.drawnAuto rfl (by kernel_rfl) rfl (by kernel_rfl) ?_))
  refine Br.cases (fun hd => ?_) (fun hd => ?_)
  · have h0 : i < xs.length := by omega
    have h02 : i < ws.length := by omega
    obtain ⟨x, hxe, hxb⟩ := mem_u64 gx h0
    have hwb := mem_i64 gw h02
    have hcs := congrArg List.length (cat_succ xs ws i)
    rw [List.length_append] at hcs
    repeat (first
      | refine Stop.mk ?_
      | (show _ ∧ _; first | exact ⟨rfl, rfl, rfl⟩ | refine And.intro (by first | omega | exact u8_range _ | exact add_u8 _ _ (by omega) | exact ⟨⟨Int.emod_nonneg _ (by decide), Int.emod_lt_of_pos _ (by decide)⟩, Int.natCast_nonneg _, Int.lt_of_lt_of_le (u8_range _).2 (by decide)⟩ | exact ⟨⟨Int.emod_nonneg _ (by decide), Int.emod_lt_of_pos _ (by decide)⟩, ⟨Int.emod_nonneg _ (by decide), Int.emod_lt_of_pos _ (by decide)⟩⟩) ?_ | refine And.intro (inferInstanceAs (Suf _ _)) ?_)
      | (show OpOk _ _ _ _ _ _ _; first
          | refine OpOk.load rfl rfl (by first | exact Ld.hasBlk rfl | exact Ld.rs (by assumption) (getMap (by omega)) | exact Ld.rds (by assumption) (getMap (by omega)) | exact Ld.hasSl (getMap (by omega)) | exact Ld.hasBlkAt (getMap (by omega))) ?_
          | refine OpOk.loadRow rfl rfl LdN.hasBlk rfl ?_
          | refine OpOk.store rfl rfl rfl rfl (by repeat (first | exact SetR.hit _ _ _ | apply SetR.miss)) ?_
          | refine OpOk.storeRow rfl rfl rfl rfl (by rfl) rfl ?_
          | refine OpOk.idx1 rfl rfl rfl (by omega) (by first | exact AOk.hasSl | exact AOk.rs (by assumption) | exact AOk.rds (by assumption) | exact AOk.lit) ?_
          | refine OpOk.alloc rfl (fun b => ?_)
          | refine OpOk.box rfl (fun b => ?_)
          | refine OpOk.build rfl rfl (by repeat (first | exact Nf.nil | apply Nf.cons)) ?_
          | refine OpOk.buildSlice1 (by rfl) (by rfl) (by rfl) (by rfl) (by rfl) (fun b => ?_)
          | refine OpOk.toStr rfl rfl rfl rfl (by first | exact Rs.rds (by assumption) | exact Rds.up (by assumption) | exact Rds.hasSl (by omega) (by omega) (by first | rfl | (simp; done) | (simp; omega))) ?_
          | refine OpOk.make1 rfl rfl rfl (by omega) (fun b => ?_)
          | refine OpOk.append1 rfl rfl rfl rfl rfl rfl (by omega) (fun a' c' hc1 hc2 => ?_)
          | refine OpOk.append0 rfl rfl rfl rfl rfl rfl (by omega) (fun a' c' hc1 hc2 => ?_)
          | refine OpOk.appendE rfl rfl rfl rfl (by first | exact Rs.rds (by assumption) | exact Rds.up (by assumption) | exact Rds.hasSl (by omega) (by omega) (by first | rfl | (simp; done) | (simp; omega))) (one_u8 _) (by omega) (fun a' c' hc1 hc2 => ?_)
          | refine OpOk.append rfl rfl rfl rfl (by first | exact Rs.rds (by assumption) | exact Rds.up (by assumption) | exact Rds.hasSl (by omega) (by omega) (by first | rfl | (simp; done) | (simp; omega))) (one_u8 _) (by omega) (fun a' c' hc1 hc2 => ?_))
      | (show QOk _ _ _ _ _ _ _; first | refine QOk.load rfl rfl (by first | exact Ld.hasBlk rfl | exact Ld.rs (by assumption) (getMap (by omega)) | exact Ld.rds (by assumption) (getMap (by omega)) | exact Ld.hasSl (getMap (by omega)) | exact Ld.hasBlkAt (getMap (by omega))) ?_ | refine QOk.idx1 rfl rfl rfl (by omega) (by first | exact AOk.hasSl | exact AOk.rs (by assumption) | exact AOk.rds (by assumption) | exact AOk.lit) ?_ | refine QOk.loadRow rfl rfl LdN.hasBlk rfl ?_ | refine QOk.toStr rfl rfl rfl rfl (by first | exact Rs.rds (by assumption) | exact Rds.up (by assumption) | exact Rds.hasSl (by omega) (by omega) (by first | rfl | (simp; done) | (simp; omega))) ?_)
      | (show GJ _ _ _ _ _ _ _; first | (apply GJ.and; exact rfl; intro hg) | (apply GJ.or; exact rfl; intro hg) | refine GJ.t (by omega) ?_ | refine GJ.f (by omega) ?_ | refine GJ.ft (by omega) ?_ | refine GJ.ff (by omega) ?_)
      | (show Br _ _ _; first | with_reducible refine Br.tt ?_ | with_reducible refine Br.ff ?_ | with_reducible refine Br.nt ?_ | with_reducible refine Br.nf ?_ | refine Br.t (by omega) ?_ | refine Br.f (by omega) ?_)
      | (show RetOk _ _ _ _ _ _; refine RetOk.of (by repeat (first | exact RL.nil | refine RL.tmp rfl ?_ | refine RL.row rfl rfl LdN.hasBlk rfl ?_ | refine RL.one rfl rfl (by first | exact Ld.hasBlk rfl | exact Ld.rs (by assumption) (getMap (by omega)) | exact Ld.rds (by assumption) (getMap (by omega)) | exact Ld.hasSl (getMap (by omega)) | exact Ld.hasBlkAt (getMap (by omega))) ?_)) ?_)
      | (show CodeOk _ _ _ _ _ _; refine CodeOk.drawnAuto rfl (by kernel_rfl) rfl (by kernel_rfl) ?_))
    refine SeqOk.pass ?_
    repeat (first
      | refine Stop.mk ?_
      | (show _ ∧ _; first | exact ⟨rfl, rfl, rfl⟩ | refine And.intro (by first | omega | exact u8_range _ | exact add_u8 _ _ (by omega) | exact ⟨⟨Int.emod_nonneg _ (by decide), Int.emod_lt_of_pos _ (by decide)⟩, Int.natCast_nonneg _, Int.lt_of_lt_of_le (u8_range _).2 (by decide)⟩ | exact ⟨⟨Int.emod_nonneg _ (by decide), Int.emod_lt_of_pos _ (by decide)⟩, ⟨Int.emod_nonneg _ (by decide), Int.emod_lt_of_pos _ (by decide)⟩⟩) ?_ | refine And.intro (inferInstanceAs (Suf _ _)) ?_)
      | (show OpOk _ _ _ _ _ _ _; first
          | refine OpOk.load rfl rfl (by first | exact Ld.hasBlk rfl | exact Ld.rs (by assumption) (getMap (by omega)) | exact Ld.rds (by assumption) (getMap (by omega)) | exact Ld.hasSl (getMap (by omega)) | exact Ld.hasBlkAt (getMap (by omega))) ?_
          | refine OpOk.loadRow rfl rfl LdN.hasBlk rfl ?_
          | refine OpOk.store rfl rfl rfl rfl (by repeat (first | exact SetR.hit _ _ _ | apply SetR.miss)) ?_
          | refine OpOk.storeRow rfl rfl rfl rfl (by rfl) rfl ?_
          | refine OpOk.idx1 rfl rfl rfl (by omega) (by first | exact AOk.hasSl | exact AOk.rs (by assumption) | exact AOk.rds (by assumption) | exact AOk.lit) ?_
          | refine OpOk.alloc rfl (fun b => ?_)
          | refine OpOk.box rfl (fun b => ?_)
          | refine OpOk.build rfl rfl (by repeat (first | exact Nf.nil | apply Nf.cons)) ?_
          | refine OpOk.buildSlice1 (by rfl) (by rfl) (by rfl) (by rfl) (by rfl) (fun b => ?_)
          | refine OpOk.toStr rfl rfl rfl rfl (by first | exact Rs.rds (by assumption) | exact Rds.up (by assumption) | exact Rds.hasSl (by omega) (by omega) (by first | rfl | (simp; done) | (simp; omega))) ?_
          | refine OpOk.make1 rfl rfl rfl (by omega) (fun b => ?_)
          | refine OpOk.append1 rfl rfl rfl rfl rfl rfl (by omega) (fun a' c' hc1 hc2 => ?_)
          | refine OpOk.append0 rfl rfl rfl rfl rfl rfl (by omega) (fun a' c' hc1 hc2 => ?_)
          | refine OpOk.appendE rfl rfl rfl rfl (by first | exact Rs.rds (by assumption) | exact Rds.up (by assumption) | exact Rds.hasSl (by omega) (by omega) (by first | rfl | (simp; done) | (simp; omega))) (one_u8 _) (by omega) (fun a' c' hc1 hc2 => ?_)
          | refine OpOk.append rfl rfl rfl rfl (by first | exact Rs.rds (by assumption) | exact Rds.up (by assumption) | exact Rds.hasSl (by omega) (by omega) (by first | rfl | (simp; done) | (simp; omega))) (one_u8 _) (by omega) (fun a' c' hc1 hc2 => ?_))
      | (show QOk _ _ _ _ _ _ _; first | refine QOk.load rfl rfl (by first | exact Ld.hasBlk rfl | exact Ld.rs (by assumption) (getMap (by omega)) | exact Ld.rds (by assumption) (getMap (by omega)) | exact Ld.hasSl (getMap (by omega)) | exact Ld.hasBlkAt (getMap (by omega))) ?_ | refine QOk.idx1 rfl rfl rfl (by omega) (by first | exact AOk.hasSl | exact AOk.rs (by assumption) | exact AOk.rds (by assumption) | exact AOk.lit) ?_ | refine QOk.loadRow rfl rfl LdN.hasBlk rfl ?_ | refine QOk.toStr rfl rfl rfl rfl (by first | exact Rs.rds (by assumption) | exact Rds.up (by assumption) | exact Rds.hasSl (by omega) (by omega) (by first | rfl | (simp; done) | (simp; omega))) ?_)
      | (show GJ _ _ _ _ _ _ _; first | (apply GJ.and; exact rfl; intro hg) | (apply GJ.or; exact rfl; intro hg) | refine GJ.t (by omega) ?_ | refine GJ.f (by omega) ?_ | refine GJ.ft (by omega) ?_ | refine GJ.ff (by omega) ?_)
      | (show Br _ _ _; first | with_reducible refine Br.tt ?_ | with_reducible refine Br.ff ?_ | with_reducible refine Br.nt ?_ | with_reducible refine Br.nf ?_ | refine Br.t (by omega) ?_ | refine Br.f (by omega) ?_)
      | (show RetOk _ _ _ _ _ _; refine RetOk.of (by repeat (first | exact RL.nil | refine RL.tmp rfl ?_ | refine RL.row rfl rfl LdN.hasBlk rfl ?_ | refine RL.one rfl rfl (by first | exact Ld.hasBlk rfl | exact Ld.rs (by assumption) (getMap (by omega)) | exact Ld.rds (by assumption) (getMap (by omega)) | exact Ld.hasSl (getMap (by omega)) | exact Ld.hasBlkAt (getMap (by omega))) ?_)) ?_)
      | (show CodeOk _ _ _ _ _ _; refine CodeOk.drawnAuto rfl (by kernel_rfl) rfl (by kernel_rfl) ?_))
    simp only [Int.toNat_natCast, hxe]
    refine width_ok ?_
    repeat (first
      | refine Stop.mk ?_
      | (show _ ∧ _; first | exact ⟨rfl, rfl, rfl⟩ | refine And.intro (by first | omega | exact u8_range _ | exact add_u8 _ _ (by omega) | exact ⟨⟨Int.emod_nonneg _ (by decide), Int.emod_lt_of_pos _ (by decide)⟩, Int.natCast_nonneg _, Int.lt_of_lt_of_le (u8_range _).2 (by decide)⟩ | exact ⟨⟨Int.emod_nonneg _ (by decide), Int.emod_lt_of_pos _ (by decide)⟩, ⟨Int.emod_nonneg _ (by decide), Int.emod_lt_of_pos _ (by decide)⟩⟩) ?_ | refine And.intro (inferInstanceAs (Suf _ _)) ?_)
      | (show OpOk _ _ _ _ _ _ _; first
          | refine OpOk.load rfl rfl (by first | exact Ld.hasBlk rfl | exact Ld.rs (by assumption) (getMap (by omega)) | exact Ld.rds (by assumption) (getMap (by omega)) | exact Ld.hasSl (getMap (by omega)) | exact Ld.hasBlkAt (getMap (by omega))) ?_
          | refine OpOk.loadRow rfl rfl LdN.hasBlk rfl ?_
          | refine OpOk.store rfl rfl rfl rfl (by repeat (first | exact SetR.hit _ _ _ | apply SetR.miss)) ?_
          | refine OpOk.storeRow rfl rfl rfl rfl (by rfl) rfl ?_
          | refine OpOk.idx1 rfl rfl rfl (by omega) (by first | exact AOk.hasSl | exact AOk.rs (by assumption) | exact AOk.rds (by assumption) | exact AOk.lit) ?_
          | refine OpOk.alloc rfl (fun b => ?_)
          | refine OpOk.box rfl (fun b => ?_)
          | refine OpOk.build rfl rfl (by repeat (first | exact Nf.nil | apply Nf.cons)) ?_
          | refine OpOk.buildSlice1 (by rfl) (by rfl) (by rfl) (by rfl) (by rfl) (fun b => ?_)
          | refine OpOk.toStr rfl rfl rfl rfl (by first | exact Rs.rds (by assumption) | exact Rds.up (by assumption) | exact Rds.hasSl (by omega) (by omega) (by first | rfl | (simp; done) | (simp; omega))) ?_
          | refine OpOk.make1 rfl rfl rfl (by omega) (fun b => ?_)
          | refine OpOk.append1 rfl rfl rfl rfl rfl rfl (by omega) (fun a' c' hc1 hc2 => ?_)
          | refine OpOk.append0 rfl rfl rfl rfl rfl rfl (by omega) (fun a' c' hc1 hc2 => ?_)
          | refine OpOk.appendE rfl rfl rfl rfl (by first | exact Rs.rds (by assumption) | exact Rds.up (by assumption) | exact Rds.hasSl (by omega) (by omega) (by first | rfl | (simp; done) | (simp; omega))) (one_u8 _) (by omega) (fun a' c' hc1 hc2 => ?_)
          | refine OpOk.append rfl rfl rfl rfl (by first | exact Rs.rds (by assumption) | exact Rds.up (by assumption) | exact Rds.hasSl (by omega) (by omega) (by first | rfl | (simp; done) | (simp; omega))) (one_u8 _) (by omega) (fun a' c' hc1 hc2 => ?_))
      | (show QOk _ _ _ _ _ _ _; first | refine QOk.load rfl rfl (by first | exact Ld.hasBlk rfl | exact Ld.rs (by assumption) (getMap (by omega)) | exact Ld.rds (by assumption) (getMap (by omega)) | exact Ld.hasSl (getMap (by omega)) | exact Ld.hasBlkAt (getMap (by omega))) ?_ | refine QOk.idx1 rfl rfl rfl (by omega) (by first | exact AOk.hasSl | exact AOk.rs (by assumption) | exact AOk.rds (by assumption) | exact AOk.lit) ?_ | refine QOk.loadRow rfl rfl LdN.hasBlk rfl ?_ | refine QOk.toStr rfl rfl rfl rfl (by first | exact Rs.rds (by assumption) | exact Rds.up (by assumption) | exact Rds.hasSl (by omega) (by omega) (by first | rfl | (simp; done) | (simp; omega))) ?_)
      | (show GJ _ _ _ _ _ _ _; first | (apply GJ.and; exact rfl; intro hg) | (apply GJ.or; exact rfl; intro hg) | refine GJ.t (by omega) ?_ | refine GJ.f (by omega) ?_ | refine GJ.ft (by omega) ?_ | refine GJ.ff (by omega) ?_)
      | (show Br _ _ _; first | with_reducible refine Br.tt ?_ | with_reducible refine Br.ff ?_ | with_reducible refine Br.nt ?_ | with_reducible refine Br.nf ?_ | refine Br.t (by omega) ?_ | refine Br.f (by omega) ?_)
      | (show RetOk _ _ _ _ _ _; refine RetOk.of (by repeat (first | exact RL.nil | refine RL.tmp rfl ?_ | refine RL.row rfl rfl LdN.hasBlk rfl ?_ | refine RL.one rfl rfl (by first | exact Ld.hasBlk rfl | exact Ld.rs (by assumption) (getMap (by omega)) | exact Ld.rds (by assumption) (getMap (by omega)) | exact Ld.hasSl (getMap (by omega)) | exact Ld.hasBlkAt (getMap (by omega))) ?_)) ?_)
      | (show CodeOk _ _ _ _ _ _; refine CodeOk.drawnAuto rfl (by kernel_rfl) rfl (by kernel_rfl) ?_))
    refine most_ok ?_
    repeat (first
      | refine Stop.mk ?_
      | (show _ ∧ _; first | exact ⟨rfl, rfl, rfl⟩ | refine And.intro (by first | omega | exact u8_range _ | exact add_u8 _ _ (by omega) | exact ⟨⟨Int.emod_nonneg _ (by decide), Int.emod_lt_of_pos _ (by decide)⟩, Int.natCast_nonneg _, Int.lt_of_lt_of_le (u8_range _).2 (by decide)⟩ | exact ⟨⟨Int.emod_nonneg _ (by decide), Int.emod_lt_of_pos _ (by decide)⟩, ⟨Int.emod_nonneg _ (by decide), Int.emod_lt_of_pos _ (by decide)⟩⟩) ?_ | refine And.intro (inferInstanceAs (Suf _ _)) ?_)
      | (show OpOk _ _ _ _ _ _ _; first
          | refine OpOk.load rfl rfl (by first | exact Ld.hasBlk rfl | exact Ld.rs (by assumption) (getMap (by omega)) | exact Ld.rds (by assumption) (getMap (by omega)) | exact Ld.hasSl (getMap (by omega)) | exact Ld.hasBlkAt (getMap (by omega))) ?_
          | refine OpOk.loadRow rfl rfl LdN.hasBlk rfl ?_
          | refine OpOk.store rfl rfl rfl rfl (by repeat (first | exact SetR.hit _ _ _ | apply SetR.miss)) ?_
          | refine OpOk.storeRow rfl rfl rfl rfl (by rfl) rfl ?_
          | refine OpOk.idx1 rfl rfl rfl (by omega) (by first | exact AOk.hasSl | exact AOk.rs (by assumption) | exact AOk.rds (by assumption) | exact AOk.lit) ?_
          | refine OpOk.alloc rfl (fun b => ?_)
          | refine OpOk.box rfl (fun b => ?_)
          | refine OpOk.build rfl rfl (by repeat (first | exact Nf.nil | apply Nf.cons)) ?_
          | refine OpOk.buildSlice1 (by rfl) (by rfl) (by rfl) (by rfl) (by rfl) (fun b => ?_)
          | refine OpOk.toStr rfl rfl rfl rfl (by first | exact Rs.rds (by assumption) | exact Rds.up (by assumption) | exact Rds.hasSl (by omega) (by omega) (by first | rfl | (simp; done) | (simp; omega))) ?_
          | refine OpOk.make1 rfl rfl rfl (by omega) (fun b => ?_)
          | refine OpOk.append1 rfl rfl rfl rfl rfl rfl (by omega) (fun a' c' hc1 hc2 => ?_)
          | refine OpOk.append0 rfl rfl rfl rfl rfl rfl (by omega) (fun a' c' hc1 hc2 => ?_)
          | refine OpOk.appendE rfl rfl rfl rfl (by first | exact Rs.rds (by assumption) | exact Rds.up (by assumption) | exact Rds.hasSl (by omega) (by omega) (by first | rfl | (simp; done) | (simp; omega))) (one_u8 _) (by omega) (fun a' c' hc1 hc2 => ?_)
          | refine OpOk.append rfl rfl rfl rfl (by first | exact Rs.rds (by assumption) | exact Rds.up (by assumption) | exact Rds.hasSl (by omega) (by omega) (by first | rfl | (simp; done) | (simp; omega))) (one_u8 _) (by omega) (fun a' c' hc1 hc2 => ?_))
      | (show QOk _ _ _ _ _ _ _; first | refine QOk.load rfl rfl (by first | exact Ld.hasBlk rfl | exact Ld.rs (by assumption) (getMap (by omega)) | exact Ld.rds (by assumption) (getMap (by omega)) | exact Ld.hasSl (getMap (by omega)) | exact Ld.hasBlkAt (getMap (by omega))) ?_ | refine QOk.idx1 rfl rfl rfl (by omega) (by first | exact AOk.hasSl | exact AOk.rs (by assumption) | exact AOk.rds (by assumption) | exact AOk.lit) ?_ | refine QOk.loadRow rfl rfl LdN.hasBlk rfl ?_ | refine QOk.toStr rfl rfl rfl rfl (by first | exact Rs.rds (by assumption) | exact Rds.up (by assumption) | exact Rds.hasSl (by omega) (by omega) (by first | rfl | (simp; done) | (simp; omega))) ?_)
      | (show GJ _ _ _ _ _ _ _; first | (apply GJ.and; exact rfl; intro hg) | (apply GJ.or; exact rfl; intro hg) | refine GJ.t (by omega) ?_ | refine GJ.f (by omega) ?_ | refine GJ.ft (by omega) ?_ | refine GJ.ff (by omega) ?_)
      | (show Br _ _ _; first | with_reducible refine Br.tt ?_ | with_reducible refine Br.ff ?_ | with_reducible refine Br.nt ?_ | with_reducible refine Br.nf ?_ | refine Br.t (by omega) ?_ | refine Br.f (by omega) ?_)
      | (show RetOk _ _ _ _ _ _; refine RetOk.of (by repeat (first | exact RL.nil | refine RL.tmp rfl ?_ | refine RL.row rfl rfl LdN.hasBlk rfl ?_ | refine RL.one rfl rfl (by first | exact Ld.hasBlk rfl | exact Ld.rs (by assumption) (getMap (by omega)) | exact Ld.rds (by assumption) (getMap (by omega)) | exact Ld.hasSl (getMap (by omega)) | exact Ld.hasBlkAt (getMap (by omega))) ?_)) ?_)
      | (show CodeOk _ _ _ _ _ _; refine CodeOk.drawnAuto rfl (by kernel_rfl) rfl (by kernel_rfl) ?_))
    simp only [Int.toNat_natCast]
    refine Br.cases (fun he => ?_) (fun he => ?_)
    · obtain ⟨k, hk8⟩ : ∃ k : Nat, ws[i]! = (k : Int) := ⟨(ws[i]!).toNat, by omega⟩
      rw [hk8] at he
      have hpc : piece xs ws i = putB (decide ((i : Int) % 2 = 0)) k x := by
        unfold piece
        rw [hxe, hk8, if_pos ⟨he.1, by omega⟩]
        simp
      rw [hpc, putB_len] at hcs
      repeat (first
        | refine Stop.mk ?_
        | (show _ ∧ _; first | exact ⟨rfl, rfl, rfl⟩ | refine And.intro (by first | omega | exact u8_range _ | exact add_u8 _ _ (by omega) | exact ⟨⟨Int.emod_nonneg _ (by decide), Int.emod_lt_of_pos _ (by decide)⟩, Int.natCast_nonneg _, Int.lt_of_lt_of_le (u8_range _).2 (by decide)⟩ | exact ⟨⟨Int.emod_nonneg _ (by decide), Int.emod_lt_of_pos _ (by decide)⟩, ⟨Int.emod_nonneg _ (by decide), Int.emod_lt_of_pos _ (by decide)⟩⟩) ?_ | refine And.intro (inferInstanceAs (Suf _ _)) ?_)
        | (show OpOk _ _ _ _ _ _ _; first
            | refine OpOk.load rfl rfl (by first | exact Ld.hasBlk rfl | exact Ld.rs (by assumption) (getMap (by omega)) | exact Ld.rds (by assumption) (getMap (by omega)) | exact Ld.hasSl (getMap (by omega)) | exact Ld.hasBlkAt (getMap (by omega))) ?_
            | refine OpOk.loadRow rfl rfl LdN.hasBlk rfl ?_
            | refine OpOk.store rfl rfl rfl rfl (by repeat (first | exact SetR.hit _ _ _ | apply SetR.miss)) ?_
            | refine OpOk.storeRow rfl rfl rfl rfl (by rfl) rfl ?_
            | refine OpOk.idx1 rfl rfl rfl (by omega) (by first | exact AOk.hasSl | exact AOk.rs (by assumption) | exact AOk.rds (by assumption) | exact AOk.lit) ?_
            | refine OpOk.alloc rfl (fun b => ?_)
            | refine OpOk.box rfl (fun b => ?_)
            | refine OpOk.build rfl rfl (by repeat (first | exact Nf.nil | apply Nf.cons)) ?_
            | refine OpOk.buildSlice1 (by rfl) (by rfl) (by rfl) (by rfl) (by rfl) (fun b => ?_)
            | refine OpOk.toStr rfl rfl rfl rfl (by first | exact Rs.rds (by assumption) | exact Rds.up (by assumption) | exact Rds.hasSl (by omega) (by omega) (by first | rfl | (simp; done) | (simp; omega))) ?_
            | refine OpOk.make1 rfl rfl rfl (by omega) (fun b => ?_)
            | refine OpOk.append1 rfl rfl rfl rfl rfl rfl (by omega) (fun a' c' hc1 hc2 => ?_)
            | refine OpOk.append0 rfl rfl rfl rfl rfl rfl (by omega) (fun a' c' hc1 hc2 => ?_)
            | refine OpOk.appendE rfl rfl rfl rfl (by first | exact Rs.rds (by assumption) | exact Rds.up (by assumption) | exact Rds.hasSl (by omega) (by omega) (by first | rfl | (simp; done) | (simp; omega))) (one_u8 _) (by omega) (fun a' c' hc1 hc2 => ?_)
            | refine OpOk.append rfl rfl rfl rfl (by first | exact Rs.rds (by assumption) | exact Rds.up (by assumption) | exact Rds.hasSl (by omega) (by omega) (by first | rfl | (simp; done) | (simp; omega))) (one_u8 _) (by omega) (fun a' c' hc1 hc2 => ?_))
        | (show QOk _ _ _ _ _ _ _; first | refine QOk.load rfl rfl (by first | exact Ld.hasBlk rfl | exact Ld.rs (by assumption) (getMap (by omega)) | exact Ld.rds (by assumption) (getMap (by omega)) | exact Ld.hasSl (getMap (by omega)) | exact Ld.hasBlkAt (getMap (by omega))) ?_ | refine QOk.idx1 rfl rfl rfl (by omega) (by first | exact AOk.hasSl | exact AOk.rs (by assumption) | exact AOk.rds (by assumption) | exact AOk.lit) ?_ | refine QOk.loadRow rfl rfl LdN.hasBlk rfl ?_ | refine QOk.toStr rfl rfl rfl rfl (by first | exact Rs.rds (by assumption) | exact Rds.up (by assumption) | exact Rds.hasSl (by omega) (by omega) (by first | rfl | (simp; done) | (simp; omega))) ?_)
        | (show GJ _ _ _ _ _ _ _; first | (apply GJ.and; exact rfl; intro hg) | (apply GJ.or; exact rfl; intro hg) | refine GJ.t (by omega) ?_ | refine GJ.f (by omega) ?_ | refine GJ.ft (by omega) ?_ | refine GJ.ff (by omega) ?_)
        | (show Br _ _ _; first | with_reducible refine Br.tt ?_ | with_reducible refine Br.ff ?_ | with_reducible refine Br.nt ?_ | with_reducible refine Br.nf ?_ | refine Br.t (by omega) ?_ | refine Br.f (by omega) ?_)
        | (show RetOk _ _ _ _ _ _; refine RetOk.of (by repeat (first | exact RL.nil | refine RL.tmp rfl ?_ | refine RL.row rfl rfl LdN.hasBlk rfl ?_ | refine RL.one rfl rfl (by first | exact Ld.hasBlk rfl | exact Ld.rs (by assumption) (getMap (by omega)) | exact Ld.rds (by assumption) (getMap (by omega)) | exact Ld.hasSl (getMap (by omega)) | exact Ld.hasBlkAt (getMap (by omega))) ?_)) ?_)
        | (show CodeOk _ _ _ _ _ _; refine CodeOk.drawnAuto rfl (by kernel_rfl) rfl (by kernel_rfl) ?_))
      simp only [Int.toNat_natCast, hk8]
      refine wnumber_ok i2 (by omega) (by omega) (by omega) (by omega) (fun a3 n3 c3 h1 h2 h3 => ?_)
      rw [← hpc, ← cat_succ]
      repeat (first
        | refine Stop.mk ?_
        | (show _ ∧ _; first | exact ⟨rfl, rfl, rfl⟩ | refine And.intro (by first | omega | exact u8_range _ | exact add_u8 _ _ (by omega) | exact ⟨⟨Int.emod_nonneg _ (by decide), Int.emod_lt_of_pos _ (by decide)⟩, Int.natCast_nonneg _, Int.lt_of_lt_of_le (u8_range _).2 (by decide)⟩ | exact ⟨⟨Int.emod_nonneg _ (by decide), Int.emod_lt_of_pos _ (by decide)⟩, ⟨Int.emod_nonneg _ (by decide), Int.emod_lt_of_pos _ (by decide)⟩⟩) ?_ | refine And.intro (inferInstanceAs (Suf _ _)) ?_)
        | (show OpOk _ _ _ _ _ _ _; first
            | refine OpOk.load rfl rfl (by first | exact Ld.hasBlk rfl | exact Ld.rs (by assumption) (getMap (by omega)) | exact Ld.rds (by assumption) (getMap (by omega)) | exact Ld.hasSl (getMap (by omega)) | exact Ld.hasBlkAt (getMap (by omega))) ?_
            | refine OpOk.loadRow rfl rfl LdN.hasBlk rfl ?_
            | refine OpOk.store rfl rfl rfl rfl (by repeat (first | exact SetR.hit _ _ _ | apply SetR.miss)) ?_
            | refine OpOk.storeRow rfl rfl rfl rfl (by rfl) rfl ?_
            | refine OpOk.idx1 rfl rfl rfl (by omega) (by first | exact AOk.hasSl | exact AOk.rs (by assumption) | exact AOk.rds (by assumption) | exact AOk.lit) ?_
            | refine OpOk.alloc rfl (fun b => ?_)
            | refine OpOk.box rfl (fun b => ?_)
            | refine OpOk.build rfl rfl (by repeat (first | exact Nf.nil | apply Nf.cons)) ?_
            | refine OpOk.buildSlice1 (by rfl) (by rfl) (by rfl) (by rfl) (by rfl) (fun b => ?_)
            | refine OpOk.toStr rfl rfl rfl rfl (by first | exact Rs.rds (by assumption) | exact Rds.up (by assumption) | exact Rds.hasSl (by omega) (by omega) (by first | rfl | (simp; done) | (simp; omega))) ?_
            | refine OpOk.make1 rfl rfl rfl (by omega) (fun b => ?_)
            | refine OpOk.append1 rfl rfl rfl rfl rfl rfl (by omega) (fun a' c' hc1 hc2 => ?_)
            | refine OpOk.append0 rfl rfl rfl rfl rfl rfl (by omega) (fun a' c' hc1 hc2 => ?_)
            | refine OpOk.appendE rfl rfl rfl rfl (by first | exact Rs.rds (by assumption) | exact Rds.up (by assumption) | exact Rds.hasSl (by omega) (by omega) (by first | rfl | (simp; done) | (simp; omega))) (one_u8 _) (by omega) (fun a' c' hc1 hc2 => ?_)
            | refine OpOk.append rfl rfl rfl rfl (by first | exact Rs.rds (by assumption) | exact Rds.up (by assumption) | exact Rds.hasSl (by omega) (by omega) (by first | rfl | (simp; done) | (simp; omega))) (one_u8 _) (by omega) (fun a' c' hc1 hc2 => ?_))
        | (show QOk _ _ _ _ _ _ _; first | refine QOk.load rfl rfl (by first | exact Ld.hasBlk rfl | exact Ld.rs (by assumption) (getMap (by omega)) | exact Ld.rds (by assumption) (getMap (by omega)) | exact Ld.hasSl (getMap (by omega)) | exact Ld.hasBlkAt (getMap (by omega))) ?_ | refine QOk.idx1 rfl rfl rfl (by omega) (by first | exact AOk.hasSl | exact AOk.rs (by assumption) | exact AOk.rds (by assumption) | exact AOk.lit) ?_ | refine QOk.loadRow rfl rfl LdN.hasBlk rfl ?_ | refine QOk.toStr rfl rfl rfl rfl (by first | exact Rs.rds (by assumption) | exact Rds.up (by assumption) | exact Rds.hasSl (by omega) (by omega) (by first | rfl | (simp; done) | (simp; omega))) ?_)
        | (show GJ _ _ _ _ _ _ _; first | (apply GJ.and; exact rfl; intro hg) | (apply GJ.or; exact rfl; intro hg) | refine GJ.t (by omega) ?_ | refine GJ.f (by omega) ?_ | refine GJ.ft (by omega) ?_ | refine GJ.ff (by omega) ?_)
        | (show Br _ _ _; first | with_reducible refine Br.tt ?_ | with_reducible refine Br.ff ?_ | with_reducible refine Br.nt ?_ | with_reducible refine Br.nf ?_ | refine Br.t (by omega) ?_ | refine Br.f (by omega) ?_)
        | (show RetOk _ _ _ _ _ _; refine RetOk.of (by repeat (first | exact RL.nil | refine RL.tmp rfl ?_ | refine RL.row rfl rfl LdN.hasBlk rfl ?_ | refine RL.one rfl rfl (by first | exact Ld.hasBlk rfl | exact Ld.rs (by assumption) (getMap (by omega)) | exact Ld.rds (by assumption) (getMap (by omega)) | exact Ld.hasSl (getMap (by omega)) | exact Ld.hasBlkAt (getMap (by omega))) ?_)) ?_)
        | (show CodeOk _ _ _ _ _ _; refine CodeOk.drawnAuto rfl (by kernel_rfl) rfl (by kernel_rfl) ?_))
      refine Wk.id ⟨(i + 1, _, _, _), ⟨rfl, ?_⟩, ?_, (by repeat (first | exact trivial | refine Sub.cons rfl ?_ | refine Sub.consE rfl (congrArg (Value.int _) (by omega)) ?_)), (by repeat (first | exact Sup.all _ | exact Sup.nil _ | refine Sup.cons (by first | exact Take.hit _ _ | exact Take.miss _ (Take.hit _ _) | exact Take.miss _ (Take.miss _ (Take.hit _ _)) | exact Take.miss _ (Take.miss _ (Take.miss _ (Take.hit _ _))) | exact Take.miss _ (Take.miss _ (Take.miss _ (Take.miss _ (Take.hit _ _)))) | exact Take.miss _ (Take.miss _ (Take.miss _ (Take.miss _ (Take.miss _ (Take.hit _ _))))) | exact Take.miss _ (Take.miss _ (Take.miss _ (Take.miss _ (Take.miss _ (Take.miss _ (Take.hit _ _))))))) ?_ | refine Sup.nilc ?_ | refine Sup.drop _ ?_))⟩
      all_goals try dsimp only
      · exact ⟨by omega, by omega, by omega, by omega, by omega⟩
      · omega
    · have hpc : piece xs ws i = enc x := by
        unfold piece
        rw [hxe, if_neg (fun h => he ⟨h.1, by have := h.2; omega⟩)]
        simp
      have hx10 := enc_10 hxb
      rw [hpc] at hcs
      repeat (first
        | refine Stop.mk ?_
        | (show _ ∧ _; first | exact ⟨rfl, rfl, rfl⟩ | refine And.intro (by first | omega | exact u8_range _ | exact add_u8 _ _ (by omega) | exact ⟨⟨Int.emod_nonneg _ (by decide), Int.emod_lt_of_pos _ (by decide)⟩, Int.natCast_nonneg _, Int.lt_of_lt_of_le (u8_range _).2 (by decide)⟩ | exact ⟨⟨Int.emod_nonneg _ (by decide), Int.emod_lt_of_pos _ (by decide)⟩, ⟨Int.emod_nonneg _ (by decide), Int.emod_lt_of_pos _ (by decide)⟩⟩) ?_ | refine And.intro (inferInstanceAs (Suf _ _)) ?_)
        | (show OpOk _ _ _ _ _ _ _; first
            | refine OpOk.load rfl rfl (by first | exact Ld.hasBlk rfl | exact Ld.rs (by assumption) (getMap (by omega)) | exact Ld.rds (by assumption) (getMap (by omega)) | exact Ld.hasSl (getMap (by omega)) | exact Ld.hasBlkAt (getMap (by omega))) ?_
            | refine OpOk.loadRow rfl rfl LdN.hasBlk rfl ?_
            | refine OpOk.store rfl rfl rfl rfl (by repeat (first | exact SetR.hit _ _ _ | apply SetR.miss)) ?_
            | refine OpOk.storeRow rfl rfl rfl rfl (by rfl) rfl ?_
            | refine OpOk.idx1 rfl rfl rfl (by omega) (by first | exact AOk.hasSl | exact AOk.rs (by assumption) | exact AOk.rds (by assumption) | exact AOk.lit) ?_
            | refine OpOk.alloc rfl (fun b => ?_)
            | refine OpOk.box rfl (fun b => ?_)
            | refine OpOk.build rfl rfl (by repeat (first | exact Nf.nil | apply Nf.cons)) ?_
            | refine OpOk.buildSlice1 (by rfl) (by rfl) (by rfl) (by rfl) (by rfl) (fun b => ?_)
            | refine OpOk.toStr rfl rfl rfl rfl (by first | exact Rs.rds (by assumption) | exact Rds.up (by assumption) | exact Rds.hasSl (by omega) (by omega) (by first | rfl | (simp; done) | (simp; omega))) ?_
            | refine OpOk.make1 rfl rfl rfl (by omega) (fun b => ?_)
            | refine OpOk.append1 rfl rfl rfl rfl rfl rfl (by omega) (fun a' c' hc1 hc2 => ?_)
            | refine OpOk.append0 rfl rfl rfl rfl rfl rfl (by omega) (fun a' c' hc1 hc2 => ?_)
            | refine OpOk.appendE rfl rfl rfl rfl (by first | exact Rs.rds (by assumption) | exact Rds.up (by assumption) | exact Rds.hasSl (by omega) (by omega) (by first | rfl | (simp; done) | (simp; omega))) (one_u8 _) (by omega) (fun a' c' hc1 hc2 => ?_)
            | refine OpOk.append rfl rfl rfl rfl (by first | exact Rs.rds (by assumption) | exact Rds.up (by assumption) | exact Rds.hasSl (by omega) (by omega) (by first | rfl | (simp; done) | (simp; omega))) (one_u8 _) (by omega) (fun a' c' hc1 hc2 => ?_))
        | (show QOk _ _ _ _ _ _ _; first | refine QOk.load rfl rfl (by first | exact Ld.hasBlk rfl | exact Ld.rs (by assumption) (getMap (by omega)) | exact Ld.rds (by assumption) (getMap (by omega)) | exact Ld.hasSl (getMap (by omega)) | exact Ld.hasBlkAt (getMap (by omega))) ?_ | refine QOk.idx1 rfl rfl rfl (by omega) (by first | exact AOk.hasSl | exact AOk.rs (by assumption) | exact AOk.rds (by assumption) | exact AOk.lit) ?_ | refine QOk.loadRow rfl rfl LdN.hasBlk rfl ?_ | refine QOk.toStr rfl rfl rfl rfl (by first | exact Rs.rds (by assumption) | exact Rds.up (by assumption) | exact Rds.hasSl (by omega) (by omega) (by first | rfl | (simp; done) | (simp; omega))) ?_)
        | (show GJ _ _ _ _ _ _ _; first | (apply GJ.and; exact rfl; intro hg) | (apply GJ.or; exact rfl; intro hg) | refine GJ.t (by omega) ?_ | refine GJ.f (by omega) ?_ | refine GJ.ft (by omega) ?_ | refine GJ.ff (by omega) ?_)
        | (show Br _ _ _; first | with_reducible refine Br.tt ?_ | with_reducible refine Br.ff ?_ | with_reducible refine Br.nt ?_ | with_reducible refine Br.nf ?_ | refine Br.t (by omega) ?_ | refine Br.f (by omega) ?_)
        | (show RetOk _ _ _ _ _ _; refine RetOk.of (by repeat (first | exact RL.nil | refine RL.tmp rfl ?_ | refine RL.row rfl rfl LdN.hasBlk rfl ?_ | refine RL.one rfl rfl (by first | exact Ld.hasBlk rfl | exact Ld.rs (by assumption) (getMap (by omega)) | exact Ld.rds (by assumption) (getMap (by omega)) | exact Ld.hasSl (getMap (by omega)) | exact Ld.hasBlkAt (getMap (by omega))) ?_)) ?_)
        | (show CodeOk _ _ _ _ _ _; refine CodeOk.drawnAuto rfl (by kernel_rfl) rfl (by kernel_rfl) ?_))
      refine put_ok (l := []) (Rds.nil _ _ _) (by simp) hxb (fun a3 n3 c3 h1 h2 h3 => ?_)
      simp only [List.nil_append] at h1 ⊢
      repeat (first
        | refine Stop.mk ?_
        | (show _ ∧ _; first | exact ⟨rfl, rfl, rfl⟩ | refine And.intro (by first | omega | exact u8_range _ | exact add_u8 _ _ (by omega) | exact ⟨⟨Int.emod_nonneg _ (by decide), Int.emod_lt_of_pos _ (by decide)⟩, Int.natCast_nonneg _, Int.lt_of_lt_of_le (u8_range _).2 (by decide)⟩ | exact ⟨⟨Int.emod_nonneg _ (by decide), Int.emod_lt_of_pos _ (by decide)⟩, ⟨Int.emod_nonneg _ (by decide), Int.emod_lt_of_pos _ (by decide)⟩⟩) ?_ | refine And.intro (inferInstanceAs (Suf _ _)) ?_)
        | (show OpOk _ _ _ _ _ _ _; first
            | refine OpOk.load rfl rfl (by first | exact Ld.hasBlk rfl | exact Ld.rs (by assumption) (getMap (by omega)) | exact Ld.rds (by assumption) (getMap (by omega)) | exact Ld.hasSl (getMap (by omega)) | exact Ld.hasBlkAt (getMap (by omega))) ?_
            | refine OpOk.loadRow rfl rfl LdN.hasBlk rfl ?_
            | refine OpOk.store rfl rfl rfl rfl (by repeat (first | exact SetR.hit _ _ _ | apply SetR.miss)) ?_
            | refine OpOk.storeRow rfl rfl rfl rfl (by rfl) rfl ?_
            | refine OpOk.idx1 rfl rfl rfl (by omega) (by first | exact AOk.hasSl | exact AOk.rs (by assumption) | exact AOk.rds (by assumption) | exact AOk.lit) ?_
            | refine OpOk.alloc rfl (fun b => ?_)
            | refine OpOk.box rfl (fun b => ?_)
            | refine OpOk.build rfl rfl (by repeat (first | exact Nf.nil | apply Nf.cons)) ?_
            | refine OpOk.buildSlice1 (by rfl) (by rfl) (by rfl) (by rfl) (by rfl) (fun b => ?_)
            | refine OpOk.toStr rfl rfl rfl rfl (by first | exact Rs.rds (by assumption) | exact Rds.up (by assumption) | exact Rds.hasSl (by omega) (by omega) (by first | rfl | (simp; done) | (simp; omega))) ?_
            | refine OpOk.make1 rfl rfl rfl (by omega) (fun b => ?_)
            | refine OpOk.append1 rfl rfl rfl rfl rfl rfl (by omega) (fun a' c' hc1 hc2 => ?_)
            | refine OpOk.append0 rfl rfl rfl rfl rfl rfl (by omega) (fun a' c' hc1 hc2 => ?_)
            | refine OpOk.appendE rfl rfl rfl rfl (by first | exact Rs.rds (by assumption) | exact Rds.up (by assumption) | exact Rds.hasSl (by omega) (by omega) (by first | rfl | (simp; done) | (simp; omega))) (one_u8 _) (by omega) (fun a' c' hc1 hc2 => ?_)
            | refine OpOk.append rfl rfl rfl rfl (by first | exact Rs.rds (by assumption) | exact Rds.up (by assumption) | exact Rds.hasSl (by omega) (by omega) (by first | rfl | (simp; done) | (simp; omega))) (one_u8 _) (by omega) (fun a' c' hc1 hc2 => ?_))
        | (show QOk _ _ _ _ _ _ _; first | refine QOk.load rfl rfl (by first | exact Ld.hasBlk rfl | exact Ld.rs (by assumption) (getMap (by omega)) | exact Ld.rds (by assumption) (getMap (by omega)) | exact Ld.hasSl (getMap (by omega)) | exact Ld.hasBlkAt (getMap (by omega))) ?_ | refine QOk.idx1 rfl rfl rfl (by omega) (by first | exact AOk.hasSl | exact AOk.rs (by assumption) | exact AOk.rds (by assumption) | exact AOk.lit) ?_ | refine QOk.loadRow rfl rfl LdN.hasBlk rfl ?_ | refine QOk.toStr rfl rfl rfl rfl (by first | exact Rs.rds (by assumption) | exact Rds.up (by assumption) | exact Rds.hasSl (by omega) (by omega) (by first | rfl | (simp; done) | (simp; omega))) ?_)
        | (show GJ _ _ _ _ _ _ _; first | (apply GJ.and; exact rfl; intro hg) | (apply GJ.or; exact rfl; intro hg) | refine GJ.t (by omega) ?_ | refine GJ.f (by omega) ?_ | refine GJ.ft (by omega) ?_ | refine GJ.ff (by omega) ?_)
        | (show Br _ _ _; first | with_reducible refine Br.tt ?_ | with_reducible refine Br.ff ?_ | with_reducible refine Br.nt ?_ | with_reducible refine Br.nf ?_ | refine Br.t (by omega) ?_ | refine Br.f (by omega) ?_)
        | (show RetOk _ _ _ _ _ _; refine RetOk.of (by repeat (first | exact RL.nil | refine RL.tmp rfl ?_ | refine RL.row rfl rfl LdN.hasBlk rfl ?_ | refine RL.one rfl rfl (by first | exact Ld.hasBlk rfl | exact Ld.rs (by assumption) (getMap (by omega)) | exact Ld.rds (by assumption) (getMap (by omega)) | exact Ld.hasSl (getMap (by omega)) | exact Ld.hasBlkAt (getMap (by omega))) ?_)) ?_)
        | (show CodeOk _ _ _ _ _ _; refine CodeOk.drawnAuto rfl (by kernel_rfl) rfl (by kernel_rfl) ?_))
      refine CallOk.perm (Take.two (.miss _ (.hit _ _)) (.miss _ (.hit _ _))) ?_
      refine wadd_ok (l2 := enc x) (Rds.hasSl (by omega) h3 (by simp; omega)) (by omega) i2 (by omega) (fun a4 n4 c4 h4 h5 h6 => ?_)
      rw [← hpc, ← cat_succ]
      repeat (first
        | refine Stop.mk ?_
        | (show _ ∧ _; first | exact ⟨rfl, rfl, rfl⟩ | refine And.intro (by first | omega | exact u8_range _ | exact add_u8 _ _ (by omega) | exact ⟨⟨Int.emod_nonneg _ (by decide), Int.emod_lt_of_pos _ (by decide)⟩, Int.natCast_nonneg _, Int.lt_of_lt_of_le (u8_range _).2 (by decide)⟩ | exact ⟨⟨Int.emod_nonneg _ (by decide), Int.emod_lt_of_pos _ (by decide)⟩, ⟨Int.emod_nonneg _ (by decide), Int.emod_lt_of_pos _ (by decide)⟩⟩) ?_ | refine And.intro (inferInstanceAs (Suf _ _)) ?_)
        | (show OpOk _ _ _ _ _ _ _; first
            | refine OpOk.load rfl rfl (by first | exact Ld.hasBlk rfl | exact Ld.rs (by assumption) (getMap (by omega)) | exact Ld.rds (by assumption) (getMap (by omega)) | exact Ld.hasSl (getMap (by omega)) | exact Ld.hasBlkAt (getMap (by omega))) ?_
            | refine OpOk.loadRow rfl rfl LdN.hasBlk rfl ?_
            | refine OpOk.store rfl rfl rfl rfl (by repeat (first | exact SetR.hit _ _ _ | apply SetR.miss)) ?_
            | refine OpOk.storeRow rfl rfl rfl rfl (by rfl) rfl ?_
            | refine OpOk.idx1 rfl rfl rfl (by omega) (by first | exact AOk.hasSl | exact AOk.rs (by assumption) | exact AOk.rds (by assumption) | exact AOk.lit) ?_
            | refine OpOk.alloc rfl (fun b => ?_)
            | refine OpOk.box rfl (fun b => ?_)
            | refine OpOk.build rfl rfl (by repeat (first | exact Nf.nil | apply Nf.cons)) ?_
            | refine OpOk.buildSlice1 (by rfl) (by rfl) (by rfl) (by rfl) (by rfl) (fun b => ?_)
            | refine OpOk.toStr rfl rfl rfl rfl (by first | exact Rs.rds (by assumption) | exact Rds.up (by assumption) | exact Rds.hasSl (by omega) (by omega) (by first | rfl | (simp; done) | (simp; omega))) ?_
            | refine OpOk.make1 rfl rfl rfl (by omega) (fun b => ?_)
            | refine OpOk.append1 rfl rfl rfl rfl rfl rfl (by omega) (fun a' c' hc1 hc2 => ?_)
            | refine OpOk.append0 rfl rfl rfl rfl rfl rfl (by omega) (fun a' c' hc1 hc2 => ?_)
            | refine OpOk.appendE rfl rfl rfl rfl (by first | exact Rs.rds (by assumption) | exact Rds.up (by assumption) | exact Rds.hasSl (by omega) (by omega) (by first | rfl | (simp; done) | (simp; omega))) (one_u8 _) (by omega) (fun a' c' hc1 hc2 => ?_)
            | refine OpOk.append rfl rfl rfl rfl (by first | exact Rs.rds (by assumption) | exact Rds.up (by assumption) | exact Rds.hasSl (by omega) (by omega) (by first | rfl | (simp; done) | (simp; omega))) (one_u8 _) (by omega) (fun a' c' hc1 hc2 => ?_))
        | (show QOk _ _ _ _ _ _ _; first | refine QOk.load rfl rfl (by first | exact Ld.hasBlk rfl | exact Ld.rs (by assumption) (getMap (by omega)) | exact Ld.rds (by assumption) (getMap (by omega)) | exact Ld.hasSl (getMap (by omega)) | exact Ld.hasBlkAt (getMap (by omega))) ?_ | refine QOk.idx1 rfl rfl rfl (by omega) (by first | exact AOk.hasSl | exact AOk.rs (by assumption) | exact AOk.rds (by assumption) | exact AOk.lit) ?_ | refine QOk.loadRow rfl rfl LdN.hasBlk rfl ?_ | refine QOk.toStr rfl rfl rfl rfl (by first | exact Rs.rds (by assumption) | exact Rds.up (by assumption) | exact Rds.hasSl (by omega) (by omega) (by first | rfl | (simp; done) | (simp; omega))) ?_)
        | (show GJ _ _ _ _ _ _ _; first | (apply GJ.and; exact rfl; intro hg) | (apply GJ.or; exact rfl; intro hg) | refine GJ.t (by omega) ?_ | refine GJ.f (by omega) ?_ | refine GJ.ft (by omega) ?_ | refine GJ.ff (by omega) ?_)
        | (show Br _ _ _; first | with_reducible refine Br.tt ?_ | with_reducible refine Br.ff ?_ | with_reducible refine Br.nt ?_ | with_reducible refine Br.nf ?_ | refine Br.t (by omega) ?_ | refine Br.f (by omega) ?_)
        | (show RetOk _ _ _ _ _ _; refine RetOk.of (by repeat (first | exact RL.nil | refine RL.tmp rfl ?_ | refine RL.row rfl rfl LdN.hasBlk rfl ?_ | refine RL.one rfl rfl (by first | exact Ld.hasBlk rfl | exact Ld.rs (by assumption) (getMap (by omega)) | exact Ld.rds (by assumption) (getMap (by omega)) | exact Ld.hasSl (getMap (by omega)) | exact Ld.hasBlkAt (getMap (by omega))) ?_)) ?_)
        | (show CodeOk _ _ _ _ _ _; refine CodeOk.drawnAuto rfl (by kernel_rfl) rfl (by kernel_rfl) ?_))
      refine Wk.id ⟨(i + 1, _, _, _), ⟨rfl, ?_⟩, ?_, (by repeat (first | exact trivial | refine Sub.cons rfl ?_ | refine Sub.consE rfl (congrArg (Value.int _) (by omega)) ?_)), (by repeat (first | exact Sup.all _ | exact Sup.nil _ | refine Sup.cons (by first | exact Take.hit _ _ | exact Take.miss _ (Take.hit _ _) | exact Take.miss _ (Take.miss _ (Take.hit _ _)) | exact Take.miss _ (Take.miss _ (Take.miss _ (Take.hit _ _))) | exact Take.miss _ (Take.miss _ (Take.miss _ (Take.miss _ (Take.hit _ _)))) | exact Take.miss _ (Take.miss _ (Take.miss _ (Take.miss _ (Take.miss _ (Take.hit _ _))))) | exact Take.miss _ (Take.miss _ (Take.miss _ (Take.miss _ (Take.miss _ (Take.miss _ (Take.hit _ _))))))) ?_ | refine Sup.nilc ?_ | refine Sup.drop _ ?_))⟩
      all_goals try dsimp only
      · exact ⟨by omega, by omega, by omega, by omega, by omega⟩
      · omega
  · obtain rfl : i = n := by omega
    repeat (first
      | refine Stop.mk ?_
      | (show _ ∧ _; first | exact ⟨rfl, rfl, rfl⟩ | refine And.intro (by first | omega | exact u8_range _ | exact add_u8 _ _ (by omega) | exact ⟨⟨Int.emod_nonneg _ (by decide), Int.emod_lt_of_pos _ (by decide)⟩, Int.natCast_nonneg _, Int.lt_of_lt_of_le (u8_range _).2 (by decide)⟩ | exact ⟨⟨Int.emod_nonneg _ (by decide), Int.emod_lt_of_pos _ (by decide)⟩, ⟨Int.emod_nonneg _ (by decide), Int.emod_lt_of_pos _ (by decide)⟩⟩) ?_ | refine And.intro (inferInstanceAs (Suf _ _)) ?_)
      | (show OpOk _ _ _ _ _ _ _; first
          | refine OpOk.load rfl rfl (by first | exact Ld.hasBlk rfl | exact Ld.rs (by assumption) (getMap (by omega)) | exact Ld.rds (by assumption) (getMap (by omega)) | exact Ld.hasSl (getMap (by omega)) | exact Ld.hasBlkAt (getMap (by omega))) ?_
          | refine OpOk.loadRow rfl rfl LdN.hasBlk rfl ?_
          | refine OpOk.store rfl rfl rfl rfl (by repeat (first | exact SetR.hit _ _ _ | apply SetR.miss)) ?_
          | refine OpOk.storeRow rfl rfl rfl rfl (by rfl) rfl ?_
          | refine OpOk.idx1 rfl rfl rfl (by omega) (by first | exact AOk.hasSl | exact AOk.rs (by assumption) | exact AOk.rds (by assumption) | exact AOk.lit) ?_
          | refine OpOk.alloc rfl (fun b => ?_)
          | refine OpOk.box rfl (fun b => ?_)
          | refine OpOk.build rfl rfl (by repeat (first | exact Nf.nil | apply Nf.cons)) ?_
          | refine OpOk.buildSlice1 (by rfl) (by rfl) (by rfl) (by rfl) (by rfl) (fun b => ?_)
          | refine OpOk.toStr rfl rfl rfl rfl (by first | exact Rs.rds (by assumption) | exact Rds.up (by assumption) | exact Rds.hasSl (by omega) (by omega) (by first | rfl | (simp; done) | (simp; omega))) ?_
          | refine OpOk.make1 rfl rfl rfl (by omega) (fun b => ?_)
          | refine OpOk.append1 rfl rfl rfl rfl rfl rfl (by omega) (fun a' c' hc1 hc2 => ?_)
          | refine OpOk.append0 rfl rfl rfl rfl rfl rfl (by omega) (fun a' c' hc1 hc2 => ?_)
          | refine OpOk.appendE rfl rfl rfl rfl (by first | exact Rs.rds (by assumption) | exact Rds.up (by assumption) | exact Rds.hasSl (by omega) (by omega) (by first | rfl | (simp; done) | (simp; omega))) (one_u8 _) (by omega) (fun a' c' hc1 hc2 => ?_)
          | refine OpOk.append rfl rfl rfl rfl (by first | exact Rs.rds (by assumption) | exact Rds.up (by assumption) | exact Rds.hasSl (by omega) (by omega) (by first | rfl | (simp; done) | (simp; omega))) (one_u8 _) (by omega) (fun a' c' hc1 hc2 => ?_))
      | (show QOk _ _ _ _ _ _ _; first | refine QOk.load rfl rfl (by first | exact Ld.hasBlk rfl | exact Ld.rs (by assumption) (getMap (by omega)) | exact Ld.rds (by assumption) (getMap (by omega)) | exact Ld.hasSl (getMap (by omega)) | exact Ld.hasBlkAt (getMap (by omega))) ?_ | refine QOk.idx1 rfl rfl rfl (by omega) (by first | exact AOk.hasSl | exact AOk.rs (by assumption) | exact AOk.rds (by assumption) | exact AOk.lit) ?_ | refine QOk.loadRow rfl rfl LdN.hasBlk rfl ?_ | refine QOk.toStr rfl rfl rfl rfl (by first | exact Rs.rds (by assumption) | exact Rds.up (by assumption) | exact Rds.hasSl (by omega) (by omega) (by first | rfl | (simp; done) | (simp; omega))) ?_)
      | (show GJ _ _ _ _ _ _ _; first | (apply GJ.and; exact rfl; intro hg) | (apply GJ.or; exact rfl; intro hg) | refine GJ.t (by omega) ?_ | refine GJ.f (by omega) ?_ | refine GJ.ft (by omega) ?_ | refine GJ.ff (by omega) ?_)
      | (show Br _ _ _; first | with_reducible refine Br.tt ?_ | with_reducible refine Br.ff ?_ | with_reducible refine Br.nt ?_ | with_reducible refine Br.nf ?_ | refine Br.t (by omega) ?_ | refine Br.f (by omega) ?_)
      | (show RetOk _ _ _ _ _ _; refine RetOk.of (by repeat (first | exact RL.nil | refine RL.tmp rfl ?_ | refine RL.row rfl rfl LdN.hasBlk rfl ?_ | refine RL.one rfl rfl (by first | exact Ld.hasBlk rfl | exact Ld.rs (by assumption) (getMap (by omega)) | exact Ld.rds (by assumption) (getMap (by omega)) | exact Ld.hasSl (getMap (by omega)) | exact Ld.hasBlkAt (getMap (by omega))) ?_)) ?_)
      | (show CodeOk _ _ _ _ _ _; refine CodeOk.drawnAuto rfl (by kernel_rfl) rfl (by kernel_rfl) ?_))
    refine wbytes_ok i2 ⟨i4, i5⟩ (by omega) (fun a3 c3 h1 h2 => ?_)
    repeat (first
      | refine Stop.mk ?_
      | (show _ ∧ _; first | exact ⟨rfl, rfl, rfl⟩ | refine And.intro (by first | omega | exact u8_range _ | exact add_u8 _ _ (by omega) | exact ⟨⟨Int.emod_nonneg _ (by decide), Int.emod_lt_of_pos _ (by decide)⟩, Int.natCast_nonneg _, Int.lt_of_lt_of_le (u8_range _).2 (by decide)⟩ | exact ⟨⟨Int.emod_nonneg _ (by decide), Int.emod_lt_of_pos _ (by decide)⟩, ⟨Int.emod_nonneg _ (by decide), Int.emod_lt_of_pos _ (by decide)⟩⟩) ?_ | refine And.intro (inferInstanceAs (Suf _ _)) ?_)
      | (show OpOk _ _ _ _ _ _ _; first
          | refine OpOk.load rfl rfl (by first | exact Ld.hasBlk rfl | exact Ld.rs (by assumption) (getMap (by omega)) | exact Ld.rds (by assumption) (getMap (by omega)) | exact Ld.hasSl (getMap (by omega)) | exact Ld.hasBlkAt (getMap (by omega))) ?_
          | refine OpOk.loadRow rfl rfl LdN.hasBlk rfl ?_
          | refine OpOk.store rfl rfl rfl rfl (by repeat (first | exact SetR.hit _ _ _ | apply SetR.miss)) ?_
          | refine OpOk.storeRow rfl rfl rfl rfl (by rfl) rfl ?_
          | refine OpOk.idx1 rfl rfl rfl (by omega) (by first | exact AOk.hasSl | exact AOk.rs (by assumption) | exact AOk.rds (by assumption) | exact AOk.lit) ?_
          | refine OpOk.alloc rfl (fun b => ?_)
          | refine OpOk.box rfl (fun b => ?_)
          | refine OpOk.build rfl rfl (by repeat (first | exact Nf.nil | apply Nf.cons)) ?_
          | refine OpOk.buildSlice1 (by rfl) (by rfl) (by rfl) (by rfl) (by rfl) (fun b => ?_)
          | refine OpOk.toStr rfl rfl rfl rfl (by first | exact Rs.rds (by assumption) | exact Rds.up (by assumption) | exact Rds.hasSl (by omega) (by omega) (by first | rfl | (simp; done) | (simp; omega))) ?_
          | refine OpOk.make1 rfl rfl rfl (by omega) (fun b => ?_)
          | refine OpOk.append1 rfl rfl rfl rfl rfl rfl (by omega) (fun a' c' hc1 hc2 => ?_)
          | refine OpOk.append0 rfl rfl rfl rfl rfl rfl (by omega) (fun a' c' hc1 hc2 => ?_)
          | refine OpOk.appendE rfl rfl rfl rfl (by first | exact Rs.rds (by assumption) | exact Rds.up (by assumption) | exact Rds.hasSl (by omega) (by omega) (by first | rfl | (simp; done) | (simp; omega))) (one_u8 _) (by omega) (fun a' c' hc1 hc2 => ?_)
          | refine OpOk.append rfl rfl rfl rfl (by first | exact Rs.rds (by assumption) | exact Rds.up (by assumption) | exact Rds.hasSl (by omega) (by omega) (by first | rfl | (simp; done) | (simp; omega))) (one_u8 _) (by omega) (fun a' c' hc1 hc2 => ?_))
      | (show QOk _ _ _ _ _ _ _; first | refine QOk.load rfl rfl (by first | exact Ld.hasBlk rfl | exact Ld.rs (by assumption) (getMap (by omega)) | exact Ld.rds (by assumption) (getMap (by omega)) | exact Ld.hasSl (getMap (by omega)) | exact Ld.hasBlkAt (getMap (by omega))) ?_ | refine QOk.idx1 rfl rfl rfl (by omega) (by first | exact AOk.hasSl | exact AOk.rs (by assumption) | exact AOk.rds (by assumption) | exact AOk.lit) ?_ | refine QOk.loadRow rfl rfl LdN.hasBlk rfl ?_ | refine QOk.toStr rfl rfl rfl rfl (by first | exact Rs.rds (by assumption) | exact Rds.up (by assumption) | exact Rds.hasSl (by omega) (by omega) (by first | rfl | (simp; done) | (simp; omega))) ?_)
      | (show GJ _ _ _ _ _ _ _; first | (apply GJ.and; exact rfl; intro hg) | (apply GJ.or; exact rfl; intro hg) | refine GJ.t (by omega) ?_ | refine GJ.f (by omega) ?_ | refine GJ.ft (by omega) ?_ | refine GJ.ff (by omega) ?_)
      | (show Br _ _ _; first | with_reducible refine Br.tt ?_ | with_reducible refine Br.ff ?_ | with_reducible refine Br.nt ?_ | with_reducible refine Br.nf ?_ | refine Br.t (by omega) ?_ | refine Br.f (by omega) ?_)
      | (show RetOk _ _ _ _ _ _; refine RetOk.of (by repeat (first | exact RL.nil | refine RL.tmp rfl ?_ | refine RL.row rfl rfl LdN.hasBlk rfl ?_ | refine RL.one rfl rfl (by first | exact Ld.hasBlk rfl | exact Ld.rs (by assumption) (getMap (by omega)) | exact Ld.rds (by assumption) (getMap (by omega)) | exact Ld.hasSl (getMap (by omega)) | exact Ld.hasBlkAt (getMap (by omega))) ?_)) ?_)
      | (show CodeOk _ _ _ _ _ _; refine CodeOk.drawnAuto rfl (by kernel_rfl) rfl (by kernel_rfl) ?_))
    refine CallOk.freeze (c := .sl a3 _ _ _ _ _) (by first | exact Take.hit _ _ | exact Take.miss _ (Take.hit _ _) | exact Take.miss _ (Take.miss _ (Take.hit _ _)) | exact Take.miss _ (Take.miss _ (Take.miss _ (Take.hit _ _))) | exact Take.miss _ (Take.miss _ (Take.miss _ (Take.miss _ (Take.hit _ _)))) | exact Take.miss _ (Take.miss _ (Take.miss _ (Take.miss _ (Take.miss _ (Take.hit _ _))))) | exact Take.miss _ (Take.miss _ (Take.miss _ (Take.miss _ (Take.miss _ (Take.miss _ (Take.hit _ _))))))) (fun ro1 hl1 hc1 => ?_)
    have hB : Bys ro1 a3 nn c3 (cat xs ws i) := Rs.last hc1
    refine new_ok (fun b3 => ?_)
    repeat (first
      | refine Stop.mk ?_
      | (show _ ∧ _; first | exact ⟨rfl, rfl, rfl⟩ | refine And.intro (by first | omega | exact u8_range _ | exact add_u8 _ _ (by omega) | exact ⟨⟨Int.emod_nonneg _ (by decide), Int.emod_lt_of_pos _ (by decide)⟩, Int.natCast_nonneg _, Int.lt_of_lt_of_le (u8_range _).2 (by decide)⟩ | exact ⟨⟨Int.emod_nonneg _ (by decide), Int.emod_lt_of_pos _ (by decide)⟩, ⟨Int.emod_nonneg _ (by decide), Int.emod_lt_of_pos _ (by decide)⟩⟩) ?_ | refine And.intro (inferInstanceAs (Suf _ _)) ?_)
      | (show OpOk _ _ _ _ _ _ _; first
          | refine OpOk.load rfl rfl (by first | exact Ld.hasBlk rfl | exact Ld.rs (by assumption) (getMap (by omega)) | exact Ld.rds (by assumption) (getMap (by omega)) | exact Ld.hasSl (getMap (by omega)) | exact Ld.hasBlkAt (getMap (by omega))) ?_
          | refine OpOk.loadRow rfl rfl LdN.hasBlk rfl ?_
          | refine OpOk.store rfl rfl rfl rfl (by repeat (first | exact SetR.hit _ _ _ | apply SetR.miss)) ?_
          | refine OpOk.storeRow rfl rfl rfl rfl (by rfl) rfl ?_
          | refine OpOk.idx1 rfl rfl rfl (by omega) (by first | exact AOk.hasSl | exact AOk.rs (by assumption) | exact AOk.rds (by assumption) | exact AOk.lit) ?_
          | refine OpOk.alloc rfl (fun b => ?_)
          | refine OpOk.box rfl (fun b => ?_)
          | refine OpOk.build rfl rfl (by repeat (first | exact Nf.nil | apply Nf.cons)) ?_
          | refine OpOk.buildSlice1 (by rfl) (by rfl) (by rfl) (by rfl) (by rfl) (fun b => ?_)
          | refine OpOk.toStr rfl rfl rfl rfl (by first | exact Rs.rds (by assumption) | exact Rds.up (by assumption) | exact Rds.hasSl (by omega) (by omega) (by first | rfl | (simp; done) | (simp; omega))) ?_
          | refine OpOk.make1 rfl rfl rfl (by omega) (fun b => ?_)
          | refine OpOk.append1 rfl rfl rfl rfl rfl rfl (by omega) (fun a' c' hc1 hc2 => ?_)
          | refine OpOk.append0 rfl rfl rfl rfl rfl rfl (by omega) (fun a' c' hc1 hc2 => ?_)
          | refine OpOk.appendE rfl rfl rfl rfl (by first | exact Rs.rds (by assumption) | exact Rds.up (by assumption) | exact Rds.hasSl (by omega) (by omega) (by first | rfl | (simp; done) | (simp; omega))) (one_u8 _) (by omega) (fun a' c' hc1 hc2 => ?_)
          | refine OpOk.append rfl rfl rfl rfl (by first | exact Rs.rds (by assumption) | exact Rds.up (by assumption) | exact Rds.hasSl (by omega) (by omega) (by first | rfl | (simp; done) | (simp; omega))) (one_u8 _) (by omega) (fun a' c' hc1 hc2 => ?_))
      | (show QOk _ _ _ _ _ _ _; first | refine QOk.load rfl rfl (by first | exact Ld.hasBlk rfl | exact Ld.rs (by assumption) (getMap (by omega)) | exact Ld.rds (by assumption) (getMap (by omega)) | exact Ld.hasSl (getMap (by omega)) | exact Ld.hasBlkAt (getMap (by omega))) ?_ | refine QOk.idx1 rfl rfl rfl (by omega) (by first | exact AOk.hasSl | exact AOk.rs (by assumption) | exact AOk.rds (by assumption) | exact AOk.lit) ?_ | refine QOk.loadRow rfl rfl LdN.hasBlk rfl ?_ | refine QOk.toStr rfl rfl rfl rfl (by first | exact Rs.rds (by assumption) | exact Rds.up (by assumption) | exact Rds.hasSl (by omega) (by omega) (by first | rfl | (simp; done) | (simp; omega))) ?_)
      | (show GJ _ _ _ _ _ _ _; first | (apply GJ.and; exact rfl; intro hg) | (apply GJ.or; exact rfl; intro hg) | refine GJ.t (by omega) ?_ | refine GJ.f (by omega) ?_ | refine GJ.ft (by omega) ?_ | refine GJ.ff (by omega) ?_)
      | (show Br _ _ _; first | with_reducible refine Br.tt ?_ | with_reducible refine Br.ff ?_ | with_reducible refine Br.nt ?_ | with_reducible refine Br.nf ?_ | refine Br.t (by omega) ?_ | refine Br.f (by omega) ?_)
      | (show RetOk _ _ _ _ _ _; refine RetOk.of (by repeat (first | exact RL.nil | refine RL.tmp rfl ?_ | refine RL.row rfl rfl LdN.hasBlk rfl ?_ | refine RL.one rfl rfl (by first | exact Ld.hasBlk rfl | exact Ld.rs (by assumption) (getMap (by omega)) | exact Ld.rds (by assumption) (getMap (by omega)) | exact Ld.hasSl (getMap (by omega)) | exact Ld.hasBlkAt (getMap (by omega))) ?_)) ?_)
      | (show CodeOk _ _ _ _ _ _; refine CodeOk.drawnAuto rfl (by kernel_rfl) rfl (by kernel_rfl) ?_))
    refine LoopOk.at (ι := Nat) (by repeat (first | exact Keep.nil _ | apply Keep.skip (by rfl) | apply Keep.keep (by rfl) | apply Keep.args (by rfl))) (fun j => [(78, .int .i64 (j : Int))]) (fun j => .blk b3 76 (rdr a3 nn c3 ((cat xs ws j).length : Nat)) :: own) (fun j => j ≤ i) (fun j => i - j) 0 ?_ (by repeat (first | exact trivial | refine Sub.cons rfl ?_ | refine Sub.consE rfl (congrArg (Value.int _) (by omega)) ?_)) (by repeat (first | exact Sup.all _ | exact Sup.nil _ | refine Sup.cons (by first | exact Take.hit _ _ | exact Take.miss _ (Take.hit _ _) | exact Take.miss _ (Take.miss _ (Take.hit _ _)) | exact Take.miss _ (Take.miss _ (Take.miss _ (Take.hit _ _))) | exact Take.miss _ (Take.miss _ (Take.miss _ (Take.miss _ (Take.hit _ _)))) | exact Take.miss _ (Take.miss _ (Take.miss _ (Take.miss _ (Take.miss _ (Take.hit _ _))))) | exact Take.miss _ (Take.miss _ (Take.miss _ (Take.miss _ (Take.miss _ (Take.miss _ (Take.hit _ _))))))) ?_ | refine Sup.nilc ?_ | refine Sup.drop _ ?_)) ?_
    · omega
    rintro j j1
    dsimp only [List.cons_append, List.nil_append]
    repeat (first
      | refine Stop.mk ?_
      | (show _ ∧ _; first | exact ⟨rfl, rfl, rfl⟩ | refine And.intro (by first | omega | exact u8_range _ | exact add_u8 _ _ (by omega) | exact ⟨⟨Int.emod_nonneg _ (by decide), Int.emod_lt_of_pos _ (by decide)⟩, Int.natCast_nonneg _, Int.lt_of_lt_of_le (u8_range _).2 (by decide)⟩ | exact ⟨⟨Int.emod_nonneg _ (by decide), Int.emod_lt_of_pos _ (by decide)⟩, ⟨Int.emod_nonneg _ (by decide), Int.emod_lt_of_pos _ (by decide)⟩⟩) ?_ | refine And.intro (inferInstanceAs (Suf _ _)) ?_)
      | (show OpOk _ _ _ _ _ _ _; first
          | refine OpOk.load rfl rfl (by first | exact Ld.hasBlk rfl | exact Ld.rs (by assumption) (getMap (by omega)) | exact Ld.rds (by assumption) (getMap (by omega)) | exact Ld.hasSl (getMap (by omega)) | exact Ld.hasBlkAt (getMap (by omega))) ?_
          | refine OpOk.loadRow rfl rfl LdN.hasBlk rfl ?_
          | refine OpOk.store rfl rfl rfl rfl (by repeat (first | exact SetR.hit _ _ _ | apply SetR.miss)) ?_
          | refine OpOk.storeRow rfl rfl rfl rfl (by rfl) rfl ?_
          | refine OpOk.idx1 rfl rfl rfl (by omega) (by first | exact AOk.hasSl | exact AOk.rs (by assumption) | exact AOk.rds (by assumption) | exact AOk.lit) ?_
          | refine OpOk.alloc rfl (fun b => ?_)
          | refine OpOk.box rfl (fun b => ?_)
          | refine OpOk.build rfl rfl (by repeat (first | exact Nf.nil | apply Nf.cons)) ?_
          | refine OpOk.buildSlice1 (by rfl) (by rfl) (by rfl) (by rfl) (by rfl) (fun b => ?_)
          | refine OpOk.toStr rfl rfl rfl rfl (by first | exact Rs.rds (by assumption) | exact Rds.up (by assumption) | exact Rds.hasSl (by omega) (by omega) (by first | rfl | (simp; done) | (simp; omega))) ?_
          | refine OpOk.make1 rfl rfl rfl (by omega) (fun b => ?_)
          | refine OpOk.append1 rfl rfl rfl rfl rfl rfl (by omega) (fun a' c' hc1 hc2 => ?_)
          | refine OpOk.append0 rfl rfl rfl rfl rfl rfl (by omega) (fun a' c' hc1 hc2 => ?_)
          | refine OpOk.appendE rfl rfl rfl rfl (by first | exact Rs.rds (by assumption) | exact Rds.up (by assumption) | exact Rds.hasSl (by omega) (by omega) (by first | rfl | (simp; done) | (simp; omega))) (one_u8 _) (by omega) (fun a' c' hc1 hc2 => ?_)
          | refine OpOk.append rfl rfl rfl rfl (by first | exact Rs.rds (by assumption) | exact Rds.up (by assumption) | exact Rds.hasSl (by omega) (by omega) (by first | rfl | (simp; done) | (simp; omega))) (one_u8 _) (by omega) (fun a' c' hc1 hc2 => ?_))
      | (show QOk _ _ _ _ _ _ _; first | refine QOk.load rfl rfl (by first | exact Ld.hasBlk rfl | exact Ld.rs (by assumption) (getMap (by omega)) | exact Ld.rds (by assumption) (getMap (by omega)) | exact Ld.hasSl (getMap (by omega)) | exact Ld.hasBlkAt (getMap (by omega))) ?_ | refine QOk.idx1 rfl rfl rfl (by omega) (by first | exact AOk.hasSl | exact AOk.rs (by assumption) | exact AOk.rds (by assumption) | exact AOk.lit) ?_ | refine QOk.loadRow rfl rfl LdN.hasBlk rfl ?_ | refine QOk.toStr rfl rfl rfl rfl (by first | exact Rs.rds (by assumption) | exact Rds.up (by assumption) | exact Rds.hasSl (by omega) (by omega) (by first | rfl | (simp; done) | (simp; omega))) ?_)
      | (show GJ _ _ _ _ _ _ _; first | (apply GJ.and; exact rfl; intro hg) | (apply GJ.or; exact rfl; intro hg) | refine GJ.t (by omega) ?_ | refine GJ.f (by omega) ?_ | refine GJ.ft (by omega) ?_ | refine GJ.ff (by omega) ?_)
      | (show Br _ _ _; first | with_reducible refine Br.tt ?_ | with_reducible refine Br.ff ?_ | with_reducible refine Br.nt ?_ | with_reducible refine Br.nf ?_ | refine Br.t (by omega) ?_ | refine Br.f (by omega) ?_)
      | (show RetOk _ _ _ _ _ _; refine RetOk.of (by repeat (first | exact RL.nil | refine RL.tmp rfl ?_ | refine RL.row rfl rfl LdN.hasBlk rfl ?_ | refine RL.one rfl rfl (by first | exact Ld.hasBlk rfl | exact Ld.rs (by assumption) (getMap (by omega)) | exact Ld.rds (by assumption) (getMap (by omega)) | exact Ld.hasSl (getMap (by omega)) | exact Ld.hasBlkAt (getMap (by omega))) ?_)) ?_)
      | (show CodeOk _ _ _ _ _ _; refine CodeOk.drawnAuto rfl (by kernel_rfl) rfl (by kernel_rfl) ?_))
    refine Br.cases (fun hd => ?_) (fun hd => ?_)
    · have h0 : j < xs.length := by omega
      have h02 : j < ws.length := by omega
      obtain ⟨x, hxe, hxb⟩ := mem_u64 gx h0
      have hwb := mem_i64 gw h02
      have hcs := congrArg List.length (cat_succ xs ws j)
      rw [List.length_append] at hcs
      obtain ⟨rest, hrest⟩ := cat_split xs ws i (j + 1) (by omega)
      have hdrop : (cat xs ws i).drop (cat xs ws j).length = piece xs ws j ++ rest := by
        rw [hrest, cat_succ, List.append_assoc, List.drop_left]
      have hlen := congrArg List.length hrest
      rw [List.length_append] at hlen
      repeat (first
        | refine Stop.mk ?_
        | (show _ ∧ _; first | exact ⟨rfl, rfl, rfl⟩ | refine And.intro (by first | omega | exact u8_range _ | exact add_u8 _ _ (by omega) | exact ⟨⟨Int.emod_nonneg _ (by decide), Int.emod_lt_of_pos _ (by decide)⟩, Int.natCast_nonneg _, Int.lt_of_lt_of_le (u8_range _).2 (by decide)⟩ | exact ⟨⟨Int.emod_nonneg _ (by decide), Int.emod_lt_of_pos _ (by decide)⟩, ⟨Int.emod_nonneg _ (by decide), Int.emod_lt_of_pos _ (by decide)⟩⟩) ?_ | refine And.intro (inferInstanceAs (Suf _ _)) ?_)
        | (show OpOk _ _ _ _ _ _ _; first
            | refine OpOk.load rfl rfl (by first | exact Ld.hasBlk rfl | exact Ld.rs (by assumption) (getMap (by omega)) | exact Ld.rds (by assumption) (getMap (by omega)) | exact Ld.hasSl (getMap (by omega)) | exact Ld.hasBlkAt (getMap (by omega))) ?_
            | refine OpOk.loadRow rfl rfl LdN.hasBlk rfl ?_
            | refine OpOk.store rfl rfl rfl rfl (by repeat (first | exact SetR.hit _ _ _ | apply SetR.miss)) ?_
            | refine OpOk.storeRow rfl rfl rfl rfl (by rfl) rfl ?_
            | refine OpOk.idx1 rfl rfl rfl (by omega) (by first | exact AOk.hasSl | exact AOk.rs (by assumption) | exact AOk.rds (by assumption) | exact AOk.lit) ?_
            | refine OpOk.alloc rfl (fun b => ?_)
            | refine OpOk.box rfl (fun b => ?_)
            | refine OpOk.build rfl rfl (by repeat (first | exact Nf.nil | apply Nf.cons)) ?_
            | refine OpOk.buildSlice1 (by rfl) (by rfl) (by rfl) (by rfl) (by rfl) (fun b => ?_)
            | refine OpOk.toStr rfl rfl rfl rfl (by first | exact Rs.rds (by assumption) | exact Rds.up (by assumption) | exact Rds.hasSl (by omega) (by omega) (by first | rfl | (simp; done) | (simp; omega))) ?_
            | refine OpOk.make1 rfl rfl rfl (by omega) (fun b => ?_)
            | refine OpOk.append1 rfl rfl rfl rfl rfl rfl (by omega) (fun a' c' hc1 hc2 => ?_)
            | refine OpOk.append0 rfl rfl rfl rfl rfl rfl (by omega) (fun a' c' hc1 hc2 => ?_)
            | refine OpOk.appendE rfl rfl rfl rfl (by first | exact Rs.rds (by assumption) | exact Rds.up (by assumption) | exact Rds.hasSl (by omega) (by omega) (by first | rfl | (simp; done) | (simp; omega))) (one_u8 _) (by omega) (fun a' c' hc1 hc2 => ?_)
            | refine OpOk.append rfl rfl rfl rfl (by first | exact Rs.rds (by assumption) | exact Rds.up (by assumption) | exact Rds.hasSl (by omega) (by omega) (by first | rfl | (simp; done) | (simp; omega))) (one_u8 _) (by omega) (fun a' c' hc1 hc2 => ?_))
        | (show QOk _ _ _ _ _ _ _; first | refine QOk.load rfl rfl (by first | exact Ld.hasBlk rfl | exact Ld.rs (by assumption) (getMap (by omega)) | exact Ld.rds (by assumption) (getMap (by omega)) | exact Ld.hasSl (getMap (by omega)) | exact Ld.hasBlkAt (getMap (by omega))) ?_ | refine QOk.idx1 rfl rfl rfl (by omega) (by first | exact AOk.hasSl | exact AOk.rs (by assumption) | exact AOk.rds (by assumption) | exact AOk.lit) ?_ | refine QOk.loadRow rfl rfl LdN.hasBlk rfl ?_ | refine QOk.toStr rfl rfl rfl rfl (by first | exact Rs.rds (by assumption) | exact Rds.up (by assumption) | exact Rds.hasSl (by omega) (by omega) (by first | rfl | (simp; done) | (simp; omega))) ?_)
        | (show GJ _ _ _ _ _ _ _; first | (apply GJ.and; exact rfl; intro hg) | (apply GJ.or; exact rfl; intro hg) | refine GJ.t (by omega) ?_ | refine GJ.f (by omega) ?_ | refine GJ.ft (by omega) ?_ | refine GJ.ff (by omega) ?_)
        | (show Br _ _ _; first | with_reducible refine Br.tt ?_ | with_reducible refine Br.ff ?_ | with_reducible refine Br.nt ?_ | with_reducible refine Br.nf ?_ | refine Br.t (by omega) ?_ | refine Br.f (by omega) ?_)
        | (show RetOk _ _ _ _ _ _; refine RetOk.of (by repeat (first | exact RL.nil | refine RL.tmp rfl ?_ | refine RL.row rfl rfl LdN.hasBlk rfl ?_ | refine RL.one rfl rfl (by first | exact Ld.hasBlk rfl | exact Ld.rs (by assumption) (getMap (by omega)) | exact Ld.rds (by assumption) (getMap (by omega)) | exact Ld.hasSl (getMap (by omega)) | exact Ld.hasBlkAt (getMap (by omega))) ?_)) ?_)
        | (show CodeOk _ _ _ _ _ _; refine CodeOk.drawnAuto rfl (by kernel_rfl) rfl (by kernel_rfl) ?_))
      refine SeqOk.pass ?_
      repeat (first
        | refine Stop.mk ?_
        | (show _ ∧ _; first | exact ⟨rfl, rfl, rfl⟩ | refine And.intro (by first | omega | exact u8_range _ | exact add_u8 _ _ (by omega) | exact ⟨⟨Int.emod_nonneg _ (by decide), Int.emod_lt_of_pos _ (by decide)⟩, Int.natCast_nonneg _, Int.lt_of_lt_of_le (u8_range _).2 (by decide)⟩ | exact ⟨⟨Int.emod_nonneg _ (by decide), Int.emod_lt_of_pos _ (by decide)⟩, ⟨Int.emod_nonneg _ (by decide), Int.emod_lt_of_pos _ (by decide)⟩⟩) ?_ | refine And.intro (inferInstanceAs (Suf _ _)) ?_)
        | (show OpOk _ _ _ _ _ _ _; first
            | refine OpOk.load rfl rfl (by first | exact Ld.hasBlk rfl | exact Ld.rs (by assumption) (getMap (by omega)) | exact Ld.rds (by assumption) (getMap (by omega)) | exact Ld.hasSl (getMap (by omega)) | exact Ld.hasBlkAt (getMap (by omega))) ?_
            | refine OpOk.loadRow rfl rfl LdN.hasBlk rfl ?_
            | refine OpOk.store rfl rfl rfl rfl (by repeat (first | exact SetR.hit _ _ _ | apply SetR.miss)) ?_
            | refine OpOk.storeRow rfl rfl rfl rfl (by rfl) rfl ?_
            | refine OpOk.idx1 rfl rfl rfl (by omega) (by first | exact AOk.hasSl | exact AOk.rs (by assumption) | exact AOk.rds (by assumption) | exact AOk.lit) ?_
            | refine OpOk.alloc rfl (fun b => ?_)
            | refine OpOk.box rfl (fun b => ?_)
            | refine OpOk.build rfl rfl (by repeat (first | exact Nf.nil | apply Nf.cons)) ?_
            | refine OpOk.buildSlice1 (by rfl) (by rfl) (by rfl) (by rfl) (by rfl) (fun b => ?_)
            | refine OpOk.toStr rfl rfl rfl rfl (by first | exact Rs.rds (by assumption) | exact Rds.up (by assumption) | exact Rds.hasSl (by omega) (by omega) (by first | rfl | (simp; done) | (simp; omega))) ?_
            | refine OpOk.make1 rfl rfl rfl (by omega) (fun b => ?_)
            | refine OpOk.append1 rfl rfl rfl rfl rfl rfl (by omega) (fun a' c' hc1 hc2 => ?_)
            | refine OpOk.append0 rfl rfl rfl rfl rfl rfl (by omega) (fun a' c' hc1 hc2 => ?_)
            | refine OpOk.appendE rfl rfl rfl rfl (by first | exact Rs.rds (by assumption) | exact Rds.up (by assumption) | exact Rds.hasSl (by omega) (by omega) (by first | rfl | (simp; done) | (simp; omega))) (one_u8 _) (by omega) (fun a' c' hc1 hc2 => ?_)
            | refine OpOk.append rfl rfl rfl rfl (by first | exact Rs.rds (by assumption) | exact Rds.up (by assumption) | exact Rds.hasSl (by omega) (by omega) (by first | rfl | (simp; done) | (simp; omega))) (one_u8 _) (by omega) (fun a' c' hc1 hc2 => ?_))
        | (show QOk _ _ _ _ _ _ _; first | refine QOk.load rfl rfl (by first | exact Ld.hasBlk rfl | exact Ld.rs (by assumption) (getMap (by omega)) | exact Ld.rds (by assumption) (getMap (by omega)) | exact Ld.hasSl (getMap (by omega)) | exact Ld.hasBlkAt (getMap (by omega))) ?_ | refine QOk.idx1 rfl rfl rfl (by omega) (by first | exact AOk.hasSl | exact AOk.rs (by assumption) | exact AOk.rds (by assumption) | exact AOk.lit) ?_ | refine QOk.loadRow rfl rfl LdN.hasBlk rfl ?_ | refine QOk.toStr rfl rfl rfl rfl (by first | exact Rs.rds (by assumption) | exact Rds.up (by assumption) | exact Rds.hasSl (by omega) (by omega) (by first | rfl | (simp; done) | (simp; omega))) ?_)
        | (show GJ _ _ _ _ _ _ _; first | (apply GJ.and; exact rfl; intro hg) | (apply GJ.or; exact rfl; intro hg) | refine GJ.t (by omega) ?_ | refine GJ.f (by omega) ?_ | refine GJ.ft (by omega) ?_ | refine GJ.ff (by omega) ?_)
        | (show Br _ _ _; first | with_reducible refine Br.tt ?_ | with_reducible refine Br.ff ?_ | with_reducible refine Br.nt ?_ | with_reducible refine Br.nf ?_ | refine Br.t (by omega) ?_ | refine Br.f (by omega) ?_)
        | (show RetOk _ _ _ _ _ _; refine RetOk.of (by repeat (first | exact RL.nil | refine RL.tmp rfl ?_ | refine RL.row rfl rfl LdN.hasBlk rfl ?_ | refine RL.one rfl rfl (by first | exact Ld.hasBlk rfl | exact Ld.rs (by assumption) (getMap (by omega)) | exact Ld.rds (by assumption) (getMap (by omega)) | exact Ld.hasSl (getMap (by omega)) | exact Ld.hasBlkAt (getMap (by omega))) ?_)) ?_)
        | (show CodeOk _ _ _ _ _ _; refine CodeOk.drawnAuto rfl (by kernel_rfl) rfl (by kernel_rfl) ?_))
      simp only [Int.toNat_natCast, hxe]
      refine width_ok ?_
      repeat (first
        | refine Stop.mk ?_
        | (show _ ∧ _; first | exact ⟨rfl, rfl, rfl⟩ | refine And.intro (by first | omega | exact u8_range _ | exact add_u8 _ _ (by omega) | exact ⟨⟨Int.emod_nonneg _ (by decide), Int.emod_lt_of_pos _ (by decide)⟩, Int.natCast_nonneg _, Int.lt_of_lt_of_le (u8_range _).2 (by decide)⟩ | exact ⟨⟨Int.emod_nonneg _ (by decide), Int.emod_lt_of_pos _ (by decide)⟩, ⟨Int.emod_nonneg _ (by decide), Int.emod_lt_of_pos _ (by decide)⟩⟩) ?_ | refine And.intro (inferInstanceAs (Suf _ _)) ?_)
        | (show OpOk _ _ _ _ _ _ _; first
            | refine OpOk.load rfl rfl (by first | exact Ld.hasBlk rfl | exact Ld.rs (by assumption) (getMap (by omega)) | exact Ld.rds (by assumption) (getMap (by omega)) | exact Ld.hasSl (getMap (by omega)) | exact Ld.hasBlkAt (getMap (by omega))) ?_
            | refine OpOk.loadRow rfl rfl LdN.hasBlk rfl ?_
            | refine OpOk.store rfl rfl rfl rfl (by repeat (first | exact SetR.hit _ _ _ | apply SetR.miss)) ?_
            | refine OpOk.storeRow rfl rfl rfl rfl (by rfl) rfl ?_
            | refine OpOk.idx1 rfl rfl rfl (by omega) (by first | exact AOk.hasSl | exact AOk.rs (by assumption) | exact AOk.rds (by assumption) | exact AOk.lit) ?_
            | refine OpOk.alloc rfl (fun b => ?_)
            | refine OpOk.box rfl (fun b => ?_)
            | refine OpOk.build rfl rfl (by repeat (first | exact Nf.nil | apply Nf.cons)) ?_
            | refine OpOk.buildSlice1 (by rfl) (by rfl) (by rfl) (by rfl) (by rfl) (fun b => ?_)
            | refine OpOk.toStr rfl rfl rfl rfl (by first | exact Rs.rds (by assumption) | exact Rds.up (by assumption) | exact Rds.hasSl (by omega) (by omega) (by first | rfl | (simp; done) | (simp; omega))) ?_
            | refine OpOk.make1 rfl rfl rfl (by omega) (fun b => ?_)
            | refine OpOk.append1 rfl rfl rfl rfl rfl rfl (by omega) (fun a' c' hc1 hc2 => ?_)
            | refine OpOk.append0 rfl rfl rfl rfl rfl rfl (by omega) (fun a' c' hc1 hc2 => ?_)
            | refine OpOk.appendE rfl rfl rfl rfl (by first | exact Rs.rds (by assumption) | exact Rds.up (by assumption) | exact Rds.hasSl (by omega) (by omega) (by first | rfl | (simp; done) | (simp; omega))) (one_u8 _) (by omega) (fun a' c' hc1 hc2 => ?_)
            | refine OpOk.append rfl rfl rfl rfl (by first | exact Rs.rds (by assumption) | exact Rds.up (by assumption) | exact Rds.hasSl (by omega) (by omega) (by first | rfl | (simp; done) | (simp; omega))) (one_u8 _) (by omega) (fun a' c' hc1 hc2 => ?_))
        | (show QOk _ _ _ _ _ _ _; first | refine QOk.load rfl rfl (by first | exact Ld.hasBlk rfl | exact Ld.rs (by assumption) (getMap (by omega)) | exact Ld.rds (by assumption) (getMap (by omega)) | exact Ld.hasSl (getMap (by omega)) | exact Ld.hasBlkAt (getMap (by omega))) ?_ | refine QOk.idx1 rfl rfl rfl (by omega) (by first | exact AOk.hasSl | exact AOk.rs (by assumption) | exact AOk.rds (by assumption) | exact AOk.lit) ?_ | refine QOk.loadRow rfl rfl LdN.hasBlk rfl ?_ | refine QOk.toStr rfl rfl rfl rfl (by first | exact Rs.rds (by assumption) | exact Rds.up (by assumption) | exact Rds.hasSl (by omega) (by omega) (by first | rfl | (simp; done) | (simp; omega))) ?_)
        | (show GJ _ _ _ _ _ _ _; first | (apply GJ.and; exact rfl; intro hg) | (apply GJ.or; exact rfl; intro hg) | refine GJ.t (by omega) ?_ | refine GJ.f (by omega) ?_ | refine GJ.ft (by omega) ?_ | refine GJ.ff (by omega) ?_)
        | (show Br _ _ _; first | with_reducible refine Br.tt ?_ | with_reducible refine Br.ff ?_ | with_reducible refine Br.nt ?_ | with_reducible refine Br.nf ?_ | refine Br.t (by omega) ?_ | refine Br.f (by omega) ?_)
        | (show RetOk _ _ _ _ _ _; refine RetOk.of (by repeat (first | exact RL.nil | refine RL.tmp rfl ?_ | refine RL.row rfl rfl LdN.hasBlk rfl ?_ | refine RL.one rfl rfl (by first | exact Ld.hasBlk rfl | exact Ld.rs (by assumption) (getMap (by omega)) | exact Ld.rds (by assumption) (getMap (by omega)) | exact Ld.hasSl (getMap (by omega)) | exact Ld.hasBlkAt (getMap (by omega))) ?_)) ?_)
        | (show CodeOk _ _ _ _ _ _; refine CodeOk.drawnAuto rfl (by kernel_rfl) rfl (by kernel_rfl) ?_))
      refine most_ok ?_
      repeat (first
        | refine Stop.mk ?_
        | (show _ ∧ _; first | exact ⟨rfl, rfl, rfl⟩ | refine And.intro (by first | omega | exact u8_range _ | exact add_u8 _ _ (by omega) | exact ⟨⟨Int.emod_nonneg _ (by decide), Int.emod_lt_of_pos _ (by decide)⟩, Int.natCast_nonneg _, Int.lt_of_lt_of_le (u8_range _).2 (by decide)⟩ | exact ⟨⟨Int.emod_nonneg _ (by decide), Int.emod_lt_of_pos _ (by decide)⟩, ⟨Int.emod_nonneg _ (by decide), Int.emod_lt_of_pos _ (by decide)⟩⟩) ?_ | refine And.intro (inferInstanceAs (Suf _ _)) ?_)
        | (show OpOk _ _ _ _ _ _ _; first
            | refine OpOk.load rfl rfl (by first | exact Ld.hasBlk rfl | exact Ld.rs (by assumption) (getMap (by omega)) | exact Ld.rds (by assumption) (getMap (by omega)) | exact Ld.hasSl (getMap (by omega)) | exact Ld.hasBlkAt (getMap (by omega))) ?_
            | refine OpOk.loadRow rfl rfl LdN.hasBlk rfl ?_
            | refine OpOk.store rfl rfl rfl rfl (by repeat (first | exact SetR.hit _ _ _ | apply SetR.miss)) ?_
            | refine OpOk.storeRow rfl rfl rfl rfl (by rfl) rfl ?_
            | refine OpOk.idx1 rfl rfl rfl (by omega) (by first | exact AOk.hasSl | exact AOk.rs (by assumption) | exact AOk.rds (by assumption) | exact AOk.lit) ?_
            | refine OpOk.alloc rfl (fun b => ?_)
            | refine OpOk.box rfl (fun b => ?_)
            | refine OpOk.build rfl rfl (by repeat (first | exact Nf.nil | apply Nf.cons)) ?_
            | refine OpOk.buildSlice1 (by rfl) (by rfl) (by rfl) (by rfl) (by rfl) (fun b => ?_)
            | refine OpOk.toStr rfl rfl rfl rfl (by first | exact Rs.rds (by assumption) | exact Rds.up (by assumption) | exact Rds.hasSl (by omega) (by omega) (by first | rfl | (simp; done) | (simp; omega))) ?_
            | refine OpOk.make1 rfl rfl rfl (by omega) (fun b => ?_)
            | refine OpOk.append1 rfl rfl rfl rfl rfl rfl (by omega) (fun a' c' hc1 hc2 => ?_)
            | refine OpOk.append0 rfl rfl rfl rfl rfl rfl (by omega) (fun a' c' hc1 hc2 => ?_)
            | refine OpOk.appendE rfl rfl rfl rfl (by first | exact Rs.rds (by assumption) | exact Rds.up (by assumption) | exact Rds.hasSl (by omega) (by omega) (by first | rfl | (simp; done) | (simp; omega))) (one_u8 _) (by omega) (fun a' c' hc1 hc2 => ?_)
            | refine OpOk.append rfl rfl rfl rfl (by first | exact Rs.rds (by assumption) | exact Rds.up (by assumption) | exact Rds.hasSl (by omega) (by omega) (by first | rfl | (simp; done) | (simp; omega))) (one_u8 _) (by omega) (fun a' c' hc1 hc2 => ?_))
        | (show QOk _ _ _ _ _ _ _; first | refine QOk.load rfl rfl (by first | exact Ld.hasBlk rfl | exact Ld.rs (by assumption) (getMap (by omega)) | exact Ld.rds (by assumption) (getMap (by omega)) | exact Ld.hasSl (getMap (by omega)) | exact Ld.hasBlkAt (getMap (by omega))) ?_ | refine QOk.idx1 rfl rfl rfl (by omega) (by first | exact AOk.hasSl | exact AOk.rs (by assumption) | exact AOk.rds (by assumption) | exact AOk.lit) ?_ | refine QOk.loadRow rfl rfl LdN.hasBlk rfl ?_ | refine QOk.toStr rfl rfl rfl rfl (by first | exact Rs.rds (by assumption) | exact Rds.up (by assumption) | exact Rds.hasSl (by omega) (by omega) (by first | rfl | (simp; done) | (simp; omega))) ?_)
        | (show GJ _ _ _ _ _ _ _; first | (apply GJ.and; exact rfl; intro hg) | (apply GJ.or; exact rfl; intro hg) | refine GJ.t (by omega) ?_ | refine GJ.f (by omega) ?_ | refine GJ.ft (by omega) ?_ | refine GJ.ff (by omega) ?_)
        | (show Br _ _ _; first | with_reducible refine Br.tt ?_ | with_reducible refine Br.ff ?_ | with_reducible refine Br.nt ?_ | with_reducible refine Br.nf ?_ | refine Br.t (by omega) ?_ | refine Br.f (by omega) ?_)
        | (show RetOk _ _ _ _ _ _; refine RetOk.of (by repeat (first | exact RL.nil | refine RL.tmp rfl ?_ | refine RL.row rfl rfl LdN.hasBlk rfl ?_ | refine RL.one rfl rfl (by first | exact Ld.hasBlk rfl | exact Ld.rs (by assumption) (getMap (by omega)) | exact Ld.rds (by assumption) (getMap (by omega)) | exact Ld.hasSl (getMap (by omega)) | exact Ld.hasBlkAt (getMap (by omega))) ?_)) ?_)
        | (show CodeOk _ _ _ _ _ _; refine CodeOk.drawnAuto rfl (by kernel_rfl) rfl (by kernel_rfl) ?_))
      simp only [Int.toNat_natCast]
      refine Br.cases (fun he => ?_) (fun he => ?_)
      · obtain ⟨k, hk8⟩ : ∃ k : Nat, ws[j]! = (k : Int) := ⟨(ws[j]!).toNat, by omega⟩
        rw [hk8] at he
        have hpc : piece xs ws j = putB (decide ((j : Int) % 2 = 0)) k x := by
          unfold piece
          rw [hxe, hk8, if_pos ⟨he.1, by omega⟩]
          simp
        rw [hpc, putB_len] at hcs
        repeat (first
          | refine Stop.mk ?_
          | (show _ ∧ _; first | exact ⟨rfl, rfl, rfl⟩ | refine And.intro (by first | omega | exact u8_range _ | exact add_u8 _ _ (by omega) | exact ⟨⟨Int.emod_nonneg _ (by decide), Int.emod_lt_of_pos _ (by decide)⟩, Int.natCast_nonneg _, Int.lt_of_lt_of_le (u8_range _).2 (by decide)⟩ | exact ⟨⟨Int.emod_nonneg _ (by decide), Int.emod_lt_of_pos _ (by decide)⟩, ⟨Int.emod_nonneg _ (by decide), Int.emod_lt_of_pos _ (by decide)⟩⟩) ?_ | refine And.intro (inferInstanceAs (Suf _ _)) ?_)
          | (show OpOk _ _ _ _ _ _ _; first
              | refine OpOk.load rfl rfl (by first | exact Ld.hasBlk rfl | exact Ld.rs (by assumption) (getMap (by omega)) | exact Ld.rds (by assumption) (getMap (by omega)) | exact Ld.hasSl (getMap (by omega)) | exact Ld.hasBlkAt (getMap (by omega))) ?_
              | refine OpOk.loadRow rfl rfl LdN.hasBlk rfl ?_
              | refine OpOk.store rfl rfl rfl rfl (by repeat (first | exact SetR.hit _ _ _ | apply SetR.miss)) ?_
              | refine OpOk.storeRow rfl rfl rfl rfl (by rfl) rfl ?_
              | refine OpOk.idx1 rfl rfl rfl (by omega) (by first | exact AOk.hasSl | exact AOk.rs (by assumption) | exact AOk.rds (by assumption) | exact AOk.lit) ?_
              | refine OpOk.alloc rfl (fun b => ?_)
              | refine OpOk.box rfl (fun b => ?_)
              | refine OpOk.build rfl rfl (by repeat (first | exact Nf.nil | apply Nf.cons)) ?_
              | refine OpOk.buildSlice1 (by rfl) (by rfl) (by rfl) (by rfl) (by rfl) (fun b => ?_)
              | refine OpOk.toStr rfl rfl rfl rfl (by first | exact Rs.rds (by assumption) | exact Rds.up (by assumption) | exact Rds.hasSl (by omega) (by omega) (by first | rfl | (simp; done) | (simp; omega))) ?_
              | refine OpOk.make1 rfl rfl rfl (by omega) (fun b => ?_)
              | refine OpOk.append1 rfl rfl rfl rfl rfl rfl (by omega) (fun a' c' hc1 hc2 => ?_)
              | refine OpOk.append0 rfl rfl rfl rfl rfl rfl (by omega) (fun a' c' hc1 hc2 => ?_)
              | refine OpOk.appendE rfl rfl rfl rfl (by first | exact Rs.rds (by assumption) | exact Rds.up (by assumption) | exact Rds.hasSl (by omega) (by omega) (by first | rfl | (simp; done) | (simp; omega))) (one_u8 _) (by omega) (fun a' c' hc1 hc2 => ?_)
              | refine OpOk.append rfl rfl rfl rfl (by first | exact Rs.rds (by assumption) | exact Rds.up (by assumption) | exact Rds.hasSl (by omega) (by omega) (by first | rfl | (simp; done) | (simp; omega))) (one_u8 _) (by omega) (fun a' c' hc1 hc2 => ?_))
          | (show QOk _ _ _ _ _ _ _; first | refine QOk.load rfl rfl (by first | exact Ld.hasBlk rfl | exact Ld.rs (by assumption) (getMap (by omega)) | exact Ld.rds (by assumption) (getMap (by omega)) | exact Ld.hasSl (getMap (by omega)) | exact Ld.hasBlkAt (getMap (by omega))) ?_ | refine QOk.idx1 rfl rfl rfl (by omega) (by first | exact AOk.hasSl | exact AOk.rs (by assumption) | exact AOk.rds (by assumption) | exact AOk.lit) ?_ | refine QOk.loadRow rfl rfl LdN.hasBlk rfl ?_ | refine QOk.toStr rfl rfl rfl rfl (by first | exact Rs.rds (by assumption) | exact Rds.up (by assumption) | exact Rds.hasSl (by omega) (by omega) (by first | rfl | (simp; done) | (simp; omega))) ?_)
          | (show GJ _ _ _ _ _ _ _; first | (apply GJ.and; exact rfl; intro hg) | (apply GJ.or; exact rfl; intro hg) | refine GJ.t (by omega) ?_ | refine GJ.f (by omega) ?_ | refine GJ.ft (by omega) ?_ | refine GJ.ff (by omega) ?_)
          | (show Br _ _ _; first | with_reducible refine Br.tt ?_ | with_reducible refine Br.ff ?_ | with_reducible refine Br.nt ?_ | with_reducible refine Br.nf ?_ | refine Br.t (by omega) ?_ | refine Br.f (by omega) ?_)
          | (show RetOk _ _ _ _ _ _; refine RetOk.of (by repeat (first | exact RL.nil | refine RL.tmp rfl ?_ | refine RL.row rfl rfl LdN.hasBlk rfl ?_ | refine RL.one rfl rfl (by first | exact Ld.hasBlk rfl | exact Ld.rs (by assumption) (getMap (by omega)) | exact Ld.rds (by assumption) (getMap (by omega)) | exact Ld.hasSl (getMap (by omega)) | exact Ld.hasBlkAt (getMap (by omega))) ?_)) ?_)
          | (show CodeOk _ _ _ _ _ _; refine CodeOk.drawnAuto rfl (by kernel_rfl) rfl (by kernel_rfl) ?_))
        simp only [Int.toNat_natCast, hk8]
        refine rnumber_ok hB (by omega) (by omega) (by omega) ?_
        have hval : beN (dirB (decide ((j : Int) % 2 = 0)) (((cat xs ws i).drop (cat xs ws j).length).take k)) = x := by
          rw [hdrop, hpc, List.take_left' (putB_len _ _ _), putB_back (mostN_lt (by omega) (by omega))]
        rw [hval, ← hcs]
        repeat (first
          | refine Stop.mk ?_
          | (show _ ∧ _; first | exact ⟨rfl, rfl, rfl⟩ | refine And.intro (by first | omega | exact u8_range _ | exact add_u8 _ _ (by omega) | exact ⟨⟨Int.emod_nonneg _ (by decide), Int.emod_lt_of_pos _ (by decide)⟩, Int.natCast_nonneg _, Int.lt_of_lt_of_le (u8_range _).2 (by decide)⟩ | exact ⟨⟨Int.emod_nonneg _ (by decide), Int.emod_lt_of_pos _ (by decide)⟩, ⟨Int.emod_nonneg _ (by decide), Int.emod_lt_of_pos _ (by decide)⟩⟩) ?_ | refine And.intro (inferInstanceAs (Suf _ _)) ?_)
          | (show OpOk _ _ _ _ _ _ _; first
              | refine OpOk.load rfl rfl (by first | exact Ld.hasBlk rfl | exact Ld.rs (by assumption) (getMap (by omega)) | exact Ld.rds (by assumption) (getMap (by omega)) | exact Ld.hasSl (getMap (by omega)) | exact Ld.hasBlkAt (getMap (by omega))) ?_
              | refine OpOk.loadRow rfl rfl LdN.hasBlk rfl ?_
              | refine OpOk.store rfl rfl rfl rfl (by repeat (first | exact SetR.hit _ _ _ | apply SetR.miss)) ?_
              | refine OpOk.storeRow rfl rfl rfl rfl (by rfl) rfl ?_
              | refine OpOk.idx1 rfl rfl rfl (by omega) (by first | exact AOk.hasSl | exact AOk.rs (by assumption) | exact AOk.rds (by assumption) | exact AOk.lit) ?_
              | refine OpOk.alloc rfl (fun b => ?_)
              | refine OpOk.box rfl (fun b => ?_)
              | refine OpOk.build rfl rfl (by repeat (first | exact Nf.nil | apply Nf.cons)) ?_
              | refine OpOk.buildSlice1 (by rfl) (by rfl) (by rfl) (by rfl) (by rfl) (fun b => ?_)
              | refine OpOk.toStr rfl rfl rfl rfl (by first | exact Rs.rds (by assumption) | exact Rds.up (by assumption) | exact Rds.hasSl (by omega) (by omega) (by first | rfl | (simp; done) | (simp; omega))) ?_
              | refine OpOk.make1 rfl rfl rfl (by omega) (fun b => ?_)
              | refine OpOk.append1 rfl rfl rfl rfl rfl rfl (by omega) (fun a' c' hc1 hc2 => ?_)
              | refine OpOk.append0 rfl rfl rfl rfl rfl rfl (by omega) (fun a' c' hc1 hc2 => ?_)
              | refine OpOk.appendE rfl rfl rfl rfl (by first | exact Rs.rds (by assumption) | exact Rds.up (by assumption) | exact Rds.hasSl (by omega) (by omega) (by first | rfl | (simp; done) | (simp; omega))) (one_u8 _) (by omega) (fun a' c' hc1 hc2 => ?_)
              | refine OpOk.append rfl rfl rfl rfl (by first | exact Rs.rds (by assumption) | exact Rds.up (by assumption) | exact Rds.hasSl (by omega) (by omega) (by first | rfl | (simp; done) | (simp; omega))) (one_u8 _) (by omega) (fun a' c' hc1 hc2 => ?_))
          | (show QOk _ _ _ _ _ _ _; first | refine QOk.load rfl rfl (by first | exact Ld.hasBlk rfl | exact Ld.rs (by assumption) (getMap (by omega)) | exact Ld.rds (by assumption) (getMap (by omega)) | exact Ld.hasSl (getMap (by omega)) | exact Ld.hasBlkAt (getMap (by omega))) ?_ | refine QOk.idx1 rfl rfl rfl (by omega) (by first | exact AOk.hasSl | exact AOk.rs (by assumption) | exact AOk.rds (by assumption) | exact AOk.lit) ?_ | refine QOk.loadRow rfl rfl LdN.hasBlk rfl ?_ | refine QOk.toStr rfl rfl rfl rfl (by first | exact Rs.rds (by assumption) | exact Rds.up (by assumption) | exact Rds.hasSl (by omega) (by omega) (by first | rfl | (simp; done) | (simp; omega))) ?_)
          | (show GJ _ _ _ _ _ _ _; first | (apply GJ.and; exact rfl; intro hg) | (apply GJ.or; exact rfl; intro hg) | refine GJ.t (by omega) ?_ | refine GJ.f (by omega) ?_ | refine GJ.ft (by omega) ?_ | refine GJ.ff (by omega) ?_)
          | (show Br _ _ _; first | with_reducible refine Br.tt ?_ | with_reducible refine Br.ff ?_ | with_reducible refine Br.nt ?_ | with_reducible refine Br.nf ?_ | refine Br.t (by omega) ?_ | refine Br.f (by omega) ?_)
          | (show RetOk _ _ _ _ _ _; refine RetOk.of (by repeat (first | exact RL.nil | refine RL.tmp rfl ?_ | refine RL.row rfl rfl LdN.hasBlk rfl ?_ | refine RL.one rfl rfl (by first | exact Ld.hasBlk rfl | exact Ld.rs (by assumption) (getMap (by omega)) | exact Ld.rds (by assumption) (getMap (by omega)) | exact Ld.hasSl (getMap (by omega)) | exact Ld.hasBlkAt (getMap (by omega))) ?_)) ?_)
          | (show CodeOk _ _ _ _ _ _; refine CodeOk.drawnAuto rfl (by kernel_rfl) rfl (by kernel_rfl) ?_))
        refine Wk.id ⟨j + 1, ⟨rfl, ?_⟩, ?_, (by repeat (first | exact trivial | refine Sub.cons rfl ?_ | refine Sub.consE rfl (congrArg (Value.int _) (by omega)) ?_)), (by repeat (first | exact Sup.all _ | exact Sup.nil _ | refine Sup.cons (by first | exact Take.hit _ _ | exact Take.miss _ (Take.hit _ _) | exact Take.miss _ (Take.miss _ (Take.hit _ _)) | exact Take.miss _ (Take.miss _ (Take.miss _ (Take.hit _ _))) | exact Take.miss _ (Take.miss _ (Take.miss _ (Take.miss _ (Take.hit _ _)))) | exact Take.miss _ (Take.miss _ (Take.miss _ (Take.miss _ (Take.miss _ (Take.hit _ _))))) | exact Take.miss _ (Take.miss _ (Take.miss _ (Take.miss _ (Take.miss _ (Take.miss _ (Take.hit _ _))))))) ?_ | refine Sup.nilc ?_ | refine Sup.drop _ ?_))⟩
        all_goals try dsimp only
        · omega
        · omega
      · have hpc : piece xs ws j = enc x := by
          unfold piece
          rw [hxe, if_neg (fun h => he ⟨h.1, by have := h.2; omega⟩)]
          simp
        have hx10 := enc_10 hxb
        rw [hpc] at hcs
        repeat (first
          | refine Stop.mk ?_
          | (show _ ∧ _; first | exact ⟨rfl, rfl, rfl⟩ | refine And.intro (by first | omega | exact u8_range _ | exact add_u8 _ _ (by omega) | exact ⟨⟨Int.emod_nonneg _ (by decide), Int.emod_lt_of_pos _ (by decide)⟩, Int.natCast_nonneg _, Int.lt_of_lt_of_le (u8_range _).2 (by decide)⟩ | exact ⟨⟨Int.emod_nonneg _ (by decide), Int.emod_lt_of_pos _ (by decide)⟩, ⟨Int.emod_nonneg _ (by decide), Int.emod_lt_of_pos _ (by decide)⟩⟩) ?_ | refine And.intro (inferInstanceAs (Suf _ _)) ?_)
          | (show OpOk _ _ _ _ _ _ _; first
              | refine OpOk.load rfl rfl (by first | exact Ld.hasBlk rfl | exact Ld.rs (by assumption) (getMap (by omega)) | exact Ld.rds (by assumption) (getMap (by omega)) | exact Ld.hasSl (getMap (by omega)) | exact Ld.hasBlkAt (getMap (by omega))) ?_
              | refine OpOk.loadRow rfl rfl LdN.hasBlk rfl ?_
              | refine OpOk.store rfl rfl rfl rfl (by repeat (first | exact SetR.hit _ _ _ | apply SetR.miss)) ?_
              | refine OpOk.storeRow rfl rfl rfl rfl (by rfl) rfl ?_
              | refine OpOk.idx1 rfl rfl rfl (by omega) (by first | exact AOk.hasSl | exact AOk.rs (by assumption) | exact AOk.rds (by assumption) | exact AOk.lit) ?_
              | refine OpOk.alloc rfl (fun b => ?_)
              | refine OpOk.box rfl (fun b => ?_)
              | refine OpOk.build rfl rfl (by repeat (first | exact Nf.nil | apply Nf.cons)) ?_
              | refine OpOk.buildSlice1 (by rfl) (by rfl) (by rfl) (by rfl) (by rfl) (fun b => ?_)
              | refine OpOk.toStr rfl rfl rfl rfl (by first | exact Rs.rds (by assumption) | exact Rds.up (by assumption) | exact Rds.hasSl (by omega) (by omega) (by first | rfl | (simp; done) | (simp; omega))) ?_
              | refine OpOk.make1 rfl rfl rfl (by omega) (fun b => ?_)
              | refine OpOk.append1 rfl rfl rfl rfl rfl rfl (by omega) (fun a' c' hc1 hc2 => ?_)
              | refine OpOk.append0 rfl rfl rfl rfl rfl rfl (by omega) (fun a' c' hc1 hc2 => ?_)
              | refine OpOk.appendE rfl rfl rfl rfl (by first | exact Rs.rds (by assumption) | exact Rds.up (by assumption) | exact Rds.hasSl (by omega) (by omega) (by first | rfl | (simp; done) | (simp; omega))) (one_u8 _) (by omega) (fun a' c' hc1 hc2 => ?_)
              | refine OpOk.append rfl rfl rfl rfl (by first | exact Rs.rds (by assumption) | exact Rds.up (by assumption) | exact Rds.hasSl (by omega) (by omega) (by first | rfl | (simp; done) | (simp; omega))) (one_u8 _) (by omega) (fun a' c' hc1 hc2 => ?_))
          | (show QOk _ _ _ _ _ _ _; first | refine QOk.load rfl rfl (by first | exact Ld.hasBlk rfl | exact Ld.rs (by assumption) (getMap (by omega)) | exact Ld.rds (by assumption) (getMap (by omega)) | exact Ld.hasSl (getMap (by omega)) | exact Ld.hasBlkAt (getMap (by omega))) ?_ | refine QOk.idx1 rfl rfl rfl (by omega) (by first | exact AOk.hasSl | exact AOk.rs (by assumption) | exact AOk.rds (by assumption) | exact AOk.lit) ?_ | refine QOk.loadRow rfl rfl LdN.hasBlk rfl ?_ | refine QOk.toStr rfl rfl rfl rfl (by first | exact Rs.rds (by assumption) | exact Rds.up (by assumption) | exact Rds.hasSl (by omega) (by omega) (by first | rfl | (simp; done) | (simp; omega))) ?_)
          | (show GJ _ _ _ _ _ _ _; first | (apply GJ.and; exact rfl; intro hg) | (apply GJ.or; exact rfl; intro hg) | refine GJ.t (by omega) ?_ | refine GJ.f (by omega) ?_ | refine GJ.ft (by omega) ?_ | refine GJ.ff (by omega) ?_)
          | (show Br _ _ _; first | with_reducible refine Br.tt ?_ | with_reducible refine Br.ff ?_ | with_reducible refine Br.nt ?_ | with_reducible refine Br.nf ?_ | refine Br.t (by omega) ?_ | refine Br.f (by omega) ?_)
          | (show RetOk _ _ _ _ _ _; refine RetOk.of (by repeat (first | exact RL.nil | refine RL.tmp rfl ?_ | refine RL.row rfl rfl LdN.hasBlk rfl ?_ | refine RL.one rfl rfl (by first | exact Ld.hasBlk rfl | exact Ld.rs (by assumption) (getMap (by omega)) | exact Ld.rds (by assumption) (getMap (by omega)) | exact Ld.hasSl (getMap (by omega)) | exact Ld.hasBlkAt (getMap (by omega))) ?_)) ?_)
          | (show CodeOk _ _ _ _ _ _; refine CodeOk.drawnAuto rfl (by kernel_rfl) rfl (by kernel_rfl) ?_))
        refine readR hB (by omega) (by omega) (fun v many e h7 h8 h9 h10 => ?_)
        rw [hdrop, hpc, rd_enc rest x 0 0 (by simpa using hxb) (.inl rfl)] at h7
        simp only [Nat.zero_add, Nat.mul_zero, Nat.pow_zero, Nat.mul_one] at h7
        cases h7
        rw [← hcs]
        repeat (first
          | refine Stop.mk ?_
          | (show _ ∧ _; first | exact ⟨rfl, rfl, rfl⟩ | refine And.intro (by first | omega | exact u8_range _ | exact add_u8 _ _ (by omega) | exact ⟨⟨Int.emod_nonneg _ (by decide), Int.emod_lt_of_pos _ (by decide)⟩, Int.natCast_nonneg _, Int.lt_of_lt_of_le (u8_range _).2 (by decide)⟩ | exact ⟨⟨Int.emod_nonneg _ (by decide), Int.emod_lt_of_pos _ (by decide)⟩, ⟨Int.emod_nonneg _ (by decide), Int.emod_lt_of_pos _ (by decide)⟩⟩) ?_ | refine And.intro (inferInstanceAs (Suf _ _)) ?_)
          | (show OpOk _ _ _ _ _ _ _; first
              | refine OpOk.load rfl rfl (by first | exact Ld.hasBlk rfl | exact Ld.rs (by assumption) (getMap (by omega)) | exact Ld.rds (by assumption) (getMap (by omega)) | exact Ld.hasSl (getMap (by omega)) | exact Ld.hasBlkAt (getMap (by omega))) ?_
              | refine OpOk.loadRow rfl rfl LdN.hasBlk rfl ?_
              | refine OpOk.store rfl rfl rfl rfl (by repeat (first | exact SetR.hit _ _ _ | apply SetR.miss)) ?_
              | refine OpOk.storeRow rfl rfl rfl rfl (by rfl) rfl ?_
              | refine OpOk.idx1 rfl rfl rfl (by omega) (by first | exact AOk.hasSl | exact AOk.rs (by assumption) | exact AOk.rds (by assumption) | exact AOk.lit) ?_
              | refine OpOk.alloc rfl (fun b => ?_)
              | refine OpOk.box rfl (fun b => ?_)
              | refine OpOk.build rfl rfl (by repeat (first | exact Nf.nil | apply Nf.cons)) ?_
              | refine OpOk.buildSlice1 (by rfl) (by rfl) (by rfl) (by rfl) (by rfl) (fun b => ?_)
              | refine OpOk.toStr rfl rfl rfl rfl (by first | exact Rs.rds (by assumption) | exact Rds.up (by assumption) | exact Rds.hasSl (by omega) (by omega) (by first | rfl | (simp; done) | (simp; omega))) ?_
              | refine OpOk.make1 rfl rfl rfl (by omega) (fun b => ?_)
              | refine OpOk.append1 rfl rfl rfl rfl rfl rfl (by omega) (fun a' c' hc1 hc2 => ?_)
              | refine OpOk.append0 rfl rfl rfl rfl rfl rfl (by omega) (fun a' c' hc1 hc2 => ?_)
              | refine OpOk.appendE rfl rfl rfl rfl (by first | exact Rs.rds (by assumption) | exact Rds.up (by assumption) | exact Rds.hasSl (by omega) (by omega) (by first | rfl | (simp; done) | (simp; omega))) (one_u8 _) (by omega) (fun a' c' hc1 hc2 => ?_)
              | refine OpOk.append rfl rfl rfl rfl (by first | exact Rs.rds (by assumption) | exact Rds.up (by assumption) | exact Rds.hasSl (by omega) (by omega) (by first | rfl | (simp; done) | (simp; omega))) (one_u8 _) (by omega) (fun a' c' hc1 hc2 => ?_))
          | (show QOk _ _ _ _ _ _ _; first | refine QOk.load rfl rfl (by first | exact Ld.hasBlk rfl | exact Ld.rs (by assumption) (getMap (by omega)) | exact Ld.rds (by assumption) (getMap (by omega)) | exact Ld.hasSl (getMap (by omega)) | exact Ld.hasBlkAt (getMap (by omega))) ?_ | refine QOk.idx1 rfl rfl rfl (by omega) (by first | exact AOk.hasSl | exact AOk.rs (by assumption) | exact AOk.rds (by assumption) | exact AOk.lit) ?_ | refine QOk.loadRow rfl rfl LdN.hasBlk rfl ?_ | refine QOk.toStr rfl rfl rfl rfl (by first | exact Rs.rds (by assumption) | exact Rds.up (by assumption) | exact Rds.hasSl (by omega) (by omega) (by first | rfl | (simp; done) | (simp; omega))) ?_)
          | (show GJ _ _ _ _ _ _ _; first | (apply GJ.and; exact rfl; intro hg) | (apply GJ.or; exact rfl; intro hg) | refine GJ.t (by omega) ?_ | refine GJ.f (by omega) ?_ | refine GJ.ft (by omega) ?_ | refine GJ.ff (by omega) ?_)
          | (show Br _ _ _; first | with_reducible refine Br.tt ?_ | with_reducible refine Br.ff ?_ | with_reducible refine Br.nt ?_ | with_reducible refine Br.nf ?_ | refine Br.t (by omega) ?_ | refine Br.f (by omega) ?_)
          | (show RetOk _ _ _ _ _ _; refine RetOk.of (by repeat (first | exact RL.nil | refine RL.tmp rfl ?_ | refine RL.row rfl rfl LdN.hasBlk rfl ?_ | refine RL.one rfl rfl (by first | exact Ld.hasBlk rfl | exact Ld.rs (by assumption) (getMap (by omega)) | exact Ld.rds (by assumption) (getMap (by omega)) | exact Ld.hasSl (getMap (by omega)) | exact Ld.hasBlkAt (getMap (by omega))) ?_)) ?_)
          | (show CodeOk _ _ _ _ _ _; refine CodeOk.drawnAuto rfl (by kernel_rfl) rfl (by kernel_rfl) ?_))
        refine Wk.id ⟨j + 1, ⟨rfl, ?_⟩, ?_, (by repeat (first | exact trivial | refine Sub.cons rfl ?_ | refine Sub.consE rfl (congrArg (Value.int _) (by omega)) ?_)), (by repeat (first | exact Sup.all _ | exact Sup.nil _ | refine Sup.cons (by first | exact Take.hit _ _ | exact Take.miss _ (Take.hit _ _) | exact Take.miss _ (Take.miss _ (Take.hit _ _)) | exact Take.miss _ (Take.miss _ (Take.miss _ (Take.hit _ _))) | exact Take.miss _ (Take.miss _ (Take.miss _ (Take.miss _ (Take.hit _ _)))) | exact Take.miss _ (Take.miss _ (Take.miss _ (Take.miss _ (Take.miss _ (Take.hit _ _))))) | exact Take.miss _ (Take.miss _ (Take.miss _ (Take.miss _ (Take.miss _ (Take.miss _ (Take.hit _ _))))))) ?_ | refine Sup.nilc ?_ | refine Sup.drop _ ?_))⟩
        all_goals try dsimp only
        · omega
        · omega
    · obtain rfl : j = i := by omega
      repeat (first
        | refine Stop.mk ?_
        | (show _ ∧ _; first | exact ⟨rfl, rfl, rfl⟩ | refine And.intro (by first | omega | exact u8_range _ | exact add_u8 _ _ (by omega) | exact ⟨⟨Int.emod_nonneg _ (by decide), Int.emod_lt_of_pos _ (by decide)⟩, Int.natCast_nonneg _, Int.lt_of_lt_of_le (u8_range _).2 (by decide)⟩ | exact ⟨⟨Int.emod_nonneg _ (by decide), Int.emod_lt_of_pos _ (by decide)⟩, ⟨Int.emod_nonneg _ (by decide), Int.emod_lt_of_pos _ (by decide)⟩⟩) ?_ | refine And.intro (inferInstanceAs (Suf _ _)) ?_)
        | (show OpOk _ _ _ _ _ _ _; first
            | refine OpOk.load rfl rfl (by first | exact Ld.hasBlk rfl | exact Ld.rs (by assumption) (getMap (by omega)) | exact Ld.rds (by assumption) (getMap (by omega)) | exact Ld.hasSl (getMap (by omega)) | exact Ld.hasBlkAt (getMap (by omega))) ?_
            | refine OpOk.loadRow rfl rfl LdN.hasBlk rfl ?_
            | refine OpOk.store rfl rfl rfl rfl (by repeat (first | exact SetR.hit _ _ _ | apply SetR.miss)) ?_
            | refine OpOk.storeRow rfl rfl rfl rfl (by rfl) rfl ?_
            | refine OpOk.idx1 rfl rfl rfl (by omega) (by first | exact AOk.hasSl | exact AOk.rs (by assumption) | exact AOk.rds (by assumption) | exact AOk.lit) ?_
            | refine OpOk.alloc rfl (fun b => ?_)
            | refine OpOk.box rfl (fun b => ?_)
            | refine OpOk.build rfl rfl (by repeat (first | exact Nf.nil | apply Nf.cons)) ?_
            | refine OpOk.buildSlice1 (by rfl) (by rfl) (by rfl) (by rfl) (by rfl) (fun b => ?_)
            | refine OpOk.toStr rfl rfl rfl rfl (by first | exact Rs.rds (by assumption) | exact Rds.up (by assumption) | exact Rds.hasSl (by omega) (by omega) (by first | rfl | (simp; done) | (simp; omega))) ?_
            | refine OpOk.make1 rfl rfl rfl (by omega) (fun b => ?_)
            | refine OpOk.append1 rfl rfl rfl rfl rfl rfl (by omega) (fun a' c' hc1 hc2 => ?_)
            | refine OpOk.append0 rfl rfl rfl rfl rfl rfl (by omega) (fun a' c' hc1 hc2 => ?_)
            | refine OpOk.appendE rfl rfl rfl rfl (by first | exact Rs.rds (by assumption) | exact Rds.up (by assumption) | exact Rds.hasSl (by omega) (by omega) (by first | rfl | (simp; done) | (simp; omega))) (one_u8 _) (by omega) (fun a' c' hc1 hc2 => ?_)
            | refine OpOk.append rfl rfl rfl rfl (by first | exact Rs.rds (by assumption) | exact Rds.up (by assumption) | exact Rds.hasSl (by omega) (by omega) (by first | rfl | (simp; done) | (simp; omega))) (one_u8 _) (by omega) (fun a' c' hc1 hc2 => ?_))
        | (show QOk _ _ _ _ _ _ _; first | refine QOk.load rfl rfl (by first | exact Ld.hasBlk rfl | exact Ld.rs (by assumption) (getMap (by omega)) | exact Ld.rds (by assumption) (getMap (by omega)) | exact Ld.hasSl (getMap (by omega)) | exact Ld.hasBlkAt (getMap (by omega))) ?_ | refine QOk.idx1 rfl rfl rfl (by omega) (by first | exact AOk.hasSl | exact AOk.rs (by assumption) | exact AOk.rds (by assumption) | exact AOk.lit) ?_ | refine QOk.loadRow rfl rfl LdN.hasBlk rfl ?_ | refine QOk.toStr rfl rfl rfl rfl (by first | exact Rs.rds (by assumption) | exact Rds.up (by assumption) | exact Rds.hasSl (by omega) (by omega) (by first | rfl | (simp; done) | (simp; omega))) ?_)
        | (show GJ _ _ _ _ _ _ _; first | (apply GJ.and; exact rfl; intro hg) | (apply GJ.or; exact rfl; intro hg) | refine GJ.t (by omega) ?_ | refine GJ.f (by omega) ?_ | refine GJ.ft (by omega) ?_ | refine GJ.ff (by omega) ?_)
        | (show Br _ _ _; first | with_reducible refine Br.tt ?_ | with_reducible refine Br.ff ?_ | with_reducible refine Br.nt ?_ | with_reducible refine Br.nf ?_ | refine Br.t (by omega) ?_ | refine Br.f (by omega) ?_)
        | (show RetOk _ _ _ _ _ _; refine RetOk.of (by repeat (first | exact RL.nil | refine RL.tmp rfl ?_ | refine RL.row rfl rfl LdN.hasBlk rfl ?_ | refine RL.one rfl rfl (by first | exact Ld.hasBlk rfl | exact Ld.rs (by assumption) (getMap (by omega)) | exact Ld.rds (by assumption) (getMap (by omega)) | exact Ld.hasSl (getMap (by omega)) | exact Ld.hasBlkAt (getMap (by omega))) ?_)) ?_)
        | (show CodeOk _ _ _ _ _ _; refine CodeOk.drawnAuto rfl (by kernel_rfl) rfl (by kernel_rfl) ?_))
      refine left_ok (by omega) (by omega) ?_
      repeat (first
        | refine Stop.mk ?_
        | (show _ ∧ _; first | exact ⟨rfl, rfl, rfl⟩ | refine And.intro (by first | omega | exact u8_range _ | exact add_u8 _ _ (by omega) | exact ⟨⟨Int.emod_nonneg _ (by decide), Int.emod_lt_of_pos _ (by decide)⟩, Int.natCast_nonneg _, Int.lt_of_lt_of_le (u8_range _).2 (by decide)⟩ | exact ⟨⟨Int.emod_nonneg _ (by decide), Int.emod_lt_of_pos _ (by decide)⟩, ⟨Int.emod_nonneg _ (by decide), Int.emod_lt_of_pos _ (by decide)⟩⟩) ?_ | refine And.intro (inferInstanceAs (Suf _ _)) ?_)
        | (show OpOk _ _ _ _ _ _ _; first
            | refine OpOk.load rfl rfl (by first | exact Ld.hasBlk rfl | exact Ld.rs (by assumption) (getMap (by omega)) | exact Ld.rds (by assumption) (getMap (by omega)) | exact Ld.hasSl (getMap (by omega)) | exact Ld.hasBlkAt (getMap (by omega))) ?_
            | refine OpOk.loadRow rfl rfl LdN.hasBlk rfl ?_
            | refine OpOk.store rfl rfl rfl rfl (by repeat (first | exact SetR.hit _ _ _ | apply SetR.miss)) ?_
            | refine OpOk.storeRow rfl rfl rfl rfl (by rfl) rfl ?_
            | refine OpOk.idx1 rfl rfl rfl (by omega) (by first | exact AOk.hasSl | exact AOk.rs (by assumption) | exact AOk.rds (by assumption) | exact AOk.lit) ?_
            | refine OpOk.alloc rfl (fun b => ?_)
            | refine OpOk.box rfl (fun b => ?_)
            | refine OpOk.build rfl rfl (by repeat (first | exact Nf.nil | apply Nf.cons)) ?_
            | refine OpOk.buildSlice1 (by rfl) (by rfl) (by rfl) (by rfl) (by rfl) (fun b => ?_)
            | refine OpOk.toStr rfl rfl rfl rfl (by first | exact Rs.rds (by assumption) | exact Rds.up (by assumption) | exact Rds.hasSl (by omega) (by omega) (by first | rfl | (simp; done) | (simp; omega))) ?_
            | refine OpOk.make1 rfl rfl rfl (by omega) (fun b => ?_)
            | refine OpOk.append1 rfl rfl rfl rfl rfl rfl (by omega) (fun a' c' hc1 hc2 => ?_)
            | refine OpOk.append0 rfl rfl rfl rfl rfl rfl (by omega) (fun a' c' hc1 hc2 => ?_)
            | refine OpOk.appendE rfl rfl rfl rfl (by first | exact Rs.rds (by assumption) | exact Rds.up (by assumption) | exact Rds.hasSl (by omega) (by omega) (by first | rfl | (simp; done) | (simp; omega))) (one_u8 _) (by omega) (fun a' c' hc1 hc2 => ?_)
            | refine OpOk.append rfl rfl rfl rfl (by first | exact Rs.rds (by assumption) | exact Rds.up (by assumption) | exact Rds.hasSl (by omega) (by omega) (by first | rfl | (simp; done) | (simp; omega))) (one_u8 _) (by omega) (fun a' c' hc1 hc2 => ?_))
        | (show QOk _ _ _ _ _ _ _; first | refine QOk.load rfl rfl (by first | exact Ld.hasBlk rfl | exact Ld.rs (by assumption) (getMap (by omega)) | exact Ld.rds (by assumption) (getMap (by omega)) | exact Ld.hasSl (getMap (by omega)) | exact Ld.hasBlkAt (getMap (by omega))) ?_ | refine QOk.idx1 rfl rfl rfl (by omega) (by first | exact AOk.hasSl | exact AOk.rs (by assumption) | exact AOk.rds (by assumption) | exact AOk.lit) ?_ | refine QOk.loadRow rfl rfl LdN.hasBlk rfl ?_ | refine QOk.toStr rfl rfl rfl rfl (by first | exact Rs.rds (by assumption) | exact Rds.up (by assumption) | exact Rds.hasSl (by omega) (by omega) (by first | rfl | (simp; done) | (simp; omega))) ?_)
        | (show GJ _ _ _ _ _ _ _; first | (apply GJ.and; exact rfl; intro hg) | (apply GJ.or; exact rfl; intro hg) | refine GJ.t (by omega) ?_ | refine GJ.f (by omega) ?_ | refine GJ.ft (by omega) ?_ | refine GJ.ff (by omega) ?_)
        | (show Br _ _ _; first | with_reducible refine Br.tt ?_ | with_reducible refine Br.ff ?_ | with_reducible refine Br.nt ?_ | with_reducible refine Br.nf ?_ | refine Br.t (by omega) ?_ | refine Br.f (by omega) ?_)
        | (show RetOk _ _ _ _ _ _; refine RetOk.of (by repeat (first | exact RL.nil | refine RL.tmp rfl ?_ | refine RL.row rfl rfl LdN.hasBlk rfl ?_ | refine RL.one rfl rfl (by first | exact Ld.hasBlk rfl | exact Ld.rs (by assumption) (getMap (by omega)) | exact Ld.rds (by assumption) (getMap (by omega)) | exact Ld.hasSl (getMap (by omega)) | exact Ld.hasBlkAt (getMap (by omega))) ?_)) ?_)
        | (show CodeOk _ _ _ _ _ _; refine CodeOk.drawnAuto rfl (by kernel_rfl) rfl (by kernel_rfl) ?_))
      refine Wk.backB ?_ (by repeat (first | exact Sup.all _ | exact Sup.nil _ | refine Sup.cons (by first | exact Take.hit _ _ | exact Take.miss _ (Take.hit _ _) | exact Take.miss _ (Take.miss _ (Take.hit _ _)) | exact Take.miss _ (Take.miss _ (Take.miss _ (Take.hit _ _))) | exact Take.miss _ (Take.miss _ (Take.miss _ (Take.miss _ (Take.hit _ _)))) | exact Take.miss _ (Take.miss _ (Take.miss _ (Take.miss _ (Take.miss _ (Take.hit _ _))))) | exact Take.miss _ (Take.miss _ (Take.miss _ (Take.miss _ (Take.miss _ (Take.miss _ (Take.hit _ _))))))) ?_ | refine Sup.nilc ?_ | refine Sup.drop _ ?_)) (.refl _) hk
      simp; omega
end
end Go.Proofs.Ytpajhgnkagifbaa
