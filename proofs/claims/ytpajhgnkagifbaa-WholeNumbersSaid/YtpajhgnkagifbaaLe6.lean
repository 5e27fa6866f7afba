/- Contract of the document's Read. -/
import Derived.Test.YtpajhgnkagifbaaLe5
namespace Go.Proofs.Ytpajhgnkagifbaa
open Go Go.E
set_option linter.unusedVariables false
set_option maxRecDepth 10000
section
variable {ro : Ro} {own : Chs} {K : Value → Ro → Chs → Prop} {f : Chunk → Chs}
/-- The number of bytes of seven bits, the lowest first. -/
def low : List UInt8 → Nat
  | [] => 0
  | c :: r => c.toNat % 128 + 128 * low r
theorem low_snoc : ∀ (l : List UInt8) (c : UInt8), low (l ++ [c]) = more (low l) l.length c
  | [], c => by simp [low, more]
  | d :: l, c => by
    have := low_snoc l c
    simp only [List.cons_append, low, this, more, List.length_cons]
    have e : 2 ^ (7 * (l.length + 1)) = 128 * 2 ^ (7 * l.length) := by rw [Nat.mul_add, Nat.pow_add]; omega
    rw [e, Nat.mul_add, ← Nat.add_assoc]
    congr 1
    rw [← Nat.mul_assoc, ← Nat.mul_assoc, Nat.mul_comm 128]
theorem take_snoc {l : List UInt8} {k : Nat} (h : k < l.length) : l.take (k + 1) = l.take k ++ [l[k]!] := by
  rw [List.take_add_one, List.getElem?_eq_getElem h, List.getElem!_eq_getElem?_getD, List.getElem?_eq_getElem h]; rfl
theorem low_lt : ∀ (l : List UInt8), low l < 2 ^ (7 * l.length)
  | [] => by simp [low]
  | c :: l => by
    have := low_lt l
    have e : 2 ^ (7 * (l.length + 1)) = 128 * 2 ^ (7 * l.length) := by rw [Nat.mul_add, Nat.pow_add]; omega
    simp only [low, List.length_cons, e]; omega
theorem low_drop : ∀ (k : Nat) (l : List UInt8), low (l.drop k) * 2 ^ (7 * k) ≤ low l
  | 0, l => by simp
  | k + 1, [] => by simp [low]
  | k + 1, c :: l => by
    have h := low_drop k l
    have e : 2 ^ (7 * (k + 1)) = 128 * 2 ^ (7 * k) := by rw [Nat.mul_add, Nat.pow_add]; omega
    simp only [List.drop_succ_cons, low, e]
    have : low (List.drop k l) * (128 * 2 ^ (7 * k)) = 128 * (low (List.drop k l) * 2 ^ (7 * k)) := by rw [← Nat.mul_assoc, Nat.mul_comm _ 128, Nat.mul_assoc]
    omega
theorem low_drop_le (k : Nat) (l : List UInt8) : low (l.drop k) ≤ low l := Nat.le_trans (Nat.le_mul_of_pos_right _ (Nat.two_pow_pos _)) (low_drop k l)
theorem rread_ok {n c : Nat} {a : Option Addr} {l : List UInt8} {len : Bool} (hr : Bys ro a n c l) (hn : n ≤ 1000000000)
    (hk : ∀ v many e : Nat, rd len 0 0 l = (v, many, e) → v < 18446744073709551616 → many ≤ n → e < 1000 → K (.tuple #[.int .u64 v, .int .i64 many, .int .i64 e]) ro own) :
    CallOk Try.prog 35 #[.slice a n c, .bool len] ro own K := by
  have hl := hr.n
  refine CallOk.intro (args := [_, _]) (rs := [_, _, _]) T_ok Try.func35 Try.call35 rfl rfl (by kernel_rfl) rfl rfl ?_
  repeat (first
    | refine Stop.mk ?_
    | (show _ ∧ _; first | exact ⟨rfl, rfl, rfl⟩ | refine And.intro (by first | omega | exact u8_range _ | exact add_u8 _ _ (by omega) | exact ⟨⟨Int.emod_nonneg _ (by decide), Int.emod_lt_of_pos _ (by decide)⟩, Int.natCast_nonneg _, Int.lt_of_lt_of_le (u8_range _).2 (by decide)⟩ | exact ⟨⟨Int.emod_nonneg _ (by decide), Int.emod_lt_of_pos _ (by decide)⟩, ⟨Int.emod_nonneg _ (by decide), Int.emod_lt_of_pos _ (by decide)⟩⟩) ?_ | refine And.intro (inferInstanceAs (Suf _ _)) ?_)
    | (show OpOk _ _ _ _ _ _ _; first
        | refine OpOk.load rfl rfl (by first | exact Ld.hasBlk rfl | exact Ld.rs (by assumption) (getMap (by omega)) | exact Ld.rds (by assumption) (getMap (by omega)) | exact Ld.hasSl (getMap (by omega)) | exact Ld.hasBlkAt (getMap (by omega))) ?_
        | refine OpOk.loadRow rfl rfl LdN.hasBlk rfl ?_
        | refine OpOk.store rfl rfl rfl rfl (by repeat (first | exact SetR.hit _ _ _ | apply SetR.miss)) ?_
        | refine OpOk.storeRow rfl rfl rfl rfl (by rfl) rfl ?_
        | refine OpOk.idx1 rfl rfl rfl (by omega) (by first | exact AOk.hasSl | exact AOk.rs (by assumption) | exact AOk.rds (by assumption) | exact AOk.lit) ?_
        | refine OpOk.alloc rfl (fun b => ?_)
        | refine OpOk.box rfl (fun b => ?_)
        | refine OpOk.build rfl rfl (by repeat (first | exact Nf.nil | apply Nf.cons)) ?_
        | refine OpOk.buildSlice1 (by rfl) (by rfl) (by rfl) (by rfl) (by rfl) (fun b => ?_)
        | refine OpOk.toStr rfl rfl rfl rfl (by first | exact Rs.rds (by assumption) | exact Rds.up (by assumption) | exact Rds.hasSl (by omega) (by omega) (by first | rfl | (simp; done) | (simp; omega))) ?_
        | refine OpOk.make1 rfl rfl rfl (by omega) (fun b => ?_)
        | refine OpOk.append1 rfl rfl rfl rfl rfl rfl (by omega) (fun a' c' hc1 hc2 => ?_)
        | refine OpOk.append0 rfl rfl rfl rfl rfl rfl (by omega) (fun a' c' hc1 hc2 => ?_)
        | refine OpOk.appendE rfl rfl rfl rfl (by first | exact Rs.rds (by assumption) | exact Rds.up (by assumption) | exact Rds.hasSl (by omega) (by omega) (by first | rfl | (simp; done) | (simp; omega))) (one_u8 _) (by omega) (fun a' c' hc1 hc2 => ?_)
        | refine OpOk.append rfl rfl rfl rfl (by first | exact Rs.rds (by assumption) | exact Rds.up (by assumption) | exact Rds.hasSl (by omega) (by omega) (by first | rfl | (simp; done) | (simp; omega))) (one_u8 _) (by omega) (fun a' c' hc1 hc2 => ?_))
    | (show QOk _ _ _ _ _ _ _; first | refine QOk.load rfl rfl (by first | exact Ld.hasBlk rfl | exact Ld.rs (by assumption) (getMap (by omega)) | exact Ld.rds (by assumption) (getMap (by omega)) | exact Ld.hasSl (getMap (by omega)) | exact Ld.hasBlkAt (getMap (by omega))) ?_ | refine QOk.idx1 rfl rfl rfl (by omega) (by first | exact AOk.hasSl | exact AOk.rs (by assumption) | exact AOk.rds (by assumption) | exact AOk.lit) ?_ | refine QOk.loadRow rfl rfl LdN.hasBlk rfl ?_ | refine QOk.toStr rfl rfl rfl rfl (by first | exact Rs.rds (by assumption) | exact Rds.up (by assumption) | exact Rds.hasSl (by omega) (by omega) (by first | rfl | (simp; done) | (simp; omega))) ?_)
    | (show GJ _ _ _ _ _ _ _; first | (apply GJ.and; exact rfl; intro hg) | (apply GJ.or; exact rfl; intro hg) | refine GJ.t (by omega) ?_ | refine GJ.f (by omega) ?_ | refine GJ.ft (by omega) ?_ | refine GJ.ff (by omega) ?_)
    | (show Br _ _ _; first | with_reducible refine Br.tt ?_ | with_reducible refine Br.ff ?_ | with_reducible refine Br.nt ?_ | with_reducible refine Br.nf ?_ | refine Br.t (by omega) ?_ | refine Br.f (by omega) ?_)
    | (show RetOk _ _ _ _ _ _; refine RetOk.of (by repeat (first | exact RL.nil | refine RL.tmp rfl ?_ | refine RL.row rfl rfl LdN.hasBlk rfl ?_ | refine RL.one rfl rfl (by first | exact Ld.hasBlk rfl | exact Ld.rs (by assumption) (getMap (by omega)) | exact Ld.rds (by assumption) (getMap (by omega)) | exact Ld.hasSl (getMap (by omega)) | exact Ld.hasBlkAt (getMap (by omega))) ?_)) ?_)
    | (show CodeOk _ _ _ _ _ _; refine CodeOk.drawnAuto rfl (by kernel_rfl) rfl (by kernel_rfl) ?_))
  refine LoopOk.at (ι := Nat) (by repeat (first | exact Keep.nil _ | apply Keep.skip (by rfl) | apply Keep.keep (by rfl) | apply Keep.args (by rfl))) (fun j => [(7, .int .i64 (j : Int))]) (fun j => own) (fun j => j ≤ n ∧ j ≤ 10 ∧ (j ≤ 9 → rd len 0 0 l = rd len j (low (l.take j)) (l.drop j)) ∧ (j = 10 → rd len 0 0 l = (0, 0, 20))) (fun j => (10 - j)) 0 ?_ (by repeat (first | exact trivial | refine Sub.cons rfl ?_ | refine Sub.consE rfl (congrArg (Value.int _) (by omega)) ?_)) (by repeat (first | exact Sup.all _ | exact Sup.nil _ | refine Sup.cons (by first | exact Take.hit _ _ | exact Take.miss _ (Take.hit _ _) | exact Take.miss _ (Take.miss _ (Take.hit _ _)) | exact Take.miss _ (Take.miss _ (Take.miss _ (Take.hit _ _))) | exact Take.miss _ (Take.miss _ (Take.miss _ (Take.miss _ (Take.hit _ _)))) | exact Take.miss _ (Take.miss _ (Take.miss _ (Take.miss _ (Take.miss _ (Take.hit _ _))))) | exact Take.miss _ (Take.miss _ (Take.miss _ (Take.miss _ (Take.miss _ (Take.miss _ (Take.hit _ _))))))) ?_ | refine Sup.nilc ?_ | refine Sup.drop _ ?_)) ?_
  · exact ⟨by omega, by omega, fun _ => by simp [low], fun h => by omega⟩
  rintro j ⟨i1, i2, i3, i4⟩
  dsimp only [List.cons_append, List.nil_append]
  repeat (first
    | refine Stop.mk ?_
    | (show _ ∧ _; first | exact ⟨rfl, rfl, rfl⟩ | refine And.intro (by first | omega | exact u8_range _ | exact add_u8 _ _ (by omega) | exact ⟨⟨Int.emod_nonneg _ (by decide), Int.emod_lt_of_pos _ (by decide)⟩, Int.natCast_nonneg _, Int.lt_of_lt_of_le (u8_range _).2 (by decide)⟩ | exact ⟨⟨Int.emod_nonneg _ (by decide), Int.emod_lt_of_pos _ (by decide)⟩, ⟨Int.emod_nonneg _ (by decide), Int.emod_lt_of_pos _ (by decide)⟩⟩) ?_ | refine And.intro (inferInstanceAs (Suf _ _)) ?_)
    | (show OpOk _ _ _ _ _ _ _; first
        | refine OpOk.load rfl rfl (by first | exact Ld.hasBlk rfl | exact Ld.rs (by assumption) (getMap (by omega)) | exact Ld.rds (by assumption) (getMap (by omega)) | exact Ld.hasSl (getMap (by omega)) | exact Ld.hasBlkAt (getMap (by omega))) ?_
        | refine OpOk.loadRow rfl rfl LdN.hasBlk rfl ?_
        | refine OpOk.store rfl rfl rfl rfl (by repeat (first | exact SetR.hit _ _ _ | apply SetR.miss)) ?_
        | refine OpOk.storeRow rfl rfl rfl rfl (by rfl) rfl ?_
        | refine OpOk.idx1 rfl rfl rfl (by omega) (by first | exact AOk.hasSl | exact AOk.rs (by assumption) | exact AOk.rds (by assumption) | exact AOk.lit) ?_
        | refine OpOk.alloc rfl (fun b => ?_)
        | refine OpOk.box rfl (fun b => ?_)
        | refine OpOk.build rfl rfl (by repeat (first | exact Nf.nil | apply Nf.cons)) ?_
        | refine OpOk.buildSlice1 (by rfl) (by rfl) (by rfl) (by rfl) (by rfl) (fun b => ?_)
        | refine OpOk.toStr rfl rfl rfl rfl (by first | exact Rs.rds (by assumption) | exact Rds.up (by assumption) | exact Rds.hasSl (by omega) (by omega) (by first | rfl | (simp; done) | (simp; omega))) ?_
        | refine OpOk.make1 rfl rfl rfl (by omega) (fun b => ?_)
        | refine OpOk.append1 rfl rfl rfl rfl rfl rfl (by omega) (fun a' c' hc1 hc2 => ?_)
        | refine OpOk.append0 rfl rfl rfl rfl rfl rfl (by omega) (fun a' c' hc1 hc2 => ?_)
        | refine OpOk.appendE rfl rfl rfl rfl (by first | exact Rs.rds (by assumption) | exact Rds.up (by assumption) | exact Rds.hasSl (by omega) (by omega) (by first | rfl | (simp; done) | (simp; omega))) (one_u8 _) (by omega) (fun a' c' hc1 hc2 => ?_)
        | refine OpOk.append rfl rfl rfl rfl (by first | exact Rs.rds (by assumption) | exact Rds.up (by assumption) | exact Rds.hasSl (by omega) (by omega) (by first | rfl | (simp; done) | (simp; omega))) (one_u8 _) (by omega) (fun a' c' hc1 hc2 => ?_))
    | (show QOk _ _ _ _ _ _ _; first | refine QOk.load rfl rfl (by first | exact Ld.hasBlk rfl | exact Ld.rs (by assumption) (getMap (by omega)) | exact Ld.rds (by assumption) (getMap (by omega)) | exact Ld.hasSl (getMap (by omega)) | exact Ld.hasBlkAt (getMap (by omega))) ?_ | refine QOk.idx1 rfl rfl rfl (by omega) (by first | exact AOk.hasSl | exact AOk.rs (by assumption) | exact AOk.rds (by assumption) | exact AOk.lit) ?_ | refine QOk.loadRow rfl rfl LdN.hasBlk rfl ?_ | refine QOk.toStr rfl rfl rfl rfl (by first | exact Rs.rds (by assumption) | exact Rds.up (by assumption) | exact Rds.hasSl (by omega) (by omega) (by first | rfl | (simp; done) | (simp; omega))) ?_)
    | (show GJ _ _ _ _ _ _ _; first | (apply GJ.and; exact rfl; intro hg) | (apply GJ.or; exact rfl; intro hg) | refine GJ.t (by omega) ?_ | refine GJ.f (by omega) ?_ | refine GJ.ft (by omega) ?_ | refine GJ.ff (by omega) ?_)
    | (show Br _ _ _; first | with_reducible refine Br.tt ?_ | with_reducible refine Br.ff ?_ | with_reducible refine Br.nt ?_ | with_reducible refine Br.nf ?_ | refine Br.t (by omega) ?_ | refine Br.f (by omega) ?_)
    | (show RetOk _ _ _ _ _ _; refine RetOk.of (by repeat (first | exact RL.nil | refine RL.tmp rfl ?_ | refine RL.row rfl rfl LdN.hasBlk rfl ?_ | refine RL.one rfl rfl (by first | exact Ld.hasBlk rfl | exact Ld.rs (by assumption) (getMap (by omega)) | exact Ld.rds (by assumption) (getMap (by omega)) | exact Ld.hasSl (getMap (by omega)) | exact Ld.hasBlkAt (getMap (by omega))) ?_)) ?_)
    | (show CodeOk _ _ _ _ _ _; refine CodeOk.drawnAuto rfl (by kernel_rfl) rfl (by kernel_rfl) ?_))
  refine Br.cases (fun hb => ?_) (fun hb => ?_)
  · simp only [Int.toNat_natCast] at hb
    obtain ⟨⟨hb1, hb2⟩, hb3⟩ := hb
    have h0 : j < l.length := by omega
    have i5 := i3 (by omega)
    rw [drop_get h0, rd] at i5
    repeat (first
      | refine Stop.mk ?_
      | (show _ ∧ _; first | exact ⟨rfl, rfl, rfl⟩ | refine And.intro (by first | omega | exact u8_range _ | exact add_u8 _ _ (by omega) | exact ⟨⟨Int.emod_nonneg _ (by decide), Int.emod_lt_of_pos _ (by decide)⟩, Int.natCast_nonneg _, Int.lt_of_lt_of_le (u8_range _).2 (by decide)⟩ | exact ⟨⟨Int.emod_nonneg _ (by decide), Int.emod_lt_of_pos _ (by decide)⟩, ⟨Int.emod_nonneg _ (by decide), Int.emod_lt_of_pos _ (by decide)⟩⟩) ?_ | refine And.intro (inferInstanceAs (Suf _ _)) ?_)
      | (show OpOk _ _ _ _ _ _ _; first
          | refine OpOk.load rfl rfl (by first | exact Ld.hasBlk rfl | exact Ld.rs (by assumption) (getMap (by omega)) | exact Ld.rds (by assumption) (getMap (by omega)) | exact Ld.hasSl (getMap (by omega)) | exact Ld.hasBlkAt (getMap (by omega))) ?_
          | refine OpOk.loadRow rfl rfl LdN.hasBlk rfl ?_
          | refine OpOk.store rfl rfl rfl rfl (by repeat (first | exact SetR.hit _ _ _ | apply SetR.miss)) ?_
          | refine OpOk.storeRow rfl rfl rfl rfl (by rfl) rfl ?_
          | refine OpOk.idx1 rfl rfl rfl (by omega) (by first | exact AOk.hasSl | exact AOk.rs (by assumption) | exact AOk.rds (by assumption) | exact AOk.lit) ?_
          | refine OpOk.alloc rfl (fun b => ?_)
          | refine OpOk.box rfl (fun b => ?_)
          | refine OpOk.build rfl rfl (by repeat (first | exact Nf.nil | apply Nf.cons)) ?_
          | refine OpOk.buildSlice1 (by rfl) (by rfl) (by rfl) (by rfl) (by rfl) (fun b => ?_)
          | refine OpOk.toStr rfl rfl rfl rfl (by first | exact Rs.rds (by assumption) | exact Rds.up (by assumption) | exact Rds.hasSl (by omega) (by omega) (by first | rfl | (simp; done) | (simp; omega))) ?_
          | refine OpOk.make1 rfl rfl rfl (by omega) (fun b => ?_)
          | refine OpOk.append1 rfl rfl rfl rfl rfl rfl (by omega) (fun a' c' hc1 hc2 => ?_)
          | refine OpOk.append0 rfl rfl rfl rfl rfl rfl (by omega) (fun a' c' hc1 hc2 => ?_)
          | refine OpOk.appendE rfl rfl rfl rfl (by first | exact Rs.rds (by assumption) | exact Rds.up (by assumption) | exact Rds.hasSl (by omega) (by omega) (by first | rfl | (simp; done) | (simp; omega))) (one_u8 _) (by omega) (fun a' c' hc1 hc2 => ?_)
          | refine OpOk.append rfl rfl rfl rfl (by first | exact Rs.rds (by assumption) | exact Rds.up (by assumption) | exact Rds.hasSl (by omega) (by omega) (by first | rfl | (simp; done) | (simp; omega))) (one_u8 _) (by omega) (fun a' c' hc1 hc2 => ?_))
      | (show QOk _ _ _ _ _ _ _; first | refine QOk.load rfl rfl (by first | exact Ld.hasBlk rfl | exact Ld.rs (by assumption) (getMap (by omega)) | exact Ld.rds (by assumption) (getMap (by omega)) | exact Ld.hasSl (getMap (by omega)) | exact Ld.hasBlkAt (getMap (by omega))) ?_ | refine QOk.idx1 rfl rfl rfl (by omega) (by first | exact AOk.hasSl | exact AOk.rs (by assumption) | exact AOk.rds (by assumption) | exact AOk.lit) ?_ | refine QOk.loadRow rfl rfl LdN.hasBlk rfl ?_ | refine QOk.toStr rfl rfl rfl rfl (by first | exact Rs.rds (by assumption) | exact Rds.up (by assumption) | exact Rds.hasSl (by omega) (by omega) (by first | rfl | (simp; done) | (simp; omega))) ?_)
      | (show GJ _ _ _ _ _ _ _; first | (apply GJ.and; exact rfl; intro hg) | (apply GJ.or; exact rfl; intro hg) | refine GJ.t (by omega) ?_ | refine GJ.f (by omega) ?_ | refine GJ.ft (by omega) ?_ | refine GJ.ff (by omega) ?_)
      | (show Br _ _ _; first | with_reducible refine Br.tt ?_ | with_reducible refine Br.ff ?_ | with_reducible refine Br.nt ?_ | with_reducible refine Br.nf ?_ | refine Br.t (by omega) ?_ | refine Br.f (by omega) ?_)
      | (show RetOk _ _ _ _ _ _; refine RetOk.of (by repeat (first | exact RL.nil | refine RL.tmp rfl ?_ | refine RL.row rfl rfl LdN.hasBlk rfl ?_ | refine RL.one rfl rfl (by first | exact Ld.hasBlk rfl | exact Ld.rs (by assumption) (getMap (by omega)) | exact Ld.rds (by assumption) (getMap (by omega)) | exact Ld.hasSl (getMap (by omega)) | exact Ld.hasBlkAt (getMap (by omega))) ?_)) ?_)
      | (show CodeOk _ _ _ _ _ _; refine CodeOk.drawnAuto rfl (by kernel_rfl) rfl (by kernel_rfl) ?_))
    refine Wk.id ⟨j + 1, ⟨rfl, ?_⟩, ?_, (by repeat (first | exact trivial | refine Sub.cons rfl ?_ | refine Sub.consE rfl (congrArg (Value.int _) (by omega)) ?_)), (by repeat (first | exact Sup.all _ | exact Sup.nil _ | refine Sup.cons (by first | exact Take.hit _ _ | exact Take.miss _ (Take.hit _ _) | exact Take.miss _ (Take.miss _ (Take.hit _ _)) | exact Take.miss _ (Take.miss _ (Take.miss _ (Take.hit _ _))) | exact Take.miss _ (Take.miss _ (Take.miss _ (Take.miss _ (Take.hit _ _)))) | exact Take.miss _ (Take.miss _ (Take.miss _ (Take.miss _ (Take.miss _ (Take.hit _ _))))) | exact Take.miss _ (Take.miss _ (Take.miss _ (Take.miss _ (Take.miss _ (Take.miss _ (Take.hit _ _))))))) ?_ | refine Sup.nilc ?_ | refine Sup.drop _ ?_))⟩
    all_goals try dsimp only
    · refine ⟨by omega, by omega, fun h9 => ?_, fun h10 => ?_⟩
      · rw [if_neg (by omega), if_pos (by omega)] at i5
        rw [i5, take_snoc h0, low_snoc, List.length_take, Nat.min_eq_left (by omega)]
      · rw [if_pos (by omega)] at i5
        exact i5
    · omega
  · simp only [Int.toNat_natCast] at hb
    repeat (first
      | refine Stop.mk ?_
      | (show _ ∧ _; first | exact ⟨rfl, rfl, rfl⟩ | refine And.intro (by first | omega | exact u8_range _ | exact add_u8 _ _ (by omega) | exact ⟨⟨Int.emod_nonneg _ (by decide), Int.emod_lt_of_pos _ (by decide)⟩, Int.natCast_nonneg _, Int.lt_of_lt_of_le (u8_range _).2 (by decide)⟩ | exact ⟨⟨Int.emod_nonneg _ (by decide), Int.emod_lt_of_pos _ (by decide)⟩, ⟨Int.emod_nonneg _ (by decide), Int.emod_lt_of_pos _ (by decide)⟩⟩) ?_ | refine And.intro (inferInstanceAs (Suf _ _)) ?_)
      | (show OpOk _ _ _ _ _ _ _; first
          | refine OpOk.load rfl rfl (by first | exact Ld.hasBlk rfl | exact Ld.rs (by assumption) (getMap (by omega)) | exact Ld.rds (by assumption) (getMap (by omega)) | exact Ld.hasSl (getMap (by omega)) | exact Ld.hasBlkAt (getMap (by omega))) ?_
          | refine OpOk.loadRow rfl rfl LdN.hasBlk rfl ?_
          | refine OpOk.store rfl rfl rfl rfl (by repeat (first | exact SetR.hit _ _ _ | apply SetR.miss)) ?_
          | refine OpOk.storeRow rfl rfl rfl rfl (by rfl) rfl ?_
          | refine OpOk.idx1 rfl rfl rfl (by omega) (by first | exact AOk.hasSl | exact AOk.rs (by assumption) | exact AOk.rds (by assumption) | exact AOk.lit) ?_
          | refine OpOk.alloc rfl (fun b => ?_)
          | refine OpOk.box rfl (fun b => ?_)
          | refine OpOk.build rfl rfl (by repeat (first | exact Nf.nil | apply Nf.cons)) ?_
          | refine OpOk.buildSlice1 (by rfl) (by rfl) (by rfl) (by rfl) (by rfl) (fun b => ?_)
          | refine OpOk.toStr rfl rfl rfl rfl (by first | exact Rs.rds (by assumption) | exact Rds.up (by assumption) | exact Rds.hasSl (by omega) (by omega) (by first | rfl | (simp; done) | (simp; omega))) ?_
          | refine OpOk.make1 rfl rfl rfl (by omega) (fun b => ?_)
          | refine OpOk.append1 rfl rfl rfl rfl rfl rfl (by omega) (fun a' c' hc1 hc2 => ?_)
          | refine OpOk.append0 rfl rfl rfl rfl rfl rfl (by omega) (fun a' c' hc1 hc2 => ?_)
          | refine OpOk.appendE rfl rfl rfl rfl (by first | exact Rs.rds (by assumption) | exact Rds.up (by assumption) | exact Rds.hasSl (by omega) (by omega) (by first | rfl | (simp; done) | (simp; omega))) (one_u8 _) (by omega) (fun a' c' hc1 hc2 => ?_)
          | refine OpOk.append rfl rfl rfl rfl (by first | exact Rs.rds (by assumption) | exact Rds.up (by assumption) | exact Rds.hasSl (by omega) (by omega) (by first | rfl | (simp; done) | (simp; omega))) (one_u8 _) (by omega) (fun a' c' hc1 hc2 => ?_))
      | (show QOk _ _ _ _ _ _ _; first | refine QOk.load rfl rfl (by first | exact Ld.hasBlk rfl | exact Ld.rs (by assumption) (getMap (by omega)) | exact Ld.rds (by assumption) (getMap (by omega)) | exact Ld.hasSl (getMap (by omega)) | exact Ld.hasBlkAt (getMap (by omega))) ?_ | refine QOk.idx1 rfl rfl rfl (by omega) (by first | exact AOk.hasSl | exact AOk.rs (by assumption) | exact AOk.rds (by assumption) | exact AOk.lit) ?_ | refine QOk.loadRow rfl rfl LdN.hasBlk rfl ?_ | refine QOk.toStr rfl rfl rfl rfl (by first | exact Rs.rds (by assumption) | exact Rds.up (by assumption) | exact Rds.hasSl (by omega) (by omega) (by first | rfl | (simp; done) | (simp; omega))) ?_)
      | (show GJ _ _ _ _ _ _ _; first | (apply GJ.and; exact rfl; intro hg) | (apply GJ.or; exact rfl; intro hg) | refine GJ.t (by omega) ?_ | refine GJ.f (by omega) ?_ | refine GJ.ft (by omega) ?_ | refine GJ.ff (by omega) ?_)
      | (show Br _ _ _; first | with_reducible refine Br.tt ?_ | with_reducible refine Br.ff ?_ | with_reducible refine Br.nt ?_ | with_reducible refine Br.nf ?_ | refine Br.t (by omega) ?_ | refine Br.f (by omega) ?_)
      | (show RetOk _ _ _ _ _ _; refine RetOk.of (by repeat (first | exact RL.nil | refine RL.tmp rfl ?_ | refine RL.row rfl rfl LdN.hasBlk rfl ?_ | refine RL.one rfl rfl (by first | exact Ld.hasBlk rfl | exact Ld.rs (by assumption) (getMap (by omega)) | exact Ld.rds (by assumption) (getMap (by omega)) | exact Ld.hasSl (getMap (by omega)) | exact Ld.hasBlkAt (getMap (by omega))) ?_)) ?_)
      | (show CodeOk _ _ _ _ _ _; refine CodeOk.drawnAuto rfl (by kernel_rfl) rfl (by kernel_rfl) ?_))
    refine Br.cases (fun hc => ?_) (fun hc => ?_)
    · simp only [Int.reduceToNat] at hc
      repeat (first
        | refine Stop.mk ?_
        | (show _ ∧ _; first | exact ⟨rfl, rfl, rfl⟩ | refine And.intro (by first | omega | exact u8_range _ | exact add_u8 _ _ (by omega) | exact ⟨⟨Int.emod_nonneg _ (by decide), Int.emod_lt_of_pos _ (by decide)⟩, Int.natCast_nonneg _, Int.lt_of_lt_of_le (u8_range _).2 (by decide)⟩ | exact ⟨⟨Int.emod_nonneg _ (by decide), Int.emod_lt_of_pos _ (by decide)⟩, ⟨Int.emod_nonneg _ (by decide), Int.emod_lt_of_pos _ (by decide)⟩⟩) ?_ | refine And.intro (inferInstanceAs (Suf _ _)) ?_)
        | (show OpOk _ _ _ _ _ _ _; first
            | refine OpOk.load rfl rfl (by first | exact Ld.hasBlk rfl | exact Ld.rs (by assumption) (getMap (by omega)) | exact Ld.rds (by assumption) (getMap (by omega)) | exact Ld.hasSl (getMap (by omega)) | exact Ld.hasBlkAt (getMap (by omega))) ?_
            | refine OpOk.loadRow rfl rfl LdN.hasBlk rfl ?_
            | refine OpOk.store rfl rfl rfl rfl (by repeat (first | exact SetR.hit _ _ _ | apply SetR.miss)) ?_
            | refine OpOk.storeRow rfl rfl rfl rfl (by rfl) rfl ?_
            | refine OpOk.idx1 rfl rfl rfl (by omega) (by first | exact AOk.hasSl | exact AOk.rs (by assumption) | exact AOk.rds (by assumption) | exact AOk.lit) ?_
            | refine OpOk.alloc rfl (fun b => ?_)
            | refine OpOk.box rfl (fun b => ?_)
            | refine OpOk.build rfl rfl (by repeat (first | exact Nf.nil | apply Nf.cons)) ?_
            | refine OpOk.buildSlice1 (by rfl) (by rfl) (by rfl) (by rfl) (by rfl) (fun b => ?_)
            | refine OpOk.toStr rfl rfl rfl rfl (by first | exact Rs.rds (by assumption) | exact Rds.up (by assumption) | exact Rds.hasSl (by omega) (by omega) (by first | rfl | (simp; done) | (simp; omega))) ?_
            | refine OpOk.make1 rfl rfl rfl (by omega) (fun b => ?_)
            | refine OpOk.append1 rfl rfl rfl rfl rfl rfl (by omega) (fun a' c' hc1 hc2 => ?_)
            | refine OpOk.append0 rfl rfl rfl rfl rfl rfl (by omega) (fun a' c' hc1 hc2 => ?_)
            | refine OpOk.appendE rfl rfl rfl rfl (by first | exact Rs.rds (by assumption) | exact Rds.up (by assumption) | exact Rds.hasSl (by omega) (by omega) (by first | rfl | (simp; done) | (simp; omega))) (one_u8 _) (by omega) (fun a' c' hc1 hc2 => ?_)
            | refine OpOk.append rfl rfl rfl rfl (by first | exact Rs.rds (by assumption) | exact Rds.up (by assumption) | exact Rds.hasSl (by omega) (by omega) (by first | rfl | (simp; done) | (simp; omega))) (one_u8 _) (by omega) (fun a' c' hc1 hc2 => ?_))
        | (show QOk _ _ _ _ _ _ _; first | refine QOk.load rfl rfl (by first | exact Ld.hasBlk rfl | exact Ld.rs (by assumption) (getMap (by omega)) | exact Ld.rds (by assumption) (getMap (by omega)) | exact Ld.hasSl (getMap (by omega)) | exact Ld.hasBlkAt (getMap (by omega))) ?_ | refine QOk.idx1 rfl rfl rfl (by omega) (by first | exact AOk.hasSl | exact AOk.rs (by assumption) | exact AOk.rds (by assumption) | exact AOk.lit) ?_ | refine QOk.loadRow rfl rfl LdN.hasBlk rfl ?_ | refine QOk.toStr rfl rfl rfl rfl (by first | exact Rs.rds (by assumption) | exact Rds.up (by assumption) | exact Rds.hasSl (by omega) (by omega) (by first | rfl | (simp; done) | (simp; omega))) ?_)
        | (show GJ _ _ _ _ _ _ _; first | (apply GJ.and; exact rfl; intro hg) | (apply GJ.or; exact rfl; intro hg) | refine GJ.t (by omega) ?_ | refine GJ.f (by omega) ?_ | refine GJ.ft (by omega) ?_ | refine GJ.ff (by omega) ?_)
        | (show Br _ _ _; first | with_reducible refine Br.tt ?_ | with_reducible refine Br.ff ?_ | with_reducible refine Br.nt ?_ | with_reducible refine Br.nf ?_ | refine Br.t (by omega) ?_ | refine Br.f (by omega) ?_)
        | (show RetOk _ _ _ _ _ _; refine RetOk.of (by repeat (first | exact RL.nil | refine RL.tmp rfl ?_ | refine RL.row rfl rfl LdN.hasBlk rfl ?_ | refine RL.one rfl rfl (by first | exact Ld.hasBlk rfl | exact Ld.rs (by assumption) (getMap (by omega)) | exact Ld.rds (by assumption) (getMap (by omega)) | exact Ld.hasSl (getMap (by omega)) | exact Ld.hasBlkAt (getMap (by omega))) ?_)) ?_)
        | (show CodeOk _ _ _ _ _ _; refine CodeOk.drawnAuto rfl (by kernel_rfl) rfl (by kernel_rfl) ?_))
      refine Wk.id (hk 0 0 20 ?_ (by omega) (by omega) (by omega))
      rcases hc with ⟨⟨hc1, hc2⟩, hc3⟩ | hc
      · rcases (show j = 9 ∨ j = 10 by omega) with rfl | rfl
        · have i5 := i3 (by omega)
          rw [drop_get (by omega), rd, if_pos (by omega)] at i5
          exact i5
        · exact i4 rfl
      · exact i4 (by omega)
    simp only [Int.reduceToNat] at hc
    have i5 := i3 (by omega)
    repeat (first
      | refine Stop.mk ?_
      | (show _ ∧ _; first | exact ⟨rfl, rfl, rfl⟩ | refine And.intro (by first | omega | exact u8_range _ | exact add_u8 _ _ (by omega) | exact ⟨⟨Int.emod_nonneg _ (by decide), Int.emod_lt_of_pos _ (by decide)⟩, Int.natCast_nonneg _, Int.lt_of_lt_of_le (u8_range _).2 (by decide)⟩ | exact ⟨⟨Int.emod_nonneg _ (by decide), Int.emod_lt_of_pos _ (by decide)⟩, ⟨Int.emod_nonneg _ (by decide), Int.emod_lt_of_pos _ (by decide)⟩⟩) ?_ | refine And.intro (inferInstanceAs (Suf _ _)) ?_)
      | (show OpOk _ _ _ _ _ _ _; first
          | refine OpOk.load rfl rfl (by first | exact Ld.hasBlk rfl | exact Ld.rs (by assumption) (getMap (by omega)) | exact Ld.rds (by assumption) (getMap (by omega)) | exact Ld.hasSl (getMap (by omega)) | exact Ld.hasBlkAt (getMap (by omega))) ?_
          | refine OpOk.loadRow rfl rfl LdN.hasBlk rfl ?_
          | refine OpOk.store rfl rfl rfl rfl (by repeat (first | exact SetR.hit _ _ _ | apply SetR.miss)) ?_
          | refine OpOk.storeRow rfl rfl rfl rfl (by rfl) rfl ?_
          | refine OpOk.idx1 rfl rfl rfl (by omega) (by first | exact AOk.hasSl | exact AOk.rs (by assumption) | exact AOk.rds (by assumption) | exact AOk.lit) ?_
          | refine OpOk.alloc rfl (fun b => ?_)
          | refine OpOk.box rfl (fun b => ?_)
          | refine OpOk.build rfl rfl (by repeat (first | exact Nf.nil | apply Nf.cons)) ?_
          | refine OpOk.buildSlice1 (by rfl) (by rfl) (by rfl) (by rfl) (by rfl) (fun b => ?_)
          | refine OpOk.toStr rfl rfl rfl rfl (by first | exact Rs.rds (by assumption) | exact Rds.up (by assumption) | exact Rds.hasSl (by omega) (by omega) (by first | rfl | (simp; done) | (simp; omega))) ?_
          | refine OpOk.make1 rfl rfl rfl (by omega) (fun b => ?_)
          | refine OpOk.append1 rfl rfl rfl rfl rfl rfl (by omega) (fun a' c' hc1 hc2 => ?_)
          | refine OpOk.append0 rfl rfl rfl rfl rfl rfl (by omega) (fun a' c' hc1 hc2 => ?_)
          | refine OpOk.appendE rfl rfl rfl rfl (by first | exact Rs.rds (by assumption) | exact Rds.up (by assumption) | exact Rds.hasSl (by omega) (by omega) (by first | rfl | (simp; done) | (simp; omega))) (one_u8 _) (by omega) (fun a' c' hc1 hc2 => ?_)
          | refine OpOk.append rfl rfl rfl rfl (by first | exact Rs.rds (by assumption) | exact Rds.up (by assumption) | exact Rds.hasSl (by omega) (by omega) (by first | rfl | (simp; done) | (simp; omega))) (one_u8 _) (by omega) (fun a' c' hc1 hc2 => ?_))
      | (show QOk _ _ _ _ _ _ _; first | refine QOk.load rfl rfl (by first | exact Ld.hasBlk rfl | exact Ld.rs (by assumption) (getMap (by omega)) | exact Ld.rds (by assumption) (getMap (by omega)) | exact Ld.hasSl (getMap (by omega)) | exact Ld.hasBlkAt (getMap (by omega))) ?_ | refine QOk.idx1 rfl rfl rfl (by omega) (by first | exact AOk.hasSl | exact AOk.rs (by assumption) | exact AOk.rds (by assumption) | exact AOk.lit) ?_ | refine QOk.loadRow rfl rfl LdN.hasBlk rfl ?_ | refine QOk.toStr rfl rfl rfl rfl (by first | exact Rs.rds (by assumption) | exact Rds.up (by assumption) | exact Rds.hasSl (by omega) (by omega) (by first | rfl | (simp; done) | (simp; omega))) ?_)
      | (show GJ _ _ _ _ _ _ _; first | (apply GJ.and; exact rfl; intro hg) | (apply GJ.or; exact rfl; intro hg) | refine GJ.t (by omega) ?_ | refine GJ.f (by omega) ?_ | refine GJ.ft (by omega) ?_ | refine GJ.ff (by omega) ?_)
      | (show Br _ _ _; first | with_reducible refine Br.tt ?_ | with_reducible refine Br.ff ?_ | with_reducible refine Br.nt ?_ | with_reducible refine Br.nf ?_ | refine Br.t (by omega) ?_ | refine Br.f (by omega) ?_)
      | (show RetOk _ _ _ _ _ _; refine RetOk.of (by repeat (first | exact RL.nil | refine RL.tmp rfl ?_ | refine RL.row rfl rfl LdN.hasBlk rfl ?_ | refine RL.one rfl rfl (by first | exact Ld.hasBlk rfl | exact Ld.rs (by assumption) (getMap (by omega)) | exact Ld.rds (by assumption) (getMap (by omega)) | exact Ld.hasSl (getMap (by omega)) | exact Ld.hasBlkAt (getMap (by omega))) ?_)) ?_)
      | (show CodeOk _ _ _ _ _ _; refine CodeOk.drawnAuto rfl (by kernel_rfl) rfl (by kernel_rfl) ?_))
    refine Br.cases (fun hd => ?_) (fun hd => ?_)
    · repeat (first
        | refine Stop.mk ?_
        | (show _ ∧ _; first | exact ⟨rfl, rfl, rfl⟩ | refine And.intro (by first | omega | exact u8_range _ | exact add_u8 _ _ (by omega) | exact ⟨⟨Int.emod_nonneg _ (by decide), Int.emod_lt_of_pos _ (by decide)⟩, Int.natCast_nonneg _, Int.lt_of_lt_of_le (u8_range _).2 (by decide)⟩ | exact ⟨⟨Int.emod_nonneg _ (by decide), Int.emod_lt_of_pos _ (by decide)⟩, ⟨Int.emod_nonneg _ (by decide), Int.emod_lt_of_pos _ (by decide)⟩⟩) ?_ | refine And.intro (inferInstanceAs (Suf _ _)) ?_)
        | (show OpOk _ _ _ _ _ _ _; first
            | refine OpOk.load rfl rfl (by first | exact Ld.hasBlk rfl | exact Ld.rs (by assumption) (getMap (by omega)) | exact Ld.rds (by assumption) (getMap (by omega)) | exact Ld.hasSl (getMap (by omega)) | exact Ld.hasBlkAt (getMap (by omega))) ?_
            | refine OpOk.loadRow rfl rfl LdN.hasBlk rfl ?_
            | refine OpOk.store rfl rfl rfl rfl (by repeat (first | exact SetR.hit _ _ _ | apply SetR.miss)) ?_
            | refine OpOk.storeRow rfl rfl rfl rfl (by rfl) rfl ?_
            | refine OpOk.idx1 rfl rfl rfl (by omega) (by first | exact AOk.hasSl | exact AOk.rs (by assumption) | exact AOk.rds (by assumption) | exact AOk.lit) ?_
            | refine OpOk.alloc rfl (fun b => ?_)
            | refine OpOk.box rfl (fun b => ?_)
            | refine OpOk.build rfl rfl (by repeat (first | exact Nf.nil | apply Nf.cons)) ?_
            | refine OpOk.buildSlice1 (by rfl) (by rfl) (by rfl) (by rfl) (by rfl) (fun b => ?_)
            | refine OpOk.toStr rfl rfl rfl rfl (by first | exact Rs.rds (by assumption) | exact Rds.up (by assumption) | exact Rds.hasSl (by omega) (by omega) (by first | rfl | (simp; done) | (simp; omega))) ?_
            | refine OpOk.make1 rfl rfl rfl (by omega) (fun b => ?_)
            | refine OpOk.append1 rfl rfl rfl rfl rfl rfl (by omega) (fun a' c' hc1 hc2 => ?_)
            | refine OpOk.append0 rfl rfl rfl rfl rfl rfl (by omega) (fun a' c' hc1 hc2 => ?_)
            | refine OpOk.appendE rfl rfl rfl rfl (by first | exact Rs.rds (by assumption) | exact Rds.up (by assumption) | exact Rds.hasSl (by omega) (by omega) (by first | rfl | (simp; done) | (simp; omega))) (one_u8 _) (by omega) (fun a' c' hc1 hc2 => ?_)
            | refine OpOk.append rfl rfl rfl rfl (by first | exact Rs.rds (by assumption) | exact Rds.up (by assumption) | exact Rds.hasSl (by omega) (by omega) (by first | rfl | (simp; done) | (simp; omega))) (one_u8 _) (by omega) (fun a' c' hc1 hc2 => ?_))
        | (show QOk _ _ _ _ _ _ _; first | refine QOk.load rfl rfl (by first | exact Ld.hasBlk rfl | exact Ld.rs (by assumption) (getMap (by omega)) | exact Ld.rds (by assumption) (getMap (by omega)) | exact Ld.hasSl (getMap (by omega)) | exact Ld.hasBlkAt (getMap (by omega))) ?_ | refine QOk.idx1 rfl rfl rfl (by omega) (by first | exact AOk.hasSl | exact AOk.rs (by assumption) | exact AOk.rds (by assumption) | exact AOk.lit) ?_ | refine QOk.loadRow rfl rfl LdN.hasBlk rfl ?_ | refine QOk.toStr rfl rfl rfl rfl (by first | exact Rs.rds (by assumption) | exact Rds.up (by assumption) | exact Rds.hasSl (by omega) (by omega) (by first | rfl | (simp; done) | (simp; omega))) ?_)
        | (show GJ _ _ _ _ _ _ _; first | (apply GJ.and; exact rfl; intro hg) | (apply GJ.or; exact rfl; intro hg) | refine GJ.t (by omega) ?_ | refine GJ.f (by omega) ?_ | refine GJ.ft (by omega) ?_ | refine GJ.ff (by omega) ?_)
        | (show Br _ _ _; first | with_reducible refine Br.tt ?_ | with_reducible refine Br.ff ?_ | with_reducible refine Br.nt ?_ | with_reducible refine Br.nf ?_ | refine Br.t (by omega) ?_ | refine Br.f (by omega) ?_)
        | (show RetOk _ _ _ _ _ _; refine RetOk.of (by repeat (first | exact RL.nil | refine RL.tmp rfl ?_ | refine RL.row rfl rfl LdN.hasBlk rfl ?_ | refine RL.one rfl rfl (by first | exact Ld.hasBlk rfl | exact Ld.rs (by assumption) (getMap (by omega)) | exact Ld.rds (by assumption) (getMap (by omega)) | exact Ld.hasSl (getMap (by omega)) | exact Ld.hasBlkAt (getMap (by omega))) ?_)) ?_)
        | (show CodeOk _ _ _ _ _ _; refine CodeOk.drawnAuto rfl (by kernel_rfl) rfl (by kernel_rfl) ?_))
      refine Wk.id (hk 0 0 10 ?_ (by omega) (by omega) (by omega))
      rw [i5, List.drop_eq_nil_of_le (by omega)]; rfl
    have h0 : j < l.length := by omega
    have hb' : ¬ 128 ≤ (l[j]!).toNat := fun h => hb ⟨⟨by omega, by omega⟩, by omega⟩
    have hc9 : ¬ (j = 9 ∧ 1 < (l[j]!).toNat) := by
      rintro ⟨rfl, h⟩
      exact hc (.inl ⟨⟨by omega, by omega⟩, by omega⟩)
    rw [drop_get h0, rd, if_neg (by omega), if_neg (by omega)] at i5
    repeat (first
      | refine Stop.mk ?_
      | (show _ ∧ _; first | exact ⟨rfl, rfl, rfl⟩ | refine And.intro (by first | omega | exact u8_range _ | exact add_u8 _ _ (by omega) | exact ⟨⟨Int.emod_nonneg _ (by decide), Int.emod_lt_of_pos _ (by decide)⟩, Int.natCast_nonneg _, Int.lt_of_lt_of_le (u8_range _).2 (by decide)⟩ | exact ⟨⟨Int.emod_nonneg _ (by decide), Int.emod_lt_of_pos _ (by decide)⟩, ⟨Int.emod_nonneg _ (by decide), Int.emod_lt_of_pos _ (by decide)⟩⟩) ?_ | refine And.intro (inferInstanceAs (Suf _ _)) ?_)
      | (show OpOk _ _ _ _ _ _ _; first
          | refine OpOk.load rfl rfl (by first | exact Ld.hasBlk rfl | exact Ld.rs (by assumption) (getMap (by omega)) | exact Ld.rds (by assumption) (getMap (by omega)) | exact Ld.hasSl (getMap (by omega)) | exact Ld.hasBlkAt (getMap (by omega))) ?_
          | refine OpOk.loadRow rfl rfl LdN.hasBlk rfl ?_
          | refine OpOk.store rfl rfl rfl rfl (by repeat (first | exact SetR.hit _ _ _ | apply SetR.miss)) ?_
          | refine OpOk.storeRow rfl rfl rfl rfl (by rfl) rfl ?_
          | refine OpOk.idx1 rfl rfl rfl (by omega) (by first | exact AOk.hasSl | exact AOk.rs (by assumption) | exact AOk.rds (by assumption) | exact AOk.lit) ?_
          | refine OpOk.alloc rfl (fun b => ?_)
          | refine OpOk.box rfl (fun b => ?_)
          | refine OpOk.build rfl rfl (by repeat (first | exact Nf.nil | apply Nf.cons)) ?_
          | refine OpOk.buildSlice1 (by rfl) (by rfl) (by rfl) (by rfl) (by rfl) (fun b => ?_)
          | refine OpOk.toStr rfl rfl rfl rfl (by first | exact Rs.rds (by assumption) | exact Rds.up (by assumption) | exact Rds.hasSl (by omega) (by omega) (by first | rfl | (simp; done) | (simp; omega))) ?_
          | refine OpOk.make1 rfl rfl rfl (by omega) (fun b => ?_)
          | refine OpOk.append1 rfl rfl rfl rfl rfl rfl (by omega) (fun a' c' hc1 hc2 => ?_)
          | refine OpOk.append0 rfl rfl rfl rfl rfl rfl (by omega) (fun a' c' hc1 hc2 => ?_)
          | refine OpOk.appendE rfl rfl rfl rfl (by first | exact Rs.rds (by assumption) | exact Rds.up (by assumption) | exact Rds.hasSl (by omega) (by omega) (by first | rfl | (simp; done) | (simp; omega))) (one_u8 _) (by omega) (fun a' c' hc1 hc2 => ?_)
          | refine OpOk.append rfl rfl rfl rfl (by first | exact Rs.rds (by assumption) | exact Rds.up (by assumption) | exact Rds.hasSl (by omega) (by omega) (by first | rfl | (simp; done) | (simp; omega))) (one_u8 _) (by omega) (fun a' c' hc1 hc2 => ?_))
      | (show QOk _ _ _ _ _ _ _; first | refine QOk.load rfl rfl (by first | exact Ld.hasBlk rfl | exact Ld.rs (by assumption) (getMap (by omega)) | exact Ld.rds (by assumption) (getMap (by omega)) | exact Ld.hasSl (getMap (by omega)) | exact Ld.hasBlkAt (getMap (by omega))) ?_ | refine QOk.idx1 rfl rfl rfl (by omega) (by first | exact AOk.hasSl | exact AOk.rs (by assumption) | exact AOk.rds (by assumption) | exact AOk.lit) ?_ | refine QOk.loadRow rfl rfl LdN.hasBlk rfl ?_ | refine QOk.toStr rfl rfl rfl rfl (by first | exact Rs.rds (by assumption) | exact Rds.up (by assumption) | exact Rds.hasSl (by omega) (by omega) (by first | rfl | (simp; done) | (simp; omega))) ?_)
      | (show GJ _ _ _ _ _ _ _; first | (apply GJ.and; exact rfl; intro hg) | (apply GJ.or; exact rfl; intro hg) | refine GJ.t (by omega) ?_ | refine GJ.f (by omega) ?_ | refine GJ.ft (by omega) ?_ | refine GJ.ff (by omega) ?_)
      | (show Br _ _ _; first | with_reducible refine Br.tt ?_ | with_reducible refine Br.ff ?_ | with_reducible refine Br.nt ?_ | with_reducible refine Br.nf ?_ | refine Br.t (by omega) ?_ | refine Br.f (by omega) ?_)
      | (show RetOk _ _ _ _ _ _; refine RetOk.of (by repeat (first | exact RL.nil | refine RL.tmp rfl ?_ | refine RL.row rfl rfl LdN.hasBlk rfl ?_ | refine RL.one rfl rfl (by first | exact Ld.hasBlk rfl | exact Ld.rs (by assumption) (getMap (by omega)) | exact Ld.rds (by assumption) (getMap (by omega)) | exact Ld.hasSl (getMap (by omega)) | exact Ld.hasBlkAt (getMap (by omega))) ?_)) ?_)
      | (show CodeOk _ _ _ _ _ _; refine CodeOk.drawnAuto rfl (by kernel_rfl) rfl (by kernel_rfl) ?_))
    refine Br.cases (fun he => ?_) (fun he => ?_)
    · simp only [Int.toNat_natCast] at he
      repeat (first
        | refine Stop.mk ?_
        | (show _ ∧ _; first | exact ⟨rfl, rfl, rfl⟩ | refine And.intro (by first | omega | exact u8_range _ | exact add_u8 _ _ (by omega) | exact ⟨⟨Int.emod_nonneg _ (by decide), Int.emod_lt_of_pos _ (by decide)⟩, Int.natCast_nonneg _, Int.lt_of_lt_of_le (u8_range _).2 (by decide)⟩ | exact ⟨⟨Int.emod_nonneg _ (by decide), Int.emod_lt_of_pos _ (by decide)⟩, ⟨Int.emod_nonneg _ (by decide), Int.emod_lt_of_pos _ (by decide)⟩⟩) ?_ | refine And.intro (inferInstanceAs (Suf _ _)) ?_)
        | (show OpOk _ _ _ _ _ _ _; first
            | refine OpOk.load rfl rfl (by first | exact Ld.hasBlk rfl | exact Ld.rs (by assumption) (getMap (by omega)) | exact Ld.rds (by assumption) (getMap (by omega)) | exact Ld.hasSl (getMap (by omega)) | exact Ld.hasBlkAt (getMap (by omega))) ?_
            | refine OpOk.loadRow rfl rfl LdN.hasBlk rfl ?_
            | refine OpOk.store rfl rfl rfl rfl (by repeat (first | exact SetR.hit _ _ _ | apply SetR.miss)) ?_
            | refine OpOk.storeRow rfl rfl rfl rfl (by rfl) rfl ?_
            | refine OpOk.idx1 rfl rfl rfl (by omega) (by first | exact AOk.hasSl | exact AOk.rs (by assumption) | exact AOk.rds (by assumption) | exact AOk.lit) ?_
            | refine OpOk.alloc rfl (fun b => ?_)
            | refine OpOk.box rfl (fun b => ?_)
            | refine OpOk.build rfl rfl (by repeat (first | exact Nf.nil | apply Nf.cons)) ?_
            | refine OpOk.buildSlice1 (by rfl) (by rfl) (by rfl) (by rfl) (by rfl) (fun b => ?_)
            | refine OpOk.toStr rfl rfl rfl rfl (by first | exact Rs.rds (by assumption) | exact Rds.up (by assumption) | exact Rds.hasSl (by omega) (by omega) (by first | rfl | (simp; done) | (simp; omega))) ?_
            | refine OpOk.make1 rfl rfl rfl (by omega) (fun b => ?_)
            | refine OpOk.append1 rfl rfl rfl rfl rfl rfl (by omega) (fun a' c' hc1 hc2 => ?_)
            | refine OpOk.append0 rfl rfl rfl rfl rfl rfl (by omega) (fun a' c' hc1 hc2 => ?_)
            | refine OpOk.appendE rfl rfl rfl rfl (by first | exact Rs.rds (by assumption) | exact Rds.up (by assumption) | exact Rds.hasSl (by omega) (by omega) (by first | rfl | (simp; done) | (simp; omega))) (one_u8 _) (by omega) (fun a' c' hc1 hc2 => ?_)
            | refine OpOk.append rfl rfl rfl rfl (by first | exact Rs.rds (by assumption) | exact Rds.up (by assumption) | exact Rds.hasSl (by omega) (by omega) (by first | rfl | (simp; done) | (simp; omega))) (one_u8 _) (by omega) (fun a' c' hc1 hc2 => ?_))
        | (show QOk _ _ _ _ _ _ _; first | refine QOk.load rfl rfl (by first | exact Ld.hasBlk rfl | exact Ld.rs (by assumption) (getMap (by omega)) | exact Ld.rds (by assumption) (getMap (by omega)) | exact Ld.hasSl (getMap (by omega)) | exact Ld.hasBlkAt (getMap (by omega))) ?_ | refine QOk.idx1 rfl rfl rfl (by omega) (by first | exact AOk.hasSl | exact AOk.rs (by assumption) | exact AOk.rds (by assumption) | exact AOk.lit) ?_ | refine QOk.loadRow rfl rfl LdN.hasBlk rfl ?_ | refine QOk.toStr rfl rfl rfl rfl (by first | exact Rs.rds (by assumption) | exact Rds.up (by assumption) | exact Rds.hasSl (by omega) (by omega) (by first | rfl | (simp; done) | (simp; omega))) ?_)
        | (show GJ _ _ _ _ _ _ _; first | (apply GJ.and; exact rfl; intro hg) | (apply GJ.or; exact rfl; intro hg) | refine GJ.t (by omega) ?_ | refine GJ.f (by omega) ?_ | refine GJ.ft (by omega) ?_ | refine GJ.ff (by omega) ?_)
        | (show Br _ _ _; first | with_reducible refine Br.tt ?_ | with_reducible refine Br.ff ?_ | with_reducible refine Br.nt ?_ | with_reducible refine Br.nf ?_ | refine Br.t (by omega) ?_ | refine Br.f (by omega) ?_)
        | (show RetOk _ _ _ _ _ _; refine RetOk.of (by repeat (first | exact RL.nil | refine RL.tmp rfl ?_ | refine RL.row rfl rfl LdN.hasBlk rfl ?_ | refine RL.one rfl rfl (by first | exact Ld.hasBlk rfl | exact Ld.rs (by assumption) (getMap (by omega)) | exact Ld.rds (by assumption) (getMap (by omega)) | exact Ld.hasSl (getMap (by omega)) | exact Ld.hasBlkAt (getMap (by omega))) ?_)) ?_)
        | (show CodeOk _ _ _ _ _ _; refine CodeOk.drawnAuto rfl (by kernel_rfl) rfl (by kernel_rfl) ?_))
      refine Wk.id (hk 0 0 21 ?_ (by omega) (by omega) (by omega))
      rw [if_pos ⟨by simpa using he.2, by omega, by omega⟩] at i5
      exact i5
    simp only [Int.toNat_natCast] at he
    rw [if_neg (fun h => he ⟨⟨by omega, by omega⟩, by rw [h.1]; simp⟩)] at i5
    have hm := low_snoc (l.take j) l[j]!
    rw [← take_snoc h0, List.length_take, Nat.min_eq_left (by omega)] at hm
    have hv : low (l.take (j + 1)) < 18446744073709551616 := by
      have h1 := low_lt (l.take j)
      rw [List.length_take, Nat.min_eq_left (by omega)] at h1
      rw [hm]
      unfold more
      rcases Nat.lt_or_ge j 9 with h9 | h9
      · have h2 := Nat.pow_le_pow_right (show 0 < 2 by omega) (show 7 * j ≤ 56 by omega)
        have h3 : (l[j]!).toNat % 128 * 2 ^ (7 * j) ≤ 127 * 2 ^ 56 := Nat.mul_le_mul (by omega) h2
        omega
      · obtain rfl : j = 9 := by omega
        have h3 : (l[9]!).toNat % 128 * 2 ^ (7 * 9) ≤ 1 * 2 ^ (7 * 9) := Nat.mul_le_mul (by omega) (Nat.le_refl _)
        omega
    repeat (first
      | refine Stop.mk ?_
      | (show _ ∧ _; first | exact ⟨rfl, rfl, rfl⟩ | refine And.intro (by first | omega | exact u8_range _ | exact add_u8 _ _ (by omega) | exact ⟨⟨Int.emod_nonneg _ (by decide), Int.emod_lt_of_pos _ (by decide)⟩, Int.natCast_nonneg _, Int.lt_of_lt_of_le (u8_range _).2 (by decide)⟩ | exact ⟨⟨Int.emod_nonneg _ (by decide), Int.emod_lt_of_pos _ (by decide)⟩, ⟨Int.emod_nonneg _ (by decide), Int.emod_lt_of_pos _ (by decide)⟩⟩) ?_ | refine And.intro (inferInstanceAs (Suf _ _)) ?_)
      | (show OpOk _ _ _ _ _ _ _; first
          | refine OpOk.load rfl rfl (by first | exact Ld.hasBlk rfl | exact Ld.rs (by assumption) (getMap (by omega)) | exact Ld.rds (by assumption) (getMap (by omega)) | exact Ld.hasSl (getMap (by omega)) | exact Ld.hasBlkAt (getMap (by omega))) ?_
          | refine OpOk.loadRow rfl rfl LdN.hasBlk rfl ?_
          | refine OpOk.store rfl rfl rfl rfl (by repeat (first | exact SetR.hit _ _ _ | apply SetR.miss)) ?_
          | refine OpOk.storeRow rfl rfl rfl rfl (by rfl) rfl ?_
          | refine OpOk.idx1 rfl rfl rfl (by omega) (by first | exact AOk.hasSl | exact AOk.rs (by assumption) | exact AOk.rds (by assumption) | exact AOk.lit) ?_
          | refine OpOk.alloc rfl (fun b => ?_)
          | refine OpOk.box rfl (fun b => ?_)
          | refine OpOk.build rfl rfl (by repeat (first | exact Nf.nil | apply Nf.cons)) ?_
          | refine OpOk.buildSlice1 (by rfl) (by rfl) (by rfl) (by rfl) (by rfl) (fun b => ?_)
          | refine OpOk.toStr rfl rfl rfl rfl (by first | exact Rs.rds (by assumption) | exact Rds.up (by assumption) | exact Rds.hasSl (by omega) (by omega) (by first | rfl | (simp; done) | (simp; omega))) ?_
          | refine OpOk.make1 rfl rfl rfl (by omega) (fun b => ?_)
          | refine OpOk.append1 rfl rfl rfl rfl rfl rfl (by omega) (fun a' c' hc1 hc2 => ?_)
          | refine OpOk.append0 rfl rfl rfl rfl rfl rfl (by omega) (fun a' c' hc1 hc2 => ?_)
          | refine OpOk.appendE rfl rfl rfl rfl (by first | exact Rs.rds (by assumption) | exact Rds.up (by assumption) | exact Rds.hasSl (by omega) (by omega) (by first | rfl | (simp; done) | (simp; omega))) (one_u8 _) (by omega) (fun a' c' hc1 hc2 => ?_)
          | refine OpOk.append rfl rfl rfl rfl (by first | exact Rs.rds (by assumption) | exact Rds.up (by assumption) | exact Rds.hasSl (by omega) (by omega) (by first | rfl | (simp; done) | (simp; omega))) (one_u8 _) (by omega) (fun a' c' hc1 hc2 => ?_))
      | (show QOk _ _ _ _ _ _ _; first | refine QOk.load rfl rfl (by first | exact Ld.hasBlk rfl | exact Ld.rs (by assumption) (getMap (by omega)) | exact Ld.rds (by assumption) (getMap (by omega)) | exact Ld.hasSl (getMap (by omega)) | exact Ld.hasBlkAt (getMap (by omega))) ?_ | refine QOk.idx1 rfl rfl rfl (by omega) (by first | exact AOk.hasSl | exact AOk.rs (by assumption) | exact AOk.rds (by assumption) | exact AOk.lit) ?_ | refine QOk.loadRow rfl rfl LdN.hasBlk rfl ?_ | refine QOk.toStr rfl rfl rfl rfl (by first | exact Rs.rds (by assumption) | exact Rds.up (by assumption) | exact Rds.hasSl (by omega) (by omega) (by first | rfl | (simp; done) | (simp; omega))) ?_)
      | (show GJ _ _ _ _ _ _ _; first | (apply GJ.and; exact rfl; intro hg) | (apply GJ.or; exact rfl; intro hg) | refine GJ.t (by omega) ?_ | refine GJ.f (by omega) ?_ | refine GJ.ft (by omega) ?_ | refine GJ.ff (by omega) ?_)
      | (show Br _ _ _; first | with_reducible refine Br.tt ?_ | with_reducible refine Br.ff ?_ | with_reducible refine Br.nt ?_ | with_reducible refine Br.nf ?_ | refine Br.t (by omega) ?_ | refine Br.f (by omega) ?_)
      | (show RetOk _ _ _ _ _ _; refine RetOk.of (by repeat (first | exact RL.nil | refine RL.tmp rfl ?_ | refine RL.row rfl rfl LdN.hasBlk rfl ?_ | refine RL.one rfl rfl (by first | exact Ld.hasBlk rfl | exact Ld.rs (by assumption) (getMap (by omega)) | exact Ld.rds (by assumption) (getMap (by omega)) | exact Ld.hasSl (getMap (by omega)) | exact Ld.hasBlkAt (getMap (by omega))) ?_)) ?_)
      | (show CodeOk _ _ _ _ _ _; refine CodeOk.drawnAuto rfl (by kernel_rfl) rfl (by kernel_rfl) ?_))
    refine LoopOk.at (ι := Nat × Int) (by repeat (first | exact Keep.nil _ | apply Keep.skip (by rfl) | apply Keep.keep (by rfl) | apply Keep.args (by rfl))) (fun (i, m) => [(9, .int .i64 ((i : Int) - 1)), (8, .int .u64 m)]) (fun (i, m) => own) (fun (i, m) => i ≤ j + 1 ∧ m = (low ((l.take (j + 1)).drop i) : Nat)) (fun (i, m) => i) (j + 1, 0) ?_ (by repeat (first | exact trivial | refine Sub.cons rfl ?_ | refine Sub.consE rfl (congrArg (Value.int _) (by omega)) ?_)) (by repeat (first | exact Sup.all _ | exact Sup.nil _ | refine Sup.cons (by first | exact Take.hit _ _ | exact Take.miss _ (Take.hit _ _) | exact Take.miss _ (Take.miss _ (Take.hit _ _)) | exact Take.miss _ (Take.miss _ (Take.miss _ (Take.hit _ _))) | exact Take.miss _ (Take.miss _ (Take.miss _ (Take.miss _ (Take.hit _ _)))) | exact Take.miss _ (Take.miss _ (Take.miss _ (Take.miss _ (Take.miss _ (Take.hit _ _))))) | exact Take.miss _ (Take.miss _ (Take.miss _ (Take.miss _ (Take.miss _ (Take.miss _ (Take.hit _ _))))))) ?_ | refine Sup.nilc ?_ | refine Sup.drop _ ?_)) ?_
    · refine ⟨by omega, ?_⟩
      rw [List.drop_eq_nil_of_le (by simp; omega)]; rfl
    rintro ⟨i, m⟩ ⟨k1, rfl⟩
    dsimp only [List.cons_append, List.nil_append]
    repeat (first
      | refine Stop.mk ?_
      | (show _ ∧ _; first | exact ⟨rfl, rfl, rfl⟩ | refine And.intro (by first | omega | exact u8_range _ | exact add_u8 _ _ (by omega) | exact ⟨⟨Int.emod_nonneg _ (by decide), Int.emod_lt_of_pos _ (by decide)⟩, Int.natCast_nonneg _, Int.lt_of_lt_of_le (u8_range _).2 (by decide)⟩ | exact ⟨⟨Int.emod_nonneg _ (by decide), Int.emod_lt_of_pos _ (by decide)⟩, ⟨Int.emod_nonneg _ (by decide), Int.emod_lt_of_pos _ (by decide)⟩⟩) ?_ | refine And.intro (inferInstanceAs (Suf _ _)) ?_)
      | (show OpOk _ _ _ _ _ _ _; first
          | refine OpOk.load rfl rfl (by first | exact Ld.hasBlk rfl | exact Ld.rs (by assumption) (getMap (by omega)) | exact Ld.rds (by assumption) (getMap (by omega)) | exact Ld.hasSl (getMap (by omega)) | exact Ld.hasBlkAt (getMap (by omega))) ?_
          | refine OpOk.loadRow rfl rfl LdN.hasBlk rfl ?_
          | refine OpOk.store rfl rfl rfl rfl (by repeat (first | exact SetR.hit _ _ _ | apply SetR.miss)) ?_
          | refine OpOk.storeRow rfl rfl rfl rfl (by rfl) rfl ?_
          | refine OpOk.idx1 rfl rfl rfl (by omega) (by first | exact AOk.hasSl | exact AOk.rs (by assumption) | exact AOk.rds (by assumption) | exact AOk.lit) ?_
          | refine OpOk.alloc rfl (fun b => ?_)
          | refine OpOk.box rfl (fun b => ?_)
          | refine OpOk.build rfl rfl (by repeat (first | exact Nf.nil | apply Nf.cons)) ?_
          | refine OpOk.buildSlice1 (by rfl) (by rfl) (by rfl) (by rfl) (by rfl) (fun b => ?_)
          | refine OpOk.toStr rfl rfl rfl rfl (by first | exact Rs.rds (by assumption) | exact Rds.up (by assumption) | exact Rds.hasSl (by omega) (by omega) (by first | rfl | (simp; done) | (simp; omega))) ?_
          | refine OpOk.make1 rfl rfl rfl (by omega) (fun b => ?_)
          | refine OpOk.append1 rfl rfl rfl rfl rfl rfl (by omega) (fun a' c' hc1 hc2 => ?_)
          | refine OpOk.append0 rfl rfl rfl rfl rfl rfl (by omega) (fun a' c' hc1 hc2 => ?_)
          | refine OpOk.appendE rfl rfl rfl rfl (by first | exact Rs.rds (by assumption) | exact Rds.up (by assumption) | exact Rds.hasSl (by omega) (by omega) (by first | rfl | (simp; done) | (simp; omega))) (one_u8 _) (by omega) (fun a' c' hc1 hc2 => ?_)
          | refine OpOk.append rfl rfl rfl rfl (by first | exact Rs.rds (by assumption) | exact Rds.up (by assumption) | exact Rds.hasSl (by omega) (by omega) (by first | rfl | (simp; done) | (simp; omega))) (one_u8 _) (by omega) (fun a' c' hc1 hc2 => ?_))
      | (show QOk _ _ _ _ _ _ _; first | refine QOk.load rfl rfl (by first | exact Ld.hasBlk rfl | exact Ld.rs (by assumption) (getMap (by omega)) | exact Ld.rds (by assumption) (getMap (by omega)) | exact Ld.hasSl (getMap (by omega)) | exact Ld.hasBlkAt (getMap (by omega))) ?_ | refine QOk.idx1 rfl rfl rfl (by omega) (by first | exact AOk.hasSl | exact AOk.rs (by assumption) | exact AOk.rds (by assumption) | exact AOk.lit) ?_ | refine QOk.loadRow rfl rfl LdN.hasBlk rfl ?_ | refine QOk.toStr rfl rfl rfl rfl (by first | exact Rs.rds (by assumption) | exact Rds.up (by assumption) | exact Rds.hasSl (by omega) (by omega) (by first | rfl | (simp; done) | (simp; omega))) ?_)
      | (show GJ _ _ _ _ _ _ _; first | (apply GJ.and; exact rfl; intro hg) | (apply GJ.or; exact rfl; intro hg) | refine GJ.t (by omega) ?_ | refine GJ.f (by omega) ?_ | refine GJ.ft (by omega) ?_ | refine GJ.ff (by omega) ?_)
      | (show Br _ _ _; first | with_reducible refine Br.tt ?_ | with_reducible refine Br.ff ?_ | with_reducible refine Br.nt ?_ | with_reducible refine Br.nf ?_ | refine Br.t (by omega) ?_ | refine Br.f (by omega) ?_)
      | (show RetOk _ _ _ _ _ _; refine RetOk.of (by repeat (first | exact RL.nil | refine RL.tmp rfl ?_ | refine RL.row rfl rfl LdN.hasBlk rfl ?_ | refine RL.one rfl rfl (by first | exact Ld.hasBlk rfl | exact Ld.rs (by assumption) (getMap (by omega)) | exact Ld.rds (by assumption) (getMap (by omega)) | exact Ld.hasSl (getMap (by omega)) | exact Ld.hasBlkAt (getMap (by omega))) ?_)) ?_)
      | (show CodeOk _ _ _ _ _ _; refine CodeOk.drawnAuto rfl (by kernel_rfl) rfl (by kernel_rfl) ?_))
    refine Br.cases (fun hf => ?_) (fun hf => ?_)
    · obtain ⟨i, rfl⟩ : ∃ k, i = k + 1 := ⟨i - 1, by omega⟩
      have e1 : ((i + 1 : Nat) : Int) - 1 = (i : Int) := by omega
      rw [e1]
      repeat (first
        | refine Stop.mk ?_
        | (show _ ∧ _; first | exact ⟨rfl, rfl, rfl⟩ | refine And.intro (by first | omega | exact u8_range _ | exact add_u8 _ _ (by omega) | exact ⟨⟨Int.emod_nonneg _ (by decide), Int.emod_lt_of_pos _ (by decide)⟩, Int.natCast_nonneg _, Int.lt_of_lt_of_le (u8_range _).2 (by decide)⟩ | exact ⟨⟨Int.emod_nonneg _ (by decide), Int.emod_lt_of_pos _ (by decide)⟩, ⟨Int.emod_nonneg _ (by decide), Int.emod_lt_of_pos _ (by decide)⟩⟩) ?_ | refine And.intro (inferInstanceAs (Suf _ _)) ?_)
        | (show OpOk _ _ _ _ _ _ _; first
            | refine OpOk.load rfl rfl (by first | exact Ld.hasBlk rfl | exact Ld.rs (by assumption) (getMap (by omega)) | exact Ld.rds (by assumption) (getMap (by omega)) | exact Ld.hasSl (getMap (by omega)) | exact Ld.hasBlkAt (getMap (by omega))) ?_
            | refine OpOk.loadRow rfl rfl LdN.hasBlk rfl ?_
            | refine OpOk.store rfl rfl rfl rfl (by repeat (first | exact SetR.hit _ _ _ | apply SetR.miss)) ?_
            | refine OpOk.storeRow rfl rfl rfl rfl (by rfl) rfl ?_
            | refine OpOk.idx1 rfl rfl rfl (by omega) (by first | exact AOk.hasSl | exact AOk.rs (by assumption) | exact AOk.rds (by assumption) | exact AOk.lit) ?_
            | refine OpOk.alloc rfl (fun b => ?_)
            | refine OpOk.box rfl (fun b => ?_)
            | refine OpOk.build rfl rfl (by repeat (first | exact Nf.nil | apply Nf.cons)) ?_
            | refine OpOk.buildSlice1 (by rfl) (by rfl) (by rfl) (by rfl) (by rfl) (fun b => ?_)
            | refine OpOk.toStr rfl rfl rfl rfl (by first | exact Rs.rds (by assumption) | exact Rds.up (by assumption) | exact Rds.hasSl (by omega) (by omega) (by first | rfl | (simp; done) | (simp; omega))) ?_
            | refine OpOk.make1 rfl rfl rfl (by omega) (fun b => ?_)
            | refine OpOk.append1 rfl rfl rfl rfl rfl rfl (by omega) (fun a' c' hc1 hc2 => ?_)
            | refine OpOk.append0 rfl rfl rfl rfl rfl rfl (by omega) (fun a' c' hc1 hc2 => ?_)
            | refine OpOk.appendE rfl rfl rfl rfl (by first | exact Rs.rds (by assumption) | exact Rds.up (by assumption) | exact Rds.hasSl (by omega) (by omega) (by first | rfl | (simp; done) | (simp; omega))) (one_u8 _) (by omega) (fun a' c' hc1 hc2 => ?_)
            | refine OpOk.append rfl rfl rfl rfl (by first | exact Rs.rds (by assumption) | exact Rds.up (by assumption) | exact Rds.hasSl (by omega) (by omega) (by first | rfl | (simp; done) | (simp; omega))) (one_u8 _) (by omega) (fun a' c' hc1 hc2 => ?_))
        | (show QOk _ _ _ _ _ _ _; first | refine QOk.load rfl rfl (by first | exact Ld.hasBlk rfl | exact Ld.rs (by assumption) (getMap (by omega)) | exact Ld.rds (by assumption) (getMap (by omega)) | exact Ld.hasSl (getMap (by omega)) | exact Ld.hasBlkAt (getMap (by omega))) ?_ | refine QOk.idx1 rfl rfl rfl (by omega) (by first | exact AOk.hasSl | exact AOk.rs (by assumption) | exact AOk.rds (by assumption) | exact AOk.lit) ?_ | refine QOk.loadRow rfl rfl LdN.hasBlk rfl ?_ | refine QOk.toStr rfl rfl rfl rfl (by first | exact Rs.rds (by assumption) | exact Rds.up (by assumption) | exact Rds.hasSl (by omega) (by omega) (by first | rfl | (simp; done) | (simp; omega))) ?_)
        | (show GJ _ _ _ _ _ _ _; first | (apply GJ.and; exact rfl; intro hg) | (apply GJ.or; exact rfl; intro hg) | refine GJ.t (by omega) ?_ | refine GJ.f (by omega) ?_ | refine GJ.ft (by omega) ?_ | refine GJ.ff (by omega) ?_)
        | (show Br _ _ _; first | with_reducible refine Br.tt ?_ | with_reducible refine Br.ff ?_ | with_reducible refine Br.nt ?_ | with_reducible refine Br.nf ?_ | refine Br.t (by omega) ?_ | refine Br.f (by omega) ?_)
        | (show RetOk _ _ _ _ _ _; refine RetOk.of (by repeat (first | exact RL.nil | refine RL.tmp rfl ?_ | refine RL.row rfl rfl LdN.hasBlk rfl ?_ | refine RL.one rfl rfl (by first | exact Ld.hasBlk rfl | exact Ld.rs (by assumption) (getMap (by omega)) | exact Ld.rds (by assumption) (getMap (by omega)) | exact Ld.hasSl (getMap (by omega)) | exact Ld.hasBlkAt (getMap (by omega))) ?_)) ?_)
        | (show CodeOk _ _ _ _ _ _; refine CodeOk.drawnAuto rfl (by kernel_rfl) rfl (by kernel_rfl) ?_))
      simp only [Int.toNat_natCast]
      have h1 : i < (l.take (j + 1)).length := by simp; omega
      have h2 := low_drop i (l.take (j + 1))
      have h3 := low_drop_le i (l.take (j + 1))
      rw [drop_get h1] at h3
      have h4 : (l.take (j + 1))[i]! = l[i]! := by
        rw [List.getElem!_eq_getElem?_getD, List.getElem!_eq_getElem?_getD, List.getElem?_take, if_pos (by omega)]
      rw [h4, low] at h3
      refine Wk.id ⟨(i, _), ⟨rfl, ?_⟩, ?_, (by repeat (first | exact trivial | refine Sub.cons rfl ?_ | refine Sub.consE rfl (congrArg (Value.int _) (by omega)) ?_)), (by repeat (first | exact Sup.all _ | exact Sup.nil _ | refine Sup.cons (by first | exact Take.hit _ _ | exact Take.miss _ (Take.hit _ _) | exact Take.miss _ (Take.miss _ (Take.hit _ _)) | exact Take.miss _ (Take.miss _ (Take.miss _ (Take.hit _ _))) | exact Take.miss _ (Take.miss _ (Take.miss _ (Take.miss _ (Take.hit _ _)))) | exact Take.miss _ (Take.miss _ (Take.miss _ (Take.miss _ (Take.miss _ (Take.hit _ _))))) | exact Take.miss _ (Take.miss _ (Take.miss _ (Take.miss _ (Take.miss _ (Take.miss _ (Take.hit _ _))))))) ?_ | refine Sup.nilc ?_ | refine Sup.drop _ ?_))⟩
      all_goals try dsimp only
      · refine ⟨by omega, ?_⟩
        rw [drop_get h1, h4, low]
        omega
      · omega
    · obtain rfl : i = 0 := by omega
      repeat (first
        | refine Stop.mk ?_
        | (show _ ∧ _; first | exact ⟨rfl, rfl, rfl⟩ | refine And.intro (by first | omega | exact u8_range _ | exact add_u8 _ _ (by omega) | exact ⟨⟨Int.emod_nonneg _ (by decide), Int.emod_lt_of_pos _ (by decide)⟩, Int.natCast_nonneg _, Int.lt_of_lt_of_le (u8_range _).2 (by decide)⟩ | exact ⟨⟨Int.emod_nonneg _ (by decide), Int.emod_lt_of_pos _ (by decide)⟩, ⟨Int.emod_nonneg _ (by decide), Int.emod_lt_of_pos _ (by decide)⟩⟩) ?_ | refine And.intro (inferInstanceAs (Suf _ _)) ?_)
        | (show OpOk _ _ _ _ _ _ _; first
            | refine OpOk.load rfl rfl (by first | exact Ld.hasBlk rfl | exact Ld.rs (by assumption) (getMap (by omega)) | exact Ld.rds (by assumption) (getMap (by omega)) | exact Ld.hasSl (getMap (by omega)) | exact Ld.hasBlkAt (getMap (by omega))) ?_
            | refine OpOk.loadRow rfl rfl LdN.hasBlk rfl ?_
            | refine OpOk.store rfl rfl rfl rfl (by repeat (first | exact SetR.hit _ _ _ | apply SetR.miss)) ?_
            | refine OpOk.storeRow rfl rfl rfl rfl (by rfl) rfl ?_
            | refine OpOk.idx1 rfl rfl rfl (by omega) (by first | exact AOk.hasSl | exact AOk.rs (by assumption) | exact AOk.rds (by assumption) | exact AOk.lit) ?_
            | refine OpOk.alloc rfl (fun b => ?_)
            | refine OpOk.box rfl (fun b => ?_)
            | refine OpOk.build rfl rfl (by repeat (first | exact Nf.nil | apply Nf.cons)) ?_
            | refine OpOk.buildSlice1 (by rfl) (by rfl) (by rfl) (by rfl) (by rfl) (fun b => ?_)
            | refine OpOk.toStr rfl rfl rfl rfl (by first | exact Rs.rds (by assumption) | exact Rds.up (by assumption) | exact Rds.hasSl (by omega) (by omega) (by first | rfl | (simp; done) | (simp; omega))) ?_
            | refine OpOk.make1 rfl rfl rfl (by omega) (fun b => ?_)
            | refine OpOk.append1 rfl rfl rfl rfl rfl rfl (by omega) (fun a' c' hc1 hc2 => ?_)
            | refine OpOk.append0 rfl rfl rfl rfl rfl rfl (by omega) (fun a' c' hc1 hc2 => ?_)
            | refine OpOk.appendE rfl rfl rfl rfl (by first | exact Rs.rds (by assumption) | exact Rds.up (by assumption) | exact Rds.hasSl (by omega) (by omega) (by first | rfl | (simp; done) | (simp; omega))) (one_u8 _) (by omega) (fun a' c' hc1 hc2 => ?_)
            | refine OpOk.append rfl rfl rfl rfl (by first | exact Rs.rds (by assumption) | exact Rds.up (by assumption) | exact Rds.hasSl (by omega) (by omega) (by first | rfl | (simp; done) | (simp; omega))) (one_u8 _) (by omega) (fun a' c' hc1 hc2 => ?_))
        | (show QOk _ _ _ _ _ _ _; first | refine QOk.load rfl rfl (by first | exact Ld.hasBlk rfl | exact Ld.rs (by assumption) (getMap (by omega)) | exact Ld.rds (by assumption) (getMap (by omega)) | exact Ld.hasSl (getMap (by omega)) | exact Ld.hasBlkAt (getMap (by omega))) ?_ | refine QOk.idx1 rfl rfl rfl (by omega) (by first | exact AOk.hasSl | exact AOk.rs (by assumption) | exact AOk.rds (by assumption) | exact AOk.lit) ?_ | refine QOk.loadRow rfl rfl LdN.hasBlk rfl ?_ | refine QOk.toStr rfl rfl rfl rfl (by first | exact Rs.rds (by assumption) | exact Rds.up (by assumption) | exact Rds.hasSl (by omega) (by omega) (by first | rfl | (simp; done) | (simp; omega))) ?_)
        | (show GJ _ _ _ _ _ _ _; first | (apply GJ.and; exact rfl; intro hg) | (apply GJ.or; exact rfl; intro hg) | refine GJ.t (by omega) ?_ | refine GJ.f (by omega) ?_ | refine GJ.ft (by omega) ?_ | refine GJ.ff (by omega) ?_)
        | (show Br _ _ _; first | with_reducible refine Br.tt ?_ | with_reducible refine Br.ff ?_ | with_reducible refine Br.nt ?_ | with_reducible refine Br.nf ?_ | refine Br.t (by omega) ?_ | refine Br.f (by omega) ?_)
        | (show RetOk _ _ _ _ _ _; refine RetOk.of (by repeat (first | exact RL.nil | refine RL.tmp rfl ?_ | refine RL.row rfl rfl LdN.hasBlk rfl ?_ | refine RL.one rfl rfl (by first | exact Ld.hasBlk rfl | exact Ld.rs (by assumption) (getMap (by omega)) | exact Ld.rds (by assumption) (getMap (by omega)) | exact Ld.hasSl (getMap (by omega)) | exact Ld.hasBlkAt (getMap (by omega))) ?_)) ?_)
        | (show CodeOk _ _ _ _ _ _; refine CodeOk.drawnAuto rfl (by kernel_rfl) rfl (by kernel_rfl) ?_))
      refine Wk.id (hk _ (j + 1) 0 ?_ ?_ (by omega) (by omega))
      · rw [i5, List.drop_zero, hm]
      · rw [List.drop_zero]; exact hv
end
end Go.Proofs.Ytpajhgnkagifbaa
