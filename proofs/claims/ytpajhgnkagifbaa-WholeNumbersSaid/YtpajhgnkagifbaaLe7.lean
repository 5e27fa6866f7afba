/- leb.Read told in one; the check that is ahead of each law of leb. -/
import Derived.Test.YtpajhgnkagifbaaLe6
namespace Go.Proofs.Ytpajhgnkagifbaa
open Go Go.E
set_option linter.unusedVariables false
set_option maxRecDepth 10000
section
variable {ro : Ro} {own : Chs} {K : Value → Ro → Chs → Prop} {f : Chunk → Chs}
theorem rd_bound {len : Bool} {v many e : Nat} : ∀ (l : List UInt8) (cnt n : Nat), cnt ≤ 10 → n < 2 ^ (7 * cnt) → rd len cnt n l = (v, many, e) → v < 18446744073709551616 ∧ (e ≠ 0 → v = 0 ∧ many = 0) ∧ many ≤ cnt + l.length ∧ (e = 0 → cnt < many ∧ many ≤ 10) ∧ e < 1000
  | [], cnt, n, hc, hn, h => by
    simp only [rd, Prod.mk.injEq] at h; obtain ⟨rfl, rfl, rfl⟩ := h; exact ⟨by omega, fun _ => ⟨rfl, rfl⟩, by omega, by omega, by omega⟩
  | c :: l, cnt, n, hc, hn, h => by
    rw [rd] at h
    split at h
    · simp only [Prod.mk.injEq] at h; obtain ⟨rfl, rfl, rfl⟩ := h; exact ⟨by omega, fun _ => ⟨rfl, rfl⟩, by omega, by omega, by omega⟩
    split at h
    · obtain ⟨h1, h2, h3, h4, h5⟩ := rd_bound l (cnt + 1) (more n cnt c) (by omega) (more_lt hn) h
      exact ⟨h1, h2, by simp; omega, fun h => ⟨by have := h4 h; omega, (h4 h).2⟩, h5⟩
    split at h
    · simp only [Prod.mk.injEq] at h; obtain ⟨rfl, rfl, rfl⟩ := h; exact ⟨by omega, fun _ => ⟨rfl, rfl⟩, by omega, by omega, by omega⟩
    · rename_i h1 h2 h3
      simp only [Prod.mk.injEq] at h; obtain ⟨rfl, rfl, rfl⟩ := h
      refine ⟨?_, fun h => absurd rfl h, by simp, fun _ => ⟨by omega, ?_⟩, by omega⟩
      · unfold more
        rcases Nat.lt_or_ge cnt 9 with h9 | h9
        · have h2 := Nat.pow_le_pow_right (show 0 < 2 by omega) (show 7 * cnt ≤ 56 by omega)
          have h3 : c.toNat % 128 * 2 ^ (7 * cnt) ≤ 127 * 2 ^ 56 := Nat.mul_le_mul (by omega) h2
          omega
        · obtain rfl : cnt = 9 := by omega
          have h3 : c.toNat % 128 * 2 ^ (7 * 9) ≤ 1 * 2 ^ (7 * 9) := Nat.mul_le_mul (by omega) (Nat.le_refl _)
          omega
      · omega
theorem readR {p n c : Nat} {k : Nat} {a : Option Addr} {l : List UInt8} {len : Bool} [hb : HasBlk own p 76 (rdr a n c (k : Int)) f] (hr : Bys ro a n c l) (hkn : k ≤ n) (hn : n ≤ 1000000000)
    (hk : ∀ v many e : Nat, rd len 0 0 (l.drop k) = (v, many, e) → k + many ≤ n → v < 18446744073709551616 → e < 1000 → K (.tuple #[.int .u64 v, .int .i64 e]) ro (f (.blk p 76 (rdr a n c ((k + many : Nat) : Int))))) :
    CallOk Try.prog 32 #[ptr' p, .bool len] ro own K := by
  obtain ⟨r, p1, p2⟩ := hb.split
  have hl := hr.n
  refine CallOk.perm p1 (CallOk.postP ?_)
  have fin : ∀ x many e : Nat, rd len 0 0 (l.drop k) = (x, many, e) → ∃ own2, List.Perm (.blk p 76 (rdr a n c ((k + many : Nat) : Int)) :: r) own2 ∧ K (.tuple #[.int .u64 x, .int .i64 e]) ro own2 := fun x many e h => by
    obtain ⟨h1, h2, h3, h4, h5⟩ := rd_bound _ _ _ (by omega) (by simp) h
    exact ⟨_, p2 _, hk x many e h (by simp at h3; omega) h1 h5⟩
  exact read_ok hr hkn hn (fun e h1 h2 h3 => fin 0 0 e h1) (fun v many h1 h2 h3 h4 => fin v many 0 h1)
end
end Go.Proofs.Ytpajhgnkagifbaa
