/- Contracts of package octet, third part: Put, a reader's numbers. -/
import Derived.Test.YtpjiaafkcojddaaOc2
namespace Go.Proofs.Ytpjiaafkcojddaa
open Go Go.E
set_option linter.unusedVariables false
set_option maxRecDepth 10000
section
variable {ro : Ro} {own r : Chs} {K : Value → Ro → Chs → Prop} {f g : Chunk → Chs}
def byteAt (little : Bool) (w x i : Nat) : UInt8 := UInt8.ofNat (x / 2 ^ (8 * (if little then i else w - 1 - i)))
def putB (little : Bool) (w x : Nat) : List UInt8 := (List.range w).map (byteAt little w x)
theorem putB_len (little : Bool) (w x : Nat) : (putB little w x).length = w := by simp [putB]
theorem u8_div (x k : Nat) (e : Int) (he : e.toNat = k) : Value.int .u8 ((x : Int) / 2 ^ e.toNat % 256) = u8 (UInt8.ofNat (x / 2 ^ k)) := by
  rw [he]
  have : ((x : Int) / 2 ^ k) = ((x / 2 ^ k : Nat) : Int) := by simp
  rw [this, u8m]
theorem oput_ok {a : Option Addr} {n c : Nat} {l : List UInt8} {x w : Nat} {little : Bool} (hr : Rds ro own a n c 1 (l.map u8)) (hn : l.length ≤ 1000000) (hw : 1 ≤ w ∧ w ≤ 8) (hx : x ≤ mostN w)
    (hk : ∀ a' n' c', n' = l.length + w → n' ≤ c' → c' ≤ maxLen → K (.tuple #[.slice a' n' c', .int .i64 0]) ro (.sl a' n' c' 5 1 ((l ++ putB little w x).map u8) :: own)) :
    CallOk Try.prog 37 #[.slice a n c, .int .u64 x, .int .i64 (w : Nat), .bool little] ro own K := by
  have hl := hr.n1
  simp at hl
  refine CallOk.intro (args := [_, _, _, _]) (rs := [_, _]) T_ok Try.func37 Try.call37 rfl rfl (by kernel_rfl) rfl rfl ?_
  repeat (first
    | (show _ ∧ _; exact ⟨rfl, rfl, rfl⟩)
    | refine wkG ?_
    | (show OpOk _ _ _ _ _ _ _; first | refine opB (fun b => ?_) | refine opA (fun a' c' hc1 hc2 => ?_))
    | (show GJ _ _ _ _ _ _ _; first | (apply GJ.and; exact rfl; intro hg) | (apply GJ.or; exact rfl; intro hg) | refine GJ.t omAuto ?_ | refine GJ.f omAuto ?_ | refine GJ.ft omAuto ?_ | refine GJ.ff omAuto ?_))
  refine width_ok ?_
  repeat (first
    | (show _ ∧ _; exact ⟨rfl, rfl, rfl⟩)
    | refine wkG ?_
    | (show OpOk _ _ _ _ _ _ _; first | refine opB (fun b => ?_) | refine opA (fun a' c' hc1 hc2 => ?_))
    | (show GJ _ _ _ _ _ _ _; first | (apply GJ.and; exact rfl; intro hg) | (apply GJ.or; exact rfl; intro hg) | refine GJ.t omAuto ?_ | refine GJ.f omAuto ?_ | refine GJ.ft omAuto ?_ | refine GJ.ff omAuto ?_))
  refine most_ok ?_
  repeat (first
    | (show _ ∧ _; exact ⟨rfl, rfl, rfl⟩)
    | refine wkG ?_
    | (show OpOk _ _ _ _ _ _ _; first | refine opB (fun b => ?_) | refine opA (fun a' c' hc1 hc2 => ?_))
    | (show GJ _ _ _ _ _ _ _; first | (apply GJ.and; exact rfl; intro hg) | (apply GJ.or; exact rfl; intro hg) | refine GJ.t omAuto ?_ | refine GJ.f omAuto ?_ | refine GJ.ft omAuto ?_ | refine GJ.ff omAuto ?_))
  refine LoopOk.at (ι := Nat × List Value × Option Addr × Nat × Nat) Keep.auto (fun (i, cs, a, n, c) => [(24, .int .i64 (i : Int)), (10, .slice a n c)]) (fun (i, cs, a, n, c) => .sl a n c 5 1 cs :: own) (fun (i, cs, a, n, c) => i ≤ w ∧ cs = (l ++ (List.range i).map (byteAt little w x)).map u8 ∧ n = l.length + i ∧ n ≤ c ∧ c ≤ maxLen) (fun (i, cs, a, n, c) => w - i) (0, _, _, _, _) ?_ Sub.auto Sup.auto ?_
  · exact ⟨by omega, by simp, by omega, by omega, by omega⟩
  rintro ⟨i, cs, a1, n1, c1⟩ ⟨i1, rfl, rfl, i4, i5⟩
  dsimp only [List.cons_append, List.nil_append]
  repeat (first
    | (show _ ∧ _; exact ⟨rfl, rfl, rfl⟩)
    | refine wkG ?_
    | (show OpOk _ _ _ _ _ _ _; first | refine opB (fun b => ?_) | refine opA (fun a' c' hc1 hc2 => ?_))
    | (show GJ _ _ _ _ _ _ _; first | (apply GJ.and; exact rfl; intro hg) | (apply GJ.or; exact rfl; intro hg) | refine GJ.t omAuto ?_ | refine GJ.f omAuto ?_ | refine GJ.ft omAuto ?_ | refine GJ.ff omAuto ?_))
  refine Br.cases (fun hc => ?_) (fun hc => ?_)
  · repeat (first
      | (show _ ∧ _; exact ⟨rfl, rfl, rfl⟩)
      | refine wkG ?_
      | (show OpOk _ _ _ _ _ _ _; first | refine opB (fun b => ?_) | refine opA (fun a' c' hc1 hc2 => ?_))
      | (show GJ _ _ _ _ _ _ _; first | (apply GJ.and; exact rfl; intro hg) | (apply GJ.or; exact rfl; intro hg) | refine GJ.t omAuto ?_ | refine GJ.f omAuto ?_ | refine GJ.ft omAuto ?_ | refine GJ.ff omAuto ?_))
    refine SeqOk.pass ?_
    have hlast : ∀ (little : Bool) (e : Int), e.toNat = 8 * (if little then i else w - 1 - i) → (l ++ (List.range i).map (byteAt little w x)).map u8 ++ [Value.int .u8 ((x : Int) / 2 ^ e.toNat % 256)] = (l ++ (List.range (i + 1)).map (byteAt little w x)).map u8 := fun little e he => by
      rw [u8_div x _ e he, List.range_succ]
      simp [byteAt]
    cases little
    · repeat (first
        | (show _ ∧ _; exact ⟨rfl, rfl, rfl⟩)
        | refine wkG ?_
        | (show OpOk _ _ _ _ _ _ _; first | refine opB (fun b => ?_) | refine opA (fun a' c' hc1 hc2 => ?_))
        | (show GJ _ _ _ _ _ _ _; first | (apply GJ.and; exact rfl; intro hg) | (apply GJ.or; exact rfl; intro hg) | refine GJ.t omAuto ?_ | refine GJ.f omAuto ?_ | refine GJ.ft omAuto ?_ | refine GJ.ff omAuto ?_))
      refine Wk.id ⟨(i + 1, _, _, _, _), ⟨rfl, ?_⟩, ?_, Sub.auto, Sup.auto⟩
      all_goals try dsimp only
      · exact ⟨by omega, hlast false _ (by simp; omega), by omega, by omega, by omega⟩
      · omega
    · repeat (first
        | (show _ ∧ _; exact ⟨rfl, rfl, rfl⟩)
        | refine wkG ?_
        | (show OpOk _ _ _ _ _ _ _; first | refine opB (fun b => ?_) | refine opA (fun a' c' hc1 hc2 => ?_))
        | (show GJ _ _ _ _ _ _ _; first | (apply GJ.and; exact rfl; intro hg) | (apply GJ.or; exact rfl; intro hg) | refine GJ.t omAuto ?_ | refine GJ.f omAuto ?_ | refine GJ.ft omAuto ?_ | refine GJ.ff omAuto ?_))
      refine Wk.id ⟨(i + 1, _, _, _, _), ⟨rfl, ?_⟩, ?_, Sub.auto, Sup.auto⟩
      all_goals try dsimp only
      · exact ⟨by omega, hlast true _ (by simp; omega), by omega, by omega, by omega⟩
      · omega
  · obtain rfl : i = w := by omega
    repeat (first
      | (show _ ∧ _; exact ⟨rfl, rfl, rfl⟩)
      | refine wkG ?_
      | (show OpOk _ _ _ _ _ _ _; first | refine opB (fun b => ?_) | refine opA (fun a' c' hc1 hc2 => ?_))
      | (show GJ _ _ _ _ _ _ _; first | (apply GJ.and; exact rfl; intro hg) | (apply GJ.or; exact rfl; intro hg) | refine GJ.t omAuto ?_ | refine GJ.f omAuto ?_ | refine GJ.ft omAuto ?_ | refine GJ.ff omAuto ?_))
    exact Wk.id (hk _ _ _ rfl i4 i5)
theorem take_ok {p n c k m : Nat} {a : Option Addr} {l : List UInt8} [hb : HasBlk own p 130 (rdr a n c (k : Int)) f] (hr : Bys ro a n c l) (hkm : k + m ≤ n) (hn : n ≤ 100000000)
    (hk : ∀ a' c', m ≤ c' → c' ≤ maxLen → K (.tuple #[.slice a' m c', .int .i64 0]) ro (.sl a' m c' 5 1 (((l.drop k).take m).map u8) :: f (.blk p 130 (rdr a n c ((k + m : Nat) : Int))))) :
    CallOk Try.prog 41 #[ptr' p, .int .i64 (m : Nat)] ro own K := by
  have hl := hr.n
  have hle := hr.le
  have hcut := hr.cutB (lo := (k : Int)) (hi := (k : Int) + (m : Int)) (by omega)
  have e : ((k : Int) + (m : Int)).toNat - (k : Int).toNat = m := by omega
  simp only [Int.natCast_add] at hk
  refine CallOk.intro (args := [_, _]) (rs := [_, _]) T_ok Try.func41 Try.call41 rfl rfl (by kernel_rfl) rfl rfl ?_
  repeat (first
    | (show _ ∧ _; exact ⟨rfl, rfl, rfl⟩)
    | refine wkG ?_
    | (show OpOk _ _ _ _ _ _ _; first | refine opB (fun b => ?_) | refine opA (fun a' c' hc1 hc2 => ?_))
    | (show GJ _ _ _ _ _ _ _; first | (apply GJ.and; exact rfl; intro hg) | (apply GJ.or; exact rfl; intro hg) | refine GJ.t omAuto ?_ | refine GJ.f omAuto ?_ | refine GJ.ft omAuto ?_ | refine GJ.ff omAuto ?_))
  refine left_ok (by omega) (by omega) ?_
  repeat (first
    | (show _ ∧ _; exact ⟨rfl, rfl, rfl⟩)
    | refine wkG ?_
    | (show OpOk _ _ _ _ _ _ _; first | refine opB (fun b => ?_) | refine opA (fun a' c' hc1 hc2 => ?_))
    | (show GJ _ _ _ _ _ _ _; first | (apply GJ.and; exact rfl; intro hg) | (apply GJ.or; exact rfl; intro hg) | refine GJ.t omAuto ?_ | refine GJ.f omAuto ?_ | refine GJ.ft omAuto ?_ | refine GJ.ff omAuto ?_))
  refine Bs.all ?_
  repeat (first
    | (show _ ∧ _; exact ⟨rfl, rfl, rfl⟩)
    | refine wkG ?_
    | (show OpOk _ _ _ _ _ _ _; first | refine opB (fun b => ?_) | refine opA (fun a' c' hc1 hc2 => ?_))
    | (show GJ _ _ _ _ _ _ _; first | (apply GJ.and; exact rfl; intro hg) | (apply GJ.or; exact rfl; intro hg) | refine GJ.t omAuto ?_ | refine GJ.f omAuto ?_ | refine GJ.ft omAuto ?_ | refine GJ.ff omAuto ?_))
  rw [e, Int.toNat_natCast]
  exact Wk.id (hk a' c' (by omega) (by omega))
theorem rnumber_ok {p n c k w : Nat} {little : Bool} {a : Option Addr} {l : List UInt8} [hb : HasBlk own p 130 (rdr a n c (k : Int)) f] (hr : Bys ro a n c l) (hw : 1 ≤ w ∧ w ≤ 8) (hkw : k + w ≤ n) (hn : n ≤ 100000000)
    (hk : K (.tuple #[.int .u64 (beN (dirB little ((l.drop k).take w))), .int .i64 0]) ro (f (.blk p 130 (rdr a n c ((k + w : Nat) : Int))))) :
    CallOk Try.prog 40 #[ptr' p, .int .i64 (w : Nat), .bool little] ro own K := by
  have hl := hr.n
  refine CallOk.intro (args := [_, _, _]) (rs := [_, _]) T_ok Try.func40 Try.call40 rfl rfl (by kernel_rfl) rfl rfl ?_
  repeat (first
    | (show _ ∧ _; exact ⟨rfl, rfl, rfl⟩)
    | refine wkG ?_
    | (show OpOk _ _ _ _ _ _ _; first | refine opB (fun b => ?_) | refine opA (fun a' c' hc1 hc2 => ?_))
    | (show GJ _ _ _ _ _ _ _; first | (apply GJ.and; exact rfl; intro hg) | (apply GJ.or; exact rfl; intro hg) | refine GJ.t omAuto ?_ | refine GJ.f omAuto ?_ | refine GJ.ft omAuto ?_ | refine GJ.ff omAuto ?_))
  refine width_ok ?_
  repeat (first
    | (show _ ∧ _; exact ⟨rfl, rfl, rfl⟩)
    | refine wkG ?_
    | (show OpOk _ _ _ _ _ _ _; first | refine opB (fun b => ?_) | refine opA (fun a' c' hc1 hc2 => ?_))
    | (show GJ _ _ _ _ _ _ _; first | (apply GJ.and; exact rfl; intro hg) | (apply GJ.or; exact rfl; intro hg) | refine GJ.t omAuto ?_ | refine GJ.f omAuto ?_ | refine GJ.ft omAuto ?_ | refine GJ.ff omAuto ?_))
  refine take_ok hr (by omega) hn (fun a' c' h1 h2 => ?_)
  repeat (first
    | (show _ ∧ _; exact ⟨rfl, rfl, rfl⟩)
    | refine wkG ?_
    | (show OpOk _ _ _ _ _ _ _; first | refine opB (fun b => ?_) | refine opA (fun a' c' hc1 hc2 => ?_))
    | (show GJ _ _ _ _ _ _ _; first | (apply GJ.and; exact rfl; intro hg) | (apply GJ.or; exact rfl; intro hg) | refine GJ.t omAuto ?_ | refine GJ.f omAuto ?_ | refine GJ.ft omAuto ?_ | refine GJ.ff omAuto ?_))
  refine of_ok (l := (l.drop k).take w) (Rds.hasSl (by omega) (by omega) (by simp; omega)) (by omega) ?_
  repeat (first
    | (show _ ∧ _; exact ⟨rfl, rfl, rfl⟩)
    | refine wkG ?_
    | (show OpOk _ _ _ _ _ _ _; first | refine opB (fun b => ?_) | refine opA (fun a' c' hc1 hc2 => ?_))
    | (show GJ _ _ _ _ _ _ _; first | (apply GJ.and; exact rfl; intro hg) | (apply GJ.or; exact rfl; intro hg) | refine GJ.t omAuto ?_ | refine GJ.f omAuto ?_ | refine GJ.ft omAuto ?_ | refine GJ.ff omAuto ?_))
  exact Wk.outS Sup.auto (.refl _) hk
end
end Go.Proofs.Ytpjiaafkcojddaa
