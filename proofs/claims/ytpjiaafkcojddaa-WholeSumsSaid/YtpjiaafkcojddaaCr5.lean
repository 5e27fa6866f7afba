/- Contracts of crc: sums, seals. -/
import Derived.Test.YtpjiaafkcojddaaCr4
namespace Go.Proofs.Ytpjiaafkcojddaa
open Go Go.E
set_option linter.unusedVariables false
set_option maxRecDepth 10000
/-- A checksum so far, one byte more. -/
def crcB (s : Nat) (c : UInt8) : Nat := stepN ((s % 256) ^^^ c.toNat) ^^^ (s / 256)
def crcL (s : Nat) (l : List UInt8) : Nat := l.foldl crcB s
theorem crcB_lt {s : Nat} (c : UInt8) (h : s < 4294967296) : crcB s c < 4294967296 := by
  have hc := c.toNat_lt
  exact Nat.xor_lt_two_pow (n := 32) (bits_lt (Nat.lt_trans (Nat.xor_lt_two_pow (n := 8) (Nat.mod_lt _ (by omega)) hc) (by omega)) 8) (by omega)
theorem crcL_lt : ∀ (l : List UInt8) (s : Nat), s < 4294967296 → crcL s l < 4294967296
  | [], s, h => h
  | c :: l, s, h => crcL_lt l _ (crcB_lt c h)
theorem crcL_snoc (s : Nat) (l : List UInt8) (c : UInt8) : crcL s (l ++ [c]) = crcB (crcL s l) c := by simp [crcL]
theorem take_snocC {l : List UInt8} {k : Nat} (h : k < l.length) : l.take (k + 1) = l.take k ++ [l[k]!] := by
  rw [List.take_add_one, List.getElem?_eq_getElem h, List.getElem!_eq_getElem?_getD, List.getElem?_eq_getElem h]; rfl
/-- A table's cells: not made yet; made, and so many bytes were put to sums. -/
def tcells : Option Nat → List Value
  | none => tbl 0 0 (rowsAt 0) 0 0
  | some k => tbl 1 0 (rowsAt 256) 1 (k : Int)
theorem tcells_get {k j : Nat} (h : j < 256) : (tcells (some k))[3 + j]? = some (.int .u32 (stepN j : Nat)) := by
  rw [tcells, tbl_get (by rw [rowsAt_len]; exact h)]
  simp [rowsAt, h]
section
variable {ro : Ro} {own r : Chs} {K : Value → Ro → Chs → Prop} {g : Chunk → Chs}
theorem ready_ok {b : Nat} {o : Option Nat} (hk : K (.tuple #[]) ro (.blk b 45 (tcells (some (o.getD 0))) :: r)) :
    CallOk Try.prog 43 #[ptr' b] ro (.blk b 45 (tcells o) :: r) K := by
  cases o with
  | none =>
    refine CallOk.post (ro0 := ro) (own0 := .blk b 45 (tcells none) :: r) (ready_first (K := fun v ro' own' => v = .tuple #[] ∧ ro' = ro ∧ ∃ pl tp, own' = .blk b 45 (tbl 1 0 (rowsAt 256) 1 0) :: .blk pl tp [ptr' b] :: r) (fun pl tp => ⟨rfl, rfl, pl, tp, rfl⟩)) (fun h hs => hs) ?_
    rintro v ro' own' h' hl hs ⟨rfl, rfl, pl, tp, rfl⟩
    exact ⟨ro', _, Le.refl _, hs.sup (Sup.cons (.hit _ _) (Sup.drop _ (Sup.all _))), hk⟩
  | some k => exact ready_done (rows := rowsAt 256) (m := 1) (k := (k : Int)) hk
theorem start_ok (hk : K (.agg #[.int .u32 4294967295]) ro own) : CallOk Try.prog 15 #[] ro own K := by
  refine CallOk.intro (args := []) (rs := [_]) T_ok Try.func15 Try.call15 rfl rfl (by kernel_rfl) rfl rfl ?_
  repeat (first
    | (show _ ∧ _; exact ⟨rfl, rfl, rfl⟩)
    | refine wkG ?_
    | (show OpOk _ _ _ _ _ _ _; first | refine opB (fun b => ?_) | refine opA (fun a' c' hc1 hc2 => ?_))
    | (show GJ _ _ _ _ _ _ _; first | (apply GJ.and; exact rfl; intro hg) | (apply GJ.or; exact rfl; intro hg) | refine GJ.t omAuto ?_ | refine GJ.f omAuto ?_ | refine GJ.ft omAuto ?_ | refine GJ.ff omAuto ?_))
  exact Wk.outS Sup.auto (.refl _) hk
theorem value_ok {x : Nat} (hk : K (.int .u32 ((x ^^^ 4294967295 : Nat) : Int)) ro own) (hx : x < 4294967296) : CallOk Try.prog 19 #[.agg #[.int .u32 x]] ro own K := by
  refine CallOk.intro (args := [_]) (rs := [_]) T_ok Try.func19 Try.call19 rfl rfl (by kernel_rfl) rfl rfl ?_
  repeat (first
    | (show _ ∧ _; exact ⟨rfl, rfl, rfl⟩)
    | refine wkG ?_
    | (show OpOk _ _ _ _ _ _ _; first | refine opB (fun b => ?_) | refine opA (fun a' c' hc1 hc2 => ?_))
    | (show GJ _ _ _ _ _ _ _; first | (apply GJ.and; exact rfl; intro hg) | (apply GJ.or; exact rfl; intro hg) | refine GJ.t omAuto ?_ | refine GJ.f omAuto ?_ | refine GJ.ft omAuto ?_ | refine GJ.ff omAuto ?_))
  rw [show nxor2 (x : Int) 4294967295 = ((x ^^^ 4294967295 : Nat) : Int) from nxor2_nat x 4294967295]
  exact Wk.outS Sup.auto (.refl _) hk
theorem add_ok {b0 n c s : Nat} {o : Option Nat} {a : Option Addr} {l : List UInt8} (hr : Rds ro r a n c 1 (l.map u8)) (hn : n ≤ 1000000000) (ho : o.getD 0 ≤ 1000000000000) (hs : s < 4294967296)
    (hk : K (.agg #[.int .u32 (crcL s l : Nat)]) ro (.blk b0 45 (tcells (some (o.getD 0 + n))) :: r)) :
    CallOk Try.prog 16 #[ptr' b0, .agg #[.int .u32 s], .slice a n c] ro (.blk b0 45 (tcells o) :: r) K := by
  have hl := hr.n1
  simp at hl
  refine CallOk.intro (args := [_, _, _]) (rs := [_]) T_ok Try.func16 Try.call16 rfl rfl (by kernel_rfl) rfl rfl ?_
  repeat (first
    | (show _ ∧ _; exact ⟨rfl, rfl, rfl⟩)
    | refine wkG ?_
    | (show OpOk _ _ _ _ _ _ _; first | refine opB (fun b => ?_) | refine opA (fun a' c' hc1 hc2 => ?_))
    | (show GJ _ _ _ _ _ _ _; first | (apply GJ.and; exact rfl; intro hg) | (apply GJ.or; exact rfl; intro hg) | refine GJ.t omAuto ?_ | refine GJ.f omAuto ?_ | refine GJ.ft omAuto ?_ | refine GJ.ff omAuto ?_))
  rename_i bb
  refine CallOk.perm (Take.perm (.miss _ (.miss _ (.hit _ _)))) ?_
  refine ready_ok ?_
  repeat (first
    | (show _ ∧ _; exact ⟨rfl, rfl, rfl⟩)
    | refine wkG ?_
    | (show OpOk _ _ _ _ _ _ _; first | refine opB (fun b => ?_) | refine opA (fun a' c' hc1 hc2 => ?_))
    | (show GJ _ _ _ _ _ _ _; first | (apply GJ.and; exact rfl; intro hg) | (apply GJ.or; exact rfl; intro hg) | refine GJ.t omAuto ?_ | refine GJ.f omAuto ?_ | refine GJ.ft omAuto ?_ | refine GJ.ff omAuto ?_))
  refine LoopOk.at (ι := Nat × Nat) Keep.auto (fun (i, y) => [(13, .int .i64 (i : Int))]) (fun (i, y) => .blk bb 51 [.int .u32 (y : Int)] :: .blk b 51 [.int .u32 0] :: .blk b0 45 (tcells (some (o.getD 0))) :: r) (fun (i, y) => i ≤ n ∧ y = crcL s (l.take i)) (fun (i, y) => n - i) (0, s) ?_ Sub.auto Sup.auto ?_
  · exact ⟨by omega, rfl⟩
  rintro ⟨i, y⟩ ⟨i1, rfl⟩
  dsimp only [List.cons_append, List.nil_append]
  repeat (first
    | (show _ ∧ _; exact ⟨rfl, rfl, rfl⟩)
    | refine wkG ?_
    | (show OpOk _ _ _ _ _ _ _; first | refine opB (fun b => ?_) | refine opA (fun a' c' hc1 hc2 => ?_))
    | (show GJ _ _ _ _ _ _ _; first | (apply GJ.and; exact rfl; intro hg) | (apply GJ.or; exact rfl; intro hg) | refine GJ.t omAuto ?_ | refine GJ.f omAuto ?_ | refine GJ.ft omAuto ?_ | refine GJ.ff omAuto ?_))
  refine Br.cases (fun hc => ?_) (fun hc => ?_)
  · have h0 : i < l.length := by omega
    have hy := crcL_lt (l.take i) s hs
    have hsn := crcL_snoc s (l.take i) l[i]!
    rw [← take_snocC h0] at hsn
    repeat (first
      | (show _ ∧ _; exact ⟨rfl, rfl, rfl⟩)
      | refine wkG ?_
      | (show OpOk _ _ _ _ _ _ _; first | refine opB (fun b => ?_) | refine opA (fun a' c' hc1 hc2 => ?_))
      | (show GJ _ _ _ _ _ _ _; first | (apply GJ.and; exact rfl; intro hg) | (apply GJ.or; exact rfl; intro hg) | refine GJ.t omAuto ?_ | refine GJ.f omAuto ?_ | refine GJ.ft omAuto ?_ | refine GJ.ff omAuto ?_))
    simp only [Int.toNat_natCast]
    generalize l[i]! = ch at hsn
    have hch := ch.toNat_lt
    generalize crcL s (l.take i) = y at hy hsn
    have hj : (y % 256) ^^^ ch.toNat < 256 := Nat.xor_lt_two_pow (n := 8) (Nat.mod_lt _ (by omega)) hch
    have e1 : nxor2 ((y : Int) % 256) (ch.toNat : Int) = (((y % 256) ^^^ ch.toNat : Nat) : Int) := by
      rw [show (y : Int) % 256 = ((y % 256 : Nat) : Int) by omega, nxor2_nat]
    rw [e1]
    generalize hje : (y % 256) ^^^ ch.toNat = j at hj
    refine QOk.idxA rfl rfl rfl (by omega) ?_
    rw [show 0 + 3 + (j : Int).toNat * 1 = 3 + j by simp]
    repeat (first
      | (show _ ∧ _; exact ⟨rfl, rfl, rfl⟩)
      | refine wkG ?_
      | (show OpOk _ _ _ _ _ _ _; first | refine opB (fun b => ?_) | refine opA (fun a' c' hc1 hc2 => ?_))
      | (show GJ _ _ _ _ _ _ _; first | (apply GJ.and; exact rfl; intro hg) | (apply GJ.or; exact rfl; intro hg) | refine GJ.t omAuto ?_ | refine GJ.f omAuto ?_ | refine GJ.ft omAuto ?_ | refine GJ.ff omAuto ?_))
    have hst : stepN j < 4294967296 := bits_lt (by omega) 8
    refine QOk.load rfl rfl (v := .int .u32 (stepN j : Nat)) (by exact Ld.hasBlkAt (tcells_get hj)) ?_
    generalize hse : stepN j = sj at hst
    repeat (first
      | (show _ ∧ _; exact ⟨rfl, rfl, rfl⟩)
      | refine wkG ?_
      | (show OpOk _ _ _ _ _ _ _; first | refine opB (fun b => ?_) | refine opA (fun a' c' hc1 hc2 => ?_))
      | (show GJ _ _ _ _ _ _ _; first | (apply GJ.and; exact rfl; intro hg) | (apply GJ.or; exact rfl; intro hg) | refine GJ.t omAuto ?_ | refine GJ.f omAuto ?_ | refine GJ.ft omAuto ?_ | refine GJ.ff omAuto ?_))
    have e2 : (y : Int) / 2 ^ Int.toNat 8 = ((y / 256 : Nat) : Int) := by simp
    rw [e2, nxor2_nat]
    refine Wk.id ⟨(i + 1, _), ⟨rfl, ?_⟩, ?_, Sub.auto, Sup.auto⟩
    all_goals try dsimp only
    · exact ⟨by omega, by rw [hsn, crcB, hje, hse]⟩
    · omega
  · obtain rfl : i = n := by omega
    rw [List.take_of_length_le (by omega)]
    repeat (first
      | (show _ ∧ _; exact ⟨rfl, rfl, rfl⟩)
      | refine wkG ?_
      | (show OpOk _ _ _ _ _ _ _; first | refine opB (fun b => ?_) | refine opA (fun a' c' hc1 hc2 => ?_))
      | (show GJ _ _ _ _ _ _ _; first | (apply GJ.and; exact rfl; intro hg) | (apply GJ.or; exact rfl; intro hg) | refine GJ.t omAuto ?_ | refine GJ.f omAuto ?_ | refine GJ.ft omAuto ?_ | refine GJ.ff omAuto ?_))
    rw [show (i : Int) % 18446744073709551616 = ((i : Nat) : Int) by omega]
    refine uadd_ok (x := o.getD 0) (tbl_k (rowsAt_len _)) (by omega) ?_
    rw [show (tbl 1 0 (rowsAt 256) 1 ((o.getD 0 : Nat) : Int)).set (0 + 260) (.int .u64 ((o.getD 0 + i : Nat) : Int)) = tcells (some (o.getD 0 + i)) from tbl_setK (rowsAt_len _)]
    repeat (first
      | (show _ ∧ _; exact ⟨rfl, rfl, rfl⟩)
      | refine wkG ?_
      | (show OpOk _ _ _ _ _ _ _; first | refine opB (fun b => ?_) | refine opA (fun a' c' hc1 hc2 => ?_))
      | (show GJ _ _ _ _ _ _ _; first | (apply GJ.and; exact rfl; intro hg) | (apply GJ.or; exact rfl; intro hg) | refine GJ.t omAuto ?_ | refine GJ.f omAuto ?_ | refine GJ.ft omAuto ?_ | refine GJ.ff omAuto ?_))
    exact Wk.outS Sup.auto (.refl _) hk
def crcOf (l : List UInt8) : Nat := crcL 4294967295 l ^^^ 4294967295
theorem crcOf_lt (l : List UInt8) : crcOf l < 4294967296 := Nat.xor_lt_two_pow (n := 32) (crcL_lt l _ (by omega)) (by omega)
theorem tof_ok {b n c : Nat} {o : Option Nat} {a : Option Addr} {l : List UInt8} (hr : Rds ro r a n c 1 (l.map u8)) (hn : n ≤ 1000000000) (ho : o.getD 0 ≤ 1000000000000)
    (hk : K (.int .u32 (crcOf l : Nat)) ro (.blk b 45 (tcells (some (o.getD 0 + n))) :: r)) :
    CallOk Try.prog 13 #[ptr' b, .slice a n c] ro (.blk b 45 (tcells o) :: r) K := by
  refine CallOk.intro (args := [_, _]) (rs := [_]) T_ok Try.func13 Try.call13 rfl rfl (by kernel_rfl) rfl rfl ?_
  repeat (first
    | (show _ ∧ _; exact ⟨rfl, rfl, rfl⟩)
    | refine wkG ?_
    | (show OpOk _ _ _ _ _ _ _; first | refine opB (fun b => ?_) | refine opA (fun a' c' hc1 hc2 => ?_))
    | (show GJ _ _ _ _ _ _ _; first | (apply GJ.and; exact rfl; intro hg) | (apply GJ.or; exact rfl; intro hg) | refine GJ.t omAuto ?_ | refine GJ.f omAuto ?_ | refine GJ.ft omAuto ?_ | refine GJ.ff omAuto ?_))
  refine start_ok ?_
  repeat (first
    | (show _ ∧ _; exact ⟨rfl, rfl, rfl⟩)
    | refine wkG ?_
    | (show OpOk _ _ _ _ _ _ _; first | refine opB (fun b => ?_) | refine opA (fun a' c' hc1 hc2 => ?_))
    | (show GJ _ _ _ _ _ _ _; first | (apply GJ.and; exact rfl; intro hg) | (apply GJ.or; exact rfl; intro hg) | refine GJ.t omAuto ?_ | refine GJ.f omAuto ?_ | refine GJ.ft omAuto ?_ | refine GJ.ff omAuto ?_))
  refine add_ok (s := 4294967295) hr hn ho (by omega) ?_
  repeat (first
    | (show _ ∧ _; exact ⟨rfl, rfl, rfl⟩)
    | refine wkG ?_
    | (show OpOk _ _ _ _ _ _ _; first | refine opB (fun b => ?_) | refine opA (fun a' c' hc1 hc2 => ?_))
    | (show GJ _ _ _ _ _ _ _; first | (apply GJ.and; exact rfl; intro hg) | (apply GJ.or; exact rfl; intro hg) | refine GJ.t omAuto ?_ | refine GJ.f omAuto ?_ | refine GJ.ft omAuto ?_ | refine GJ.ff omAuto ?_))
  refine value_ok ?_ (crcL_lt l _ (by omega))
  repeat (first
    | (show _ ∧ _; exact ⟨rfl, rfl, rfl⟩)
    | refine wkG ?_
    | (show OpOk _ _ _ _ _ _ _; first | refine opB (fun b => ?_) | refine opA (fun a' c' hc1 hc2 => ?_))
    | (show GJ _ _ _ _ _ _ _; first | (apply GJ.and; exact rfl; intro hg) | (apply GJ.or; exact rfl; intro hg) | refine GJ.t omAuto ?_ | refine GJ.f omAuto ?_ | refine GJ.ft omAuto ?_ | refine GJ.ff omAuto ?_))
  exact Wk.id hk
/-- A number's four bytes, the highest first. -/
def be4 (x : Nat) : List UInt8 := [UInt8.ofNat (x / 2 ^ 24), UInt8.ofNat (x / 2 ^ 16), UInt8.ofNat (x / 2 ^ 8), UInt8.ofNat x]
theorem be4_len (x : Nat) : (be4 x).length = 4 := rfl
theorem be4_eq (x : Nat) : [Value.int .u8 ((x : Int) / 2 ^ Int.toNat 24 % 256), .int .u8 ((x : Int) / 2 ^ Int.toNat 16 % 256), .int .u8 ((x : Int) / 2 ^ Int.toNat 8 % 256), .int .u8 ((x : Int) % 256)] = (be4 x).map u8 := by
  simp [be4, u8]
theorem seal_ok {b n c : Nat} {o : Option Nat} {a : Option Addr} {l : List UInt8} (hr : Rds ro r a n c 1 (l.map u8)) (hn : n ≤ 1000000) (ho : o.getD 0 ≤ 1000000000000)
    (hk : ∀ a' n' c', n' = n + 4 → n' ≤ c' → c' ≤ maxLen → K (.slice a' n' c') ro (.sl a' n' c' 5 1 ((l ++ be4 (crcOf l)).map u8) :: .blk b 45 (tcells (some (o.getD 0 + n))) :: r)) :
    CallOk Try.prog 20 #[ptr' b, .slice a n c] ro (.blk b 45 (tcells o) :: r) K := by
  have hx := crcOf_lt l
  refine CallOk.intro (args := [_, _]) (rs := [_]) T_ok Try.func20 Try.call20 rfl rfl (by kernel_rfl) rfl rfl ?_
  repeat (first
    | (show _ ∧ _; exact ⟨rfl, rfl, rfl⟩)
    | refine wkG ?_
    | (show OpOk _ _ _ _ _ _ _; first | refine opB (fun b => ?_) | refine opA (fun a' c' hc1 hc2 => ?_))
    | (show GJ _ _ _ _ _ _ _; first | (apply GJ.and; exact rfl; intro hg) | (apply GJ.or; exact rfl; intro hg) | refine GJ.t omAuto ?_ | refine GJ.f omAuto ?_ | refine GJ.ft omAuto ?_ | refine GJ.ff omAuto ?_))
  refine tof_ok hr (by omega) ho ?_
  repeat (first
    | (show _ ∧ _; exact ⟨rfl, rfl, rfl⟩)
    | refine wkG ?_
    | (show OpOk _ _ _ _ _ _ _; first | refine opB (fun b => ?_) | refine opA (fun a' c' hc1 hc2 => ?_))
    | (show GJ _ _ _ _ _ _ _; first | (apply GJ.and; exact rfl; intro hg) | (apply GJ.or; exact rfl; intro hg) | refine GJ.t omAuto ?_ | refine GJ.f omAuto ?_ | refine GJ.ft omAuto ?_ | refine GJ.ff omAuto ?_))
  rw [be4_eq, ← List.map_append]
  exact Wk.id (hk _ _ _ rfl hc1 hc2)
theorem open_short {b n c : Nat} {o : Option Nat} {a : Option Addr} (hn : n < 4) (hk : K (.tuple #[.slice none 0 0, .bool false]) ro own) :
    CallOk Try.prog 21 #[ptr' b, .slice a n c] ro own K := by
  refine CallOk.intro (args := [_, _]) (rs := [_, _]) T_ok Try.func21 Try.call21 rfl rfl (by kernel_rfl) rfl rfl ?_
  repeat (first
    | (show _ ∧ _; exact ⟨rfl, rfl, rfl⟩)
    | refine wkG ?_
    | (show OpOk _ _ _ _ _ _ _; first | refine opB (fun b => ?_) | refine opA (fun a' c' hc1 hc2 => ?_))
    | (show GJ _ _ _ _ _ _ _; first | (apply GJ.and; exact rfl; intro hg) | (apply GJ.or; exact rfl; intro hg) | refine GJ.t omAuto ?_ | refine GJ.f omAuto ?_ | refine GJ.ft omAuto ?_ | refine GJ.ff omAuto ?_))
  refine Bs.all ?_
  repeat (first
    | (show _ ∧ _; exact ⟨rfl, rfl, rfl⟩)
    | refine wkG ?_
    | (show OpOk _ _ _ _ _ _ _; first | refine opB (fun b => ?_) | refine opA (fun a' c' hc1 hc2 => ?_))
    | (show GJ _ _ _ _ _ _ _; first | (apply GJ.and; exact rfl; intro hg) | (apply GJ.or; exact rfl; intro hg) | refine GJ.t omAuto ?_ | refine GJ.f omAuto ?_ | refine GJ.ft omAuto ?_ | refine GJ.ff omAuto ?_))
  exact Wk.id hk
theorem open_ok {b n c m : Nat} {o : Option Nat} {a : Option Addr} {l : List UInt8} (hr : Rds ro r a n c 1 (l.map u8)) (hn : n ≤ 1000000) (hm : n = m + 4) (ho : o.getD 0 ≤ 1000000000000)
    (h1 : l.take m ++ be4 (crcOf (l.take m)) = l → ∀ a' c', m ≤ c' → c' ≤ maxLen → K (.tuple #[.slice a' m c', .bool true]) ro (.sl a' m c' 5 1 ((l.take m).map u8) :: .blk b 45 (tcells (some (o.getD 0 + m))) :: r))
    (h2 : l.take m ++ be4 (crcOf (l.take m)) ≠ l → K (.tuple #[.slice none 0 0, .bool false]) ro (.blk b 45 (tcells (some (o.getD 0 + m))) :: r)) :
    CallOk Try.prog 21 #[ptr' b, .slice a n c] ro (.blk b 45 (tcells o) :: r) K := by
  have hl := hr.n1
  simp at hl
  have hle := hr.le
  have hcut := hr.cutB (lo := 0) (hi := (n : Int) - 4) (by omega)
  have e1 : ((n : Int) - 4).toNat - Int.toNat 0 = m := by omega
  refine CallOk.intro (args := [_, _]) (rs := [_, _]) T_ok Try.func21 Try.call21 rfl rfl (by kernel_rfl) rfl rfl ?_
  repeat (first
    | (show _ ∧ _; exact ⟨rfl, rfl, rfl⟩)
    | refine wkG ?_
    | (show OpOk _ _ _ _ _ _ _; first | refine opB (fun b => ?_) | refine opA (fun a' c' hc1 hc2 => ?_))
    | (show GJ _ _ _ _ _ _ _; first | (apply GJ.and; exact rfl; intro hg) | (apply GJ.or; exact rfl; intro hg) | refine GJ.t omAuto ?_ | refine GJ.f omAuto ?_ | refine GJ.ft omAuto ?_ | refine GJ.ff omAuto ?_))
  refine Bs.mk ⟨r, Sup.auto, ?_⟩
  repeat (first
    | (show _ ∧ _; exact ⟨rfl, rfl, rfl⟩)
    | refine wkG ?_
    | (show OpOk _ _ _ _ _ _ _; first | refine opB (fun b => ?_) | refine opA (fun a' c' hc1 hc2 => ?_))
    | (show GJ _ _ _ _ _ _ _; first | (apply GJ.and; exact rfl; intro hg) | (apply GJ.or; exact rfl; intro hg) | refine GJ.t omAuto ?_ | refine GJ.f omAuto ?_ | refine GJ.ft omAuto ?_ | refine GJ.ff omAuto ?_))
  have hcut2 := hcut
  rw [e1, Int.toNat_zero, List.drop_zero] at hcut2
  rw [e1, Int.toNat_zero]
  refine seal_ok hcut2 (by omega) ho (fun a1 n1 c1 g1 g2 g3 => ?_)
  have hlm : (l.take m).length = m := by simp; omega
  repeat (first
    | (show _ ∧ _; exact ⟨rfl, rfl, rfl⟩)
    | refine wkG ?_
    | (show OpOk _ _ _ _ _ _ _; first | refine opB (fun b => ?_) | refine opA (fun a' c' hc1 hc2 => ?_))
    | (show GJ _ _ _ _ _ _ _; first | (apply GJ.and; exact rfl; intro hg) | (apply GJ.or; exact rfl; intro hg) | refine GJ.t omAuto ?_ | refine GJ.f omAuto ?_ | refine GJ.ft omAuto ?_ | refine GJ.ff omAuto ?_))
  refine QOk.toStr rfl rfl rfl rfl (Rds.hasSl (by omega) (by omega) (by rw [List.length_map, List.length_append, hlm, be4_len]; omega)) ?_
  repeat (first
    | (show _ ∧ _; exact ⟨rfl, rfl, rfl⟩)
    | refine wkG ?_
    | (show OpOk _ _ _ _ _ _ _; first | refine opB (fun b => ?_) | refine opA (fun a' c' hc1 hc2 => ?_))
    | (show GJ _ _ _ _ _ _ _; first | (apply GJ.and; exact rfl; intro hg) | (apply GJ.or; exact rfl; intro hg) | refine GJ.t omAuto ?_ | refine GJ.f omAuto ?_ | refine GJ.ft omAuto ?_ | refine GJ.ff omAuto ?_))
  refine Br.cases (fun hc => ?_) (fun hc => ?_)
  · repeat (first
      | (show _ ∧ _; exact ⟨rfl, rfl, rfl⟩)
      | refine wkG ?_
      | (show OpOk _ _ _ _ _ _ _; first | refine opB (fun b => ?_) | refine opA (fun a' c' hc1 hc2 => ?_))
      | (show GJ _ _ _ _ _ _ _; first | (apply GJ.and; exact rfl; intro hg) | (apply GJ.or; exact rfl; intro hg) | refine GJ.t omAuto ?_ | refine GJ.f omAuto ?_ | refine GJ.ft omAuto ?_ | refine GJ.ff omAuto ?_))
    exact Wk.outS Sup.auto (.refl _) (h2 (by simpa using hc))
  · repeat (first
      | (show _ ∧ _; exact ⟨rfl, rfl, rfl⟩)
      | refine wkG ?_
      | (show OpOk _ _ _ _ _ _ _; first | refine opB (fun b => ?_) | refine opA (fun a' c' hc1 hc2 => ?_))
      | (show GJ _ _ _ _ _ _ _; first | (apply GJ.and; exact rfl; intro hg) | (apply GJ.or; exact rfl; intro hg) | refine GJ.t omAuto ?_ | refine GJ.f omAuto ?_ | refine GJ.ft omAuto ?_ | refine GJ.ff omAuto ?_))
    rw [e1, Int.toNat_zero, List.drop_zero]
    exact Wk.outS Sup.auto (.refl _) (h1 (by simpa using hc) a' c' (by omega) hc2)
end
end Go.Proofs.Ytpjiaafkcojddaa
