/- Contracts of crc: the table is made; sums. -/
import Derived.Test.YtpjiaafkcojddaaCr3
import Derived.Test.YtpjiaafkcojddaaOc1
namespace Go.Proofs.Ytpjiaafkcojddaa
open Go Go.E
set_option linter.unusedVariables false
set_option maxRecDepth 10000
section
variable {ro : Ro} {own r : Chs} {K : Value → Ro → Chs → Prop} {g : Chunk → Chs}
/-- A table's cells. -/
def tbl (d st : Int) (rows : List Value) (m k : Int) : List Value := .int .u32 d :: .int .i32 st :: .int .u32 0 :: (rows ++ [.int .i32 m, .int .u64 k])
/-- The rows, the first i of them made. -/
def rowsAt (i : Nat) : List Value := (List.range 256).map fun j => Value.int .u32 ((if j < i then stepN j else 0 : Nat) : Int)
theorem rowsAt_len (i : Nat) : (rowsAt i).length = 256 := by simp [rowsAt]
theorem rowsAt_zero : rowsAt 0 = List.replicate 256 (.int .u32 0) := by
  apply List.ext_getElem
  · simp [rowsAt]
  · intro i h1 h2
    simp only [rowsAt, List.getElem_map, List.getElem_range, List.getElem_replicate]
    rfl
theorem rowsAt_set {i : Nat} (h : i < 256) : (rowsAt i).set i (.int .u32 (stepN i : Nat)) = rowsAt (i + 1) := by
  apply List.ext_getElem
  · simp [rowsAt]
  · intro j h1 h2
    simp only [rowsAt, List.getElem_set, List.getElem_map, List.getElem_range]
    by_cases e : i = j
    · subst e; simp
    · rw [if_neg e]
      by_cases e2 : j < i
      · rw [if_pos e2, if_pos (by omega)]
      · rw [if_neg e2, if_neg (by omega)]
theorem tbl_set {d st m k : Int} {rows : List Value} {i : Nat} {v : Value} (h : i < rows.length) : (tbl d st rows m k).set (3 + i) v = tbl d st (rows.set i v) m k := by
  rw [Nat.add_comm]
  simp only [tbl, List.set_cons_succ, List.set_append_left _ _ h]
theorem tbl_get {d st m k : Int} {rows : List Value} {i : Nat} (h : i < rows.length) : (tbl d st rows m k)[3 + i]? = rows[i]? := by
  rw [Nat.add_comm]
  simp only [tbl, List.getElem?_cons_succ, List.getElem?_append_left h]
theorem tbl_m {d st m k : Int} {rows : List Value} (h : rows.length = 256) : (tbl d st rows m k)[259]? = some (.int .i32 m) := by
  simp only [tbl, List.getElem?_cons_succ]
  rw [List.getElem?_append_right (by omega)]
  simp [h]
theorem tbl_k {d st m k : Int} {rows : List Value} (h : rows.length = 256) : (tbl d st rows m k)[260]? = some (.int .u64 k) := by
  simp only [tbl, List.getElem?_cons_succ]
  rw [List.getElem?_append_right (by omega)]
  simp [h]
theorem tbl_setM {d st m k m2 : Int} {rows : List Value} (h : rows.length = 256) : (tbl d st rows m k).set 259 (.int .i32 m2) = tbl d st rows m2 k := by
  simp only [tbl, List.set_cons_succ]
  rw [List.set_append_right _ _ (by omega)]
  simp [h]
theorem tbl_setK {d st m k k2 : Int} {rows : List Value} (h : rows.length = 256) : (tbl d st rows m k).set 260 (.int .u64 k2) = tbl d st rows m k2 := by
  simp only [tbl, List.set_cons_succ]
  rw [List.set_append_right _ _ (by omega)]
  simp [h]
theorem tbl_len {d st m k : Int} {rows : List Value} (h : rows.length = 256) : (tbl d st rows m k).length = 261 := by simp [tbl, h]
theorem iadd_ok {b o : Nat} {t : TypeId} {cs : List Value} {x : Int} [hb : HasBlk own b t cs g] (hx : cs[o]? = some (.int .i32 x)) (hr : 0 ≤ x ∧ x ≤ 1000000) (hk : K (.int .i32 (x + 1)) ro (g (.blk b t (cs.set o (.int .i32 (x + 1)))))) :
    CallOk Try.prog 64 #[.pointer (some ⟨b, o, none⟩), .int .i32 1] ro own K := by
  refine CallOk.intro (args := [_, _]) (rs := [_]) T_ok Try.func64 Try.call64 rfl rfl (by kernel_rfl) rfl rfl ?_
  repeat (first
    | (show _ ∧ _; exact ⟨rfl, rfl, rfl⟩)
    | refine wkG ?_
    | (show OpOk _ _ _ _ _ _ _; first | refine opB (fun b => ?_) | refine opA (fun a' c' hc1 hc2 => ?_))
    | (show GJ _ _ _ _ _ _ _; first | (apply GJ.and; exact rfl; intro hg) | (apply GJ.or; exact rfl; intro hg) | refine GJ.t omAuto ?_ | refine GJ.f omAuto ?_ | refine GJ.ft omAuto ?_ | refine GJ.ff omAuto ?_))
  refine CallOk.aaddAt Try.func78 (by kernel_rfl) (by kernel_rfl) (by kernel_rfl) .i32 (by kernel_rfl) (s := x + 1) hx (by simp [IntKind.wrap, IntKind.bits, IntKind.signed]; omega) ?_
  repeat (first
    | (show _ ∧ _; exact ⟨rfl, rfl, rfl⟩)
    | refine wkG ?_
    | (show OpOk _ _ _ _ _ _ _; first | refine opB (fun b => ?_) | refine opA (fun a' c' hc1 hc2 => ?_))
    | (show GJ _ _ _ _ _ _ _; first | (apply GJ.and; exact rfl; intro hg) | (apply GJ.or; exact rfl; intro hg) | refine GJ.t omAuto ?_ | refine GJ.f omAuto ?_ | refine GJ.ft omAuto ?_ | refine GJ.ff omAuto ?_))
  exact Wk.id hk
theorem uadd_ok {b o : Nat} {t : TypeId} {cs : List Value} {x y : Nat} [hb : HasBlk own b t cs g] (hx : cs[o]? = some (.int .u64 x)) (hr : x + y < 18446744073709551616) (hk : K (.int .u64 ((x + y : Nat) : Int)) ro (g (.blk b t (cs.set o (.int .u64 ((x + y : Nat) : Int)))))) :
    CallOk Try.prog 44 #[.pointer (some ⟨b, o, none⟩), .int .u64 y] ro own K := by
  refine CallOk.intro (args := [_, _]) (rs := [_]) T_ok Try.func44 Try.call44 rfl rfl (by kernel_rfl) rfl rfl ?_
  repeat (first
    | (show _ ∧ _; exact ⟨rfl, rfl, rfl⟩)
    | refine wkG ?_
    | (show OpOk _ _ _ _ _ _ _; first | refine opB (fun b => ?_) | refine opA (fun a' c' hc1 hc2 => ?_))
    | (show GJ _ _ _ _ _ _ _; first | (apply GJ.and; exact rfl; intro hg) | (apply GJ.or; exact rfl; intro hg) | refine GJ.t omAuto ?_ | refine GJ.f omAuto ?_ | refine GJ.ft omAuto ?_ | refine GJ.ff omAuto ?_))
  refine CallOk.aaddAt Try.func65 (by kernel_rfl) (by kernel_rfl) (by kernel_rfl) .u64 (by kernel_rfl) (s := ((x + y : Nat) : Int)) hx (by simp [IntKind.wrap, IntKind.bits, IntKind.signed]; omega) ?_
  repeat (first
    | (show _ ∧ _; exact ⟨rfl, rfl, rfl⟩)
    | refine wkG ?_
    | (show OpOk _ _ _ _ _ _ _; first | refine opB (fun b => ?_) | refine opA (fun a' c' hc1 hc2 => ?_))
    | (show GJ _ _ _ _ _ _ _; first | (apply GJ.and; exact rfl; intro hg) | (apply GJ.or; exact rfl; intro hg) | refine GJ.t omAuto ?_ | refine GJ.f omAuto ?_ | refine GJ.ft omAuto ?_ | refine GJ.ff omAuto ?_))
  exact Wk.id hk
theorem iload_ok {b o : Nat} {x : Int} (hl : Ld ro own b o (.int .i32 x)) (hk : K (.int .i32 x) ro own) : CallOk Try.prog 45 #[.pointer (some ⟨b, o, none⟩)] ro own K := by
  refine CallOk.intro (args := [_]) (rs := [_]) T_ok Try.func45 Try.call45 rfl rfl (by kernel_rfl) rfl rfl ?_
  repeat (first
    | (show _ ∧ _; exact ⟨rfl, rfl, rfl⟩)
    | refine wkG ?_
    | (show OpOk _ _ _ _ _ _ _; first | refine opB (fun b => ?_) | refine opA (fun a' c' hc1 hc2 => ?_))
    | (show GJ _ _ _ _ _ _ _; first | (apply GJ.and; exact rfl; intro hg) | (apply GJ.or; exact rfl; intro hg) | refine GJ.t omAuto ?_ | refine GJ.f omAuto ?_ | refine GJ.ft omAuto ?_ | refine GJ.ff omAuto ?_))
  refine CallOk.aload Try.func66 (by kernel_rfl) (by kernel_rfl) (by kernel_rfl) .i32 (by kernel_rfl) (x := x) (by simpa using hl) ?_
  repeat (first
    | (show _ ∧ _; exact ⟨rfl, rfl, rfl⟩)
    | refine wkG ?_
    | (show OpOk _ _ _ _ _ _ _; first | refine opB (fun b => ?_) | refine opA (fun a' c' hc1 hc2 => ?_))
    | (show GJ _ _ _ _ _ _ _; first | (apply GJ.and; exact rfl; intro hg) | (apply GJ.or; exact rfl; intro hg) | refine GJ.t omAuto ?_ | refine GJ.f omAuto ?_ | refine GJ.ft omAuto ?_ | refine GJ.ff omAuto ?_))
  exact Wk.id hk
theorem uload_ok {b o : Nat} {x : Int} (hl : Ld ro own b o (.int .u64 x)) (hk : K (.int .u64 x) ro own) : CallOk Try.prog 46 #[.pointer (some ⟨b, o, none⟩)] ro own K := by
  refine CallOk.intro (args := [_]) (rs := [_]) T_ok Try.func46 Try.call46 rfl rfl (by kernel_rfl) rfl rfl ?_
  repeat (first
    | (show _ ∧ _; exact ⟨rfl, rfl, rfl⟩)
    | refine wkG ?_
    | (show OpOk _ _ _ _ _ _ _; first | refine opB (fun b => ?_) | refine opA (fun a' c' hc1 hc2 => ?_))
    | (show GJ _ _ _ _ _ _ _; first | (apply GJ.and; exact rfl; intro hg) | (apply GJ.or; exact rfl; intro hg) | refine GJ.t omAuto ?_ | refine GJ.f omAuto ?_ | refine GJ.ft omAuto ?_ | refine GJ.ff omAuto ?_))
  refine CallOk.aload Try.func67 (by kernel_rfl) (by kernel_rfl) (by kernel_rfl) .u64 (by kernel_rfl) (x := x) (by simpa using hl) ?_
  repeat (first
    | (show _ ∧ _; exact ⟨rfl, rfl, rfl⟩)
    | refine wkG ?_
    | (show OpOk _ _ _ _ _ _ _; first | refine opB (fun b => ?_) | refine opA (fun a' c' hc1 hc2 => ?_))
    | (show GJ _ _ _ _ _ _ _; first | (apply GJ.and; exact rfl; intro hg) | (apply GJ.or; exact rfl; intro hg) | refine GJ.t omAuto ?_ | refine GJ.f omAuto ?_ | refine GJ.ft omAuto ?_ | refine GJ.ff omAuto ?_))
  exact Wk.id hk
theorem made_ok {b : Nat} {d st m k : Int} {rows : List Value} [hb : HasBlk own b 45 (tbl d st rows m k) g] (hr : rows.length = 256) (hm : 0 ≤ m ∧ m ≤ 1000000) (hk : K (.int .i64 m) ro own) : CallOk Try.prog 17 #[ptr' b] ro own K := by
  refine CallOk.intro (args := [_]) (rs := [_]) T_ok Try.func17 Try.call17 rfl rfl (by kernel_rfl) rfl rfl ?_
  repeat (first
    | (show _ ∧ _; exact ⟨rfl, rfl, rfl⟩)
    | refine wkG ?_
    | (show OpOk _ _ _ _ _ _ _; first | refine opB (fun b => ?_) | refine opA (fun a' c' hc1 hc2 => ?_))
    | (show GJ _ _ _ _ _ _ _; first | (apply GJ.and; exact rfl; intro hg) | (apply GJ.or; exact rfl; intro hg) | refine GJ.t omAuto ?_ | refine GJ.f omAuto ?_ | refine GJ.ft omAuto ?_ | refine GJ.ff omAuto ?_))
  refine iload_ok (x := m) (by exact Ld.hasBlkAt (tbl_m hr)) ?_
  repeat (first
    | (show _ ∧ _; exact ⟨rfl, rfl, rfl⟩)
    | refine wkG ?_
    | (show OpOk _ _ _ _ _ _ _; first | refine opB (fun b => ?_) | refine opA (fun a' c' hc1 hc2 => ?_))
    | (show GJ _ _ _ _ _ _ _; first | (apply GJ.and; exact rfl; intro hg) | (apply GJ.or; exact rfl; intro hg) | refine GJ.t omAuto ?_ | refine GJ.f omAuto ?_ | refine GJ.ft omAuto ?_ | refine GJ.ff omAuto ?_))
  rw [show IntKind.i64.wrap m = m from wrap_i64 (by omega)]
  exact Wk.id hk
theorem bytes_ok {b : Nat} {d st m k : Int} {rows : List Value} [hb : HasBlk own b 45 (tbl d st rows m k) g] (hr : rows.length = 256) (hk : K (.int .u64 k) ro own) : CallOk Try.prog 18 #[ptr' b] ro own K := by
  refine CallOk.intro (args := [_]) (rs := [_]) T_ok Try.func18 Try.call18 rfl rfl (by kernel_rfl) rfl rfl ?_
  repeat (first
    | (show _ ∧ _; exact ⟨rfl, rfl, rfl⟩)
    | refine wkG ?_
    | (show OpOk _ _ _ _ _ _ _; first | refine opB (fun b => ?_) | refine opA (fun a' c' hc1 hc2 => ?_))
    | (show GJ _ _ _ _ _ _ _; first | (apply GJ.and; exact rfl; intro hg) | (apply GJ.or; exact rfl; intro hg) | refine GJ.t omAuto ?_ | refine GJ.f omAuto ?_ | refine GJ.ft omAuto ?_ | refine GJ.ff omAuto ?_))
  refine uload_ok (x := k) (by exact Ld.hasBlkAt (tbl_k hr)) ?_
  repeat (first
    | (show _ ∧ _; exact ⟨rfl, rfl, rfl⟩)
    | refine wkG ?_
    | (show OpOk _ _ _ _ _ _ _; first | refine opB (fun b => ?_) | refine opA (fun a' c' hc1 hc2 => ?_))
    | (show GJ _ _ _ _ _ _ _; first | (apply GJ.and; exact rfl; intro hg) | (apply GJ.or; exact rfl; intro hg) | refine GJ.t omAuto ?_ | refine GJ.f omAuto ?_ | refine GJ.ft omAuto ?_ | refine GJ.ff omAuto ?_))
  exact Wk.id hk
theorem make_ok {b pl : Nat} {tp : TypeId} (hk : K (.tuple #[]) ro (.blk b 45 (tbl 0 1 (rowsAt 256) 1 0) :: .blk pl tp [ptr' b] :: r)) :
    CallOk Try.prog 63 #[ptr' pl] ro (.blk b 45 (tbl 0 1 (rowsAt 0) 0 0) :: .blk pl tp [ptr' b] :: r) K := by
  refine CallOk.intro (args := [_]) (rs := []) T_ok Try.func63 Try.call63 rfl rfl (by kernel_rfl) rfl rfl ?_
  repeat (first
    | (show _ ∧ _; exact ⟨rfl, rfl, rfl⟩)
    | refine wkG ?_
    | (show OpOk _ _ _ _ _ _ _; first | refine opB (fun b => ?_) | refine opA (fun a' c' hc1 hc2 => ?_))
    | (show GJ _ _ _ _ _ _ _; first | (apply GJ.and; exact rfl; intro hg) | (apply GJ.or; exact rfl; intro hg) | refine GJ.t omAuto ?_ | refine GJ.f omAuto ?_ | refine GJ.ft omAuto ?_ | refine GJ.ff omAuto ?_))
  refine LoopOk.at (ι := Nat) Keep.auto (fun i => [(2, .int .i64 (i : Int))]) (fun i => .blk b 45 (tbl 0 1 (rowsAt i) 0 0) :: .blk pl tp [ptr' b] :: r) (fun i => i ≤ 256) (fun i => 256 - i) 0 ?_ Sub.auto Sup.auto ?_
  · omega
  rintro i i1
  dsimp only [List.cons_append, List.nil_append]
  repeat (first
    | (show _ ∧ _; exact ⟨rfl, rfl, rfl⟩)
    | refine wkG ?_
    | (show OpOk _ _ _ _ _ _ _; first | refine opB (fun b => ?_) | refine opA (fun a' c' hc1 hc2 => ?_))
    | (show GJ _ _ _ _ _ _ _; first | (apply GJ.and; exact rfl; intro hg) | (apply GJ.or; exact rfl; intro hg) | refine GJ.t omAuto ?_ | refine GJ.f omAuto ?_ | refine GJ.ft omAuto ?_ | refine GJ.ff omAuto ?_))
  refine Br.cases (fun hc => ?_) (fun hc => ?_)
  · repeat (first
      | (show _ ∧ _; exact ⟨rfl, rfl, rfl⟩)
      | refine wkG ?_
      | (show OpOk _ _ _ _ _ _ _; first | refine opB (fun b => ?_) | refine opA (fun a' c' hc1 hc2 => ?_))
      | (show GJ _ _ _ _ _ _ _; first | (apply GJ.and; exact rfl; intro hg) | (apply GJ.or; exact rfl; intro hg) | refine GJ.t omAuto ?_ | refine GJ.f omAuto ?_ | refine GJ.ft omAuto ?_ | refine GJ.ff omAuto ?_))
    refine Bs.all ?_
    repeat (first
      | (show _ ∧ _; exact ⟨rfl, rfl, rfl⟩)
      | refine wkG ?_
      | (show OpOk _ _ _ _ _ _ _; first | refine opB (fun b => ?_) | refine opA (fun a' c' hc1 hc2 => ?_))
      | (show GJ _ _ _ _ _ _ _; first | (apply GJ.and; exact rfl; intro hg) | (apply GJ.or; exact rfl; intro hg) | refine GJ.t omAuto ?_ | refine GJ.f omAuto ?_ | refine GJ.ft omAuto ?_ | refine GJ.ff omAuto ?_))
    rw [show (i : Int) % 4294967296 = ((i : Nat) : Int) by omega]
    refine step_ok (by omega) ?_
    repeat (first
      | (show _ ∧ _; exact ⟨rfl, rfl, rfl⟩)
      | refine wkG ?_
      | (show OpOk _ _ _ _ _ _ _; first | refine opB (fun b => ?_) | refine opA (fun a' c' hc1 hc2 => ?_))
      | (show GJ _ _ _ _ _ _ _; first | (apply GJ.and; exact rfl; intro hg) | (apply GJ.or; exact rfl; intro hg) | refine GJ.t omAuto ?_ | refine GJ.f omAuto ?_ | refine GJ.ft omAuto ?_ | refine GJ.ff omAuto ?_))
    rw [show 0 + 3 + (i : Int).toNat * 1 = 3 + i by simp]
    refine OpOk.storeAt rfl rfl rfl rfl (by rw [tbl_len (rowsAt_len _)]; omega) ?_
    rw [tbl_set (by rw [rowsAt_len]; omega), rowsAt_set (by omega)]
    repeat (first
      | (show _ ∧ _; exact ⟨rfl, rfl, rfl⟩)
      | refine wkG ?_
      | (show OpOk _ _ _ _ _ _ _; first | refine opB (fun b => ?_) | refine opA (fun a' c' hc1 hc2 => ?_))
      | (show GJ _ _ _ _ _ _ _; first | (apply GJ.and; exact rfl; intro hg) | (apply GJ.or; exact rfl; intro hg) | refine GJ.t omAuto ?_ | refine GJ.f omAuto ?_ | refine GJ.ft omAuto ?_ | refine GJ.ff omAuto ?_))
    refine Wk.id ⟨i + 1, ⟨rfl, ?_⟩, ?_, Sub.auto, Sup.auto⟩
    all_goals try dsimp only
    · omega
    · omega
  · obtain rfl : i = 256 := by omega
    repeat (first
      | (show _ ∧ _; exact ⟨rfl, rfl, rfl⟩)
      | refine wkG ?_
      | (show OpOk _ _ _ _ _ _ _; first | refine opB (fun b => ?_) | refine opA (fun a' c' hc1 hc2 => ?_))
      | (show GJ _ _ _ _ _ _ _; first | (apply GJ.and; exact rfl; intro hg) | (apply GJ.or; exact rfl; intro hg) | refine GJ.t omAuto ?_ | refine GJ.f omAuto ?_ | refine GJ.ft omAuto ?_ | refine GJ.ff omAuto ?_))
    refine iadd_ok (tbl_m (rowsAt_len _)) (by omega) ?_
    rw [show (259 : Nat) = 0 + 259 from rfl, tbl_setM (rowsAt_len _)]
    repeat (first
      | (show _ ∧ _; exact ⟨rfl, rfl, rfl⟩)
      | refine wkG ?_
      | (show OpOk _ _ _ _ _ _ _; first | refine opB (fun b => ?_) | refine opA (fun a' c' hc1 hc2 => ?_))
      | (show GJ _ _ _ _ _ _ _; first | (apply GJ.and; exact rfl; intro hg) | (apply GJ.or; exact rfl; intro hg) | refine GJ.t omAuto ?_ | refine GJ.f omAuto ?_ | refine GJ.ft omAuto ?_ | refine GJ.ff omAuto ?_))
    exact Wk.id hk
theorem ready_first {b : Nat} (hk : ∀ pl tp, K (.tuple #[]) ro (.blk b 45 (tbl 1 0 (rowsAt 256) 1 0) :: .blk pl tp [ptr' b] :: r)) :
    CallOk Try.prog 43 #[ptr' b] ro (.blk b 45 (tbl 0 0 (rowsAt 0) 0 0) :: r) K := by
  refine CallOk.intro (args := [_]) (rs := []) T_ok Try.func43 Try.call43 rfl rfl (by kernel_rfl) rfl rfl ?_
  repeat (first
    | (show _ ∧ _; exact ⟨rfl, rfl, rfl⟩)
    | refine wkG ?_
    | (show OpOk _ _ _ _ _ _ _; first | refine opB (fun b => ?_) | refine opA (fun a' c' hc1 hc2 => ?_))
    | (show GJ _ _ _ _ _ _ _; first | (apply GJ.and; exact rfl; intro hg) | (apply GJ.or; exact rfl; intro hg) | refine GJ.t omAuto ?_ | refine GJ.f omAuto ?_ | refine GJ.ft omAuto ?_ | refine GJ.ff omAuto ?_))
  refine CallOk.perm (Take.two (.miss _ (.hit _ _)) (.hit _ _)) ?_
  rename_i bb
  refine do_first (sm := .int .u32 0) (rest := rowsAt 0 ++ [.int .i32 0, .int .u64 0]) (Ψ := fun ro' rest' r' => rest' = rowsAt 256 ++ [.int .i32 1, .int .u64 0] ∧ r' = .blk b 25 [ptr' bb] :: r ∧ ro' = ro) (make_ok ⟨rfl, _, _, rfl, rfl, rfl, rfl⟩) ?_
  rintro ro' rest' r' hl ⟨rfl, rfl, rfl⟩
  repeat (first
    | (show _ ∧ _; exact ⟨rfl, rfl, rfl⟩)
    | refine wkG ?_
    | (show OpOk _ _ _ _ _ _ _; first | refine opB (fun b => ?_) | refine opA (fun a' c' hc1 hc2 => ?_))
    | (show GJ _ _ _ _ _ _ _; first | (apply GJ.and; exact rfl; intro hg) | (apply GJ.or; exact rfl; intro hg) | refine GJ.t omAuto ?_ | refine GJ.f omAuto ?_ | refine GJ.ft omAuto ?_ | refine GJ.ff omAuto ?_))
  exact Wk.id (hk _ _)
theorem ready_done {b : Nat} {rows : List Value} {m k : Int} [hb : HasBlk own b 45 (tbl 1 0 rows m k) g] (hk : K (.tuple #[]) ro own) :
    CallOk Try.prog 43 #[ptr' b] ro own K := by
  refine CallOk.intro (args := [_]) (rs := []) T_ok Try.func43 Try.call43 rfl rfl (by kernel_rfl) rfl rfl ?_
  repeat (first
    | (show _ ∧ _; exact ⟨rfl, rfl, rfl⟩)
    | refine wkG ?_
    | (show OpOk _ _ _ _ _ _ _; first | refine opB (fun b => ?_) | refine opA (fun a' c' hc1 hc2 => ?_))
    | (show GJ _ _ _ _ _ _ _; first | (apply GJ.and; exact rfl; intro hg) | (apply GJ.or; exact rfl; intro hg) | refine GJ.t omAuto ?_ | refine GJ.f omAuto ?_ | refine GJ.ft omAuto ?_ | refine GJ.ff omAuto ?_))
  refine do_done (rest := .int .i32 0 :: .int .u32 0 :: (rows ++ [.int .i32 m, .int .u64 k])) ?_
  repeat (first
    | (show _ ∧ _; exact ⟨rfl, rfl, rfl⟩)
    | refine wkG ?_
    | (show OpOk _ _ _ _ _ _ _; first | refine opB (fun b => ?_) | refine opA (fun a' c' hc1 hc2 => ?_))
    | (show GJ _ _ _ _ _ _ _; first | (apply GJ.and; exact rfl; intro hg) | (apply GJ.or; exact rfl; intro hg) | refine GJ.t omAuto ?_ | refine GJ.f omAuto ?_ | refine GJ.ft omAuto ?_ | refine GJ.ff omAuto ?_))
  exact Wk.outS Sup.auto (.refl _) hk
end
end Go.Proofs.Ytpjiaafkcojddaa
