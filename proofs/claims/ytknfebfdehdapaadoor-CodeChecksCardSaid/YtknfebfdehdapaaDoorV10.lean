/- Lasting slices; a part that is taken to the front. No program in sight. -/
import Derived.Test.YtknfebfdehdapaaDoorV9
namespace Go.E
open Go
set_option linter.unusedVariables false
set_option linter.unusedSimpArgs false
/-- A lasting slice: n elements of s cells, whose cells are these. -/
structure Rs (ro : Ro) (a : Option Addr) (n c s : Nat) (cs : List Value) : Prop where
  run : ∀ h own, Sat ro own h → Rd h (.slice a n c) n cs
  len : cs.length = n * s
  le : n ≤ c
  max : c ≤ maxLen
theorem Rs.up {ro ro' : Ro} {a : Option Addr} {n c s : Nat} {cs : List Value} (hr : Rs ro a n c s cs) [hl : Leq ro ro'] : Rs ro' a n c s cs :=
  ⟨fun h own hs => hr.run h own (hs.leq hl), hr.len, hr.le, hr.max⟩
theorem Rs.rds {ro ro' : Ro} {own : Chs} {a : Option Addr} {n c s : Nat} {cs : List Value} (hr : Rs ro a n c s cs) [hl : Leq ro ro'] : Rds ro' own a n c s cs :=
  ⟨fun h hs => hr.run h own (hs.leq hl), hr.len, hr.le, hr.max⟩
theorem Rs.nil (ro : Ro) (s : Nat) : Rs ro none 0 0 s [] := ⟨fun h _ _ => Rd.nil h, by simp, Nat.le_refl _, Nat.zero_le _⟩
theorem Rs.last {ro : Ro} {a : Option Addr} {n c s : Nat} {t : TypeId} {cs : List Value} (hc : (Chunk.sl a n c t s cs).holds ro) : Rs ro a n c s cs :=
  ⟨fun h own hs => (Chunk.own (h := h) (hc.le ⟨fun b o hb => hs.last b o hb⟩)).rd, hc.1, hc.2.1, hc.2.2.1⟩
theorem Rs.cut {ro : Ro} {a : Option Addr} {n c s : Nat} {cs : List Value} (hr : Rs ro a n c s cs) (l m : Nat) (hlm : l ≤ m) (hm : m ≤ n) : Rs ro (cutA a l c s) (m - l) (c - l) s ((cs.drop (l * s)).take ((m - l) * s)) :=
  ⟨fun h own hs => by have := (hr.run h own hs).cut (s := s) hlm hm; rwa [sliced_eq] at this, by
    have h1 := hr.len
    have h2 : m * s ≤ n * s := Nat.mul_le_mul_right s hm
    have h3 : (m - l) * s = m * s - l * s := Nat.sub_mul m l s
    rw [List.length_take, List.length_drop]; omega, by have := hr.le; omega, by have := hr.max; omega⟩
theorem Ld.rs {ro ro' : Ro} {own : Chs} {a : Option Addr} {n c s : Nat} {cs : List Value} {k : Nat} {v : Value} (hr : Rs ro a n c s cs) [hl : Leq ro ro'] (hv : cs[k]? = some v) : Ld ro' own (ab a) (ao a + k) v := fun h hs => (hr.run h own (hs.leq hl)).cell hv
theorem LdN.rs {ro ro' : Ro} {own : Chs} {a : Option Addr} {n c s : Nat} {cs : List Value} {k z : Nat} (hr : Rs ro a n c s cs) [hl : Leq ro ro'] : LdN ro' own (ab a) (ao a + k) ((cs.drop k).take z) := LdN.rds (ro := ro') (own := own) (own' := own) (hr.rds (ro' := ro'))
theorem AOk.rs {ro ro' : Ro} {own : Chs} {a : Option Addr} {n c s : Nat} {cs : List Value} (hr : Rs ro a n c s cs) [hl : Leq ro ro'] : AOk ro' own a n := fun h hs hn => AOk.of (hr.run h own (hs.leq hl)) hn
theorem Leq.toLe (a b : Ro) [h : Leq a b] : Le a b := ⟨h.le⟩
theorem Rds.n1 {ro : Ro} {own : Chs} {a : Option Addr} {n c : Nat} {cs : List Value} (hr : Rds ro own a n c 1 cs) : cs.length = n := by have := hr.len; omega
theorem Rs.n1 {ro : Ro} {a : Option Addr} {n c : Nat} {cs : List Value} (hr : Rs ro a n c 1 cs) : cs.length = n := by have := hr.len; omega
/-- A part is taken to the front. -/
theorem HasBlk.split {own : Chs} {b : Nat} {t : TypeId} {cs : List Value} {f : Chunk → Chs} (hb : HasBlk own b t cs f) : ∃ r, own.Perm (.blk b t cs :: r) ∧ ∀ x, (x :: r).Perm (f x) := by
  obtain ⟨r, p1, _⟩ := (hb.repl (.obj 0 default)).perm
  refine ⟨r, p1, fun x => ?_⟩
  obtain ⟨r2, q1, q2⟩ := (hb.repl x).perm
  exact (((List.perm_cons _).1 (p1.symm.trans q1)).cons x).trans q2.symm
theorem HasSl.split {own : Chs} {a : Option Addr} {n c s : Nat} {t : TypeId} {cs : List Value} {f : Chunk → Chs} (hb : HasSl own a n c t s cs f) : ∃ r, own.Perm (.sl a n c t s cs :: r) ∧ ∀ x, (x :: r).Perm (f x) := by
  obtain ⟨r, p1, _⟩ := (hb.repl (.obj 0 default)).perm
  refine ⟨r, p1, fun x => ?_⟩
  obtain ⟨r2, q1, q2⟩ := (hb.repl x).perm
  exact (((List.perm_cons _).1 (p1.symm.trans q1)).cons x).trans q2.symm
theorem CallOk.postP {P : Program} {f : FuncId} {args : Array Value} {ro : Ro} {own : Chs} {K : Value → Ro → Chs → Prop} (h : CallOk P f args ro own (fun v ro' own' => ∃ own2, own'.Perm own2 ∧ K v ro' own2)) : CallOk P f args ro own K :=
  h.post (fun _ h => h) (fun v ro' own' h' hl hs ⟨own2, hp, hK⟩ => ⟨ro', own2, hl, hs.perm hp, hK⟩)
/-- What was made to last meanwhile is forgotten. -/
theorem CallOk.back {P : Program} {f : FuncId} {args : Array Value} {ro : Ro} {own : Chs} {K : Value → Ro → Chs → Prop} (h : CallOk P f args ro own (fun v ro' own' => ∃ ro2, Le ro ro2 ∧ Leq ro2 ro' ∧ K v ro2 own')) : CallOk P f args ro own K :=
  h.post (fun _ h => h) (fun v ro' own' h' hl hs ⟨ro2, h2, h3, hK⟩ => ⟨ro2, own', h2, hs.leq h3, hK⟩)
theorem Wk.out {K : Value → Ro → Chs → Prop} {v : Value} {env : Env} {ro : Ro} {own own' : Chs} (hp : own.Perm own') (h : K v ro own') : Wk (fun _ ro own => K v ro own) env ro own := .perm hp (.id h)
theorem Wk.outS {K : Value → Ro → Chs → Prop} {v : Value} {env : Env} {ro : Ro} {own own1 own' : Chs} (hs : Sup own own1) (hp : own1.Perm own') (h : K v ro own') : Wk (fun _ ro own => K v ro own) env ro own := .own own1 hs (.perm hp (.id h))
theorem Wk.back1 {K : Value → Ro → Chs → Prop} {v : Value} {env : Env} {ro0 ro : Ro} {own own1 own' : Chs} (hs : Sup own own1) (hp : own1.Perm own') (h : K v ro0 own') [hl : Leq ro0 ro] : Wk (fun _ ro own => ∃ ro2, Le ro0 ro2 ∧ Leq ro2 ro ∧ K v ro2 own) env ro own := .own own1 hs (.perm hp (.id ⟨ro0, Le.refl _, hl, h⟩))
theorem Wk.backB {K : Value → Ro → Chs → Prop} {b : Bool} {env : Env} {ro0 ro : Ro} {own own1 own' : Chs} (e : b = true) (hs : Sup own own1) (hp : own1.Perm own') (h : K (.bool true) ro0 own') [hl : Leq ro0 ro] : Wk (fun _ ro own => ∃ ro2, Le ro0 ro2 ∧ Leq ro2 ro ∧ K (tup [.bool b]) ro2 own) env ro own := by subst e; exact Wk.back1 hs hp h
theorem Wk.val {K : Value → Ro → Chs → Prop} {v u : Value} {env : Env} {ro : Ro} {own : Chs} (h : K v ro own) (e : v = u) : Wk (fun _ ro own => K u ro own) env ro own := by subst e; exact .id h
theorem Sub.consE {e r : Env} {t : Nat} {u v : Value} (h : E.look e t = some u) (he : u = v) (hr : Sub r e) : Sub ((t, v) :: r) e := ⟨he ▸ h, hr⟩
/-- A loop in which nothing is made to last. -/
theorem LoopOk.at {ws : List Nat} {A : Kt → Kt} {env : Env} {ro : Ro} {own : Chs} {ι : Type} {env0 : Env} (hk : Keep ws env env0) (f : ι → Env) (O : ι → Chs) (I : ι → Prop) (μ : ι → Nat) (i0 : ι) (hI : I i0) (hs : Sub (f i0) env) (ho : Sup own (O i0))
    (round : ∀ i, I i → A (Wk fun env ro' own => ∃ j, (ro' = ro ∧ I j) ∧ μ j < μ i ∧ Sub (f j ++ env0) env ∧ Sup own (O j)) (f i ++ env0) ro (O i)) : LoopOk ws A env ro own :=
  LoopOk.auto hk f O (fun i r => r = ro ∧ I i) μ i0 ⟨rfl, hI⟩ hs ho (fun i ro' _ h => by obtain ⟨rfl, h⟩ := h; exact round i h)
/-- Bytes. -/
abbrev Bys (ro : Ro) (a : Option Addr) (n c : Nat) (l : List UInt8) : Prop := Rs ro a n c 1 (l.map u8)
theorem Bys.n {ro : Ro} {a : Option Addr} {n c : Nat} {l : List UInt8} (h : Bys ro a n c l) : l.length = n := by have := h.n1; simpa using this
theorem Rs.cutB {ro : Ro} {a : Option Addr} {n c : Nat} {l : List UInt8} (hr : Bys ro a n c l) {lo hi : Int} (h : 0 ≤ lo ∧ lo ≤ hi ∧ hi ≤ n) : Bys ro (cutA a lo.toNat c 1) (hi.toNat - lo.toNat) (c - lo.toNat) ((l.drop lo.toNat).take (hi.toNat - lo.toNat)) := by
  have := Rs.cut hr lo.toNat hi.toNat (by omega) (by omega)
  simp only [Nat.mul_one] at this
  show Rs _ _ _ _ _ _
  rw [List.map_take, List.map_drop]
  exact this
theorem Rds.cutB {ro : Ro} {own : Chs} {a : Option Addr} {n c : Nat} {l : List UInt8} (hr : Rds ro own a n c 1 (l.map u8)) {lo hi : Int} (h : 0 ≤ lo ∧ lo ≤ hi ∧ hi ≤ n) : Rds ro own (cutA a lo.toNat c 1) (hi.toNat - lo.toNat) (c - lo.toNat) 1 (((l.drop lo.toNat).take (hi.toNat - lo.toNat)).map u8) := by
  have hl := hr.n1
  simp at hl
  refine ⟨fun h' hs => ?_, by simp; omega, by have := hr.le; omega, by have := hr.max; omega⟩
  have := (hr.run h' hs).cut (s := 1) (l := lo.toNat) (m := hi.toNat) (by omega) (by omega)
  rw [sliced_eq] at this
  simp only [Nat.mul_one] at this
  rw [List.map_take, List.map_drop]
  exact this
/-- Two parts are taken to the front. -/
theorem Take.two {l r r2 : Chs} {c1 c2 : Chunk} (h1 : Take l c1 r) (h2 : Take r c2 r2) : l.Perm (c1 :: c2 :: r2) := h1.perm.trans (h2.perm.cons c1)
theorem u8_range (c : UInt8) : 0 ≤ (c.toNat : Int) ∧ (c.toNat : Int) < 256 := ⟨Int.natCast_nonneg _, Int.ofNat_lt.2 c.toNat_lt⟩
theorem add_u8 (k : Int) (c : UInt8) (h : -1000000000000 ≤ k ∧ k ≤ 1000000000000) : -9223372036854775808 ≤ k + (c.toNat : Int) ∧ k + (c.toNat : Int) ≤ 9223372036854775807 := by have := u8_range c; omega
abbrev ptr' (b : Nat) : Value := .pointer (some ⟨b, 0, none⟩)
section
variable {P : Program} {T : TT} [hT : TTab P T] {ty : TypeId} {env : Env} {ro : Ro} {own : Chs} {K : Value → Ro → Chs → Prop}
def ixor (a b : Int) : Int := IntKind.i64.wrap ((BitVec.ofInt 64 a ^^^ BitVec.ofInt 64 b).toNat : Int)
theorem OpOk.xorI {t yt : TypeId} {x y : Operand} {a b : Int} (hx : ev env x = some (.int .i64 a)) (hy : ev env y = some (.int .i64 b)) (hk : K (.int .i64 (ixor a b)) ro own) : OpOk P (.binOp .xor t x y yt) ty env ro own K :=
  OpOk.pu (fun h hs d pos af g => Pu.int2 hx hy (by simp) fun w => rfl) hk
def iand (a b : Int) : Int := IntKind.i64.wrap ((BitVec.ofInt 64 a &&& BitVec.ofInt 64 b).toNat : Int)
theorem OpOk.andI {t yt : TypeId} {x y : Operand} {a b : Int} (hx : ev env x = some (.int .i64 a)) (hy : ev env y = some (.int .i64 b)) (hk : K (.int .i64 (iand a b)) ro own) : OpOk P (.binOp .and t x y yt) ty env ro own K :=
  OpOk.pu (fun h hs d pos af g => Pu.int2 hx hy (by simp) fun w => rfl) hk
theorem OpOk.andN {t yt : TypeId} {x y : Operand} {a b : Int} (hx : ev env x = some (.int .i64 a)) (hy : ev env y = some (.int .i64 b)) (h : (0 ≤ a ∧ a < 9223372036854775808) ∧ 0 ≤ b ∧ b < 9223372036854775808) (hk : K (.int .i64 (nand2 a b)) ro own) : OpOk P (.binOp .and t x y yt) ty env ro own K :=
  OpOk.pu (fun h' hs d pos af g => Pu.int2 hx hy (by simp) fun w => bits_and (k := .i64) h.1 h.2 w) hk
/-- The complement of a number with a sign. -/
theorem OpOk.notI {t : TypeId} {x : Operand} {a : Int} (hx : ev env x = some (.int .i64 a)) (hk : K (.int .i64 (ixor (-1) a)) ro own) : OpOk P (.unOp .xor t x) ty env ro own K :=
  OpOk.pu (fun h' hs d pos af g => .mk fun ρ w hρ _ => by
    have hm : (if IntKind.i64.signed = true then (-1 : Int) else IntKind.i64.max) = -1 := by rfl
    have hb : (Op.intBits .xor .i64 (-1) a).run P w = .ok (.int .i64 (ixor (-1) a)) w := rfl
    simp only [execOp, hρ _ _ hx, Op.unary, hm, Sem.run_bind, hb]
    rfl) hk
/-- A value that may be told otherwise is stored. -/
theorem OpOk.storeE {t : TypeId} {x y : Operand} {b o : Nat} {v : Value} (v' : Value) {t0 : TypeId} {cs cs' : List Value} {f : Chunk → Chs} (hx : ev env x = some (.pointer (some ⟨b, o, none⟩))) (hy : ev env y = some v) (ht : cell1 T t = true) (h1 : v.oneCell' = true) (he : v = v')
    [hb : HasBlk own b t0 cs f] (hs : SetR cs o v' cs') (hk : K undef ro (f (.blk b t0 cs'))) : OpOk P (.store t x y) ty env ro own K := by
  subst he; exact OpOk.store hx hy ht h1 hs hk
end
theorem u8_shr (c : UInt8) (k : Nat) : 0 ≤ (c.toNat : Int) / 2 ^ k ∧ (c.toNat : Int) / 2 ^ k < 256 := by
  have h : ((c.toNat : Int) / 2 ^ k) = ((c.toNat / 2 ^ k : Nat) : Int) := by simp
  have h2 := c.toNat_lt
  have h3 : c.toNat / 2 ^ k ≤ c.toNat := Nat.div_le_self _ _
  rw [h]
  generalize c.toNat / 2 ^ k = z at h3
  omega
theorem nand2_127 (c : UInt8) : nand2 (c.toNat : Int) 127 = ((c.toNat % 128 : Nat) : Int) := by
  have : c.toNat &&& 127 = c.toNat % 128 := Nat.and_two_pow_sub_one_eq_mod c.toNat 7
  simp [nand2, this]
theorem nand2_one (x : Nat) : nand2 (x : Int) 1 = ((x % 2 : Nat) : Int) := by
  have : x &&& 1 = x % 2 := Nat.and_one_is_mod x
  simp [nand2, this]
theorem nor2_add {n m k : Nat} (hn : n < 2 ^ k) : nor2 (n : Int) ((m * 2 ^ k : Nat) : Int) = ((n + m * 2 ^ k : Nat) : Int) := by
  have h := Nat.two_pow_add_eq_or_of_lt hn m
  have e : n ||| m * 2 ^ k = n + m * 2 ^ k := by rw [Nat.or_comm, Nat.mul_comm m, ← h, Nat.add_comm]
  simp only [nor2, Int.toNat_natCast, e]
theorem nor2_128 (c : Nat) (h : c < 256) : nor2 (c : Int) 128 = ((c % 128 + 128 : Nat) : Int) := by
  have : ∀ i : Fin 256, i.1 ||| 128 = i.1 % 128 + 128 := by decide +kernel
  have := this ⟨c, h⟩
  simp only at this
  simp [nor2, this]
end Go.E
