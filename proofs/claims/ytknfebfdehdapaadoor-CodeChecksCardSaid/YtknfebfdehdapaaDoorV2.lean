/- What the reckoning of single operations says is what they yield. No program in sight. -/
import Derived.Test.YtknfebfdehdapaaDoorV
namespace Go.E
open Go
set_option linter.unusedVariables false
set_option linter.unusedSimpArgs false

def PR.has : PR → Value → Prop
  | .no, _ => False
  | .ok u, v => u = v
  | .req p u, v => p ∧ u = v
theorem sameK_eq {k k2 : IntKind} (h : sameK k k2 = true) : k = k2 := by cases k <;> cases k2 <;> first | rfl | cases h
section
variable {P : Program} {T : TT} {env : Env} {h : Heap} {d : Option Nat} {ty : TypeId} {pos : String} {af : Array Edge} {g : Option (Nat × Bool)}

theorem InK.lt {k : IntKind} {a : Int} (h : InK k a) : 0 ≤ a ∧ a.toNat < 2 ^ k.bits ∧ k.wrap a = a := by
  cases k <;> simp only [InK] at h <;> refine ⟨h.1, ?_, ?_⟩ <;> simp [IntKind.bits, IntKind.wrap, IntKind.signed] <;> omega
theorem InK.of_lt {k : IntKind} {n : Nat} (h : n < 2 ^ k.bits) (h2 : k.signed = true → n < 2 ^ (k.bits - 1)) : InK k (n : Int) := by
  cases k <;> simp [InK, IntKind.bits, IntKind.signed] at h h2 ⊢ <;> omega
theorem InK.pow {k : IntKind} {a : Int} (h : InK k a) : a.toNat < 2 ^ (if k.signed then k.bits - 1 else k.bits) := by
  cases k <;> simp only [InK] at h <;> simp [IntKind.bits, IntKind.signed] <;> omega
theorem InK.ofPow {k : IntKind} {n : Nat} (h : n < 2 ^ (if k.signed then k.bits - 1 else k.bits)) : InK k (n : Int) := by
  cases k <;> simp [InK, IntKind.bits, IntKind.signed] at h ⊢ <;> omega
theorem ofInt_toNat {k : IntKind} {a : Int} (ha : InK k a) : (BitVec.ofInt k.bits a).toNat = a.toNat := by
  have := ofInt_nat k.bits a.toNat
  rwa [Int.toNat_of_nonneg ha.lt.1, Nat.mod_eq_of_lt ha.lt.2.1] at this
theorem bits_and {k : IntKind} {a b : Int} (ha : InK k a) (hb : InK k b) (w : World) : (Op.intBits .and k a b).run P w = .ok (.int k (nand2 a b)) w := by
  have e1 : (BitVec.ofInt k.bits a).toNat = a.toNat := ofInt_toNat ha
  have e2 : (BitVec.ofInt k.bits b).toNat = b.toNat := ofInt_toNat hb
  have hw : k.wrap ((a.toNat &&& b.toNat : Nat) : Int) = ((a.toNat &&& b.toNat : Nat) : Int) := (InK.ofPow (Nat.and_lt_two_pow _ hb.pow)).lt.2.2
  simp only [Op.intBits, BitVec.toNat_and, e1, e2, nand2, hw]; rfl
theorem bits_or {k : IntKind} {a b : Int} (ha : InK k a) (hb : InK k b) (w : World) : (Op.intBits .or k a b).run P w = .ok (.int k (nor2 a b)) w := by
  have e1 : (BitVec.ofInt k.bits a).toNat = a.toNat := ofInt_toNat ha
  have e2 : (BitVec.ofInt k.bits b).toNat = b.toNat := ofInt_toNat hb
  have hw : k.wrap ((a.toNat ||| b.toNat : Nat) : Int) = ((a.toNat ||| b.toNat : Nat) : Int) := (InK.ofPow (Nat.or_lt_two_pow ha.pow hb.pow)).lt.2.2
  simp only [Op.intBits, BitVec.toNat_or, e1, e2, nor2, hw]; rfl
theorem bits_xor {k : IntKind} {a b : Int} (ha : InK k a) (hb : InK k b) (w : World) : (Op.intBits .xor k a b).run P w = .ok (.int k (nxor2 a b)) w := by
  have e1 : (BitVec.ofInt k.bits a).toNat = a.toNat := ofInt_toNat ha
  have e2 : (BitVec.ofInt k.bits b).toNat = b.toNat := ofInt_toNat hb
  have hw : k.wrap ((a.toNat ^^^ b.toNat : Nat) : Int) = ((a.toNat ^^^ b.toNat : Nat) : Int) := (InK.ofPow (Nat.xor_lt_two_pow ha.pow hb.pow)).lt.2.2
  simp only [Op.intBits, BitVec.toNat_xor, e1, e2, nxor2, hw]; rfl

theorem arith_ok {k : IntKind} {r : Int} {v : Value} (hp : (arith k r).has v) : v = .int k (k.wrap r) := by
  cases k <;> simp only [arith, PR.has] at hp <;> first | (obtain ⟨h1, rfl⟩ := hp; rw [wrap_i64 h1]) | (subst hp; simp [IntKind.wrap, IntKind.bits, IntKind.signed]; done) | exact hp.symm
theorem bits2_ok {k : IntKind} {a b r : Int} {v : Value} (hp : (bits2 k a b r).has v) : InK k a ∧ InK k b ∧ v = .int k r := by
  cases k <;> simp only [bits2, PR.has] at hp <;> first | exact hp.elim | (obtain ⟨h, rfl⟩ := hp; exact ⟨h.1, h.2, rfl⟩)
theorem shl1_ok {k : IntKind} {a b : Int} {v : Value} (hp : (shl1 k a b).has v) : (0 ≤ b ∧ b ≤ k.bits) ∧ v = .int k (k.wrap (a * 2 ^ b.toNat)) := by
  cases k <;> simp only [shl1, PR.has] at hp <;> first
    | exact hp.elim
    | (obtain ⟨⟨h, h2⟩, rfl⟩ := hp; exact ⟨h, by rw [wrap_i64 h2]⟩)
    | (obtain ⟨h, rfl⟩ := hp; exact ⟨h, by simp [IntKind.wrap, IntKind.bits, IntKind.signed]⟩)
theorem shr1_ok {k : IntKind} {a b : Int} {v : Value} (hp : (shr1 k a b).has v) : (0 ≤ b ∧ b ≤ k.bits) ∧ v = .int k (a / 2 ^ b.toNat) := by
  cases k <;> simp only [shr1, PR.has] at hp <;> first | exact hp.elim | (obtain ⟨h, rfl⟩ := hp; exact ⟨h, rfl⟩)
theorem int2_ok {op : BinOp} {t yt : TypeId} {x y : Operand} {k : IntKind} {a b : Int} {v : Value} (hx : ev env x = some (.int k a)) (hy : ev env y = some (.int k b)) (hs : op ≠ .shl ∧ op ≠ .shr) (hp : (int2 op k a b).has v) :
    Pu P ⟨d, .binOp op t x y yt, ty, pos, af, g⟩ env h v := by
  refine Pu.int2 hx hy hs fun w => ?_
  cases op <;> simp only [int2] at hp ⊢
  case add => rw [arith_ok hp]; simp [Op.intArith]
  case sub => rw [arith_ok hp]; simp [Op.intArith]
  case mul => rw [arith_ok hp]; simp [Op.intArith]
  case quo =>
    have key : 0 ≤ a ∧ 0 < b ∧ k.wrap (a / b) = a / b ∧ v = .int k (a / b) := by
      cases k <;> first
        | exact hp.elim
        | (obtain ⟨⟨h0, h1, h2⟩, rfl⟩ := hp
           have h3 : 0 ≤ a / b := Int.ediv_nonneg h0 (by omega)
           refine ⟨h0, h1, ?_, rfl⟩
           generalize a / b = q at h2 h3 ⊢
           simp [IntKind.wrap, IntKind.bits, IntKind.signed]; omega)
    obtain ⟨h0, h1, h2, rfl⟩ := key
    have hb : ¬ b = 0 := by omega
    simp only [Op.intDiv, hb, if_false, Int.tdiv_eq_ediv_of_nonneg h0, h2]; rfl
  case rem =>
    obtain ⟨⟨h0, h1⟩, rfl⟩ := hp
    have hb : ¬ b = 0 := by omega
    simp only [Op.intDiv, hb, if_false, Int.tmod_eq_emod_of_nonneg h0]; rfl
  case and => cases k <;> first | exact hp.elim | (obtain ⟨h0, h1, rfl⟩ := bits2_ok hp; exact bits_and h0 h1 w)
  case or => obtain ⟨h0, h1, rfl⟩ := bits2_ok hp; exact bits_or h0 h1 w
  case xor => cases k <;> first | exact hp.elim | (obtain ⟨h0, h1, rfl⟩ := bits2_ok hp; exact bits_xor h0 h1 w)
  case eql => cases hp; rfl
  case neq => cases hp; simp [Op.intCmp, bne]; rfl
  case lss => cases hp; rfl
  case leq => cases hp; rfl
  case gtr => cases hp; rfl
  case geq => cases hp; rfl
  all_goals exact hp.elim
theorem shl_ok {t yt : TypeId} {x y : Operand} {k ky : IntKind} {a b : Int} (hx : ev env x = some (.int k a)) (hy : ev env y = some (.int ky b)) (hb : 0 ≤ b ∧ b ≤ k.bits) :
    Pu P ⟨d, .binOp .shl t x y yt, ty, pos, af, g⟩ env h (.int k (k.wrap (a * 2 ^ b.toNat))) := .mk fun ρ w hr _ => by
  rw [run_shift (hr _ _ hx) (hr _ _ hy) (.inl rfl)]
  have h0 : ¬ (b < 0) := by omega
  have : b.toNat ≤ k.bits := by omega
  simp [Op.shift, h0, Nat.min_eq_left this]
theorem shr_ok {t yt : TypeId} {x y : Operand} {k ky : IntKind} {a b : Int} (hx : ev env x = some (.int k a)) (hy : ev env y = some (.int ky b)) (hb : 0 ≤ b ∧ b ≤ k.bits) :
    Pu P ⟨d, .binOp .shr t x y yt, ty, pos, af, g⟩ env h (.int k (a / 2 ^ b.toNat)) := .mk fun ρ w hr _ => by
  rw [run_shift (hr _ _ hx) (hr _ _ hy) (.inr rfl)]
  have h0 : ¬ (b < 0) := by omega
  have h1 : b.toNat ≤ k.bits := by omega
  have e : a.fdiv (2 ^ b.toNat) = a / 2 ^ b.toNat := Int.fdiv_eq_ediv_of_nonneg _ (Int.le_of_lt (Int.pow_pos (by omega)))
  simp [Op.shift, h0, Nat.min_eq_left h1, e]
theorem str_mk (a : List UInt8) : (.string ⟨⟨a⟩⟩ : Value) = str a := rfl
theorem str2_ok {op : BinOp} {t yt : TypeId} {x y : Operand} {a b : List UInt8} {v : Value} (hx : ev env x = some (str a)) (hy : ev env y = some (str b)) (hp : (str2 op a b).has v) :
    Pu P ⟨d, .binOp op t x y yt, ty, pos, af, g⟩ env h v := by
  cases op <;> simp only [str2] at hp
  case eql => cases hp; exact Pu.eqlS hx hy
  case neq => cases hp; exact Pu.neqS hx hy
  case add => obtain ⟨h1, rfl⟩ := hp; exact Pu.addS hx hy h1
  all_goals exact hp.elim
theorem eqlNil2 {t yt e : TypeId} {x y : Operand} {a : Addr} (hx : ev env x = some (.pointer (some a))) (hy : ev env y = some (.pointer none)) (ht : P.underlying t = some (.pointer e)) :
    Pu P ⟨d, .binOp .eql t x y yt, ty, pos, af, g⟩ env h (.bool false) := .mk fun ρ w hr _ => by
  simp only [execOp, hr _ _ hx, hr _ _ hy, eqGuard, binOp, Sem.run_bind, run_equal_ptr_nil ht]; rfl
theorem neqNil2 {t yt e : TypeId} {x y : Operand} {a : Addr} (hx : ev env x = some (.pointer (some a))) (hy : ev env y = some (.pointer none)) (ht : P.underlying t = some (.pointer e)) :
    Pu P ⟨d, .binOp .neq t x y yt, ty, pos, af, g⟩ env h (.bool true) := .mk fun ρ w hr _ => by
  simp only [execOp, hr _ _ hx, hr _ _ hy, eqGuard, binOp, Sem.run_bind, run_equal_ptr_nil ht]; rfl
theorem bin_ok {op : BinOp} {t yt : TypeId} {x y : Operand} {u1 u2 v : Value} (hT : TOk P T) (hx : ev env x = some u1) (hy : ev env y = some u2) (hp : (bin T op t u1 u2).has v) :
    Pu P ⟨d, .binOp op t x y yt, ty, pos, af, g⟩ env h v := by
  unfold bin at hp
  split at hp
  · rename_i k a k2 b
    split at hp
    · obtain ⟨h1, rfl⟩ := shl1_ok hp; exact shl_ok hx hy h1
    · obtain ⟨h1, rfl⟩ := shr1_ok hp; exact shr_ok hx hy h1
    · rename_i op h1 h2
      cases hs : sameK k k2 with
      | false => simp [hs, PR.has] at hp
      | true =>
        have := sameK_eq hs
        subst this
        simp [hs] at hp
        exact int2_ok hx hy ⟨h1, h2⟩ hp
  · exact str2_ok hx hy hp
  · split at hp
    · rename_i ht
      cases op <;> simp only [bool2] at hp
      case eql => cases hp; exact Pu.eqlB (hT.bool ht) hx hy
      case neq => cases hp; exact Pu.neqB (hT.bool ht) hx hy
      all_goals exact hp.elim
    · exact hp.elim
  · split at hp
    · rename_i ht
      cases hp; exact eqlNil2 hx hy (hT.ptr ht)
    · rename_i ht
      cases hp; exact neqNil2 hx hy (hT.ptr ht)
    · exact hp.elim
  · exact hp.elim
theorem un_ok {op : UnOp} {t : TypeId} {x : Operand} {u v : Value} (hx : ev env x = some u) (hp : (un T op u).has v) : Pu P ⟨d, .unOp op t x, ty, pos, af, g⟩ env h v := by
  unfold un at hp
  split at hp
  · cases hp; exact Pu.not hx
  · rename_i n
    obtain ⟨h1, rfl⟩ := hp
    have e := wrap_i64 h1
    exact .mk fun ρ w hr _ => by simp only [execOp, hr _ _ hx, Op.unary, Op.intArith, e]; rfl
  · exact hp.elim
theorem conv1_ok {s t : TypeId} {x : Operand} {k k' : IntKind} {a : Int} {v : Value} {du : TypeDesc} (hs : P.underlying s = some du) (ht : P.underlying t = some (.int k')) (hx : ev env x = some (.int k a)) (hp : (conv1 k k' a).has v) :
    Pu P ⟨d, .convert s t x, ty, pos, af, g⟩ env h v := by
  have key : v = .int k' (k'.wrap a) := by
    unfold conv1 at hp
    split at hp <;> first
      | (obtain ⟨h1, rfl⟩ := hp; simp [IntKind.wrap, IntKind.bits, IntKind.signed] <;> omega)
      | (obtain ⟨h1, rfl⟩ := hp; cases k <;> cases k' <;> simp_all [IntKind.wrap, IntKind.bits, IntKind.signed] <;> omega)
      | (cases hp; simp [IntKind.wrap, IntKind.bits, IntKind.signed]; done)
      | exact hp.symm
  rw [key]; exact Pu.conv hs ht hx
theorem nthF_map : ∀ {l : List Field} {i t o z : Nat} {f : TypeId → Nat}, nthF (l.map fun x => (x.type, x.offset, f x.type)) i = some (t, o, z) → fieldOf l i = some (t, o) ∧ z = f t
  | x :: r, 0, t, o, z, f, h => by
    cases x; simp [nthF] at h; obtain ⟨rfl, rfl, rfl⟩ := h; exact ⟨rfl, rfl⟩
  | x :: r, n + 1, t, o, z, f, h => by
    cases x; exact nthF_map (l := r) (by simpa [nthF] using h)
  | [], _, _, _, _, _, h => by simp [nthF] at h
theorem fld_ok {s : TypeId} {x : Operand} {i : Nat} {cs : List Value} {v : Value} (hT : TOk P T) (hx : ev env x = some (.agg cs.toArray)) (hp : (fld T s cs i).has v) : Pu P ⟨d, .field s x i, ty, pos, af, g⟩ env h v := by
  unfold fld at hp
  split at hp
  · rename_i fs _ _ hs
    obtain ⟨l, hu, rfl, _⟩ := hT.struct hs
    split at hp
    · rename_i t o z hn
      obtain ⟨hf, hz⟩ := nthF_map (f := fun t => ((P.info? t).map (·.size)).getD 0) hn
      split at hp
      · rename_i ti ht
        obtain ⟨du, h1, h2⟩ := hT.row ht
        have hsz := hT.sz ht
        have hz' : z = ti.size := by rw [hz, hsz]; rfl
        cases hr : ti.u.row with
        | true =>
          rw [hr] at h2 hp
          cases hp
          have := Pu.fieldRow (h := h) (d := d) (ty := ty) (pos := pos) (af := af) (g := g) hx hu hf h1 h2 hsz
          have e : cs.toArray.extract o (o + ti.size) = ((cs.drop o).take z).toArray := by rw [hz']; simp [List.extract_toArray, List.extract_eq_take_drop]
          rwa [e] at this
        | false =>
          rw [hr] at h2 hp
          simp only [cond_false] at hp
          split at hp
          · rename_i u hu2
            cases hp
            exact Pu.field hx hu hf h1 h2 (by simpa using nthV_spec hu2)
          · exact hp.elim
      · exact hp.elim
    · exact hp.elim
  · exact hp.elim
theorem fldA_ok {s : TypeId} {x : Operand} {i b o : Nat} {v : Value} (hT : TOk P T) (hx : ev env x = some (.pointer (some ⟨b, o, none⟩))) (hp : (fldA T s b o i).has v) : Pu P ⟨d, .fieldAddr s x i, ty, pos, af, g⟩ env h v := by
  unfold fldA at hp
  split at hp
  · rename_i fs _ _ hs
    obtain ⟨l, hu, rfl, _⟩ := hT.struct hs
    split at hp
    · rename_i t o' z hn
      obtain ⟨hf, hz⟩ := nthF_map (f := fun t => ((P.info? t).map (·.size)).getD 0) hn
      cases hb : Nat.blt 0 z with
      | false => simp [hb, PR.has] at hp
      | true =>
        simp only [hb, cond_true] at hp
        cases hp
        have h0 : 0 < z := by have : 1 ≤ z := by simpa [Nat.blt] using hb
                              omega
        cases hi : (P.info? t).map (·.size) with
        | none => simp [hi] at hz; omega
        | some n =>
          simp [hi] at hz
          exact Pu.fieldAddr hx hu hf (z := n - 1) (by rw [hi]; congr 1; omega)
    · exact hp.elim
  · exact hp.elim
theorem bi1_ok {b : Builtin} {t : TypeId} {x : Operand} {u v : Value} (hT : TOk P T) (hx : ev env x = some u) (hp : (bi1 T b t u).has v) : Pu P ⟨d, .call ⟨.builtin b, #[x], #[t]⟩, ty, pos, af, g⟩ env h v := by
  unfold bi1 at hp
  split at hp
  · split at hp
    · rename_i ht; cases hp; exact Pu.len (hT.slice ht) hx
    · exact hp.elim
  · split at hp
    · rename_i ht; cases hp; exact Pu.cap (hT.slice ht) hx
    · exact hp.elim
  · split at hp
    · rename_i ht; cases hp; exact Pu.lenStr hx (hT.str ht)
    · exact hp.elim
  · exact hp.elim
theorem bi2_ok {b : Builtin} {ts : Array TypeId} {x y : Operand} {u1 u2 v : Value} (hx : ev env x = some u1) (hy : ev env y = some u2) (hp : (bi2 b u1 u2).has v) : Pu P ⟨d, .call ⟨.builtin b, #[x, y], ts⟩, ty, pos, af, g⟩ env h v := by
  unfold bi2 at hp
  split at hp
  · rename_i k a k2 b
    cases hs : sameK k k2 with
    | false => simp [hs, PR.has] at hp
    | true => have := sameK_eq hs; subst this; simp [hs] at hp; cases hp; exact Pu.min hx hy
  · rename_i k a k2 b
    cases hs : sameK k k2 with
    | false => simp [hs, PR.has] at hp
    | true => have := sameK_eq hs; subst this; simp [hs] at hp; cases hp; exact Pu.max hx hy
  · exact hp.elim
theorem sliced_eq (a : Option Addr) (l m c s : Nat) : sliced a l m c s = .slice (cutA a l c s) (m - l) (c - l) := by simp [sliced, cutA]
theorem cutV_ok {t : TypeId} {x : Operand} {lo hi : Option Operand} {a : Option Addr} {n c : Nat} {l m : Int} {v : Value} (hT : TOk P T) (hx : ev env x = some (.slice a n c))
    (hk : ∀ e s, P.underlying t = some (.slice e) → (P.info? e).map (·.size) = some s → 0 ≤ l ∧ l ≤ m ∧ m ≤ c → Pu P ⟨d, .slice t x lo hi none, ty, pos, af, g⟩ env h (sliced a l.toNat m.toNat c s)) (hp : (cutV T t a n c l m).has v) :
    Pu P ⟨d, .slice t x lo hi none, ty, pos, af, g⟩ env h v := by
  unfold cutV at hp
  split at hp
  · rename_i ht
    split at hp
    · rename_i te he
      obtain ⟨h1, rfl⟩ := hp
      have := hk _ _ (hT.slice ht) (hT.sz he) h1
      rwa [sliced_eq] at this
    · exact hp.elim
  · exact hp.elim
theorem cutAll {t e : TypeId} {x : Operand} {a : Option Addr} {n c s : Nat} (hx : ev env x = some (.slice a n c)) (ht : P.underlying t = some (.slice e))
    (hs : (P.info? e).map (·.size) = some s) : Pu P ⟨d, .slice t x none none none, ty, pos, af, g⟩ env h (sliced a 0 n c s) := .mk fun ρ w hρ _ => by
  have he : P.elem t = e := by simp [Program.elem, ht]
  have ht' : P.underlying t = some (.slice (P.elem t)) := by rw [he]; exact ht
  simp only [execOp, Option.map_none, hρ _ _ hx, run_sliceAt_slice w t _ _ _ _ ht', run_slice_all w t a n c ht', he, sizeOf_of hs, Sem.run_bind, Sem.run_pure, Result.andThen_ok]
theorem pickV_ok {c x y : Operand} {b : Bool} {v : Value} (hc : ev env c = some (.bool b)) (hp : (pickV env b x y).has v) : Pu P ⟨d, .pick c x y, ty, pos, af, g⟩ env h v := by
  unfold pickV at hp
  split at hp
  · rename_i ht
    unfold isTF at ht
    split at ht
    · cases hp
      cases b
      · exact Pu.pickF hc rfl
      · exact Pu.pickT hc rfl
    · cases ht
  · split at hp
    · split at hp
      · rename_i hx; cases hp; exact Pu.pickT hc hx
      · exact hp.elim
    · split at hp
      · rename_i hx; cases hp; exact Pu.pickF hc hx
      · exact hp.elim
theorem pure1_ok {op : Op} {v : Value} (hT : TOk P T) (hp : (pure1 T op env).has v) : Pu P ⟨d, op, ty, pos, af, g⟩ env h v := by
  unfold pure1 at hp
  split at hp
  · split at hp
    · rename_i hx; cases hp; exact Pu.move hx
    · exact hp.elim
  · split at hp
    · rename_i hx; cases hp; exact Pu.assign hx
    · exact hp.elim
  · split at hp
    · rename_i hc; exact pickV_ok hc hp
    · exact hp.elim
  · split at hp
    · rename_i hx; cases hp; exact Pu.nilCheck hx
    · exact hp.elim
  · split at hp
    · rename_i hx
      split at hp
      · rename_i hv; cases hp; exact Pu.extract hx hv
      · exact hp.elim
    · exact hp.elim
  · split at hp
    · rename_i hx; exact un_ok hx hp
    · exact hp.elim
  · split at hp
    · rename_i hx hy; exact bin_ok hT hx hy hp
    · exact hp.elim
  · rename_i s t x
    split at hp
    · rename_i k a hx
      split at hp
      · rename_i k' _ _ hs0 ht
        obtain ⟨du, hs, _⟩ := hT.row hs0
        exact conv1_ok hs (hT.int ht) hx hp
      · exact hp.elim
    · exact hp.elim
  · split at hp
    · rename_i hx; exact fld_ok hT hx hp
    · exact hp.elim
  · split at hp
    · rename_i hx; exact fldA_ok hT hx hp
    · exact hp.elim
  · split at hp
    · rename_i l k i hx hi
      split at hp
      · rename_i ht
        obtain ⟨h1, rfl⟩ := hp
        exact Pu.idxS hx hi (hT.str ht) h1.1 (by
          have : i.toNat < l.length := by omega
          rw [List.getElem?_eq_getElem this, List.getElem!_eq_getElem?_getD, List.getElem?_eq_getElem this]; rfl)
      · exact hp.elim
    · exact hp.elim
  · split at hp
    · rename_i hx hl hh
      unfold cutS at hp
      split at hp
      · rename_i ht; obtain ⟨h1, rfl⟩ := hp; exact Pu.cutS hx hl hh (hT.str ht) h1.1 h1.2.1 h1.2.2
      · exact hp.elim
    · rename_i hx hl hh
      exact cutV_ok hT hx (fun e s he hs h1 => Pu.cutLH hx hl hh he hs h1.1 h1.2.1 h1.2.2) hp
    · exact hp.elim
  · split at hp
    · rename_i hx hh
      split at hp
      · rename_i ht; obtain ⟨h1, rfl⟩ := hp; exact Pu.cutSH hx hh (hT.str ht) h1.1 h1.2
      · exact hp.elim
    · rename_i hx hh
      exact cutV_ok hT hx (fun e s he hs h1 => Pu.cutH hx hh he hs h1.2.1 h1.2.2) hp
    · exact hp.elim
  · split at hp
    · rename_i hx hl
      split at hp
      · rename_i ht; obtain ⟨h1, rfl⟩ := hp; exact Pu.cutSL hx hl (hT.str ht) h1.1 h1.2
      · exact hp.elim
    · rename_i hx hl
      exact cutV_ok hT hx (fun e s he hs h1 => by have := Pu.cutL (h := h) (d := d) (ty := ty) (pos := pos) (af := af) (g := g) hx hl he hs h1.1 h1.2.1; exact this) hp
    · exact hp.elim
  · split at hp
    · rename_i hx
      exact cutV_ok hT hx (fun e s he hs h1 => cutAll hx he hs) hp
    · exact hp.elim
  · split at hp
    · rename_i hx hy
      cases hp
      exact .mk fun ρ w hr _ => by
        have h1 := hr.list hx
        have h2 := hr.list hy
        simp only [execOp, Array.map, ← h1, ← h2]
        simp [Instr.makeFunc]
    · exact hp.elim
  · split at hp
    · rename_i hx; exact bi1_ok hT hx hp
    · exact hp.elim
  · split at hp
    · rename_i hx hy; exact bi2_ok hx hy hp
    · exact hp.elim
  · exact hp.elim
end
end Go.E
