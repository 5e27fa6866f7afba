/- Plain laws of crc: remainders bit by bit are linear, and tell what they come of. No program in sight. -/
import Derived.Test.YtpjiaafkcojddaaCr6
namespace Go.Proofs.Ytpjiaafkcojddaa
open Go Go.E
set_option linter.unusedVariables false
theorem tb0 (x : Nat) : x.testBit 0 = decide (x % 2 = 1) := by simp [Nat.testBit_zero]
/-- A remainder, one bit on, bit by bit. -/
theorem bit1_test (x k : Nat) : (bit1 x).testBit k = (x.testBit (k + 1) ^^ (x.testBit 0 && Nat.testBit 3988292384 k)) := by
  unfold bit1
  rw [tb0]
  split
  · rename_i h
    rw [Nat.testBit_xor, Nat.testBit_add_one]
    simp [h]
  · rename_i h
    rw [Nat.testBit_add_one]
    simp [h]
theorem bit1_xor (x y : Nat) : bit1 (x ^^^ y) = bit1 x ^^^ bit1 y := by
  apply Nat.eq_of_testBit_eq
  intro k
  simp only [bit1_test, Nat.testBit_xor]
  cases x.testBit 0 <;> cases y.testBit 0 <;> cases x.testBit (k + 1) <;> cases y.testBit (k + 1) <;> cases Nat.testBit 3988292384 k <;> rfl
theorem bits_xor (x y : Nat) : ∀ n, bits n (x ^^^ y) = bits n x ^^^ bits n y
  | 0 => rfl
  | n + 1 => by simp only [bits, bits_xor x y n, bit1_xor]
theorem bit1_double (y : Nat) : bit1 (2 * y) = y := by
  unfold bit1
  rw [if_neg (by omega)]
  omega
theorem bit1_inj {x y : Nat} (hx : x < 4294967296) (hy : y < 4294967296) (h : bit1 x = bit1 y) : x = y := by
  have h1 : Nat.testBit 3988292384 31 = true := by decide
  have h2 : ∀ z, z < 4294967296 → z.testBit 32 = false := fun z hz => Nat.testBit_lt_two_pow (x := z) (i := 32) hz
  have h3 : x.testBit 0 = y.testBit 0 := by
    have := congrArg (fun z => z.testBit 31) h
    simp only [bit1_test, h1, h2 x hx, h2 y hy, Bool.and_true, Bool.false_bne] at this
    exact this
  apply Nat.eq_of_testBit_eq
  intro k
  cases k with
  | zero => exact h3
  | succ k =>
    have := congrArg (fun z => z.testBit k) h
    simp only [bit1_test, h3] at this
    revert this
    cases x.testBit (k + 1) <;> cases y.testBit (k + 1) <;> cases (y.testBit 0 && Nat.testBit 3988292384 k) <;> simp
theorem bits_inj {x y : Nat} (hx : x < 4294967296) (hy : y < 4294967296) : ∀ n, bits n x = bits n y → x = y
  | 0, h => h
  | n + 1, h => bits_inj hx hy n (bit1_inj (bits_lt hx n) (bits_lt hy n) h)
/-- Bits ahead of which there are noughts. -/
theorem bits_shift (y : Nat) : ∀ n, bits n (2 ^ n * y) = y := by
  have key : ∀ n z, bits n (2 ^ n * z) = z := by
    intro n
    induction n with
    | zero => intro z; simp [bits]
    | succ n ih => intro z; rw [bits, Nat.pow_succ, Nat.mul_assoc, ih, bit1_double]
  exact fun n => key n y
theorem split8 (s : Nat) : s = (s % 256) ^^^ (2 ^ 8 * (s / 256)) := by
  have h := Nat.two_pow_add_eq_or_of_lt (i := 8) (b := s % 256) (Nat.mod_lt _ (by decide)) (s / 256)
  have h2 : (s % 256) ^^^ (2 ^ 8 * (s / 256)) = (2 ^ 8 * (s / 256)) ||| (s % 256) := by
    apply Nat.eq_of_testBit_eq
    intro k
    rw [Nat.testBit_xor, Nat.testBit_or, Nat.testBit_two_pow_mul]
    have h3 : (s % 256).testBit k = (decide (k < 8) && s.testBit k) := by rw [show 256 = 2 ^ 8 from rfl, Nat.testBit_mod_two_pow]
    rw [h3]
    by_cases hk : k < 8
    · simp [hk, show ¬ 8 ≤ k by omega]
    · simp [hk]
  rw [h2, ← h]
  omega
/-- A checksum, one byte more, by bits. -/
theorem crcB_bits (s : Nat) (c : UInt8) : crcB s c = bits 8 (s ^^^ c.toNat) := by
  unfold crcB stepN
  conv => rhs; rw [split8 s]
  rw [Nat.xor_assoc, Nat.xor_comm (2 ^ 8 * (s / 256)), ← Nat.xor_assoc, bits_xor (s % 256 ^^^ c.toNat) (2 ^ 8 * (s / 256)) 8, bits_shift]
theorem crcB_xor (s t : Nat) (c d : UInt8) : crcB (s ^^^ t) (c ^^^ d) = crcB s c ^^^ crcB t d := by
  rw [crcB_bits, crcB_bits, crcB_bits, ← bits_xor, UInt8.toNat_xor]
  congr 1
  simp only [Nat.xor_assoc]
  rw [← Nat.xor_assoc t, Nat.xor_comm t c.toNat, Nat.xor_assoc]
theorem xorR {a b c : Nat} (h : a ^^^ c = b ^^^ c) : a = b := by
  have := congrArg (· ^^^ c) h
  simpa [Nat.xor_assoc] using this
theorem xorL' {a b c : Nat} (h : c ^^^ a = c ^^^ b) : a = b := xorR (c := c) (by rw [Nat.xor_comm a c, Nat.xor_comm b c]; exact h)
theorem crcB_injS {s t : Nat} {c : UInt8} (hs : s < 4294967296) (ht : t < 4294967296) (h : crcB s c = crcB t c) : s = t := by
  rw [crcB_bits, crcB_bits] at h
  have hc := c.toNat_lt
  have := bits_inj (Nat.xor_lt_two_pow (n := 32) hs (by omega)) (Nat.xor_lt_two_pow (n := 32) ht (by omega)) 8 h
  exact xorR this
theorem crcB_injC {s : Nat} {c d : UInt8} (hs : s < 4294967296) (h : crcB s c = crcB s d) : c = d := by
  rw [crcB_bits, crcB_bits] at h
  have hc := c.toNat_lt
  have hd := d.toNat_lt
  have := bits_inj (Nat.xor_lt_two_pow (n := 32) hs (by omega)) (Nat.xor_lt_two_pow (n := 32) hs (by omega)) 8 h
  exact UInt8.toNat_inj.1 (xorL' this)
theorem crcL_injS : ∀ (l : List UInt8) {s t : Nat}, s < 4294967296 → t < 4294967296 → crcL s l = crcL t l → s = t
  | [], s, t, hs, ht, h => h
  | c :: l, s, t, hs, ht, h => crcB_injS hs ht (crcL_injS l (crcB_lt c hs) (crcB_lt c ht) h)
theorem crcL_append (s : Nat) (l m : List UInt8) : crcL s (l ++ m) = crcL (crcL s l) m := by simp [crcL]
/-- A byte that is another one tells. -/
theorem crcL_set {s : Nat} (hs : s < 4294967296) : ∀ (l : List UInt8) (i : Nat) (d : UInt8), i < l.length → d ≠ l[i]! → crcL s (l.set i d) ≠ crcL s l := by
  intro l i d hi hd h
  have e1 : l = l.take i ++ l[i] :: l.drop (i + 1) := by rw [← List.drop_eq_getElem_cons hi, List.take_append_drop]
  have e2 : l.set i d = l.take i ++ d :: l.drop (i + 1) := by rw [List.set_eq_take_append_cons_drop, if_pos hi]
  rw [e2] at h
  conv at h => rhs; rw [e1]
  rw [crcL_append, crcL_append] at h
  have hs2 := crcL_lt (l.take i) s hs
  have h2 := crcL_injS (l.drop (i + 1)) (crcB_lt d hs2) (crcB_lt l[i] hs2) h
  exact hd (by rw [List.getElem!_eq_getElem?_getD, List.getElem?_eq_getElem hi]; exact crcB_injC hs2 h2)
theorem crcOf_set {l : List UInt8} {i : Nat} {d : UInt8} (hi : i < l.length) (hd : d ≠ l[i]!) : crcOf (l.set i d) ≠ crcOf l := fun h =>
  crcL_set (s := 4294967295) (by decide) l i d hi hd (xorR h)
/-- Bytes bit by bit. -/
def xorL (l m : List UInt8) : List UInt8 := List.zipWith (· ^^^ ·) l m
theorem crcL_xor : ∀ (l m : List UInt8) (s t : Nat), l.length = m.length → crcL (s ^^^ t) (xorL l m) = crcL s l ^^^ crcL t m
  | [], [], s, t, h => rfl
  | c :: l, d :: m, s, t, h => by
    show crcL (crcB (s ^^^ t) (c ^^^ d)) (xorL l m) = _
    rw [crcB_xor, crcL_xor l m _ _ (by simpa using h)]
    rfl
theorem crcOf_turns {l m k : List UInt8} (h1 : l.length = m.length) (h2 : m.length = k.length) : crcOf (xorL (xorL l m) k) = crcOf l ^^^ crcOf m ^^^ crcOf k := by
  have hx : (xorL l m).length = k.length := by simp [xorL]; omega
  have := crcL_xor (xorL l m) k (4294967295 ^^^ 4294967295) 4294967295 hx
  rw [crcL_xor l m _ _ h1] at this
  have e : (4294967295 ^^^ 4294967295 ^^^ 4294967295 : Nat) = 4294967295 := by decide
  rw [e] at this
  unfold crcOf
  rw [this]
  generalize crcL 4294967295 l = p
  generalize crcL 4294967295 m = q
  generalize crcL 4294967295 k = r
  generalize 4294967295 = f
  apply Nat.eq_of_testBit_eq
  intro i
  simp only [Nat.testBit_xor]
  cases p.testBit i <;> cases q.testBit i <;> cases r.testBit i <;> cases f.testBit i <;> rfl
theorem be4_inj {x y : Nat} (hx : x < 4294967296) (hy : y < 4294967296) (h : be4 x = be4 y) : x = y := by
  have h0 : ∀ a b : Nat, UInt8.ofNat a = UInt8.ofNat b → a % 256 = b % 256 := fun a b h => by
    have := congrArg UInt8.toNat h
    simpa using this
  simp only [be4, List.cons.injEq] at h
  obtain ⟨h1, h2, h3, h4, _⟩ := h
  have := h0 _ _ h1
  have := h0 _ _ h2
  have := h0 _ _ h3
  have := h0 _ _ h4
  omega
/-! ### the document's division -/
/-- The polynomial's powers, the highest first. -/
def polyL : List Nat := [0, 0, 0, 0, 0, 1, 0, 0, 1, 1, 0, 0, 0, 0, 0, 1, 0, 0, 0, 1, 1, 1, 0, 1, 1, 0, 1, 1, 0, 1, 1, 1]
def polyB (k : Nat) : Bool := Nat.testBit 3988292384 k
theorem polyL_get {k : Nat} (h : k < 32) : polyL[k]? = some (polyB k).toNat := by
  have : ∀ i : Fin 32, polyL[i.1]? = some (polyB i.1).toNat := by decide +kernel
  exact this ⟨k, h⟩
/-- Bits, i of them divided: the message's bits are m. -/
def divB (m : Nat → Bool) : Nat → Nat → Bool
  | 0, j => m j ^^ decide (j < 32)
  | i + 1, j => divB m i j ^^ (divB m i i && decide (i < j ∧ j ≤ i + 32) && polyB (j - i - 1))
/-- The remainder so far. -/
def remB (m : Nat → Bool) : Nat → Nat
  | 0 => 4294967295
  | i + 1 => bit1 (remB m i ^^^ (m i).toNat)
theorem remB_lt (m : Nat → Bool) : ∀ i, remB m i < 4294967296
  | 0 => by show (4294967295 : Nat) < 4294967296; decide
  | i + 1 => bit1_lt (Nat.xor_lt_two_pow (n := 32) (remB_lt m i) (by have := Bool.toNat_lt (m i); omega))
theorem toNat_test (b : Bool) (k : Nat) : (b.toNat).testBit k = (b && decide (k = 0)) := by
  cases b
  · simp
  · cases k with
    | zero => rfl
    | succ k => simp [Nat.testBit_add_one]
theorem divB_rem (m : Nat → Bool) : ∀ i j, (j < 32 → divB m i (i + j) = ((remB m i).testBit j ^^ m (i + j))) ∧ (32 ≤ j → divB m i (i + j) = m (i + j))
  | 0, j => by
    have h1 : ∀ j : Fin 32, Nat.testBit 4294967295 j.1 = true := by decide
    refine ⟨fun hj => ?_, fun hj => ?_⟩
    · rw [divB, remB, h1 ⟨j, hj⟩]
      simp [hj, Bool.xor_comm]
    · simp [divB, show ¬ j < 32 by omega]
  | i + 1, j => by
    have h0 := (divB_rem m i 0).1 (by omega)
    simp only [Nat.add_zero] at h0
    have h1 := divB_rem m i (j + 1)
    rw [show i + (j + 1) = i + 1 + j by omega] at h1
    refine ⟨fun hj => ?_, fun hj => ?_⟩
    · rw [divB, remB, bit1_test, Nat.testBit_xor, Nat.testBit_xor, toNat_test, toNat_test, h0, show i + 1 + j - i - 1 = j by omega]
      have h2 : divB m i (i + 1 + j) = ((remB m i).testBit (j + 1) ^^ m (i + 1 + j)) := by
        rcases Nat.lt_or_ge (j + 1) 32 with h3 | h3
        · exact h1.1 h3
        · rw [h1.2 h3, Nat.testBit_lt_two_pow (x := remB m i) (i := j + 1) (Nat.lt_of_lt_of_le (remB_lt m i) (Nat.pow_le_pow_right (n := 2) (by omega) (show 32 ≤ j + 1 by omega)))]
          simp
      rw [h2]
      have h4 : decide (i < i + 1 + j ∧ i + 1 + j ≤ i + 32) = true := by simp; omega
      rw [h4]
      unfold polyB
      cases (remB m i).testBit (j + 1) <;> cases (remB m i).testBit 0 <;> cases m i <;> cases m (i + 1 + j) <;> cases Nat.testBit 3988292384 j <;> simp
    · rw [divB, h1.2 (by omega)]
      have h4 : decide (i < i + 1 + j ∧ i + 1 + j ≤ i + 32) = false := by simp; omega
      rw [h4]
      simp
/-- Eight bits of a byte. -/
theorem remB_byte {m : Nat → Bool} {i : Nat} {c : UInt8} (h : ∀ k, k < 8 → m (i + k) = c.toNat.testBit k) : remB m (i + 8) = crcB (remB m i) c := by
  have key : ∀ k, k ≤ 8 → remB m (i + k) = bits k (remB m i ^^^ c.toNat) ^^^ (c.toNat >>> k) := by
    intro k
    induction k with
    | zero => intro _; simp [bits, Nat.xor_assoc]
    | succ k ih =>
      intro hk
      have e : bits k (remB m i ^^^ c.toNat) ^^^ (c.toNat >>> k) ^^^ (m (i + k)).toNat = bits k (remB m i ^^^ c.toNat) ^^^ (2 * (c.toNat >>> (k + 1))) := by
        rw [Nat.xor_assoc]
        congr 1
        rw [h k (by omega), Nat.shiftRight_succ]
        have h2 : (c.toNat.testBit k) = decide ((c.toNat >>> k) % 2 = 1) := by rw [Nat.testBit_eq_decide_div_mod_eq, Nat.shiftRight_eq_div_pow]
        rw [h2]
        generalize c.toNat >>> k = z
        apply Nat.eq_of_testBit_eq
        intro b
        rw [Nat.testBit_xor, toNat_test]
        cases b with
        | zero => rw [tb0, tb0]; simp
        | succ b => rw [Nat.testBit_add_one, Nat.testBit_add_one]; simp
      show remB m (i + k + 1) = _
      rw [remB, ih (by omega), e, bit1_xor, bit1_double]
      rfl
  rw [key 8 (Nat.le_refl _), crcB_bits]
  have hc := c.toNat_lt
  rw [Nat.shiftRight_eq_div_pow, Nat.div_eq_of_lt (by omega)]
  simp
/-- The bits of bytes. -/
def msgB (l : List UInt8) (j : Nat) : Bool := (l[j / 8]?.map fun c => c.toNat.testBit (j % 8)).getD false
theorem remB_bytes (l : List UInt8) : ∀ i, i ≤ l.length → remB (msgB l) (8 * i) = crcL 4294967295 (l.take i)
  | 0, _ => rfl
  | i + 1, hi => by
    have hs : l.take (i + 1) = l.take i ++ [l[i]] := by rw [List.take_add_one, List.getElem?_eq_getElem (by omega : i < l.length)]; rfl
    rw [hs, crcL_snoc, ← remB_bytes l i (by omega), Nat.mul_add]
    refine remB_byte (fun k hk => ?_)
    simp only [msgB, show (8 * i + k) / 8 = i by omega, show (8 * i + k) % 8 = k by omega, List.getElem?_eq_getElem (show i < l.length by omega)]
    rfl
/-- What is left. -/
theorem divB_left (l : List UInt8) {j : Nat} (hj : j < 32) : divB (msgB l) (8 * l.length) (8 * l.length + j) = (crcL 4294967295 l).testBit j := by
  rw [(divB_rem (msgB l) (8 * l.length) j).1 hj, remB_bytes l _ (Nat.le_refl _), List.take_length]
  simp [msgB, List.getElem?_eq_none (show l.length ≤ (8 * l.length + j) / 8 by omega)]
/-- A number of its bits, the highest first. -/
def numB (β : Nat → Bool) : Nat → Nat
  | 0 => 0
  | k + 1 => numB β k * 2 + (1 - (β (31 - k)).toNat)
theorem numB_test (β : Nat → Bool) : ∀ k, k ≤ 32 → ∀ j, (numB β k).testBit j = (decide (j < k) && !(β (32 - k + j)))
  | 0, _, j => by simp [numB]
  | k + 1, hk, j => by
    have hb : 1 - (β (31 - k)).toNat = (!(β (31 - k))).toNat := by cases β (31 - k) <;> rfl
    rw [numB, hb]
    cases j with
    | zero =>
      rw [tb0]
      simp only [Nat.add_zero, show 32 - (k + 1) = 31 - k by omega]
      cases β (31 - k) <;> simp <;> omega
    | succ j =>
      rw [Nat.testBit_add_one, show (numB β k * 2 + (!(β (31 - k))).toNat) / 2 = numB β k by have := Bool.toNat_lt (!(β (31 - k))); omega, numB_test β k (by omega) j, show 32 - (k + 1) + (j + 1) = 32 - k + j by omega]
      simp
theorem numB_crc (l : List UInt8) : numB (fun j => divB (msgB l) (8 * l.length) (8 * l.length + j)) 32 = crcOf l := by
  apply Nat.eq_of_testBit_eq
  intro j
  rw [numB_test _ 32 (Nat.le_refl _)]
  have hF : ∀ j, Nat.testBit 4294967295 j = decide (j < 32) := fun j => by rw [show 4294967295 = 2 ^ 32 - 1 from rfl, Nat.testBit_two_pow_sub_one]
  simp only [Nat.sub_self, Nat.zero_add, crcOf, Nat.testBit_xor, hF]
  by_cases hj : j < 32
  · rw [divB_left l hj]; simp [hj]
  · rw [Nat.testBit_lt_two_pow (x := crcL 4294967295 l) (i := j) (Nat.lt_of_lt_of_le (crcL_lt l 4294967295 (by decide)) (Nat.pow_le_pow_right (n := 2) (by omega) (show 32 ≤ j by omega)))]
    simp [hj]
end Go.Proofs.Ytpjiaafkcojddaa
