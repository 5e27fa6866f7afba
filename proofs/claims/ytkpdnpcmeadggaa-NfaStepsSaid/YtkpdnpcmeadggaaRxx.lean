/- Merged of: Rx1 Rx2 Rx3 Rx4 Rx5 Rx6 Rx7 Rx8 Rx9. Expressions as data: the tree, reading a text, writing one, checking one. No program in sight. -/
import Derived.Test.YtkpdnpcmeadggaaC8
import Derived.Test.YtkpdnpcmeadggaaCJ
/-! Expressions as data: the tree, reading a text, writing one, checking one. No program in sight. -/
namespace Go.Proofs.Ytkpdnpcmeadggaa
open Go Go.E
set_option linter.unusedVariables false
set_option maxRecDepth 10000
inductive RgD where
  | mk (kind : Int) (set : SetD) (kids : List RgD) (min max : Int)
def zeroS : SetD := ⟨0, 0, 0, 0⟩
def RgD.kind : RgD → Int | .mk k _ _ _ _ => k
def RgD.set : RgD → SetD | .mk _ s _ _ _ => s
def RgD.kids : RgD → List RgD | .mk _ _ l _ _ => l
def RgD.min : RgD → Int | .mk _ _ _ a _ => a
def RgD.max : RgD → Int | .mk _ _ _ _ b => b
def noneD : RgD := .mk 0 zeroS [] 0 0
def emptyD : RgD := .mk 1 zeroS [] 0 0
def oneD (s : SetD) : RgD := .mk 2 s [] 0 0
def catD' (l : List RgD) : RgD := .mk 3 zeroS l 0 0
def altD' (l : List RgD) : RgD := .mk 4 zeroS l 0 0
def repD (n : RgD) (a b : Int) : RgD := .mk 5 zeroS [n] a b
/-- Where a reader stands: at which byte, how many nodes, what is wrong and where. -/
structure RS where
  p : Nat
  n : Nat
  e : Nat
  f : Nat
deriving DecidableEq
def RS.wrong (s : RS) (e f : Nat) : RS := if s.e = 0 then { s with e := e, f := f } else s
def RS.adv (s : RS) : RS := { s with p := s.p + 1 }
def nodeS (s : RS) : RS := if 512 < s.n + 1 then RS.wrong { s with n := s.n + 1 } 2 s.p else { s with n := s.n + 1 }
def peekD (t : List UInt8) (s : RS) : Nat := if s.p < t.length ∧ s.e = 0 then (t[s.p]!).toNat else 0
def eatS (t : List UInt8) (c : Nat) (s : RS) : RS := if peekD t s = c then s.adv else s
def mustS (t : List UInt8) (c : Nat) (s : RS) : RS := if peekD t s = c then s.adv else s.wrong 5 s.p
def isDig (c : Nat) : Bool := decide (48 ≤ c) && decide (c ≤ 57)
def digitD (t : List UInt8) (a : Nat) (s : RS) : Nat × RS :=
  if isDig (peekD t s) then (peekD t s - 48, s.adv) else if 97 ≤ peekD t s ∧ peekD t s ≤ 102 then (peekD t s - 87, s.adv) else (0, s.adv.wrong 5 a)
def badEsc (c : Nat) : Bool := decide (c ≤ 32) || decide (126 < c) || isDig c || (decide (97 ≤ c) && decide (c ≤ 122)) || (decide (65 ≤ c) && decide (c ≤ 90))
def escD (t : List UInt8) (a : Nat) (s : RS) : Nat × RS :=
  if peekD t s = 110 then (10, s.adv) else if peekD t s = 114 then (13, s.adv) else if peekD t s = 116 then (9, s.adv) else if peekD t s = 48 then (0, s.adv)
  else if peekD t s = 120 then (16 * (digitD t a s.adv).1 + (digitD t a (digitD t a s.adv).2).1, (digitD t a (digitD t a s.adv).2).2)
  else (peekD t s, if badEsc (peekD t s) then s.adv.wrong 5 a else s.adv)
def signsR : List UInt8 := [47, 91, 93, 40, 41, 123, 125, 124, 42, 43, 63, 94, 34, 35, 45]
def badB (c : Nat) : Bool := decide (c < 32) || decide (126 < c) || (signsR.map (·.toNat)).contains c
def byteD (t : List UInt8) (s : RS) : Nat × RS :=
  if peekD t s = 92 then escD t s.p s.adv else if badB (peekD t s) then (0, s.wrong 5 s.p) else (peekD t s, s.adv)
def rangeD (x y : Nat) : SetD := (List.range 256).foldl (fun s c => if x ≤ c ∧ c ≤ y then s.add c else s) zeroS
/-- A byte, or two with a line between. -/
def pairD (t : List UInt8) (s : RS) : (Nat × Nat) × RS :=
  if peekD t (byteD t s).2 = 45 then (((byteD t s).1, (byteD t (byteD t s).2.adv).1), (byteD t (byteD t s).2.adv).2) else (((byteD t s).1, (byteD t s).1), (byteD t s).2)
def setL (t : List UInt8) (a : Nat) : Nat → SetD → RS → SetD × RS
  | 0, z, s => (z, s)
  | k + 1, z, s => if s.e = 0 ∧ peekD t s ≠ 93 then (if peekD t s = 0 then (z, s.wrong 5 s.p) else
      setL t a k (z.or (rangeD (pairD t s).1.1 (pairD t s).1.2)) (if (pairD t s).1.2 < (pairD t s).1.1 then (pairD t s).2.wrong 1 a else (pairD t s).2)) else (z, s)
def turnD (b : Bool) (z : SetD) : SetD := if b then z.not else z
def setD (t : List UInt8) (a : Nat) (s : RS) : SetD × RS :=
  let l := setL t a (t.length + 1) zeroS (eatS t 94 s)
  let z := turnD (decide (peekD t s = 94)) l.1
  (z, if (mustS t 93 l.2).e = 0 ∧ z = zeroS then (mustS t 93 l.2).wrong 160 a else mustS t 93 l.2)
def digsOf (l : List UInt8) : List UInt8 := l.takeWhile fun c => isDig c.toNat
def valOf (l : List UInt8) : Nat := l.foldl (fun v c => 10 * v + (c.toNat - 48)) 0
def badNum (l : List UInt8) : Bool := l.isEmpty || (decide (1 < l.length) && decide (l.headD 0 = 48))
def countD (t : List UInt8) (s : RS) : Nat × RS :=
  let l := digsOf (t.drop s.p)
  let s1 : RS := { s with p := s.p + l.length }
  if badNum l then (0, s1.wrong 5 s.p) else if 256 < valOf l then (0, s1.wrong 1 s.p) else (valOf l, s1)
def countsD (t : List UInt8) (s : RS) : (Nat × Int) × RS :=
  let c := countD t s
  let h : Int × RS := if peekD t c.2 = 44 then (if peekD t c.2.adv = 125 then (-1, c.2.adv) else (((countD t c.2.adv).1 : Int), (countD t c.2.adv).2)) else ((c.1 : Int), c.2)
  ((c.1, h.1), if 0 ≤ h.1 ∧ h.1 < (c.1 : Int) then (mustS t 125 h.2).wrong 1 s.p else mustS t 125 h.2)
def repL (t : List UInt8) : Nat → RgD → RS → RgD × RS
  | 0, n, s => (n, s)
  | k + 1, n, s => if peekD t s = 42 then repL t k (repD n 0 (-1)) (nodeS s.adv) else if peekD t s = 43 then repL t k (repD n 1 (-1)) (nodeS s.adv)
      else if peekD t s = 63 then repL t k (repD n 0 1) (nodeS s.adv)
      else if peekD t s = 123 then repL t k (repD n (countsD t s.adv).1.1 (countsD t s.adv).1.2) (nodeS (countsD t s.adv).2) else (n, s)
def ofD (c : Nat) : SetD := zeroS.add c
def atomD (t : List UInt8) (alt : RS → RgD × RS) (s : RS) : RgD × RS :=
  if peekD t s = 40 then ((alt s.adv).1, mustS t 41 (alt s.adv).2) else if peekD t s = 46 then (oneD allD, nodeS s.adv)
  else if peekD t s = 91 then (oneD (setD t s.p s.adv).1, nodeS (setD t s.p s.adv).2) else (oneD (ofD (byteD t s).1), nodeS (byteD t s).2)
def pieceD (t : List UInt8) (alt : RS → RgD × RS) (s : RS) : RgD × RS := repL t (t.length + 1) (atomD t alt s).1 (atomD t alt s).2
def catL (t : List UInt8) (alt : RS → RgD × RS) : Nat → List RgD → RS → List RgD × RS
  | 0, l, s => (l, s)
  | k + 1, l, s => if peekD t s ≠ 0 ∧ peekD t s ≠ 124 ∧ peekD t s ≠ 41 then catL t alt k (l ++ [(pieceD t alt s).1]) (pieceD t alt s).2 else (l, s)
def catOf : List RgD × RS → RgD × RS
  | ([], s) => (emptyD, nodeS s)
  | ([x], s) => (x, s)
  | (l, s) => (catD' l, nodeS s)
def catD (t : List UInt8) (alt : RS → RgD × RS) (s : RS) : RgD × RS := catOf (catL t alt (t.length + 1) [] s)
def altL (t : List UInt8) (alt : RS → RgD × RS) : Nat → List RgD → RS → List RgD × RS
  | 0, l, s => (l, s)
  | k + 1, l, s => if peekD t s = 124 then altL t alt k (l ++ [(catD t alt s.adv).1]) (catD t alt s.adv).2 else (l, s)
def altOf : List RgD × RS → RgD × RS
  | ([x], s) => (x, s)
  | (l, s) => (altD' l, nodeS s)
def altD (t : List UInt8) : Nat → RS → RgD × RS
  | 0, s => (noneD, s.wrong 6 s.p)
  | d + 1, s => altOf (altL t (altD t d) (t.length + 1) [(catD t (altD t d) s).1] (catD t (altD t d) s).2)
def endS (t : List UInt8) (s : RS) : RS := if s.e = 0 ∧ s.p < t.length then s.wrong 5 s.p else s
def parseD (t : List UInt8) : RgD × (Nat × Nat) :=
  if 512 < t.length then (noneD, (2, 0)) else
    if (endS t (altD t 33 ⟨0, 0, 0, 0⟩).2).e = 0 then ((altD t 33 ⟨0, 0, 0, 0⟩).1, (0, 0)) else (noneD, ((endS t (altD t 33 ⟨0, 0, 0, 0⟩).2).e, (endS t (altD t 33 ⟨0, 0, 0, 0⟩).2).f))

def decD : Nat → Nat → List UInt8
  | 0, _ => []
  | k + 1, n => if n < 10 then [UInt8.ofNat (48 + n)] else decD k (n / 10) ++ [UInt8.ofNat (48 + n % 10)]
def digsD (n : Nat) : List UInt8 := decD 20 n
def oftenD (a b : Int) : List UInt8 :=
  if a = 0 ∧ b < 0 then [42] else if a = 1 ∧ b < 0 then [43] else if a = 0 ∧ b = 1 then [63] else if b < 0 then 123 :: (digsD a.toNat ++ [44, 125])
  else if a = b then 123 :: (digsD a.toNat ++ [125]) else 123 :: (digsD a.toNat ++ 44 :: (digsD b.toNat ++ [125]))
mutual
def writeD : RgD → Bool → List UInt8
  | .mk k s l a b, w =>
    (if w = true ∧ k ≠ 2 ∧ k ≠ 5 then [40] else []) ++ ((if k = 2 then textD s else if k = 3 then writeC l else if k = 4 then writeA l true else if k = 5 then writeH l ++ oftenD a b else [])
      ++ (if w = true ∧ k ≠ 2 ∧ k ≠ 5 then [41] else []))
def writeC : List RgD → List UInt8
  | [] => []
  | x :: r => writeD x true ++ writeC r
def writeA : List RgD → Bool → List UInt8
  | [], _ => []
  | x :: r, first => (if first then [] else [124]) ++ (writeD x (decide (x.kind = 4)) ++ writeA r false)
def writeH : List RgD → List UInt8
  | [] => []
  | x :: _ => writeD x true
end

def textR (n : RgD) : List UInt8 := writeD n false
def formD (n : RgD) : Nat := if n.kind = 1 ∨ n.kind = 2 then (if n.kids ≠ [] then 5 else if n.kind = 2 ∧ n.set = zeroS then 160 else 0) else if n.kind = 3 ∨ n.kind = 4 then (if n.kids.length < 2 then 5 else 0)
  else if n.kind = 5 then (if n.kids.length ≠ 1 then 5 else if n.min < 0 ∨ 256 < n.min ∨ 256 < n.max ∨ (0 ≤ n.max ∧ n.max < n.min) then 1 else 0) else 5
mutual
def checkD : RgD → Int → Nat × Int
  | .mk k s l a b, left => if left - 1 < 0 then (2, left - 1) else if formD (.mk k s l a b) ≠ 0 then (formD (.mk k s l a b), left - 1) else if k = 1 ∨ k = 2 then (0, left - 1) else checkK l (left - 1)
def checkK : List RgD → Int → Nat × Int
  | [], left => (0, left)
  | x :: r, left => if (checkD x left).1 ≠ 0 then checkD x left else checkK r (checkD x left).2
end

mutual
def wrongD : RgD → Nat
  | .mk k s l a b => if formD (.mk k s l a b) ≠ 0 then formD (.mk k s l a b) else wrongK l
def wrongK : List RgD → Nat
  | [] => 0
  | x :: r => if wrongD x ≠ 0 then wrongD x else wrongK r
end

mutual
def fewD : RgD → Int → Bool × Int
  | .mk k s l a b, left => if left - 1 < 0 ∨ 100 < l.length then (false, left - 1) else fewK l (left - 1)
def fewK : List RgD → Int → Bool × Int
  | [], left => (true, left)
  | x :: r, left => if (fewD x left).1 then fewK r (fewD x left).2 else (false, (fewD x left).2)
end

def sameH (a b : RgD) : Bool := decide (a.kind = b.kind) && decide (a.kids.length = b.kids.length) && !((decide (a.kind = 2) && decide (a.set ≠ b.set)) || (decide (a.kind = 5) && (decide (a.min ≠ b.min) || decide (Max.max a.max (-1) ≠ Max.max b.max (-1)))))
mutual
def sameD : RgD → RgD → Bool
  | .mk k s l a b, y => if sameH (.mk k s l a b) y then sameK l y.kids else false
def sameK : List RgD → List RgD → Bool
  | [], _ => true
  | x :: r, [] => true
  | x :: r, y :: q => if sameD x y then sameK r q else false
end

mutual
def deepD : RgD → Nat
  | .mk _ _ l _ _ => deepK l + 1
def deepK : List RgD → Nat
  | [] => 0
  | x :: r => Max.max (deepD x) (deepK r)
end

def readsT : List UInt8 := [97, 40, 98, 124, 91, 48, 45, 57, 93, 123, 50, 44, 125, 41, 42]
def digC : SetD := ⟨287948901175001088, 0, 0, 0⟩
def readsN : RgD := catD' [oneD (ofD 97), repD (altD' [oneD (ofD 98), repD (oneD digC) 2 (-1)]) 0 (-1)]
end Go.Proofs.Ytkpdnpcmeadggaa
/-! The law RegexChecks, plain: of an expression of few parts. No program in sight. -/
namespace Go.Proofs.Ytkpdnpcmeadggaa
open Go Go.E
set_option linter.unusedVariables false
set_option maxRecDepth 10000
mutual
theorem check_few : ∀ (n : RgD) (L M : Int), (fewD n L).1 = true → L ≤ M → 0 ≤ (fewD n L).2 ∧ (fewD n L).2 < L ∧ (checkD n M).1 = wrongD n ∧ (wrongD n = 0 → (checkD n M).2 = M - (L - (fewD n L).2))
  | .mk k s l a b, L, M, hf, hM => by
    rw [fewD] at hf ⊢
    rw [checkD, wrongD]
    by_cases h1 : L - 1 < 0 ∨ 100 < l.length
    · rw [if_pos h1] at hf; cases hf
    · rw [if_neg h1] at hf ⊢
      have h2 : ¬ M - 1 < 0 := by omega
      rw [if_neg h2]
      by_cases h3 : formD (.mk k s l a b) ≠ 0
      · rw [if_pos h3, if_pos h3]
        obtain ⟨i1, i2, i3, i4⟩ := checkK_few l (L - 1) (M - 1) hf (by omega)
        exact ⟨i1 (by omega), by omega, rfl, fun h => absurd h h3⟩
      · rw [if_neg h3, if_neg h3]
        by_cases h4 : k = 1 ∨ k = 2
        · rw [if_pos h4]
          have hl : l = [] := by
            by_cases hl : l = []
            · exact hl
            · exact absurd (by unfold formD; show (if k = 1 ∨ k = 2 then _ else _) ≠ 0; rw [if_pos h4]; show (if l ≠ [] then _ else _) ≠ 0; rw [if_pos hl]; decide) h3
          subst hl
          simp only [fewK, wrongK]
          exact ⟨by omega, by omega, trivial, fun _ => by omega⟩
        · rw [if_neg h4]
          obtain ⟨i1, i2, i3, i4⟩ := checkK_few l (L - 1) (M - 1) hf (by omega)
          exact ⟨i1 (by omega), by omega, i3, fun h => by have := i4 h; omega⟩
theorem checkK_few : ∀ (l : List RgD) (L M : Int), (fewK l L).1 = true → L ≤ M → (0 ≤ L → 0 ≤ (fewK l L).2) ∧ (fewK l L).2 ≤ L ∧ (checkK l M).1 = wrongK l ∧ (wrongK l = 0 → (checkK l M).2 = M - (L - (fewK l L).2))
  | [], L, M, hf, hM => by
    rw [fewK, checkK, wrongK]
    exact ⟨fun h => h, by omega, rfl, fun _ => by omega⟩
  | x :: r, L, M, hf, hM => by
    rw [fewK] at hf ⊢
    rw [checkK, wrongK]
    by_cases h1 : (fewD x L).1 = true
    · rw [if_pos h1] at hf ⊢
      obtain ⟨i1, i2, i3, i4⟩ := check_few x L M h1 hM
      rw [i3]
      by_cases h3 : wrongD x ≠ 0
      · rw [if_pos h3, if_pos h3]
        obtain ⟨j1, j2, j3, j4⟩ := checkK_few r (fewD x L).2 (fewD x L).2 hf (Int.le_refl _)
        exact ⟨fun _ => j1 i1, by omega, i3, fun h => absurd h h3⟩
      · rw [if_neg h3, if_neg h3]
        have hx := i4 (Decidable.of_not_not h3)
        obtain ⟨j1, j2, j3, j4⟩ := checkK_few r (fewD x L).2 (checkD x M).2 hf (by omega)
        exact ⟨fun _ => j1 i1, by omega, j3, fun h => by have := j4 h; omega⟩
    · rw [if_neg h1] at hf; cases hf
end

theorem checks_law {n : RgD} (h : (fewD n 200).1 = true) : (checkD n 512).1 = wrongD n := (check_few n 200 512 h (by decide)).2.2.1
end Go.Proofs.Ytkpdnpcmeadggaa
/-! Expressions' texts as a grammar; a fault stays. No program in sight. -/
namespace Go.Proofs.Ytkpdnpcmeadggaa
open Go Go.E
set_option linter.unusedVariables false
set_option maxRecDepth 10000
mutual
def sizeD : RgD → Nat
  | .mk _ _ l _ _ => sizeK l + 1
def sizeK : List RgD → Nat
  | [] => 0
  | x :: r => sizeD x + sizeK r
end

theorem sizeK_app : ∀ (a b : List RgD), sizeK (a ++ b) = sizeK a + sizeK b
  | [], b => by simp [sizeK]
  | x :: a, b => by rw [List.cons_append, sizeK, sizeK, sizeK_app a b]; omega
theorem sizeD_pos : ∀ (n : RgD), 1 ≤ sizeD n
  | .mk _ _ l _ _ => by rw [sizeD]; omega
def hexN (c : Nat) : Option Nat := if isDig c then some (c - 48) else if 97 ≤ c ∧ c ≤ 102 then some (c - 87) else none
def escN (c : Nat) : Option Nat := if c = 110 then some 10 else if c = 114 then some 13 else if c = 116 then some 9 else if c = 48 then some 0 else none
/-- A byte's name. -/
inductive DByte : List UInt8 → Nat → Prop where
  | plain {c : UInt8} (h1 : c.toNat ≠ 92) (h2 : badB c.toNat = false) : DByte [c] c.toNat
  | esc {x : UInt8} {v : Nat} (h : escN x.toNat = some v) : DByte [92, x] v
  | hex {h l : UInt8} {a b : Nat} (h1 : hexN h.toNat = some a) (h2 : hexN l.toNat = some b) : DByte [92, 120, h, l] (16 * a + b)
  | sign {x : UInt8} (h : badEsc x.toNat = false) : DByte [92, x] x.toNat
inductive DPair : List UInt8 → Nat → Nat → Prop where
  | one {l : List UInt8} {c : Nat} (h : DByte l c) : DPair l c c
  | two {l m : List UInt8} {c d : Nat} (h1 : DByte l c) (h2 : DByte m d) (h : c ≤ d) : DPair (l ++ 45 :: m) c d
inductive DItems : List UInt8 → SetD → SetD → Prop where
  | nil (z : SetD) : DItems [] z z
  | cons {l m : List UInt8} {c d : Nat} {z w : SetD} (h1 : DPair l c d) (h2 : DItems m (z.or (rangeD c d)) w) : DItems (l ++ m) z w
inductive DSet : List UInt8 → SetD → Prop where
  | pos {l : List UInt8} {z : SetD} (h : DItems l zeroS z) (h0 : z ≠ zeroS) : DSet (l ++ [93]) z
  | neg {l : List UInt8} {z : SetD} (h : DItems l zeroS z) (h0 : z.not ≠ zeroS) : DSet (94 :: (l ++ [93])) z.not
structure DNum (l : List UInt8) (n : Nat) : Prop where
  digs : ∀ c ∈ l, isDig c.toNat = true
  good : badNum l = false
  val : valOf l = n
  le : n ≤ 256
inductive DCount : List UInt8 → Int → Int → Prop where
  | just {l : List UInt8} {n : Nat} (h : DNum l n) : DCount (l ++ [125]) n n
  | up {l : List UInt8} {n : Nat} (h : DNum l n) : DCount (l ++ [44, 125]) n (-1)
  | both {l m : List UInt8} {n k : Nat} (h : DNum l n) (h2 : DNum m k) (hle : n ≤ k) : DCount (l ++ 44 :: (m ++ [125])) n k
inductive DRep : List UInt8 → Int → Int → Prop where
  | star : DRep [42] 0 (-1)
  | plus : DRep [43] 1 (-1)
  | opt : DRep [63] 0 1
  | count {l : List UInt8} {a b : Int} (h : DCount l a b) : DRep (123 :: l) a b
section
variable (A : List UInt8 → RgD → Prop)
inductive DAtom : List UInt8 → RgD → Prop where
  | paren {l : List UInt8} {n : RgD} (h : A l n) : DAtom (40 :: (l ++ [41])) n
  | any : DAtom [46] (oneD allD)
  | set {l : List UInt8} {z : SetD} (h : DSet l z) : DAtom (91 :: l) (oneD z)
  | byte {l : List UInt8} {c : Nat} (h : DByte l c) (h2 : l ≠ [46]) : DAtom l (oneD (ofD c))
inductive DPiece : List UInt8 → RgD → Prop where
  | atom {l : List UInt8} {n : RgD} (h : DAtom A l n) : DPiece l n
  | rep {l m : List UInt8} {n : RgD} {a b : Int} (h : DPiece l n) (h2 : DRep m a b) : DPiece (l ++ m) (repD n a b)
inductive DPieces : List UInt8 → List RgD → Prop where
  | nil : DPieces [] []
  | cons {l m : List UInt8} {n : RgD} {r : List RgD} (h1 : DPiece A l n) (h2 : DPieces m r) : DPieces (l ++ m) (n :: r)
def catN' : List RgD → RgD
  | [] => emptyD
  | [x] => x
  | l => catD' l
def altN' : List RgD → RgD
  | [x] => x
  | l => altD' l
def DCat (l : List UInt8) (n : RgD) : Prop := ∃ ns, DPieces A l ns ∧ n = catN' ns
inductive DCats : List UInt8 → List RgD → Prop where
  | one {l : List UInt8} {n : RgD} (h : DCat A l n) : DCats l [n]
  | cons {l m : List UInt8} {n : RgD} {r : List RgD} (h1 : DCat A l n) (h2 : DCats m r) : DCats (l ++ 124 :: m) (n :: r)
end
def DAlt : Nat → List UInt8 → RgD → Prop
  | 0 => fun _ _ => False
  | k + 1 => fun l n => ∃ ns, DCats (DAlt k) l ns ∧ n = altN' ns

/-! a fault stays -/
theorem wrong_keep {s : RS} {e f : Nat} (h : s.e ≠ 0) : (s.wrong e f).e = s.e := by unfold RS.wrong; rw [if_neg h]
theorem adv_e (s : RS) : s.adv.e = s.e := rfl
theorem node_keep {s : RS} (h : s.e ≠ 0) : (nodeS s).e = s.e := by
  unfold nodeS
  split
  · exact wrong_keep (s := { s with n := s.n + 1 }) h
  · rfl
theorem peek_bad {t : List UInt8} {s : RS} (h : s.e ≠ 0) : peekD t s = 0 := by unfold peekD; rw [if_neg (fun x => h x.2)]
theorem must_keep {t : List UInt8} {s : RS} {c : Nat} (h : s.e ≠ 0) : (mustS t c s).e = s.e := by
  unfold mustS
  split
  · rfl
  · exact wrong_keep h
theorem digit_keep {t : List UInt8} {s : RS} {a : Nat} (h : s.e ≠ 0) : (digitD t a s).2.e = s.e := by
  unfold digitD; rw [peek_bad h]; exact wrong_keep (s := s.adv) h
theorem esc_keep {t : List UInt8} {s : RS} {a : Nat} (h : s.e ≠ 0) : (escD t a s).2.e = s.e := by
  unfold escD; rw [peek_bad h]; exact wrong_keep (s := s.adv) h
theorem byte_keep {t : List UInt8} {s : RS} (h : s.e ≠ 0) : (byteD t s).2.e = s.e := by
  unfold byteD; rw [peek_bad h]; exact wrong_keep h
theorem wrong_ne {s : RS} {e f : Nat} (he : e ≠ 0) : (s.wrong e f).e ≠ 0 := by
  unfold RS.wrong
  split
  · exact he
  · assumption
theorem eat_keep {t : List UInt8} {s : RS} {c : Nat} : (eatS t c s).e = s.e := by unfold eatS; split <;> rfl
theorem setL_keep {t : List UInt8} {a : Nat} : ∀ {k : Nat} {z : SetD} {s : RS}, s.e ≠ 0 → (setL t a k z s).2.e = s.e
  | 0, z, s, h => rfl
  | k + 1, z, s, h => by rw [setL, if_neg (fun x => h x.1)]
theorem set_keep {t : List UInt8} {a : Nat} {s : RS} (h : s.e ≠ 0) : (setD t a s).2.e = s.e := by
  have h1 : (eatS t 94 s).e ≠ 0 := by rw [eat_keep]; exact h
  have h2 := setL_keep (t := t) (a := a) (k := t.length + 1) (z := zeroS) h1
  rw [eat_keep] at h2
  have h3 : (mustS t 93 (setL t a (t.length + 1) zeroS (eatS t 94 s)).2).e = s.e := by rw [must_keep (by rw [h2]; exact h), h2]
  unfold setD
  dsimp only
  rw [if_neg (fun x => h (h3 ▸ x.1))]; exact h3
theorem repL_keep {t : List UInt8} {k : Nat} {n : RgD} {s : RS} (h : s.e ≠ 0) : repL t k n s = (n, s) := by
  cases k with
  | zero => rfl
  | succ k => rw [repL, peek_bad h]; rfl
theorem catL_keep {t : List UInt8} {alt : RS → RgD × RS} {k : Nat} {l : List RgD} {s : RS} (h : s.e ≠ 0) : catL t alt k l s = (l, s) := by
  cases k with
  | zero => rfl
  | succ k => rw [catL, peek_bad h]; rfl
theorem altL_keep {t : List UInt8} {alt : RS → RgD × RS} {k : Nat} {l : List RgD} {s : RS} (h : s.e ≠ 0) : altL t alt k l s = (l, s) := by
  cases k with
  | zero => rfl
  | succ k => rw [altL, peek_bad h]; rfl
theorem catOf_keep {l : List RgD} {s : RS} (h : s.e ≠ 0) : (catOf (l, s)).2.e = s.e := by
  unfold catOf
  split
  · rename_i e; cases e; exact node_keep h
  · rename_i e; cases e; rfl
  · rename_i e; cases e; exact node_keep h
theorem altOf_keep {l : List RgD} {s : RS} (h : s.e ≠ 0) : (altOf (l, s)).2.e = s.e := by
  unfold altOf
  split
  · rename_i e; cases e; rfl
  · rename_i e; cases e; exact node_keep h
theorem end_keep {t : List UInt8} {s : RS} (h : s.e ≠ 0) : endS t s = s := by unfold endS; rw [if_neg (fun x => h x.1)]

/-! what is read next -/
theorem peek_at {t r : List UInt8} {s : RS} {c : UInt8} (h0 : s.e = 0) (h : t.drop s.p = c :: r) : peekD t s = c.toNat := by
  have hl : s.p < t.length := by
    rcases Nat.lt_or_ge s.p t.length with h2 | h2
    · exact h2
    · rw [List.drop_eq_nil_of_le h2] at h; cases h
  have hg : t[s.p]? = some c := by rw [← List.head?_drop, h]; rfl
  unfold peekD
  rw [if_pos ⟨hl, h0⟩, List.getElem!_eq_getElem?_getD, hg]; rfl
theorem peek_end {t : List UInt8} {s : RS} (h : t.drop s.p = []) : peekD t s = 0 := by
  unfold peekD; rw [if_neg (fun x => by have := List.drop_eq_nil_iff.1 h; omega)]
theorem drop_cons {t r : List UInt8} {p : Nat} {c : UInt8} (h : t.drop p = c :: r) : t.drop (p + 1) = r := by
  rw [← List.drop_drop, h]; rfl
theorem drop_app {t l r : List UInt8} {p : Nat} (h : t.drop p = l ++ r) : t.drop (p + l.length) = r := by
  rw [← List.drop_drop, h]; simp
theorem drop_le {t l r : List UInt8} {p : Nat} (h : t.drop p = l ++ r) (hp : l ≠ [] ∨ p ≤ t.length) : p + l.length ≤ t.length := by
  have := congrArg List.length h
  rw [List.length_drop, List.length_append] at this
  rcases hp with hp | hp
  · have : 0 < l.length := List.length_pos_iff.2 hp
    omega
  · omega
/-- A state that has read so much more. -/
def RS.at' (s : RS) (k n : Nat) : RS := ⟨s.p + k, s.n + n, 0, s.f⟩
theorem adv_at {s : RS} (h : s.e = 0) : s.adv = s.at' 1 0 := by unfold RS.adv RS.at'; rw [h]; rfl
theorem at_at (s : RS) (a b c d : Nat) : (s.at' a b).at' c d = s.at' (a + c) (b + d) := by simp only [RS.at', Nat.add_assoc]
theorem at_zero {s : RS} (h : s.e = 0) : s.at' 0 0 = s := by obtain ⟨p, n, e, f⟩ := s; cases h; rfl
end Go.Proofs.Ytkpdnpcmeadggaa
/-! What the grammar says is read. No program in sight. -/
namespace Go.Proofs.Ytkpdnpcmeadggaa
open Go Go.E
set_option linter.unusedVariables false
set_option maxRecDepth 10000
theorem at_e (s : RS) (k n : Nat) : (s.at' k n).e = 0 := rfl
theorem at_p (s : RS) (k n : Nat) : (s.at' k n).p = s.p + k := rfl
theorem at_n (s : RS) (k n : Nat) : (s.at' k n).n = s.n + n := rfl
theorem at_adv (s : RS) (k n : Nat) : (s.at' k n).adv = s.at' (k + 1) n := by rw [adv_at rfl, at_at]; rfl
theorem esc_bad {c : Nat} (h : badEsc c = false) : ¬ c = 110 ∧ ¬ c = 114 ∧ ¬ c = 116 ∧ ¬ c = 48 ∧ ¬ c = 120 := by
  simp [badEsc, isDig] at h; omega
theorem digit_at {t r : List UInt8} {s : RS} {c : UInt8} {a v : Nat} (h0 : s.e = 0) (h : t.drop s.p = c :: r) (hv : hexN c.toNat = some v) : digitD t a s = (v, s.at' 1 0) := by
  unfold digitD
  rw [peek_at h0 h, ← adv_at h0]
  unfold hexN at hv
  split at hv
  · rename_i h1; cases hv; rw [if_pos h1]
  · rename_i h1
    split at hv
    · rename_i h2; cases hv; rw [if_neg h1, if_pos h2]
    · cases hv
theorem byte_at {t r l : List UInt8} {s : RS} {c : Nat} (hb : DByte l c) (h0 : s.e = 0) (h : t.drop s.p = l ++ r) : byteD t s = (c, s.at' l.length 0) := by
  cases hb with
  | @plain c h1 h2 =>
    unfold byteD
    rw [peek_at h0 h, if_neg h1, h2, adv_at h0]; rfl
  | @esc x v hv =>
    have h1 : t.drop s.adv.p = x :: r := drop_cons h
    unfold byteD
    rw [peek_at h0 h, if_pos (by decide)]
    unfold escD
    rw [peek_at (s := s.adv) h0 h1]
    have e2 : s.adv.adv = s.at' 2 0 := by rw [adv_at h0, at_adv]
    rw [e2]
    unfold escN at hv
    split at hv
    · rename_i e; cases hv; rw [if_pos e]; rfl
    · rename_i e
      rw [if_neg e]
      split at hv
      · rename_i e; cases hv; rw [if_pos e]; rfl
      · rename_i e
        rw [if_neg e]
        split at hv
        · rename_i e; cases hv; rw [if_pos e]; rfl
        · rename_i e
          rw [if_neg e]
          split at hv
          · rename_i e; cases hv; rw [if_pos e]; rfl
          · cases hv
  | @hex x y a b hx hy =>
    have h1 : t.drop s.adv.p = 120 :: (x :: y :: r) := drop_cons h
    have h2 : t.drop s.adv.adv.p = x :: (y :: r) := drop_cons (p := s.adv.p) h1
    have h3 : t.drop (s.adv.adv.at' 1 0).p = y :: r := drop_cons (p := s.adv.adv.p) h2
    unfold byteD
    rw [peek_at h0 h, if_pos (by decide)]
    unfold escD
    rw [peek_at (s := s.adv) h0 h1, if_neg (by decide), if_neg (by decide), if_neg (by decide), if_neg (by decide), if_pos (by decide), digit_at (s := s.adv.adv) h0 h2 hx, digit_at rfl h3 hy, at_at, adv_at h0, at_adv, at_at]
    rfl
  | @sign x hx =>
    have h1 : t.drop s.adv.p = x :: r := drop_cons h
    obtain ⟨e1, e2, e3, e4, e5⟩ := esc_bad hx
    unfold byteD
    rw [peek_at h0 h, if_pos (by decide)]
    unfold escD
    rw [peek_at (s := s.adv) h0 h1, if_neg e1, if_neg e2, if_neg e3, if_neg e4, if_neg e5, hx, adv_at h0, at_adv]; rfl
def headB (c : Nat) : Bool := decide (c = 92) || !badB c
def startB (c : Nat) : Bool := decide (c = 40) || decide (c = 46) || decide (c = 91) || headB c
theorem head_sig : ∀ c : Nat, c < 256 → headB c = true → c ≠ 0 ∧ c ≠ 45 ∧ c ≠ 93 ∧ c ≠ 94 ∧ c ≠ 40 ∧ c ≠ 91 := by decide +kernel
theorem start_sig : ∀ c : Nat, c < 256 → startB c = true → c ≠ 0 ∧ c ≠ 124 ∧ c ≠ 41 ∧ c ≠ 42 ∧ c ≠ 43 ∧ c ≠ 63 ∧ c ≠ 123 := by decide +kernel
theorem DByte.head {l : List UInt8} {c : Nat} (h : DByte l c) : ∃ x m, l = x :: m ∧ headB x.toNat = true := by
  cases h with
  | plain h1 h2 => exact ⟨_, _, rfl, by simp [headB, h2]⟩
  | esc h => exact ⟨_, _, rfl, by decide⟩
  | hex h1 h2 => exact ⟨_, _, rfl, by decide⟩
  | sign h => exact ⟨_, _, rfl, by decide⟩
theorem DPair.head {l : List UInt8} {c d : Nat} (h : DPair l c d) : ∃ x m, l = x :: m ∧ headB x.toNat = true := by
  cases h with
  | one h => exact h.head
  | two h1 h2 h => obtain ⟨x, m, rfl, hx⟩ := h1.head; exact ⟨x, _, rfl, hx⟩
theorem DItems.head {l : List UInt8} {z w : SetD} (h : DItems l z w) : l = [] ∧ z = w ∨ ∃ x m, l = x :: m ∧ headB x.toNat = true := by
  cases h with
  | nil => exact .inl ⟨rfl, rfl⟩
  | cons h1 h2 => obtain ⟨x, m, rfl, hx⟩ := h1.head; exact .inr ⟨x, _, rfl, hx⟩
theorem pair_at {t r l : List UInt8} {s : RS} {c d : Nat} (hb : DPair l c d) (h0 : s.e = 0) (h : t.drop s.p = l ++ r) (hr : ∀ x q, r = x :: q → x.toNat ≠ 45) : pairD t s = ((c, d), s.at' l.length 0) ∧ c ≤ d := by
  cases hb with
  | one hb =>
    refine ⟨?_, Nat.le_refl _⟩
    unfold pairD
    rw [byte_at hb h0 h]
    have h1 : t.drop (s.at' l.length 0).p = r := drop_app h
    dsimp only
    cases r with
    | nil => rw [peek_end h1]; rfl
    | cons x q => rw [peek_at rfl h1, if_neg (hr x q rfl)]
  | @two l m _ _ hb hb2 hle =>
    refine ⟨?_, hle⟩
    rw [List.append_assoc] at h
    have h1 : t.drop (s.at' l.length 0).p = 45 :: (m ++ r) := drop_app h
    have h2 : t.drop (s.at' l.length 0).adv.p = m ++ r := drop_cons h1
    unfold pairD
    rw [byte_at hb h0 h]
    dsimp only
    rw [peek_at rfl h1, if_pos (by decide), byte_at hb2 rfl h2]
    dsimp only
    rw [at_adv, at_at]
    simp only [List.length_append, List.length_cons, Nat.add_assoc, Nat.add_comm 1]
theorem lenPos {x : UInt8} {l m : List UInt8} (h : l = x :: m) : 1 ≤ l.length := by subst h; simp
theorem setL_at {t : List UInt8} {a : Nat} {l : List UInt8} {z w : SetD} (hi : DItems l z w) : ∀ {k : Nat} {s : RS} {r : List UInt8}, l.length + 1 ≤ k → s.e = 0 → t.drop s.p = l ++ 93 :: r → setL t a k z s = (w, s.at' l.length 0) := by
  induction hi with
  | nil z =>
    intro k s r hk h0 h
    obtain ⟨k, rfl⟩ : ∃ j, k = j + 1 := ⟨k - 1, by omega⟩
    rw [setL, peek_at h0 h, if_neg (fun x => x.2 (by decide)), List.length_nil, at_zero h0]
  | @cons l m c d z w hp hi ih =>
    intro k s r hk h0 h
    obtain ⟨k, rfl⟩ : ∃ j, k = j + 1 := ⟨k - 1, by omega⟩
    obtain ⟨x, q, hx, hh⟩ := hp.head
    have hs := head_sig _ x.toNat_lt hh
    rw [List.append_assoc] at h
    have hpk : peekD t s = x.toNat := by subst hx; exact peek_at h0 h
    obtain ⟨e1, e2⟩ := pair_at hp h0 h (fun y q2 e => by
      rcases hi.head with ⟨rfl, _⟩ | ⟨y2, m2, rfl, hy⟩
      · simp at e; rw [← e.1]; decide
      · simp at e; rw [← e.1]; exact (head_sig _ y2.toNat_lt hy).2.1)
    rw [setL, hpk, if_pos ⟨h0, hs.2.2.1⟩, if_neg hs.1, e1]
    dsimp only
    rw [if_neg (by omega), ih (by rw [List.length_append] at hk; have := lenPos hx; omega) rfl (drop_app h), at_at, List.length_append]
theorem set_at {t : List UInt8} {a : Nat} {l r : List UInt8} {z : SetD} {s : RS} (hz : DSet l z) (h0 : s.e = 0) (h : t.drop s.p = l ++ r) : setD t a s = (z, s.at' l.length 0) := by
  cases hz with
  | @pos l z hi hn =>
    have hlen := drop_le h (.inl (by simp))
    rw [List.append_assoc] at h
    have hpk : peekD t s ≠ 94 := by
      rcases hi.head with ⟨rfl, _⟩ | ⟨x, m, rfl, hx⟩
      · rw [peek_at h0 h]; decide
      · rw [peek_at h0 h]; exact (head_sig _ x.toNat_lt hx).2.2.2.1
    have he : eatS t 94 s = s := by unfold eatS; rw [if_neg hpk]
    have hL := setL_at (a := a) hi (k := t.length + 1) (by rw [List.length_append] at hlen; omega) h0 h
    have hm : mustS t 93 (s.at' l.length 0) = s.at' (l ++ [93]).length 0 := by
      have h1 : t.drop (s.at' l.length 0).p = 93 :: r := drop_app h
      unfold mustS
      rw [peek_at rfl h1, if_pos (by decide), at_adv, List.length_append]; rfl
    unfold setD
    dsimp only
    rw [he, hL]
    dsimp only
    rw [hm, decide_eq_false hpk]
    show (z, if (s.at' (l ++ [93]).length 0).e = 0 ∧ z = zeroS then (s.at' (l ++ [93]).length 0).wrong 160 a else s.at' (l ++ [93]).length 0) = _
    rw [if_neg (fun x => hn x.2)]
  | @neg l z hi hn =>
    have hlen := drop_le h (.inl (by simp))
    have h1 : t.drop s.adv.p = l ++ 93 :: r := by rw [show l ++ 93 :: r = l ++ [93] ++ r by simp]; exact drop_cons h
    have hpk : peekD t s = 94 := peek_at h0 h
    have he : eatS t 94 s = s.at' 1 0 := by unfold eatS; rw [if_pos hpk, adv_at h0]
    have hL := setL_at (a := a) hi (k := t.length + 1) (s := s.at' 1 0) (by rw [List.length_cons, List.length_append] at hlen; omega) rfl h1
    have hm : mustS t 93 (s.at' (1 + l.length) 0) = s.at' (94 :: (l ++ [93])).length 0 := by
      have h2 : t.drop (s.at' (1 + l.length) 0).p = 93 :: r := by rw [at_p, ← Nat.add_assoc]; exact drop_app (p := s.p + 1) h1
      unfold mustS
      rw [peek_at rfl h2, if_pos (by decide), at_adv]
      congr 1
      simp; omega
    unfold setD
    dsimp only
    rw [he, hL]
    dsimp only
    rw [at_at, hm, decide_eq_true hpk]
    show (z.not, if (s.at' (94 :: (l ++ [93])).length 0).e = 0 ∧ z.not = zeroS then (s.at' (94 :: (l ++ [93])).length 0).wrong 160 a else s.at' (94 :: (l ++ [93])).length 0) = _
    rw [if_neg (fun x => hn x.2)]
theorem takeDigs : ∀ {l r : List UInt8}, (∀ c ∈ l, isDig c.toNat = true) → (∀ x q, r = x :: q → isDig x.toNat = false) → digsOf (l ++ r) = l
  | [], [], _, _ => rfl
  | [], x :: q, _, h => by unfold digsOf; rw [List.nil_append, List.takeWhile_cons, h x q rfl]; rfl
  | c :: l, r, h, h2 => by
    have := takeDigs (l := l) (r := r) (fun x hx => h x (by simp [hx])) h2
    unfold digsOf at this ⊢
    rw [List.cons_append, List.takeWhile_cons, h c (by simp), if_pos rfl, this]
theorem count_at {t l r : List UInt8} {n : Nat} {s : RS} (hn : DNum l n) (h0 : s.e = 0) (h : t.drop s.p = l ++ r) (hr : ∀ x q, r = x :: q → isDig x.toNat = false) : countD t s = (n, s.at' l.length 0) := by
  unfold countD
  dsimp only
  rw [h, takeDigs hn.digs hr, hn.good, hn.val, if_neg (by decide), if_neg (by have := hn.le; omega)]
  obtain ⟨p, n, e, f⟩ := s
  cases h0; rfl
theorem must_at {t r : List UInt8} {s : RS} {c : UInt8} (h0 : s.e = 0) (h : t.drop s.p = c :: r) : mustS t c.toNat s = s.at' 1 0 := by
  unfold mustS; rw [peek_at h0 h, if_pos rfl, adv_at h0]
theorem counts_at {t l r : List UInt8} {a b : Int} {s : RS} (hc : DCount l a b) (h0 : s.e = 0) (h : t.drop s.p = l ++ r) : countsD t s = ((a.toNat, b), s.at' l.length 0) ∧ 0 ≤ a := by
  cases hc with
  | @just l n hn =>
    rw [List.append_assoc] at h
    have h1 : t.drop (s.at' l.length 0).p = 125 :: r := drop_app h
    have hm := must_at (c := 125) rfl h1
    refine ⟨?_, Int.natCast_nonneg _⟩
    unfold countsD
    dsimp only
    rw [count_at hn h0 h (fun x q e => by simp at e; rw [← e.1]; decide)]
    dsimp only
    rw [peek_at rfl h1, if_neg (by decide)]
    dsimp only
    rw [show mustS t 125 (s.at' l.length 0) = _ from hm, at_at, if_neg (by omega), List.length_append]
    rfl
  | @up l n hn =>
    rw [List.append_assoc] at h
    have h1 : t.drop (s.at' l.length 0).p = 44 :: 125 :: r := drop_app h
    have h2 : t.drop (s.at' (l.length + 1) 0).p = 125 :: r := drop_cons h1
    have hm := must_at (c := 125) rfl h2
    refine ⟨?_, Int.natCast_nonneg _⟩
    unfold countsD
    dsimp only
    rw [count_at hn h0 h (fun x q e => by simp at e; rw [← e.1]; decide)]
    dsimp only
    rw [peek_at rfl h1, if_pos (by decide), at_adv, peek_at rfl h2, if_pos (by decide)]
    dsimp only
    rw [show mustS t 125 (s.at' (l.length + 1) 0) = _ from hm, at_at, if_neg (by omega), List.length_append]
    rfl
  | @both l m n k hn hk hle =>
    rw [List.append_assoc] at h
    have h1 : t.drop (s.at' l.length 0).p = 44 :: (m ++ [125] ++ r) := drop_app h
    have h2 : t.drop (s.at' (l.length + 1) 0).p = m ++ 125 :: r := by rw [show m ++ 125 :: r = m ++ [125] ++ r by simp]; exact drop_cons h1
    have h3 : t.drop (s.at' (l.length + 1 + m.length) 0).p = 125 :: r := by rw [at_p, ← Nat.add_assoc]; exact drop_app h2
    have hm := must_at (c := 125) rfl h3
    have hp : peekD t (s.at' (l.length + 1) 0) ≠ 125 := by
      cases m with
      | nil => exact absurd hk.good (by decide)
      | cons y m =>
        rw [peek_at rfl h2]
        have := hk.digs y (by simp)
        simp [isDig] at this; omega
    refine ⟨?_, Int.natCast_nonneg _⟩
    unfold countsD
    dsimp only
    rw [count_at hn h0 h (fun x q e => by simp at e; rw [← e.1]; decide)]
    dsimp only
    rw [peek_at rfl h1, if_pos (by decide), at_adv, if_neg hp, count_at hk rfl h2 (fun x q e => by simp at e; rw [← e.1]; decide)]
    dsimp only
    rw [at_at, show mustS t 125 (s.at' (l.length + 1 + m.length) 0) = _ from hm, at_at, if_neg (by omega)]
    simp only [List.length_append, List.length_cons, List.length_nil, Int.toNat_natCast]
    congr 2
    omega
theorem rep_at {t m r : List UInt8} {a b : Int} {s : RS} {n : RgD} {k : Nat} (hm : DRep m a b) (h0 : s.e = 0) (h : t.drop s.p = m ++ r) : repL t (k + 1) n s = repL t k (repD n a b) (nodeS (s.at' m.length 0)) := by
  cases hm with
  | star => rw [repL, peek_at h0 h, if_pos (by decide), adv_at h0]; rfl
  | plus => rw [repL, peek_at h0 h, if_neg (by decide), if_pos (by decide), adv_at h0]; rfl
  | opt => rw [repL, peek_at h0 h, if_neg (by decide), if_neg (by decide), if_pos (by decide), adv_at h0]; rfl
  | @count l a b hc =>
    have h1 : t.drop (s.at' 1 0).p = l ++ r := drop_cons h
    obtain ⟨e1, e2⟩ := counts_at hc rfl h1
    rw [repL, peek_at h0 h, if_neg (by decide), if_neg (by decide), if_neg (by decide), if_pos (by decide), adv_at h0, e1]
    dsimp only
    rw [at_at, Int.toNat_of_nonneg e2, List.length_cons, Nat.add_comm 1]
theorem DRep.ne {m : List UInt8} {a b : Int} (h : DRep m a b) : 1 ≤ m.length := by cases h <;> simp
theorem rep_stop {t r : List UInt8} {s : RS} {n : RgD} {k : Nat} (h0 : s.e = 0) (h : t.drop s.p = r) (hr : ∀ x q, r = x :: q → x.toNat ≠ 42 ∧ x.toNat ≠ 43 ∧ x.toNat ≠ 63 ∧ x.toNat ≠ 123) : repL t k n s = (n, s) := by
  cases k with
  | zero => rfl
  | succ k =>
    cases r with
    | nil => rw [repL, peek_end h]; rfl
    | cons x q =>
      obtain ⟨h1, h2, h3, h4⟩ := hr x q rfl
      rw [repL, peek_at h0 h, if_neg h1, if_neg h2, if_neg h3, if_neg h4]
theorem node_at {s : RS} {k n : Nat} (h : s.n + n + 1 ≤ 512) : nodeS (s.at' k n) = s.at' k (n + 1) := by
  unfold nodeS
  rw [if_neg (by rw [at_n]; omega)]; rfl
theorem node_full {s : RS} {k n : Nat} (h : 512 < s.n + n + 1) : (nodeS (s.at' k n)).e = 2 := by
  unfold nodeS
  rw [if_pos (by rw [at_n]; omega)]; rfl
/-- How it ends: as it should, or there are too many nodes, or F. -/
def Out {α : Type} (F : Prop) (s : RS) (len sz : Nat) (v : α) (x : α × RS) : Prop := (x = (v, s.at' len sz) ∧ s.n + sz ≤ 512) ∨ (x.2.e = 2 ∧ 512 < s.n + sz) ∨ (x.2.e = 6 ∧ F)
theorem Out.node {α β : Type} {F : Prop} {s : RS} {len sz : Nat} {v : α} {x : α × RS} {f : α → β} (h : Out F s len sz v x) : Out F s len (sz + 1) (f v) (f x.1, nodeS x.2) := by
  rcases h with ⟨rfl, h⟩ | ⟨h1, h2⟩ | ⟨h1, h2⟩
  · by_cases hn : s.n + sz + 1 ≤ 512
    · exact .inl ⟨by dsimp only; rw [node_at hn], hn⟩
    · exact .inr (.inl ⟨node_full (by omega), by omega⟩)
  · exact .inr (.inl ⟨by dsimp only; rw [node_keep (by omega), h1], by omega⟩)
  · exact .inr (.inr ⟨by dsimp only; rw [node_keep (by omega), h1], h2⟩)
theorem Out.start {α : Type} {F : Prop} {s : RS} {len : Nat} {v : α} (h : s.n ≤ 512) : Out F s len 0 v (v, s.at' len 0) := .inl ⟨rfl, h⟩
structure AltOk (t : List UInt8) (alt : RS → RgD × RS) (A : List UInt8 → RgD → Prop) (F : Prop) : Prop where
  run : ∀ {l r : List UInt8} {n : RgD} {s : RS}, A l n → s.e = 0 → s.n ≤ 512 → t.drop s.p = l ++ r → s.p ≤ t.length → (∀ x q, r = x :: q → x.toNat = 41) → Out F s l.length (sizeD n) n (alt s)
  keep : ∀ {s : RS}, s.e ≠ 0 → (alt s).2.e = s.e
section
variable {t : List UInt8} {alt : RS → RgD × RS} {A : List UInt8 → RgD → Prop} {F : Prop}
theorem atom_at (ha : AltOk t alt A F) {l r : List UInt8} {n : RgD} {s : RS} (hd : DAtom A l n) (h0 : s.e = 0) (hn : s.n ≤ 512) (h : t.drop s.p = l ++ r) : Out F s l.length (sizeD n) n (atomD t alt s) := by
  cases hd with
  | @paren l n hl =>
    have h1 : t.drop s.adv.p = l ++ 41 :: r := by rw [show l ++ 41 :: r = l ++ [41] ++ r by simp]; exact drop_cons h
    have hO := ha.run hl (s := s.adv) (r := 41 :: r) h0 hn h1 (drop_le (l := [40]) (r := l ++ [41] ++ r) h (.inl (by simp))) (fun x q e => by cases e; rfl)
    unfold atomD
    rw [peek_at h0 h, if_pos (by decide)]
    rcases hO with ⟨e, h2⟩ | ⟨h2, h3⟩ | ⟨h2, h3⟩
    · refine .inl ⟨?_, h2⟩
      rw [e]
      dsimp only
      have h4 : t.drop (s.adv.at' l.length (sizeD n)).p = 41 :: r := drop_app h1
      rw [show mustS t 41 (s.adv.at' l.length (sizeD n)) = _ from must_at (c := 41) rfl h4, at_at, adv_at h0, at_at, List.length_cons, List.length_append, List.length_singleton]
      congr 2
      · omega
      · omega
    · exact .inr (.inl ⟨by dsimp only; rw [must_keep (by omega), h2], h3⟩)
    · exact .inr (.inr ⟨by dsimp only; rw [must_keep (by omega), h2], h3⟩)
  | any =>
    unfold atomD
    rw [peek_at h0 h, if_neg (by decide), if_pos (by decide), adv_at h0]
    exact (Out.start (v := ()) hn).node (f := fun _ => oneD allD)
  | @set l z hz =>
    unfold atomD
    rw [peek_at h0 h, if_neg (by decide), if_neg (by decide), if_pos (by decide), adv_at h0, set_at (s := s.at' 1 0) hz rfl (drop_cons h), at_at]
    have := (Out.start (F := F) (s := s) (len := 1 + l.length) (v := ()) hn).node (f := fun _ => oneD z)
    rw [List.length_cons, Nat.add_comm]; exact this
  | @byte l c hb hne =>
    obtain ⟨x, m, hx, hh⟩ := hb.head
    have hs := head_sig _ x.toNat_lt hh
    have hpk : peekD t s = x.toNat := by subst hx; exact peek_at h0 h
    have h46 : x.toNat ≠ 46 := by
      intro e
      apply hne
      cases hb with
      | plain => cases hx; rw [UInt8.toNat_inj.1 (e.trans (show 46 = (46 : UInt8).toNat from rfl))]
      | esc => cases hx; cases e
      | hex => cases hx; cases e
      | sign => cases hx; cases e
    unfold atomD
    rw [hpk, if_neg hs.2.2.2.2.1, if_neg h46, if_neg hs.2.2.2.2.2, byte_at hb h0 h]
    exact (Out.start (v := ()) hn).node (f := fun _ => oneD (ofD c))
theorem DAtom.head {l : List UInt8} {n : RgD} (h : DAtom A l n) : ∃ x m, l = x :: m ∧ startB x.toNat = true := by
  cases h with
  | paren => exact ⟨_, _, rfl, by decide⟩
  | any => exact ⟨_, _, rfl, by decide⟩
  | set => exact ⟨_, _, rfl, by decide⟩
  | byte hb => obtain ⟨x, m, hx, hh⟩ := hb.head; exact ⟨x, m, hx, by simp [startB, hh]⟩
theorem DPiece.head {l : List UInt8} {n : RgD} (h : DPiece A l n) : ∃ x m, l = x :: m ∧ startB x.toNat = true := by
  induction h with
  | atom h => exact h.head
  | rep h1 h2 ih => obtain ⟨x, m, rfl, hx⟩ := ih; exact ⟨x, _, rfl, hx⟩
theorem sizeD_rep (n : RgD) (a b : Int) : sizeD (repD n a b) = sizeD n + 1 := by rw [repD, sizeD, sizeK, sizeK]
theorem piece_run (ha : AltOk t alt A F) {l : List UInt8} {n : RgD} (hd : DPiece A l n) : ∀ {r : List UInt8} {s : RS}, s.e = 0 → s.n ≤ 512 → t.drop s.p = l ++ r →
    ∃ k x, t.length + 1 ≤ k + l.length ∧ pieceD t alt s = repL t k x.1 x.2 ∧ Out F s l.length (sizeD n) n x := by
  induction hd with
  | atom h1 =>
    intro r s h0 hn h
    exact ⟨t.length + 1, atomD t alt s, by omega, rfl, atom_at ha h1 h0 hn h⟩
  | @rep l m n a b h1 h2 ih =>
    intro r s h0 hn h
    have hle := drop_le h (.inl (by obtain ⟨x, q, e, _⟩ := h1.head; simp [e]))
    rw [List.append_assoc] at h
    rw [List.length_append] at hle
    obtain ⟨k, x, hk, e, hO⟩ := ih h0 hn h
    have hne := h2.ne
    obtain ⟨k, rfl⟩ : ∃ j, k = j + 1 := ⟨k - 1, by omega⟩
    rcases hO with ⟨rfl, hs⟩ | ⟨h3, h4⟩ | ⟨h3, h4⟩
    · have h5 : t.drop (s.at' l.length (sizeD n)).p = m ++ r := drop_app h
      refine ⟨k, (repD n a b, nodeS (s.at' (l.length + m.length) (sizeD n))), by rw [List.length_append]; omega, by rw [e]; dsimp only; rw [rep_at h2 rfl h5, at_at, Nat.add_zero], ?_⟩
      rw [sizeD_rep, List.length_append]
      exact (show Out F s (l.length + m.length) (sizeD n) n (n, s.at' (l.length + m.length) (sizeD n)) from .inl ⟨rfl, hs⟩).node (f := fun n => repD n a b)
    · exact ⟨k, x, by rw [List.length_append]; omega, by rw [e, repL_keep (by omega), repL_keep (by omega)], .inr (.inl ⟨h3, by rw [sizeD_rep]; omega⟩)⟩
    · exact ⟨k, x, by rw [List.length_append]; omega, by rw [e, repL_keep (by omega), repL_keep (by omega)], .inr (.inr ⟨h3, h4⟩)⟩
theorem piece_at (ha : AltOk t alt A F) {l r : List UInt8} {n : RgD} {s : RS} (hd : DPiece A l n) (h0 : s.e = 0) (hn : s.n ≤ 512) (h : t.drop s.p = l ++ r)
    (hr : ∀ x q, r = x :: q → x.toNat ≠ 42 ∧ x.toNat ≠ 43 ∧ x.toNat ≠ 63 ∧ x.toNat ≠ 123) : Out F s l.length (sizeD n) n (pieceD t alt s) := by
  obtain ⟨k, x, hk, e, hO⟩ := piece_run ha hd h0 hn h
  rw [e]
  rcases hO with ⟨rfl, hs⟩ | ⟨h3, h4⟩ | ⟨h3, h4⟩
  · exact .inl ⟨rep_stop rfl (drop_app h) hr, hs⟩
  · exact .inr (.inl ⟨by rw [repL_keep (by omega)]; exact h3, h4⟩)
  · exact .inr (.inr ⟨by rw [repL_keep (by omega)]; exact h3, h4⟩)
def EndC (r : List UInt8) : Prop := ∀ x q, r = x :: q → x.toNat = 124 ∨ x.toNat = 41
theorem Out.seq {α β : Type} {F : Prop} {s : RS} {len sz len2 sz2 : Nat} {v : α} {w : β} {x : α × RS} {y : β × RS} (h : Out F s len sz v x) (hk : x.2.e ≠ 0 → y.2.e = x.2.e) (hy : x = (v, s.at' len sz) → s.n + sz ≤ 512 → Out F (s.at' len sz) len2 sz2 w y) : Out F s (len + len2) (sz + sz2) w y := by
  rcases h with ⟨e, hs⟩ | ⟨h3, h4⟩ | ⟨h3, h4⟩
  · have := hy e hs
    unfold Out at this ⊢
    rw [at_at, at_n] at this
    simpa [Nat.add_assoc] using this
  · exact .inr (.inl ⟨by rw [hk (by omega), h3], by omega⟩)
  · exact .inr (.inr ⟨by rw [hk (by omega), h3], h4⟩)
theorem catL_at (ha : AltOk t alt A F) {l : List UInt8} {ns : List RgD} (hd : DPieces A l ns) : ∀ {k : Nat} {acc : List RgD} {s : RS} {r : List UInt8}, l.length + 1 ≤ k → s.e = 0 → s.n ≤ 512 → t.drop s.p = l ++ r → EndC r → Out F s l.length (sizeK ns) (acc ++ ns) (catL t alt k acc s) := by
  induction hd with
  | nil =>
    intro k acc s r hk h0 hn h hr
    obtain ⟨k, rfl⟩ : ∃ j, k = j + 1 := ⟨k - 1, by omega⟩
    have : catL t alt (k + 1) acc s = (acc, s) := by
      rw [catL]
      rw [List.nil_append] at h
      cases r with
      | nil => rw [peek_end h]; rfl
      | cons x q =>
        rw [peek_at h0 h]
        rcases hr x q rfl with e | e <;> rw [e] <;> rfl
    rw [this, List.append_nil]
    exact .inl ⟨by rw [List.length_nil, sizeK, at_zero h0], by rw [sizeK]; omega⟩
  | @cons l m n ns h1 h2 ih =>
    intro k acc s r hk h0 hn h hr
    obtain ⟨k, rfl⟩ : ∃ j, k = j + 1 := ⟨k - 1, by omega⟩
    obtain ⟨x, q, hx, hh⟩ := h1.head
    have hs := start_sig _ x.toNat_lt hh
    have hl := lenPos hx
    rw [List.append_assoc] at h
    rw [List.length_append] at hk
    have hpk : peekD t s = x.toNat := by subst hx; exact peek_at h0 h
    have hO := piece_at ha h1 h0 hn h (fun y q2 e => by
      cases h2 with
      | nil =>
        rw [List.nil_append] at e
        rcases hr y q2 e with e | e <;> rw [e] <;> decide
      | cons h3 h4 =>
        obtain ⟨y2, m2, rfl, hy⟩ := h3.head
        simp at e; rw [← e.1]; have := start_sig _ y2.toNat_lt hy
        exact ⟨this.2.2.2.1, this.2.2.2.2.1, this.2.2.2.2.2.1, this.2.2.2.2.2.2⟩)
    rw [catL, hpk, if_pos ⟨hs.1, hs.2.1, hs.2.2.1⟩, sizeK, List.length_append]
    refine hO.seq (fun he => by rw [catL_keep he]) (fun e hs => ?_)
    rw [e, show acc ++ n :: ns = acc ++ [n] ++ ns by simp]
    exact ih (by omega) rfl hs (drop_app h) hr
theorem cat_at (ha : AltOk t alt A F) {l r : List UInt8} {n : RgD} {s : RS} (hd : DCat A l n) (h0 : s.e = 0) (hn : s.n ≤ 512) (h : t.drop s.p = l ++ r) (hp : s.p ≤ t.length) (hr : EndC r) : Out F s l.length (sizeD n) n (catD t alt s) := by
  obtain ⟨ns, hd, rfl⟩ := hd
  have hle := drop_le h (.inr hp)
  have hO := catL_at ha hd (k := t.length + 1) (acc := []) (by omega) h0 hn h hr
  rw [List.nil_append] at hO
  unfold catD
  generalize catL t alt (t.length + 1) [] s = x at hO
  obtain ⟨x1, x2⟩ := x
  have hbad : ∀ z, (x2.e = z ∧ z ≠ 0) → (catOf (x1, x2)).2.e = z := fun z h => by rw [catOf_keep (by omega), h.1]
  have hsz : sizeK ns ≤ sizeD (catN' ns) := by
    unfold catN'
    split
    · simp [sizeK]
    · simp [sizeK]
    · rw [catD', sizeD]; omega
  rcases hO with ⟨e, hs⟩ | ⟨h3, h4⟩ | ⟨h3, h4⟩
  · cases e
    match ns with
    | [] => exact (show Out F s l.length (sizeK []) () ((), s.at' l.length (sizeK [])) from .inl ⟨rfl, hs⟩).node (f := fun _ => emptyD)
    | [x] =>
      have e : sizeK [x] = sizeD (catN' [x]) := by rw [sizeK, sizeK]; rfl
      exact .inl ⟨by rw [← e]; rfl, by rw [← e]; exact hs⟩
    | x :: y :: q => exact (show Out F s l.length (sizeK (x :: y :: q)) () ((), s.at' l.length (sizeK (x :: y :: q))) from .inl ⟨rfl, hs⟩).node (f := fun _ => catD' (x :: y :: q))
  · exact .inr (.inl ⟨hbad 2 ⟨h3, by decide⟩, by omega⟩)
  · exact .inr (.inr ⟨hbad 6 ⟨h3, by decide⟩, h4⟩)
theorem catD_keep (hk : ∀ {s : RS}, s.e ≠ 0 → (alt s).2.e = s.e) {s : RS} (h : s.e ≠ 0) : (catD t alt s).2.e = s.e := by
  unfold catD; rw [catL_keep h, catOf_keep h]
theorem cats_at (ha : AltOk t alt A F) {l : List UInt8} {ns : List RgD} (hd : DCats A l ns) : ∀ {k : Nat} {acc : List RgD} {s : RS} {r : List UInt8}, l.length + 1 ≤ k → s.e = 0 → s.n ≤ 512 → t.drop s.p = l ++ r → s.p ≤ t.length → (∀ x q, r = x :: q → x.toNat = 41) →
    Out F s l.length (sizeK ns) (acc ++ ns) (altL t alt k (acc ++ [(catD t alt s).1]) (catD t alt s).2) := by
  induction hd with
  | @one l n h1 =>
    intro k acc s r hk h0 hn h hp hr
    have hO := cat_at ha h1 h0 hn h hp (fun x q e => .inr (hr x q e))
    rw [sizeK, sizeK]
    refine hO.seq (len2 := 0) (sz2 := 0) (fun he => by rw [altL_keep he]) (fun e hs => ?_)
    have h2 : t.drop (s.at' l.length (sizeD n)).p = r := drop_app h
    have : altL t alt k (acc ++ [n]) (s.at' l.length (sizeD n)) = (acc ++ [n], s.at' l.length (sizeD n)) := by
      cases k with
      | zero => rfl
      | succ k =>
        rw [altL]
        cases r with
        | nil => rw [peek_end h2]; rfl
        | cons x q => rw [peek_at rfl h2, hr x q rfl]; rfl
    rw [e, this]
    exact .inl ⟨by rw [at_at]; rfl, hs⟩
  | @cons l m n ns h1 h2 ih =>
    intro k acc s r hk h0 hn h hp hr
    rw [List.append_assoc] at h
    rw [List.length_append, List.length_cons] at hk
    obtain ⟨k, rfl⟩ : ∃ j, k = j + 1 := ⟨k - 1, by omega⟩
    have hO := cat_at ha h1 h0 hn h hp (fun x q e => by simp at e; exact .inl (by rw [← e.1]; rfl))
    rw [sizeK, List.length_append, List.length_cons]
    refine hO.seq (fun he => by rw [altL_keep he]) (fun e hs => ?_)
    have h3 : t.drop (s.at' l.length (sizeD n)).p = 124 :: (m ++ r) := drop_app h
    have hle : s.p + l.length + 1 ≤ t.length := by
      have := drop_le (l := l ++ [124]) (r := m ++ r) (p := s.p) (t := t) (by rw [h]; simp) (.inl (by simp))
      rw [List.length_append, List.length_singleton] at this; omega
    rw [e]
    dsimp only
    rw [altL, peek_at rfl h3, if_pos (by decide), at_adv]
    have hI := ih (k := k) (acc := acc ++ [n]) (s := s.at' (l.length + 1) (sizeD n)) (r := r) (by omega) rfl hs (by rw [at_p]; exact drop_cons h3) (by rw [at_p]; omega) hr
    rw [show acc ++ n :: ns = acc ++ [n] ++ ns by simp]
    unfold Out at hI ⊢
    rw [at_at] at hI ⊢
    rw [at_n] at hI ⊢
    rw [show l.length + (m.length + 1) = l.length + 1 + m.length by omega]
    exact hI
end
theorem alt_keep {t : List UInt8} : ∀ {d : Nat} {s : RS}, s.e ≠ 0 → (altD t d s).2.e = s.e
  | 0, s, h => wrong_keep h
  | d + 1, s, h => by
    have h1 : (catD t (altD t d) s).2.e = s.e := catD_keep (fun h => alt_keep h) h
    rw [altD, altL_keep (by rw [h1]; exact h), altOf_keep (by rw [h1]; exact h), h1]
theorem alt_at {t : List UInt8} : ∀ {d k : Nat} {l r : List UInt8} {n : RgD} {s : RS}, DAlt k l n → s.e = 0 → s.n ≤ 512 → t.drop s.p = l ++ r → s.p ≤ t.length → (∀ x q, r = x :: q → x.toNat = 41) → Out (d < k) s l.length (sizeD n) n (altD t d s)
  | _, 0, _, _, _, _, h, _, _, _, _, _ => h.elim
  | 0, k + 1, l, r, n, s, h, h0, hn, hd, hp, hr => by
    refine .inr (.inr ⟨?_, Nat.zero_lt_succ _⟩)
    show (s.wrong 6 s.p).e = 6
    unfold RS.wrong; rw [if_pos h0]
  | d + 1, k + 1, l, r, n, s, h, h0, hn, hd, hp, hr => by
    have hle := drop_le hd (.inr hp)
    have ha : AltOk t (altD t d) (DAlt k) (d < k) := ⟨fun h1 h2 h3 h4 h5 h6 => alt_at h1 h2 h3 h4 h5 h6, fun h => alt_keep h⟩
    obtain ⟨ns, hc, rfl⟩ := h
    have hO := cats_at ha hc (k := t.length + 1) (acc := []) (by omega) h0 hn hd hp hr
    rw [List.nil_append, List.nil_append] at hO
    rw [altD]
    generalize altL t (altD t d) (t.length + 1) [(catD t (altD t d) s).1] (catD t (altD t d) s).2 = x at hO
    obtain ⟨x1, x2⟩ := x
    have hbad : ∀ z, (x2.e = z ∧ z ≠ 0) → (altOf (x1, x2)).2.e = z := fun z h => by rw [altOf_keep (by omega), h.1]
    have hsz : sizeK ns ≤ sizeD (altN' ns) := by
      unfold altN'
      split
      · simp [sizeK]
      · rw [altD', sizeD]; omega
    rcases hO with ⟨e, hs⟩ | ⟨h3, h4⟩ | ⟨h3, h4⟩
    · cases e
      match ns with
      | [] => cases hc
      | [x] =>
        have e : sizeK [x] = sizeD (altN' [x]) := by rw [sizeK, sizeK]; rfl
        exact .inl ⟨by rw [← e]; rfl, by rw [← e]; exact hs⟩
      | x :: y :: q => exact (show Out (d + 1 < k + 1) s l.length (sizeK (x :: y :: q)) () ((), s.at' l.length (sizeK (x :: y :: q))) from .inl ⟨rfl, hs⟩).node (f := fun _ => altD' (x :: y :: q))
    · exact .inr (.inl ⟨hbad 2 ⟨h3, by decide⟩, by omega⟩)
    · exact .inr (.inr ⟨hbad 6 ⟨h3, by decide⟩, by omega⟩)
/-- A text of the grammar alone. -/
theorem parse_at {k : Nat} {l : List UInt8} {n : RgD} (h : DAlt k l n) (hl : l.length ≤ 512) : parseD l = (n, (0, 0)) ∧ sizeD n ≤ 512 ∨ (parseD l = (noneD, (parseD l).2) ∧ ((parseD l).2.1 = 2 ∧ 512 < sizeD n ∨ (parseD l).2.1 = 6 ∧ 33 < k)) := by
  have hO := alt_at (t := l) (d := 33) (s := ⟨0, 0, 0, 0⟩) (r := []) h rfl (by decide) (by simp) (Nat.zero_le _) (fun x q e => by cases e)
  unfold parseD
  rw [if_neg (by omega)]
  rcases hO with ⟨e, hs⟩ | ⟨h3, h4⟩ | ⟨h3, h4⟩
  · rw [e]
    dsimp only
    have : endS l (RS.at' ⟨0, 0, 0, 0⟩ l.length (sizeD n)) = RS.at' ⟨0, 0, 0, 0⟩ l.length (sizeD n) := by
      unfold endS
      rw [if_neg (fun x => by have := x.2; simp [RS.at'] at this)]
    rw [this]
    exact .inl ⟨rfl, by simpa using hs⟩
  · rw [end_keep (by omega), if_neg (by omega)]
    exact .inr ⟨rfl, .inl ⟨h3, by simpa using h4⟩⟩
  · rw [end_keep (by omega), if_neg (by omega)]
    exact .inr ⟨rfl, .inr ⟨h3, h4⟩⟩
end Go.Proofs.Ytkpdnpcmeadggaa
/-! What is written is of the grammar. No program in sight. -/
namespace Go.Proofs.Ytkpdnpcmeadggaa
open Go Go.E
set_option linter.unusedVariables false
set_option maxRecDepth 10000
theorem zeroS_in : SetIn zeroS := SetIn.zero
theorem zeroS_has (c : Nat) : zeroS.has c = false := SetD.has_zero c
theorem range_spec (x y : Nat) : ∀ k, k ≤ 256 → SetIn ((List.range k).foldl (fun s c => if x ≤ c ∧ c ≤ y then s.add c else s) zeroS) ∧ ∀ c, c < 256 → ((List.range k).foldl (fun s c => if x ≤ c ∧ c ≤ y then s.add c else s) zeroS).has c = decide (x ≤ c ∧ c ≤ y ∧ c < k)
  | 0, _ => ⟨zeroS_in, fun c _ => by rw [List.range_zero, List.foldl_nil, zeroS_has, eq_comm, decide_eq_false_iff_not]; omega⟩
  | k + 1, h => by
    obtain ⟨h1, h2⟩ := range_spec x y k (by omega)
    rw [List.range_succ, List.foldl_append, List.foldl_cons, List.foldl_nil]
    split
    · refine ⟨h1.add (by omega), fun c hc => ?_⟩
      rw [SetD.has_add (by omega) hc, h2 c hc, Bool.eq_iff_iff]
      simp only [Bool.or_eq_true, decide_eq_true_iff]; omega
    · refine ⟨h1, fun c hc => ?_⟩
      rw [h2 c hc, decide_eq_decide]; omega
theorem range_in (x y : Nat) : SetIn (rangeD x y) := (range_spec x y 256 (by omega)).1
theorem range_has (x y : Nat) {c : Nat} (hc : c < 256) : (rangeD x y).has c = decide (x ≤ c ∧ c ≤ y) := by
  have := (range_spec x y 256 (by omega)).2 c hc
  rw [rangeD, this, decide_eq_decide]; omega
theorem of_in {c : Nat} (hc : c < 256) : SetIn (ofD c) := zeroS_in.add hc
theorem of_has {c d : Nat} (hc : c < 256) (hd : d < 256) : (ofD c).has d = decide (d = c) := by rw [ofD, SetD.has_add hc hd, zeroS_has, Bool.false_or]
theorem range_one {c : Nat} (hc : c < 256) : rangeD c c = ofD c := SetD.ext (range_in c c) (of_in hc) fun d hd => by rw [range_has c c hd, of_has hc hd, decide_eq_decide]; omega
theorem name_small : ∀ c : Nat, c < 256 → plainC c = true → (UInt8.ofNat c).toNat = c ∧ c ≠ 92 ∧ badB c = false ∧ c ≠ 46 := by decide +kernel
theorem hexs_in : ∀ k : Nat, k < 16 → hexN (hexB.getD k 0).toNat = some k := by decide +kernel
theorem byte_name {c : Nat} (hc : c < 256) : DByte (nameD c) c ∧ nameD c ≠ [46] := by
  unfold nameD
  by_cases h : plainC c = true
  · obtain ⟨h1, h2, h3, h4⟩ := name_small c hc h
    rw [if_pos h]
    refine ⟨?_, fun e => ?_⟩
    · have := DByte.plain (c := UInt8.ofNat c) (by rw [h1]; exact h2) (by rw [h1]; exact h3)
      rwa [h1] at this
    · simp only [List.cons.injEq, and_true] at e
      rw [e] at h1; exact h4 (h1.symm.trans rfl)
  · rw [if_neg h]
    refine ⟨?_, by simp⟩
    have := DByte.hex (hexs_in (c / 16) (by omega)) (hexs_in (c % 16) (by omega))
    rwa [show 16 * (c / 16) + c % 16 = c by omega] at this
theorem items_runs (s : SetD) : ∀ (n c : Nat) (z : SetD), 256 ≤ c + n → SetIn z → ∃ w, DItems (runsF s n c) z w ∧ SetIn w ∧ ∀ d, d < 256 → w.has d = (z.has d || (decide (c ≤ d) && s.has d))
  | 0, c, z, h, hz => ⟨z, .nil z, hz, fun d hd => by have : ¬ c ≤ d := by omega
                                                     simp [this]⟩
  | n + 1, c, z, h, hz => by
    rw [runsF]
    by_cases hc : 256 ≤ c
    · rw [if_pos hc]
      exact ⟨z, .nil z, hz, fun d hd => by have : ¬ c ≤ d := by omega
                                           simp [this]⟩
    · rw [if_neg hc]
      by_cases hh : s.has c = true
      · rw [if_pos hh]
        obtain ⟨he1, he2⟩ := endF_ge s 256 c (by omega)
        have hin : ∀ j, c ≤ j → j ≤ endF s 256 c → s.has j = true := fun j h1 h2 => by
          by_cases e : j = c
          · rw [e]; exact hh
          · exact endF_has s 256 c j (by omega) h2
        generalize endF s 256 c = e at he1 he2 hin
        obtain ⟨w, hw1, hw2, hw3⟩ := items_runs s n (e + 1) (z.or (rangeD c e)) (by omega) (hz.or (range_in c e))
        have hp : DPair (nameD c ++ (if c < e then 45 :: nameD e else [])) c e := by
          by_cases hce : c < e
          · rw [if_pos hce]; exact .two (byte_name (by omega)).1 (byte_name (by omega)).1 he1
          · obtain rfl : c = e := by omega
            rw [if_neg hce, List.append_nil]; exact .one (byte_name (by omega)).1
        refine ⟨w, .cons hp hw1, hw2, fun d hd => ?_⟩
        rw [hw3 d hd, SetD.has_or, range_has c e hd]
        by_cases h1 : c ≤ d
        · by_cases h2 : d ≤ e
          · rw [hin d h1 h2]; simp [h1, h2]
          · have : e + 1 ≤ d := by omega
            simp [h1, h2, this]
        · have : ¬ e + 1 ≤ d := by omega
          simp [h1, this]
      · rw [if_neg hh]
        obtain ⟨w, hw1, hw2, hw3⟩ := items_runs s n (c + 1) z (by omega) hz
        refine ⟨w, hw1, hw2, fun d hd => ?_⟩
        rw [hw3 d hd]
        by_cases e : d = c
        · subst e
          rw [Bool.not_eq_true] at hh
          simp [hh]
        · by_cases h1 : c ≤ d
          · have : c + 1 ≤ d := by omega
            simp [h1, this]
          · have : ¬ c + 1 ≤ d := by omega
            simp [h1, this]
theorem items_all {s : SetD} (hs : SetIn s) : DItems (runsF s 256 0) zeroS s := by
  obtain ⟨w, h1, h2, h3⟩ := items_runs s 256 0 zeroS (by omega) zeroS_in
  have : w = s := SetD.ext h2 hs fun d hd => by rw [h3 d hd, zeroS_has]; simp
  rwa [this] at h1
theorem atom_text {A : List UInt8 → RgD → Prop} {s : SetD} (hs : SetIn s) (h0 : s ≠ zeroS) : DAtom A (textD s) (oneD s) := by
  rcases textD_three s with ⟨h1, h2⟩ | ⟨c, hc, h1, h2, h3, h4, h5⟩ | ⟨h1, h2, h3⟩
  · rw [h2, h1]; exact .any
  · rw [h5]
    have : s = ofD c := SetD.ext hs (of_in hc) fun d hd => by rw [of_has hc hd, Bool.eq_iff_iff, h4 d hd, decide_eq_true_iff]
    rw [this]
    exact .byte (byte_name hc).1 (byte_name hc).2
  · rw [h3]; exact .set (.pos (items_all hs) h0)
theorem text_head {s : SetD} (hs : SetIn s) : ∃ x m, textD s = x :: m := by
  rcases textD_three s with ⟨h1, h2⟩ | ⟨c, hc, h1, h2, h3, h4, h5⟩ | ⟨h1, h2, h3⟩
  · exact ⟨_, _, h2⟩
  · obtain ⟨x, r, e, _⟩ := nameD_head hc; exact ⟨x, r, h5.trans e⟩
  · exact ⟨_, _, h3⟩
/-! numbers -/
theorem digs_few : ∀ n : Nat, n < 257 → ((digsD n).all fun c => isDig c.toNat) = true ∧ badNum (digsD n) = false ∧ valOf (digsD n) = n := by decide +kernel
theorem num_at {n : Nat} (h : n ≤ 256) : DNum (digsD n) n := by
  obtain ⟨h1, h2, h3⟩ := digs_few n (by omega)
  exact ⟨fun c hc => List.all_eq_true.1 h1 c hc, h2, h3, h⟩
theorem often_at {a b : Int} (h : ¬ (a < 0 ∨ 256 < a ∨ 256 < b ∨ (0 ≤ b ∧ b < a))) : DRep (oftenD a b) a (Max.max b (-1)) := by
  unfold oftenD
  have ea : ((a.toNat : Nat) : Int) = a := by omega
  split
  · rename_i h1; rw [h1.1, show Max.max b (-1) = -1 by omega]; exact .star
  · split
    · rename_i h1; rw [h1.1, show Max.max b (-1) = -1 by omega]; exact .plus
    · split
      · rename_i h1; rw [h1.1, h1.2]; exact .opt
      · split
        · have := DCount.up (num_at (n := a.toNat) (by omega))
          rw [ea] at this
          rw [show Max.max b (-1) = -1 by omega]
          exact .count this
        · split
          · rename_i h1
            have := DCount.just (num_at (n := a.toNat) (by omega))
            rw [ea] at this
            rw [← h1, show Max.max a (-1) = a by omega]
            exact .count this
          · have := DCount.both (num_at (n := a.toNat) (by omega)) (num_at (n := b.toNat) (by omega)) (by omega)
            rw [ea, show ((b.toNat : Nat) : Int) = b by omega] at this
            rw [show Max.max b (-1) = b by omega]
            exact .count this
/-! expressions -/
mutual
def normD : RgD → RgD
  | .mk k s l a b => .mk k (if k = 2 then s else zeroS) (normK l) (if k = 5 then a else 0) (if k = 5 then Max.max b (-1) else 0)
def normK : List RgD → List RgD
  | [] => []
  | x :: r => normD x :: normK r
end

mutual
def insD : RgD → Prop
  | .mk _ s l _ _ => SetIn s ∧ insK l
def insK : List RgD → Prop
  | [] => True
  | x :: r => insD x ∧ insK r
end

mutual
def cdep : RgD → Nat
  | .mk k _ l _ _ => if k = 3 then qdepK l else if k = 4 then 1 + cdepK l else if k = 5 then qdepK l else 0
def qdep : RgD → Nat
  | .mk k _ l _ _ => if k = 1 then 1 else if k = 3 then 1 + qdepK l else if k = 4 then 1 + cdepK l else if k = 5 then qdepK l else 0
def cdepK : List RgD → Nat
  | [] => 0
  | x :: r => Max.max (cdep x) (cdepK r)
def qdepK : List RgD → Nat
  | [] => 0
  | x :: r => Max.max (qdep x) (qdepK r)
end

def adep (n : RgD) : Nat := if n.kind = 4 then cdep n else 1 + cdep n
theorem normK_len : ∀ (l : List RgD), (normK l).length = l.length
  | [] => rfl
  | x :: r => by rw [normK, List.length_cons, List.length_cons, normK_len r]
/-! more brackets may be told -/
section
variable {A B : List UInt8 → RgD → Prop} (hAB : ∀ l n, A l n → B l n)
include hAB
theorem DAtom.mono {l : List UInt8} {n : RgD} (h : DAtom A l n) : DAtom B l n := by
  cases h with
  | paren h => exact .paren (hAB _ _ h)
  | any => exact .any
  | set h => exact .set h
  | byte h h2 => exact .byte h h2
theorem DPiece.mono {l : List UInt8} {n : RgD} (h : DPiece A l n) : DPiece B l n := by
  induction h with
  | atom h => exact .atom (h.mono hAB)
  | rep h1 h2 ih => exact .rep ih h2
theorem DPieces.mono {l : List UInt8} {n : List RgD} (h : DPieces A l n) : DPieces B l n := by
  induction h with
  | nil => exact .nil
  | cons h1 h2 ih => exact .cons (h1.mono hAB) ih
theorem DCat.mono {l : List UInt8} {n : RgD} (h : DCat A l n) : DCat B l n := by
  obtain ⟨ns, h1, h2⟩ := h; exact ⟨ns, h1.mono hAB, h2⟩
theorem DCats.mono {l : List UInt8} {n : List RgD} (h : DCats A l n) : DCats B l n := by
  induction h with
  | one h => exact .one (h.mono hAB)
  | cons h1 h2 ih => exact .cons (h1.mono hAB) ih
end
theorem DAlt.up : ∀ {k : Nat} {l : List UInt8} {n : RgD}, DAlt k l n → DAlt (k + 1) l n
  | 0, _, _, h => h.elim
  | k + 1, l, n, ⟨ns, h1, h2⟩ => ⟨ns, h1.mono (fun _ _ h => DAlt.up h), h2⟩
theorem DAlt.le {k j : Nat} {l : List UInt8} {n : RgD} (h : DAlt k l n) (hj : k ≤ j) : DAlt j l n := by
  induction hj with
  | refl => exact h
  | step _ ih => exact ih.up
theorem DPiece.one {A : List UInt8 → RgD → Prop} {l : List UInt8} {n : RgD} (h : DPiece A l n) : DCat A l n := ⟨[n], by simpa using DPieces.cons h .nil, rfl⟩
theorem DCat.alt {k : Nat} {l : List UInt8} {n : RgD} (h : DCat (DAlt k) l n) : DAlt (k + 1) l n := ⟨[n], .one h, rfl⟩
theorem wrongD_parts {n : RgD} (h : wrongD n = 0) : formD n = 0 ∧ wrongK n.kids = 0 := by
  obtain ⟨k, s, l, a, b⟩ := n
  rw [wrongD] at h
  split at h
  · contradiction
  · rename_i h1; exact ⟨Decidable.of_not_not h1, h⟩
theorem wrongK_cons {x : RgD} {r : List RgD} (h : wrongK (x :: r) = 0) : wrongD x = 0 ∧ wrongK r = 0 := by
  rw [wrongK] at h
  split at h
  · contradiction
  · rename_i h1; exact ⟨Decidable.of_not_not h1, h⟩
inductive Form : RgD → Prop where
  | none (s a b) : Form (.mk 1 s [] a b)
  | one (s a b) (h : s ≠ zeroS) : Form (.mk 2 s [] a b)
  | cat (s x y l a b) : Form (.mk 3 s (x :: y :: l) a b)
  | alt (s x y l a b) : Form (.mk 4 s (x :: y :: l) a b)
  | rep (s x a b) (h : ¬ (a < 0 ∨ 256 < a ∨ 256 < b ∨ (0 ≤ b ∧ b < a))) : Form (.mk 5 s [x] a b)
theorem form_cases {n : RgD} (h : formD n = 0) : Form n := by
  obtain ⟨k, s, l, a, b⟩ := n
  change (if k = 1 ∨ k = 2 then (if l ≠ [] then 5 else if k = 2 ∧ s = zeroS then 160 else 0) else if k = 3 ∨ k = 4 then (if l.length < 2 then 5 else 0)
    else if k = 5 then (if l.length ≠ 1 then 5 else if a < 0 ∨ 256 < a ∨ 256 < b ∨ (0 ≤ b ∧ b < a) then 1 else 0) else 5) = 0 at h
  by_cases hk : k = 1 ∨ k = 2
  · rw [if_pos hk] at h
    by_cases hl : l ≠ []
    · rw [if_pos hl] at h; cases h
    · rw [if_neg hl] at h
      have hl := Decidable.of_not_not hl
      subst hl
      by_cases h2 : k = 2 ∧ s = zeroS
      · rw [if_pos h2] at h; cases h
      · rcases hk with rfl | rfl
        · exact .none _ _ _
        · exact .one _ _ _ (fun e => h2 ⟨rfl, e⟩)
  · rw [if_neg hk] at h
    by_cases hk2 : k = 3 ∨ k = 4
    · rw [if_pos hk2] at h
      by_cases h2 : l.length < 2
      · rw [if_pos h2] at h; cases h
      · match l with
        | [] => simp at h2
        | [x] => simp at h2
        | x :: y :: l =>
          rcases hk2 with rfl | rfl
          · exact .cat _ _ _ _ _ _
          · exact .alt _ _ _ _ _ _
    · rw [if_neg hk2] at h
      by_cases hk3 : k = 5
      · rw [if_pos hk3] at h
        subst hk3
        by_cases h2 : l.length ≠ 1
        · rw [if_pos h2] at h; cases h
        · rw [if_neg h2] at h
          match l with
          | [] => simp at h2
          | [x] =>
            by_cases h3 : a < 0 ∨ 256 < a ∨ 256 < b ∨ (0 ≤ b ∧ b < a)
            · rw [if_pos h3] at h; cases h
            · exact .rep _ _ _ _ h3
          | x :: y :: l => simp at h2
      · rw [if_neg hk3] at h; cases h
mutual
theorem RgD.ind {P : RgD → Prop} (h : ∀ k s l a b, (∀ x ∈ l, P x) → P (.mk k s l a b)) : ∀ n, P n
  | .mk k s l a b => h k s l a b (RgD.indK h l)
theorem RgD.indK {P : RgD → Prop} (h : ∀ k s l a b, (∀ x ∈ l, P x) → P (.mk k s l a b)) : ∀ (l : List RgD), ∀ x ∈ l, P x
  | [] => fun x hx => absurd hx (by simp)
  | y :: r => List.forall_mem_cons.2 ⟨RgD.ind h y, RgD.indK h r⟩
end

/-- As a piece, and between bars. -/
def WriteOk (n : RgD) : Prop := wrongD n = 0 → insD n → DPiece (DAlt (qdep n)) (writeD n true) (normD n) ∧ DCat (DAlt (cdep n)) (writeD n (decide (n.kind = 4))) (normD n)
theorem write_qs : ∀ (l : List RgD), (∀ x ∈ l, WriteOk x) → wrongK l = 0 → insK l → DPieces (DAlt (qdepK l)) (writeC l) (normK l)
  | [], _, _, _ => .nil
  | x :: r, hx, hw, hi => by
    obtain ⟨h1, h2⟩ := wrongK_cons hw
    rw [insK] at hi
    rw [writeC, normK, qdepK]
    exact .cons ((hx x (by simp) h1 hi.1).1.mono (fun _ _ h => h.le (Nat.le_max_left _ _))) ((write_qs r (fun y hy => hx y (by simp [hy])) h2 hi.2).mono (fun _ _ h => h.le (Nat.le_max_right _ _)))
theorem write_cs : ∀ (l : List RgD) (x : RgD), (∀ y ∈ x :: l, WriteOk y) → wrongK (x :: l) = 0 → insK (x :: l) → DCats (DAlt (cdepK (x :: l))) (writeA (x :: l) true) (normK (x :: l))
  | [], x, hx, hw, hi => by
    obtain ⟨h1, h2⟩ := wrongK_cons hw
    rw [insK] at hi
    have := (hx x (by simp) h1 hi.1).2
    rw [writeA, writeA, normK, normK, cdepK, cdepK]
    simpa using DCats.one this
  | y :: l, x, hx, hw, hi => by
    obtain ⟨h1, h2⟩ := wrongK_cons hw
    rw [insK] at hi
    have hxx := (hx x (by simp) h1 hi.1).2
    have hl := write_cs l y (fun z hz => hx z (by simp [List.mem_cons.1 hz])) h2 hi.2
    have e : writeA (x :: y :: l) true = writeD x (decide (x.kind = 4)) ++ 124 :: writeA (y :: l) true := by
      rw [writeA, writeA, writeA]; simp
    rw [e, normK, cdepK]
    exact .cons (hxx.mono (fun _ _ h => h.le (Nat.le_max_left _ _))) (hl.mono (fun _ _ h => h.le (Nat.le_max_right _ _)))
theorem write_ok : ∀ (n : RgD), WriteOk n := RgD.ind fun k s l a b ih hw hi => by
  obtain ⟨hf, hk⟩ := wrongD_parts hw
  rw [insD] at hi
  cases form_cases hf with
  | none s a b =>
    rw [writeD, normD, qdep, cdep, writeD]
    exact ⟨.atom (.paren (l := []) ⟨[emptyD], .one ⟨[], .nil, rfl⟩, rfl⟩), ⟨[], .nil, rfl⟩⟩
  | one s a b h =>
    have h1 := DPiece.atom (A := DAlt 0) (atom_text hi.1 h)
    rw [writeD, normD, qdep, cdep, writeD]
    exact ⟨by simpa [normK, oneD] using h1, by simpa [normK, oneD] using h1.one⟩
  | cat s x y l a b =>
    have hp := write_qs (x :: y :: l) ih hk hi.2
    have h1 : DCat (DAlt (qdepK (x :: y :: l))) (writeC (x :: y :: l)) (catD' (normK (x :: y :: l))) := ⟨_, hp, rfl⟩
    have h2 : DAlt (1 + qdepK (x :: y :: l)) (writeC (x :: y :: l)) (catD' (normK (x :: y :: l))) := by
      rw [Nat.add_comm]; exact DCat.alt h1
    rw [writeD, normD, qdep, cdep, writeD]
    exact ⟨.atom (.paren h2), by simpa [RgD.kind, catD'] using h1⟩
  | alt s x y l a b =>
    have hp := write_cs (y :: l) x ih hk hi.2
    have h2 : DAlt (1 + cdepK (x :: y :: l)) (writeA (x :: y :: l) true) (altD' (normK (x :: y :: l))) := by
      rw [Nat.add_comm]; exact ⟨_, hp, rfl⟩
    rw [writeD, normD, qdep, cdep, writeD]
    exact ⟨.atom (.paren h2), DPiece.one (.atom (.paren h2))⟩
  | rep s x a b h =>
    have hx := (ih x (by simp) (wrongK_cons hk).1 (by have := hi.2; rw [insK] at this; exact this.1)).1
    have h1 := DPiece.rep hx (often_at h)
    rw [writeD, normD, qdep, cdep, writeD]
    exact ⟨by simpa [writeH, normK, qdepK, repD] using h1, by simpa [writeH, normK, qdepK, repD] using h1.one⟩
theorem write_false {n : RgD} (h : n.kind ≠ 4) : writeD n (decide (n.kind = 4)) = writeD n false := by rw [decide_eq_false h]
theorem write_a {n : RgD} (hw : wrongD n = 0) (hi : insD n) : DAlt (adep n) (textR n) (normD n) := by
  unfold textR adep
  by_cases h : n.kind = 4
  · rw [if_pos h]
    obtain ⟨k, s, l, a, b⟩ := n
    obtain ⟨hf, hk⟩ := wrongD_parts hw
    rw [insD] at hi
    have hk4 : k = 4 := h
    cases form_cases hf with
    | alt s x y l a b =>
      have hp := write_cs (y :: l) x (fun z _ => write_ok z) hk hi.2
      have h2 : DAlt (1 + cdepK (x :: y :: l)) (writeA (x :: y :: l) true) (altD' (normK (x :: y :: l))) := by
        rw [Nat.add_comm]; exact ⟨_, hp, rfl⟩
      rw [writeD, normD, cdep]
      simpa [altD'] using h2
    | none => exact absurd hk4 (by decide)
    | one => exact absurd hk4 (by decide)
    | cat => exact absurd hk4 (by decide)
    | rep => exact absurd hk4 (by decide)
  · rw [if_neg h]
    have := (write_ok n hw hi).2
    rw [write_false h] at this
    rw [Nat.add_comm]; exact this.alt
/-! how deep -/
mutual
theorem dep_le : ∀ (n : RgD), qdep n ≤ deepD n ∧ cdep n ≤ deepD n ∧ (n.kind ≠ 4 → cdep n + 1 ≤ deepD n)
  | .mk k s l a b => by
    obtain ⟨h1, h2⟩ := depK_le l
    rw [qdep, cdep, deepD]
    refine ⟨?_, ?_, fun h => ?_⟩
    · split
      · omega
      · split
        · omega
        · split
          · omega
          · split <;> omega
    · split
      · omega
      · split
        · omega
        · split <;> omega
    · have h : k ≠ 4 := h
      rw [if_neg h]
      split
      · omega
      · split <;> omega
theorem depK_le : ∀ (l : List RgD), qdepK l ≤ deepK l ∧ cdepK l ≤ deepK l
  | [] => ⟨Nat.le_refl _, Nat.le_refl _⟩
  | x :: r => by
    obtain ⟨h1, h2, _⟩ := dep_le x
    obtain ⟨h3, h4⟩ := depK_le r
    rw [qdepK, cdepK, deepK]; omega
end

theorem adep_le (n : RgD) : adep n ≤ deepD n := by
  obtain ⟨_, h2, h3⟩ := dep_le n
  unfold adep
  split
  · exact h2
  · rename_i h; have := h3 h; omega
/-! the same, written the same -/
mutual
theorem norm_size : ∀ (n : RgD), sizeD (normD n) = sizeD n
  | .mk k s l a b => by rw [normD, sizeD, sizeD, normK_size l]
theorem normK_size : ∀ (l : List RgD), sizeK (normK l) = sizeK l
  | [] => rfl
  | x :: r => by rw [normK, sizeK, sizeK, norm_size x, normK_size r]
end

theorem norm_head (n : RgD) : sameH n (normD n) = true := by
  obtain ⟨k, s, l, a, b⟩ := n
  rw [normD]
  unfold sameH
  simp only [RgD.kind, RgD.kids, RgD.set, RgD.min, RgD.max, normK_len]
  by_cases h2 : k = 2
  · subst h2; simp
  · by_cases h5 : k = 5
    · subst h5
      have : Max.max (Max.max b (-1)) (-1) = Max.max b (-1) := by omega
      simp [this]
    · simp [h2, h5]
mutual
theorem norm_same : ∀ (n : RgD), sameD n (normD n) = true
  | .mk k s l a b => by
    have := norm_head (.mk k s l a b)
    rw [sameD, if_pos this, normD]
    exact normK_same l
theorem normK_same : ∀ (l : List RgD), sameK l (normK l) = true
  | [] => by rw [sameK]
  | x :: r => by rw [normK, sameK, norm_same x, if_pos rfl]; exact normK_same r
end

theorem often_norm (a b : Int) : oftenD a (Max.max b (-1)) = oftenD a b := by
  by_cases h : b < 0
  · rw [show Max.max b (-1) = -1 by omega]
    unfold oftenD
    have h1 : ¬ b = 1 := by omega
    simp [h, h1]
  · rw [show Max.max b (-1) = b by omega]
theorem norm_kind (n : RgD) : (normD n).kind = n.kind := by obtain ⟨k, s, l, a, b⟩ := n; rw [normD]; rfl
mutual
theorem norm_write : ∀ (n : RgD) (w : Bool), writeD (normD n) w = writeD n w
  | .mk k s l a b, w => by
    rw [normD, writeD, writeD, normK_writeC l, normK_writeA l, normK_writeH l]
    by_cases h2 : k = 2
    · subst h2; simp
    · by_cases h5 : k = 5
      · subst h5; simp [often_norm]
      · simp [h2, h5]
theorem normK_writeC : ∀ (l : List RgD), writeC (normK l) = writeC l
  | [] => rfl
  | x :: r => by rw [normK, writeC, writeC, norm_write x, normK_writeC r]
theorem normK_writeA : ∀ (l : List RgD) {f : Bool}, writeA (normK l) f = writeA l f
  | [], _ => rfl
  | x :: r, f => by rw [normK, writeA, writeA, norm_write x, norm_kind, normK_writeA r]
theorem normK_writeH : ∀ (l : List RgD), writeH (normK l) = writeH l
  | [] => rfl
  | x :: r => by rw [normK, writeH, writeH, norm_write x]
end

mutual
theorem few_size : ∀ (n : RgD) (L : Int), (fewD n L).1 = true → (sizeD n : Int) = L - (fewD n L).2 ∧ 0 ≤ (fewD n L).2
  | .mk k s l a b, L, h => by
    rw [fewD] at h ⊢
    split
    · rename_i h1; rw [if_pos h1] at h; cases h
    · rename_i h1
      rw [if_neg h1] at h
      have := fewK_size l (L - 1) h
      rw [sizeD]; omega
theorem fewK_size : ∀ (l : List RgD) (L : Int), (fewK l L).1 = true → (sizeK l : Int) = L - (fewK l L).2 ∧ (0 ≤ L → 0 ≤ (fewK l L).2)
  | [], L, h => by rw [fewK, sizeK]; exact ⟨by simp, fun h => h⟩
  | x :: r, L, h => by
    rw [fewK] at h ⊢
    split
    · rename_i h1
      rw [if_pos h1] at h
      have h2 := few_size x L h1
      have h3 := fewK_size r (fewD x L).2 h
      rw [sizeK]; omega
    · rename_i h1; rw [if_neg h1] at h; cases h
end

/-- The law RegexBack, plain. -/
theorem back_law {n : RgD} (hf : (fewD n 200).1 = true) (hw : wrongD n = 0) (hi : insD n) :
    ((parseD (textR n)).2.1 = 6 → 32 < deepD n) ∧ ((parseD (textR n)).2.1 ≠ 6 → (512 < (textR n).length → (parseD (textR n)).2 = (2, 0)) ∧
      ((textR n).length ≤ 512 → (parseD (textR n)).2 = (0, 0) ∧ sameD n (parseD (textR n)).1 = true ∧ textR (parseD (textR n)).1 = textR n)) := by
  have hs := few_size n 200 hf
  by_cases hl : 512 < (textR n).length
  · have : parseD (textR n) = (noneD, (2, 0)) := by unfold parseD; rw [if_pos hl]
    rw [this]
    exact ⟨fun h => (by cases h), fun _ => ⟨fun _ => rfl, fun h => by omega⟩⟩
  · rcases parse_at (write_a hw hi) (by omega) with ⟨e, _⟩ | ⟨_, ⟨_, h⟩ | ⟨h1, h2⟩⟩
    · rw [e]
      exact ⟨fun h => (by cases h), fun _ => ⟨fun h => (by omega), fun _ => ⟨rfl, norm_same n, norm_write n false⟩⟩⟩
    · rw [norm_size] at h; omega
    · have := adep_le n
      exact ⟨fun _ => by omega, fun h => absurd h1 h⟩
end Go.Proofs.Ytkpdnpcmeadggaa
/-! What is read is of the grammar. No program in sight. -/
namespace Go.Proofs.Ytkpdnpcmeadggaa
open Go Go.E
set_option linter.unusedVariables false
set_option maxRecDepth 10000
theorem peek_some {t : List UInt8} {s : RS} (h : peekD t s ≠ 0) : s.e = 0 ∧ ∃ c, t.drop s.p = c :: t.drop (s.p + 1) ∧ c.toNat = peekD t s := by
  unfold peekD at h ⊢
  split at h
  · rename_i h1
    rw [if_pos h1]
    refine ⟨h1.2, t[s.p], List.drop_eq_getElem_cons h1.1, ?_⟩
    rw [List.getElem!_eq_getElem?_getD, List.getElem?_eq_getElem h1.1]; rfl
  · exact absurd rfl h
/-- From s on l was read, with so many nodes. -/
def Rdg (t : List UInt8) (s : RS) (l : List UInt8) (j : Nat) (s' : RS) : Prop := s' = s.at' l.length j ∧ t.drop s.p = l ++ t.drop (s.p + l.length)
theorem Rdg.nil {t : List UInt8} {s : RS} (h : s.e = 0) : Rdg t s [] 0 s := ⟨(at_zero h).symm, rfl⟩
theorem Rdg.app {t : List UInt8} {s s1 s2 : RS} {l m : List UInt8} {i j : Nat} (h1 : Rdg t s l i s1) (h2 : Rdg t s1 m j s2) : Rdg t s (l ++ m) (i + j) s2 := by
  obtain ⟨rfl, e1⟩ := h1
  obtain ⟨rfl, e2⟩ := h2
  refine ⟨by rw [at_at, List.length_append], ?_⟩
  rw [at_p] at e2
  rw [List.length_append, ← Nat.add_assoc, List.append_assoc, ← e2]; exact e1
theorem Rdg.e {t : List UInt8} {s s1 : RS} {l : List UInt8} {i : Nat} (h1 : Rdg t s l i s1) : s1.e = 0 := by rw [h1.1]; rfl
theorem Rdg.one {t : List UInt8} {s : RS} {c : Nat} (h : peekD t s = c) (h0 : c ≠ 0) : ∃ x : UInt8, x.toNat = c ∧ Rdg t s [x] 0 s.adv := by
  obtain ⟨he, x, h1, h2⟩ := peek_some (t := t) (s := s) (by rw [h]; exact h0)
  exact ⟨x, h2.trans h, adv_at he, h1⟩
theorem u8_eq {x : UInt8} {c : Nat} (h : x.toNat = c) (hc : c < 256) : x = UInt8.ofNat c := by rw [← h, UInt8.ofNat_toNat]
theorem Rdg.lit {t : List UInt8} {s : RS} (c : Nat) (h : peekD t s = c) (h0 : c ≠ 0) (hc : c < 256) : Rdg t s [UInt8.ofNat c] 0 s.adv := by
  obtain ⟨x, h1, h2⟩ := Rdg.one h h0
  rwa [u8_eq h1 hc] at h2
theorem wrong_sound {s : RS} {e f : Nat} (he : e ≠ 0) (h : (s.wrong e f).e = 0) : False := wrong_ne he h
theorem digit_sound {t : List UInt8} {s : RS} {a : Nat} (h : (digitD t a s).2.e = 0) : ∃ c : UInt8, Rdg t s [c] 0 (digitD t a s).2 ∧ hexN c.toNat = some (digitD t a s).1 := by
  unfold digitD at h ⊢
  split at h
  · rename_i h1
    rw [if_pos h1]
    obtain ⟨x, h2, h3⟩ := Rdg.one (t := t) (s := s) rfl (by intro e; rw [e] at h1; cases h1)
    exact ⟨x, h3, by rw [h2]; unfold hexN; rw [if_pos h1]⟩
  · rename_i h1
    rw [if_neg h1]
    split at h
    · rename_i h4
      rw [if_pos h4]
      obtain ⟨x, h2, h3⟩ := Rdg.one (t := t) (s := s) rfl (by omega)
      exact ⟨x, h3, by rw [h2]; unfold hexN; rw [if_neg h1, if_pos h4]⟩
    · exact (wrong_sound (by decide) h).elim
theorem byte_sound {t : List UInt8} {s : RS} (h : (byteD t s).2.e = 0) : ∃ l, Rdg t s l 0 (byteD t s).2 ∧ DByte l (byteD t s).1 := by
  unfold byteD at h ⊢
  split at h
  · rename_i h92
    rw [if_pos h92]
    have r0 := Rdg.lit 92 h92 (by decide) (by decide)
    have step : ∀ c v : Nat, peekD t s.adv = c → c ≠ 0 → c < 256 → escN c = some v → ∃ l, Rdg t s l 0 s.adv.adv ∧ DByte l v := fun c v hc h0 hl hv =>
      ⟨_, r0.app (Rdg.lit c hc h0 hl), DByte.esc (by rw [UInt8.toNat_ofNat_of_lt' hl]; exact hv)⟩
    unfold escD at h ⊢
    split at h
    · rename_i e; rw [if_pos e]; exact step _ _ e (by decide) (by decide) rfl
    · rename_i e; rw [if_neg e]
      split at h
      · rename_i e; rw [if_pos e]; exact step _ _ e (by decide) (by decide) rfl
      · rename_i e; rw [if_neg e]
        split at h
        · rename_i e; rw [if_pos e]; exact step _ _ e (by decide) (by decide) rfl
        · rename_i e; rw [if_neg e]
          split at h
          · rename_i e; rw [if_pos e]; exact step _ _ e (by decide) (by decide) rfl
          · rename_i e; rw [if_neg e]
            split at h
            · rename_i e
              rw [if_pos e]
              have r1 := Rdg.lit 120 e (by decide) (by decide)
              have h1 : (digitD t s.p s.adv.adv).2.e = 0 := by
                by_cases hz : (digitD t s.p s.adv.adv).2.e = 0
                · exact hz
                · exact absurd ((digit_keep hz).symm.trans h) hz
              obtain ⟨x, r2, hx⟩ := digit_sound h1
              obtain ⟨y, r3, hy⟩ := digit_sound h
              exact ⟨_, ((r0.app r1).app r2).app r3, DByte.hex hx hy⟩
            · rename_i e
              rw [if_neg e]
              dsimp only at h ⊢
              split at h
              · exact (wrong_sound (by decide) h).elim
              · rename_i hb
                rw [if_neg hb]
                obtain ⟨x, h2, h3⟩ := Rdg.one (t := t) (s := s.adv) rfl (by intro e; rw [e] at hb; exact hb (by decide))
                refine ⟨_, r0.app h3, ?_⟩
                rw [← h2] at hb ⊢
                exact DByte.sign (by simpa using hb)
  · rename_i h92
    rw [if_neg h92]
    split at h
    · exact (wrong_sound (by decide) h).elim
    · rename_i hb
      rw [if_neg hb]
      obtain ⟨x, h2, h3⟩ := Rdg.one (t := t) (s := s) rfl (by intro e; rw [e] at hb; exact hb (by decide))
      refine ⟨_, h3, ?_⟩
      rw [← h2] at hb h92 ⊢
      exact DByte.plain h92 (by simpa using hb)
theorem back_e {α : Type} {f : RS → α × RS} (hk : ∀ {s : RS}, s.e ≠ 0 → (f s).2.e = s.e) {s : RS} (h : (f s).2.e = 0) : s.e = 0 := by
  by_cases hz : s.e = 0
  · exact hz
  · exact absurd ((hk hz).symm.trans h) hz
theorem pair_sound {t : List UInt8} {s : RS} (h : (pairD t s).2.e = 0) : ∃ l, Rdg t s l 0 (pairD t s).2 ∧ ((pairD t s).1.1 ≤ (pairD t s).1.2 → DPair l (pairD t s).1.1 (pairD t s).1.2) := by
  unfold pairD at h ⊢
  split at h
  · rename_i e
    rw [if_pos e]
    have h1 : (byteD t s).2.e = 0 := back_e (f := fun s => byteD t s) (fun h => byte_keep h) (s := (byteD t s).2.adv) h
    obtain ⟨l, r1, d1⟩ := byte_sound h1
    obtain ⟨m, r2, d2⟩ := byte_sound h
    exact ⟨_, (r1.app (Rdg.lit 45 e (by decide) (by decide))).app r2, fun hle => by rw [List.append_assoc]; exact .two d1 d2 hle⟩
  · rename_i e
    rw [if_neg e]
    obtain ⟨l, r1, d1⟩ := byte_sound h
    exact ⟨l, r1, fun _ => .one d1⟩
theorem setL_sound {t : List UInt8} {a : Nat} : ∀ {k : Nat} {z : SetD} {s : RS}, (setL t a k z s).2.e = 0 → ∃ l, Rdg t s l 0 (setL t a k z s).2 ∧ DItems l z (setL t a k z s).1
  | 0, z, s, h => ⟨[], .nil h, .nil z⟩
  | k + 1, z, s, h => by
    have hs : s.e = 0 := back_e (f := fun s => setL t a (k + 1) z s) (fun h => setL_keep h) h
    rw [setL] at h ⊢
    split at h
    · rename_i h1
      rw [if_pos h1]
      split at h
      · exact (wrong_sound (by decide) h).elim
      · rename_i h2
        rw [if_neg h2]
        have h3 : (if (pairD t s).1.2 < (pairD t s).1.1 then (pairD t s).2.wrong 1 a else (pairD t s).2).e = 0 := back_e (f := fun s' => setL t a k (z.or (rangeD (pairD t s).1.1 (pairD t s).1.2)) s') (fun h => setL_keep h) h
        split at h3
        · exact (wrong_sound (by decide) h3).elim
        · rename_i h4
          rw [if_neg h4] at h ⊢
          obtain ⟨l, r1, d1⟩ := pair_sound h3
          obtain ⟨m, r2, d2⟩ := setL_sound h
          exact ⟨_, r1.app r2, .cons (d1 (by omega)) d2⟩
    · rename_i h1
      rw [if_neg h1]; exact ⟨[], .nil hs, .nil z⟩
theorem must_sound {t : List UInt8} {s : RS} {c : Nat} (h0 : c ≠ 0) (hc : c < 256) (h : (mustS t c s).e = 0) : Rdg t s [UInt8.ofNat c] 0 (mustS t c s) := by
  unfold mustS at h ⊢
  split at h
  · rename_i e; rw [if_pos e]; exact Rdg.lit c e h0 hc
  · exact (wrong_sound (by decide) h).elim
theorem set_sound {t : List UInt8} {a : Nat} {s : RS} (h : (setD t a s).2.e = 0) : ∃ l, Rdg t s l 0 (setD t a s).2 ∧ DSet l (setD t a s).1 := by
  unfold setD at h ⊢
  dsimp only at h ⊢
  split at h
  · exact (wrong_sound (by decide) h).elim
  · rename_i h1
    rw [if_neg h1]
    have hz : turnD (decide (peekD t s = 94)) (setL t a (t.length + 1) zeroS (eatS t 94 s)).1 ≠ zeroS := fun e => h1 ⟨h, e⟩
    have r2 := must_sound (by decide) (by decide) h
    have h2 : (setL t a (t.length + 1) zeroS (eatS t 94 s)).2.e = 0 := back_e (f := fun s => ((), mustS t 93 s)) (fun h => must_keep h) h
    obtain ⟨l, r1, d1⟩ := setL_sound h2
    by_cases e : peekD t s = 94
    · have he : eatS t 94 s = s.adv := by unfold eatS; rw [if_pos e]
      rw [he] at r1 r2 d1 hz ⊢
      rw [decide_eq_true e] at hz ⊢
      exact ⟨_, ((Rdg.lit 94 e (by decide) (by decide)).app (r1.app r2)), .neg d1 hz⟩
    · have he : eatS t 94 s = s := by unfold eatS; rw [if_neg e]
      rw [he] at r1 r2 d1 hz ⊢
      rw [decide_eq_false e] at hz ⊢
      exact ⟨_, r1.app r2, .pos d1 hz⟩
theorem digs_all : ∀ (l : List UInt8), ∀ c ∈ digsOf l, isDig c.toNat = true
  | [], c, h => by cases h
  | x :: l, c, h => by
    unfold digsOf at h
    rw [List.takeWhile_cons] at h
    split at h
    · rename_i h1
      rcases List.mem_cons.1 h with rfl | h
      · exact h1
      · exact digs_all l c h
    · cases h
theorem count_sound {t : List UInt8} {s : RS} (h0 : s.e = 0) (h : (countD t s).2.e = 0) : ∃ l, Rdg t s l 0 (countD t s).2 ∧ DNum l (countD t s).1 := by
  unfold countD at h ⊢
  dsimp only at h ⊢
  split at h
  · exact (wrong_sound (by decide) h).elim
  · rename_i h1
    rw [if_neg h1]
    split at h
    · exact (wrong_sound (by decide) h).elim
    · rename_i h2
      rw [if_neg h2]
      refine ⟨digsOf (t.drop s.p), ⟨?_, ?_⟩, digs_all _, by simpa using h1, rfl, by omega⟩
      · obtain ⟨p, n, e, f⟩ := s; cases h0; rfl
      · have h3 : t.drop s.p = digsOf (t.drop s.p) ++ (t.drop s.p).dropWhile (fun c => isDig c.toNat) := List.takeWhile_append_dropWhile.symm
        rw [drop_app h3]; exact h3
theorem counts_sound {t : List UInt8} {s : RS} (h0 : s.e = 0) (h : (countsD t s).2.e = 0) : ∃ l, Rdg t s l 0 (countsD t s).2 ∧ DCount l ((countsD t s).1.1 : Int) (countsD t s).1.2 := by
  unfold countsD at h ⊢
  dsimp only at h ⊢
  have hmk : ∀ {s : RS}, (mustS t 125 s).e = 0 → s.e = 0 := fun h => back_e (f := fun s => ((), mustS t 125 s)) (fun h => must_keep h) h
  by_cases e : peekD t (countD t s).2 = 44
  · rw [if_pos e] at h ⊢
    by_cases e2 : peekD t (countD t s).2.adv = 125
    · rw [if_pos e2] at h ⊢
      dsimp only at h ⊢
      split at h
      · exact (wrong_sound (by decide) h).elim
      · rename_i h1
        rw [if_neg h1]
        obtain ⟨l, r1, d1⟩ := count_sound h0 (hmk (s := (countD t s).2.adv) h)
        exact ⟨_, (r1.app (Rdg.lit 44 e (by decide) (by decide))).app (must_sound (by decide) (by decide) h), by rw [List.append_assoc]; exact .up d1⟩
    · rw [if_neg e2] at h ⊢
      dsimp only at h ⊢
      split at h
      · exact (wrong_sound (by decide) h).elim
      · rename_i h1
        rw [if_neg h1]
        have h3 : (countD t s).2.e = 0 := (peek_some (t := t) (s := (countD t s).2) (by rw [e]; decide)).1
        obtain ⟨l, r1, d1⟩ := count_sound h0 h3
        obtain ⟨m, r2, d2⟩ := count_sound (s := (countD t s).2.adv) h3 (hmk h)
        exact ⟨_, ((r1.app (Rdg.lit 44 e (by decide) (by decide))).app r2).app (must_sound (by decide) (by decide) h), by rw [List.append_assoc, List.append_assoc]; exact .both d1 d2 (by omega)⟩
  · rw [if_neg e] at h ⊢
    dsimp only at h ⊢
    split at h
    · exact (wrong_sound (by decide) h).elim
    · rename_i h1
      rw [if_neg h1]
      obtain ⟨l, r1, d1⟩ := count_sound h0 (hmk h)
      exact ⟨_, r1.app (must_sound (by decide) (by decide) h), .just d1⟩
theorem sizeD_one (z : SetD) : sizeD (oneD z) = 1 := by rw [oneD, sizeD, sizeK]
theorem sizeD_empty : sizeD emptyD = 1 := by rw [emptyD, sizeD, sizeK]
theorem node_sound {t : List UInt8} {s : RS} (h : (nodeS s).e = 0) : Rdg t s [] 1 (nodeS s) ∧ s.e = 0 := by
  have h0 : s.e = 0 := back_e (f := fun s => ((), nodeS s)) (fun h => node_keep h) h
  unfold nodeS at h ⊢
  split at h
  · exact (wrong_sound (by decide) h).elim
  · rename_i h1
    rw [if_neg h1]
    refine ⟨⟨?_, rfl⟩, h0⟩
    obtain ⟨p, n, e, f⟩ := s; cases h0; rfl
section
variable {t : List UInt8} {alt : RS → RgD × RS} {A : List UInt8 → RgD → Prop}
theorem repL_sound : ∀ {k : Nat} {n : RgD} {s : RS}, (repL t k n s).2.e = 0 → ∃ m j, Rdg t s m j (repL t k n s).2 ∧ sizeD (repL t k n s).1 = sizeD n + j ∧ ∀ l, DPiece A l n → DPiece A (l ++ m) (repL t k n s).1
  | 0, n, s, h => ⟨[], 0, .nil h, rfl, fun l hl => by rw [List.append_nil]; exact hl⟩
  | k + 1, n, s, h => by
    have hs : s.e = 0 := back_e (f := fun s => repL t (k + 1) n s) (fun h => by rw [repL_keep h]) h
    have key : ∀ {s1 : RS} {m1 : List UInt8} {a b : Int}, Rdg t s m1 0 s1 → DRep m1 a b → (repL t k (repD n a b) (nodeS s1)).2.e = 0 →
        ∃ m j, Rdg t s m j (repL t k (repD n a b) (nodeS s1)).2 ∧ sizeD (repL t k (repD n a b) (nodeS s1)).1 = sizeD n + j ∧ ∀ l, DPiece A l n → DPiece A (l ++ m) (repL t k (repD n a b) (nodeS s1)).1 := fun {s1 m1 a b} r1 d1 h => by
      have h2 : (nodeS s1).e = 0 := back_e (f := fun s => repL t k (repD n a b) s) (fun h => by rw [repL_keep h]) h
      obtain ⟨r2, _⟩ := node_sound (t := t) h2
      obtain ⟨m, j, r3, h4, h5⟩ := repL_sound h
      refine ⟨m1 ++ m, 1 + j, ?_, by rw [h4, sizeD_rep]; omega, fun l hl => by rw [← List.append_assoc]; exact h5 _ (.rep hl d1)⟩
      have := (r1.app r2).app r3
      rw [List.append_nil] at this
      simpa using this
    rw [repL] at h ⊢
    split at h
    · rename_i e; rw [if_pos e]; exact key (Rdg.lit 42 e (by decide) (by decide)) .star h
    · rename_i e; rw [if_neg e]
      split at h
      · rename_i e; rw [if_pos e]; exact key (Rdg.lit 43 e (by decide) (by decide)) .plus h
      · rename_i e; rw [if_neg e]
        split at h
        · rename_i e; rw [if_pos e]; exact key (Rdg.lit 63 e (by decide) (by decide)) .opt h
        · rename_i e; rw [if_neg e]
          split at h
          · rename_i e
            rw [if_pos e]
            have h2 : (nodeS (countsD t s.adv).2).e = 0 := back_e (f := fun s' => repL t k (repD n (countsD t s.adv).1.1 (countsD t s.adv).1.2) s') (fun h => by rw [repL_keep h]) h
            obtain ⟨m, r2, d2⟩ := counts_sound (t := t) (s := s.adv) hs (node_sound (t := t) h2).2
            exact key ((Rdg.lit 123 e (by decide) (by decide)).app r2) (.count d2) h
          · rename_i e
            rw [if_neg e]
            exact ⟨[], 0, .nil hs, rfl, fun l hl => by rw [List.append_nil]; exact hl⟩
/-- What the reader of brackets is asked. -/
structure AltS (t : List UInt8) (alt : RS → RgD × RS) (A : List UInt8 → RgD → Prop) : Prop where
  run : ∀ {s : RS}, (alt s).2.e = 0 → ∃ l, Rdg t s l (sizeD (alt s).1) (alt s).2 ∧ A l (alt s).1
  keep : ∀ {s : RS}, s.e ≠ 0 → (alt s).2.e = s.e
theorem atom_sound (ha : AltS t alt A) {s : RS} (h : (atomD t alt s).2.e = 0) : ∃ l, Rdg t s l (sizeD (atomD t alt s).1) (atomD t alt s).2 ∧ DAtom A l (atomD t alt s).1 := by
  unfold atomD at h ⊢
  split at h
  · rename_i e
    rw [if_pos e]
    have rm := must_sound (by decide) (by decide) h
    obtain ⟨l, r1, d1⟩ := ha.run (back_e (f := fun s => ((), mustS t 41 s)) (fun h => must_keep h) h)
    refine ⟨_, ?_, .paren d1⟩
    have := (Rdg.lit 40 e (by decide) (by decide)).app (r1.app rm)
    simpa using this
  · rename_i e; rw [if_neg e]
    split at h
    · rename_i e
      rw [if_pos e]
      obtain ⟨r2, _⟩ := node_sound (t := t) h
      exact ⟨_, (Rdg.lit 46 e (by decide) (by decide)).app r2, .any⟩
    · rename_i e46; rw [if_neg e46]
      split at h
      · rename_i e
        rw [if_pos e]
        obtain ⟨r2, h3⟩ := node_sound (t := t) h
        obtain ⟨l, r1, d1⟩ := set_sound h3
        refine ⟨91 :: l, ?_, .set d1⟩
        have := ((Rdg.lit 91 e (by decide) (by decide)).app r1).app r2
        simpa [sizeD_one] using this
      · rename_i e
        rw [if_neg e]
        obtain ⟨r2, h3⟩ := node_sound (t := t) h
        obtain ⟨l, r1, d1⟩ := byte_sound h3
        refine ⟨l, ?_, .byte d1 (fun e2 => ?_)⟩
        · have := r1.app r2
          simpa [sizeD_one] using this
        · subst e2
          have h5 : s.e = 0 := back_e (f := fun s => byteD t s) (fun h => byte_keep h) h3
          exact e46 (peek_at h5 r1.2)
theorem atom_keep (hk : ∀ {s : RS}, s.e ≠ 0 → (alt s).2.e = s.e) {s : RS} (h : s.e ≠ 0) : (atomD t alt s).2.e = s.e := by
  unfold atomD
  rw [peek_bad h, if_neg (by decide), if_neg (by decide), if_neg (by decide)]
  show (nodeS (byteD t s).2).e = s.e
  rw [node_keep (by rw [byte_keep h]; exact h), byte_keep h]
theorem piece_sound (ha : AltS t alt A) {s : RS} (h : (pieceD t alt s).2.e = 0) : ∃ l, Rdg t s l (sizeD (pieceD t alt s).1) (pieceD t alt s).2 ∧ DPiece A l (pieceD t alt s).1 := by
  unfold pieceD at h ⊢
  have h1 : (atomD t alt s).2.e = 0 := back_e (f := fun s' => repL t (t.length + 1) (atomD t alt s).1 s') (fun h => by rw [repL_keep h]) h
  obtain ⟨l, r1, d1⟩ := atom_sound ha h1
  obtain ⟨m, j, r2, e2, d2⟩ := repL_sound (A := A) h
  exact ⟨_, by rw [e2]; exact r1.app r2, d2 _ (.atom d1)⟩
theorem catL_sound (ha : AltS t alt A) : ∀ {k : Nat} {acc : List RgD} {s : RS}, (catL t alt k acc s).2.e = 0 → ∃ l ns, Rdg t s l (sizeK ns) (catL t alt k acc s).2 ∧ (catL t alt k acc s).1 = acc ++ ns ∧ DPieces A l ns
  | 0, acc, s, h => ⟨[], [], .nil h, by rw [List.append_nil]; rfl, .nil⟩
  | k + 1, acc, s, h => by
    have hs : s.e = 0 := back_e (f := fun s => catL t alt (k + 1) acc s) (fun h => by rw [catL_keep h]) h
    rw [catL] at h ⊢
    split at h
    · rename_i e
      rw [if_pos e]
      have h1 : (pieceD t alt s).2.e = 0 := back_e (f := fun s' => catL t alt k (acc ++ [(pieceD t alt s).1]) s') (fun h => by rw [catL_keep h]) h
      obtain ⟨l, r1, d1⟩ := piece_sound ha h1
      obtain ⟨m, ns, r2, e2, d2⟩ := catL_sound ha h
      exact ⟨_, _, by rw [sizeK]; exact r1.app r2, by rw [e2]; simp, .cons d1 d2⟩
    · rename_i e
      rw [if_neg e]; exact ⟨[], [], .nil hs, by rw [List.append_nil], .nil⟩
theorem cat_sound (ha : AltS t alt A) {s : RS} (h : (catD t alt s).2.e = 0) : ∃ l, Rdg t s l (sizeD (catD t alt s).1) (catD t alt s).2 ∧ DCat A l (catD t alt s).1 := by
  unfold catD at h ⊢
  have h1 : (catL t alt (t.length + 1) [] s).2.e = 0 := by
    by_cases hz : (catL t alt (t.length + 1) [] s).2.e = 0
    · exact hz
    · exact absurd ((catOf_keep (l := (catL t alt (t.length + 1) [] s).1) hz).symm.trans h) hz
  obtain ⟨l, ns, r1, e1, d1⟩ := catL_sound ha h1
  rw [List.nil_append] at e1
  generalize catL t alt (t.length + 1) [] s = x at h h1 r1 e1
  obtain ⟨x1, x2⟩ := x
  dsimp only at e1 r1 h1
  subst e1
  match x1, d1 with
  | [], d1 =>
    obtain ⟨r2, _⟩ := node_sound (t := t) (s := x2) h
    exact ⟨l, by show Rdg t s l (sizeD emptyD) (nodeS x2); have := r1.app r2; rwa [List.append_nil, sizeK, Nat.zero_add, ← sizeD_empty] at this, [], d1, rfl⟩
  | [x], d1 => exact ⟨l, by have := r1; rw [sizeK, sizeK] at this; exact this, [x], d1, rfl⟩
  | x :: y :: q, d1 =>
    obtain ⟨r2, _⟩ := node_sound (t := t) (s := x2) h
    exact ⟨l, by have := r1.app r2; rw [List.append_nil] at this; exact this, x :: y :: q, d1, rfl⟩
theorem altL_sound (ha : AltS t alt A) : ∀ {k : Nat} {acc : List RgD} {s : RS}, (altL t alt k acc s).2.e = 0 → ∃ l ns, Rdg t s l (sizeK ns) (altL t alt k acc s).2 ∧ (altL t alt k acc s).1 = acc ++ ns ∧ ∀ m n, DCat A m n → DCats A (m ++ l) (n :: ns)
  | 0, acc, s, h => ⟨[], [], .nil h, by rw [List.append_nil]; rfl, fun m n hm => by rw [List.append_nil]; exact .one hm⟩
  | k + 1, acc, s, h => by
    have hs : s.e = 0 := back_e (f := fun s => altL t alt (k + 1) acc s) (fun h => by rw [altL_keep h]) h
    rw [altL] at h ⊢
    split at h
    · rename_i e
      rw [if_pos e]
      have h1 : (catD t alt s.adv).2.e = 0 := back_e (f := fun s' => altL t alt k (acc ++ [(catD t alt s.adv).1]) s') (fun h => by rw [altL_keep h]) h
      obtain ⟨l, r1, d1⟩ := cat_sound ha h1
      obtain ⟨m, ns, r2, e2, d2⟩ := altL_sound ha h
      refine ⟨[UInt8.ofNat 124] ++ l ++ m, (catD t alt s.adv).1 :: ns, by rw [sizeK]; have := ((Rdg.lit 124 e (by decide) (by decide)).app r1).app r2; rw [Nat.zero_add] at this; exact this, by rw [e2]; simp, fun m' n' hm => ?_⟩
      exact .cons hm (d2 _ _ d1)
    · rename_i e
      rw [if_neg e]; exact ⟨[], [], .nil hs, by rw [List.append_nil], fun m n hm => by rw [List.append_nil]; exact .one hm⟩
end
theorem alt_sound {t : List UInt8} : ∀ {d : Nat} {s : RS}, (altD t d s).2.e = 0 → ∃ l, Rdg t s l (sizeD (altD t d s).1) (altD t d s).2 ∧ DAlt d l (altD t d s).1
  | 0, s, h => (wrong_sound (s := s) (by decide) h).elim
  | d + 1, s, h => by
    have ha : AltS t (altD t d) (DAlt d) := ⟨fun h => alt_sound h, fun h => alt_keep h⟩
    rw [altD] at h ⊢
    have h1 : (altL t (altD t d) (t.length + 1) [(catD t (altD t d) s).1] (catD t (altD t d) s).2).2.e = 0 := by
      by_cases hz : (altL t (altD t d) (t.length + 1) [(catD t (altD t d) s).1] (catD t (altD t d) s).2).2.e = 0
      · exact hz
      · exact absurd ((altOf_keep (l := (altL t (altD t d) (t.length + 1) [(catD t (altD t d) s).1] (catD t (altD t d) s).2).1) hz).symm.trans h) hz
    have h2 : (catD t (altD t d) s).2.e = 0 := back_e (f := fun s' => altL t (altD t d) (t.length + 1) [(catD t (altD t d) s).1] s') (fun h => by rw [altL_keep h]) h1
    obtain ⟨l, r1, d1⟩ := cat_sound ha h2
    obtain ⟨m, ns, r2, e2, d2⟩ := altL_sound ha h1
    have hd := d2 _ _ d1
    have hr := r1.app r2
    generalize altL t (altD t d) (t.length + 1) [(catD t (altD t d) s).1] (catD t (altD t d) s).2 = x at h h1 hr e2
    obtain ⟨x1, x2⟩ := x
    dsimp only at e2 hr h1
    subst e2
    match ns, hd, hr with
    | [], hd, hr => exact ⟨_, by rw [sizeK] at hr; exact hr, _, hd, rfl⟩
    | y :: q, hd, hr =>
      obtain ⟨r3, _⟩ := node_sound (t := t) (s := x2) h
      exact ⟨_, by have := hr.app r3; rw [List.append_nil] at this; exact this, _, hd, rfl⟩
theorem parse_sound {t : List UInt8} (h : (parseD t).2.1 = 0) : t.length ≤ 512 ∧ (parseD t).2 = (0, 0) ∧ DAlt 33 t (parseD t).1 ∧ (endS t (altD t 33 ⟨0, 0, 0, 0⟩).2).n = sizeD (parseD t).1 := by
  unfold parseD at h ⊢
  split at h
  · cases h
  · rename_i hl
    rw [if_neg hl]
    split at h
    · rename_i h1
      rw [if_pos h1]
      have h2 : (altD t 33 ⟨0, 0, 0, 0⟩).2.e = 0 := by
        by_cases hz : (altD t 33 ⟨0, 0, 0, 0⟩).2.e = 0
        · exact hz
        · rw [end_keep hz] at h1; exact absurd h1 hz
      obtain ⟨l, r1, d1⟩ := alt_sound h2
      have h3 : ¬ (altD t 33 ⟨0, 0, 0, 0⟩).2.p < t.length := by
        intro h3
        unfold endS at h1
        rw [if_pos ⟨h2, h3⟩] at h1
        exact wrong_sound (by decide) h1
      have h4 : endS t (altD t 33 ⟨0, 0, 0, 0⟩).2 = (altD t 33 ⟨0, 0, 0, 0⟩).2 := by unfold endS; rw [if_neg (fun x => h3 x.2)]
      obtain ⟨e1, e2⟩ := r1
      have hp : l.length ≥ t.length := by rw [e1] at h3; simp only [RS.at'] at h3; omega
      have e3 : l = t := by
        simp only [List.drop_zero, Nat.zero_add] at e2
        rw [List.drop_eq_nil_of_le hp, List.append_nil] at e2; exact e2.symm
      subst e3
      refine ⟨by omega, rfl, d1, ?_⟩
      rw [h4]
      conv => lhs; rw [e1]
      simp only [RS.at', Nat.zero_add]
    · rename_i h1; exact absurd h h1
end Go.Proofs.Ytkpdnpcmeadggaa
/-! Where a reader can stand. No program in sight. -/
namespace Go.Proofs.Ytkpdnpcmeadggaa
open Go Go.E
set_option linter.unusedVariables false
set_option maxRecDepth 10000
def Known (e : Nat) : Prop := e = 1 ∨ e = 2 ∨ e = 5 ∨ e = 6 ∨ e = 160
structure Inv (t : List UInt8) (s : RS) : Prop where
  p0 : s.e = 0 → s.p ≤ t.length
  p : s.p ≤ t.length + 2
  f : s.f ≤ t.length
  e : s.e = 0 ∨ Known s.e
section
variable {t : List UInt8} {s : RS}
theorem Inv.wrong (h : Inv t s) {e f : Nat} (he : Known e) (hf : s.e = 0 → f ≤ t.length) : Inv t (s.wrong e f) := by
  unfold RS.wrong
  split
  · rename_i h0; exact ⟨fun h => by unfold Known at he; dsimp only at h; omega, h.p, hf h0, .inr he⟩
  · exact h
theorem peek_pos (h : peekD t s ≠ 0) : s.e = 0 ∧ s.p < t.length := by
  unfold peekD at h
  split at h
  · rename_i h1; exact ⟨h1.2, h1.1⟩
  · exact absurd rfl h
theorem Inv.adv (h : Inv t s) (hp : peekD t s ≠ 0) : Inv t s.adv := by
  have := peek_pos hp
  exact ⟨fun _ => this.2, by show s.p + 1 ≤ _; omega, h.f, h.e⟩
theorem Inv.advW (h : Inv t s) (hp : s.p ≤ t.length + 1) {a : Nat} (ha : a ≤ t.length) : Inv t (s.adv.wrong 5 a) := by
  unfold RS.wrong
  split
  · exact ⟨fun h => (by cases h), by show s.p + 1 ≤ _; omega, ha, .inr (.inr (.inr (.inl rfl)))⟩
  · rename_i h0; exact ⟨fun h => absurd h h0, by show s.p + 1 ≤ _; omega, h.f, h.e⟩
theorem Inv.digit (h : Inv t s) (hp : s.p ≤ t.length + 1) {a : Nat} (ha : a ≤ t.length) : Inv t (digitD t a s).2 := by
  unfold digitD
  split
  · rename_i h1; exact h.adv (by intro e; rw [e] at h1; cases h1)
  · split
    · exact h.adv (by omega)
    · exact h.advW hp ha
theorem digit_p {a : Nat} : (digitD t a s).2.p = s.p + 1 := by
  unfold digitD
  split
  · rfl
  · split
    · rfl
    · unfold RS.wrong; split <;> rfl
theorem Inv.esc (h : Inv t s) (hp : s.p ≤ t.length) {a : Nat} (ha : a ≤ t.length) : Inv t (escD t a s).2 := by
  unfold escD
  split
  · exact h.adv (by omega)
  · split
    · exact h.adv (by omega)
    · split
      · exact h.adv (by omega)
      · split
        · exact h.adv (by omega)
        · split
          · have h1 := h.adv (by omega)
            have hq : s.adv.p ≤ t.length := (peek_pos (t := t) (s := s) (by omega)).2
            exact (h1.digit (by omega) ha).digit (by rw [digit_p]; omega) ha
          · dsimp only
            split
            · exact h.advW (by omega) ha
            · rename_i hb; exact h.adv (by intro e; rw [e] at hb; exact hb (by decide))
theorem Inv.byte (h : Inv t s) : Inv t (byteD t s).2 := by
  unfold byteD
  split
  · rename_i e
    have hp := peek_pos (t := t) (s := s) (by rw [e]; decide)
    exact (h.adv (by rw [e]; decide)).esc (by show s.p + 1 ≤ _; omega) (by omega)
  · split
    · exact h.wrong (.inr (.inr (.inl rfl))) h.p0
    · rename_i hb; exact h.adv (by intro e; rw [e] at hb; exact hb (by decide))
theorem Inv.pair (h : Inv t s) : Inv t (pairD t s).2 := by
  unfold pairD
  split
  · rename_i e; exact (h.byte.adv (by rw [e]; decide)).byte
  · exact h.byte
theorem Inv.ite {c : Prop} [Decidable c] {a b : RS} (ha : c → Inv t a) (hb : ¬ c → Inv t b) : Inv t (if c then a else b) := by split <;> (first | exact ha (by assumption) | exact hb (by assumption))
theorem Inv.pairs {a : Nat} (ha : a ≤ t.length) : ∀ {k : Nat} {z : SetD} {s : RS}, Inv t s → Inv t (setL t a k z s).2
  | 0, z, s, h => h
  | k + 1, z, s, h => by
    rw [setL]
    split
    · split
      · exact h.wrong (.inr (.inr (.inl rfl))) h.p0
      · exact Inv.pairs ha (Inv.ite (fun _ => h.pair.wrong (.inl rfl) (fun _ => ha)) (fun _ => h.pair))
    · exact h
theorem Inv.eat (h : Inv t s) {c : Nat} (hc : c ≠ 0) : Inv t (eatS t c s) := by
  unfold eatS
  split
  · rename_i e; exact h.adv (by rw [e]; exact hc)
  · exact h
theorem Inv.must (h : Inv t s) {c : Nat} (hc : c ≠ 0) : Inv t (mustS t c s) := by
  unfold mustS
  split
  · rename_i e; exact h.adv (by rw [e]; exact hc)
  · exact h.wrong (.inr (.inr (.inl rfl))) h.p0
theorem Inv.set (h : Inv t s) {a : Nat} (ha : a ≤ t.length) : Inv t (setD t a s).2 := by
  have h1 := (Inv.pairs (a := a) ha (k := t.length + 1) (z := zeroS) (h.eat (c := 94) (by decide))).must (c := 93) (by decide)
  unfold setD
  exact Inv.ite (fun _ => h1.wrong (.inr (.inr (.inr (.inr rfl)))) (fun _ => ha)) (fun _ => h1)
theorem Inv.node (h : Inv t s) : Inv t (nodeS s) := by
  unfold nodeS
  have h1 : Inv t { s with n := s.n + 1 } := ⟨h.p0, h.p, h.f, h.e⟩
  exact Inv.ite (fun _ => h1.wrong (.inr (.inl rfl)) (fun e => h.p0 e)) (fun _ => h1)
theorem digs_le (l : List UInt8) : (digsOf l).length ≤ l.length := List.takeWhile_sublist _ |>.length_le
theorem Inv.count (h : Inv t s) (hp : s.p ≤ t.length) : Inv t (countD t s).2 := by
  have hl := digs_le (t.drop s.p)
  rw [List.length_drop] at hl
  have h1 : Inv t { s with p := s.p + (digsOf (t.drop s.p)).length } := ⟨fun _ => by dsimp only; omega, by dsimp only; omega, h.f, h.e⟩
  unfold countD
  dsimp only
  split
  · exact h1.wrong (.inr (.inr (.inl rfl))) (fun _ => hp)
  · split
    · exact h1.wrong (.inl rfl) (fun _ => hp)
    · exact h1
theorem Inv.counts (h : Inv t s) (hp : s.p ≤ t.length) : Inv t (countsD t s).2 := by
  have h1 := h.count hp
  unfold countsD
  dsimp only
  have h2 : Inv t (if peekD t (countD t s).2 = 44 then (if peekD t (countD t s).2.adv = 125 then ((-1 : Int), (countD t s).2.adv) else (((countD t (countD t s).2.adv).1 : Int), (countD t (countD t s).2.adv).2)) else (((countD t s).1 : Int), (countD t s).2)).2 := by
    split
    · rename_i e
      have h3 := h1.adv (by rw [e]; decide)
      split
      · exact h3
      · exact h3.count (peek_pos (t := t) (s := (countD t s).2) (by rw [e]; decide)).2
    · exact h1
  exact Inv.ite (fun _ => (h2.must (by decide)).wrong (.inl rfl) (fun _ => hp)) (fun _ => h2.must (by decide))
theorem Inv.rep : ∀ {k : Nat} {n : RgD} {s : RS}, Inv t s → Inv t (repL t k n s).2
  | 0, n, s, h => h
  | k + 1, n, s, h => by
    rw [repL]
    split
    · rename_i e; exact Inv.rep (h.adv (by rw [e]; decide)).node
    · split
      · rename_i e; exact Inv.rep (h.adv (by rw [e]; decide)).node
      · split
        · rename_i e; exact Inv.rep (h.adv (by rw [e]; decide)).node
        · split
          · rename_i e; exact Inv.rep ((h.adv (by rw [e]; decide)).counts (peek_pos (t := t) (s := s) (by rw [e]; decide)).2).node
          · exact h
end
section
variable {t : List UInt8} {alt : RS → RgD × RS} (ha : ∀ {s : RS}, Inv t s → s.e = 0 → Inv t (alt s).2)
include ha
theorem Inv.atom {s : RS} (h : Inv t s) (h0 : s.e = 0) : Inv t (atomD t alt s).2 := by
  unfold atomD
  split
  · rename_i e; exact (ha (h.adv (by rw [e]; decide)) h0).must (by decide)
  · split
    · rename_i e; exact (h.adv (by rw [e]; decide)).node
    · split
      · rename_i e; exact ((h.adv (by rw [e]; decide)).set (h.p0 h0)).node
      · exact h.byte.node
theorem Inv.piece {s : RS} (h : Inv t s) (h0 : s.e = 0) : Inv t (pieceD t alt s).2 := Inv.rep (h.atom ha h0)
theorem Inv.cats1 : ∀ {k : Nat} {l : List RgD} {s : RS}, Inv t s → Inv t (catL t alt k l s).2
  | 0, l, s, h => h
  | k + 1, l, s, h => by
    rw [catL]
    split
    · rename_i e; exact Inv.cats1 (h.piece ha (peek_pos e.1).1)
    · exact h
theorem Inv.cat {s : RS} (h : Inv t s) : Inv t (catD t alt s).2 := by
  unfold catD
  have h1 := Inv.cats1 ha (k := t.length + 1) (l := []) h
  generalize catL t alt (t.length + 1) [] s = x at h1
  unfold catOf
  split
  · exact h1.node
  · exact h1
  · exact h1.node
theorem Inv.alts : ∀ {k : Nat} {l : List RgD} {s : RS}, Inv t s → Inv t (altL t alt k l s).2
  | 0, l, s, h => h
  | k + 1, l, s, h => by
    rw [altL]
    split
    · rename_i e; exact Inv.alts ((h.adv (by rw [e]; decide)).cat ha)
    · exact h
end
theorem Inv.alt {t : List UInt8} : ∀ {d : Nat} {s : RS}, Inv t s → Inv t (altD t d s).2
  | 0, s, h => h.wrong (.inr (.inr (.inr (.inl rfl)))) h.p0
  | d + 1, s, h => by
    have h1 := Inv.alts (fun {s} h _ => Inv.alt (d := d) h) (k := t.length + 1) (l := [(catD t (altD t d) s).1]) (h.cat (fun {s} h _ => Inv.alt (d := d) h))
    unfold altD
    generalize altL t (altD t d) (t.length + 1) [(catD t (altD t d) s).1] (catD t (altD t d) s).2 = x at h1
    unfold altOf
    split
    · exact h1
    · exact h1.node
theorem parse_fault {t : List UInt8} (h : (parseD t).2.1 ≠ 0) : Known (parseD t).2.1 ∧ (parseD t).2.2 ≤ t.length ∧ (parseD t).1 = noneD ∧ (512 < t.length → (parseD t).2 = (2, 0)) := by
  unfold parseD at h ⊢
  split
  · exact ⟨.inr (.inl rfl), Nat.zero_le _, rfl, fun _ => rfl⟩
  · rename_i hl
    rw [if_neg hl] at h
    split
    · rename_i h1; rw [if_pos h1] at h; exact absurd rfl h
    · rename_i h1
      have h2 : Inv t (altD t 33 ⟨0, 0, 0, 0⟩).2 := Inv.alt ⟨fun _ => Nat.zero_le _, Nat.zero_le _, Nat.zero_le _, .inl rfl⟩
      have h3 : Inv t (endS t (altD t 33 ⟨0, 0, 0, 0⟩).2) := by
        unfold endS
        exact Inv.ite (fun _ => h2.wrong (.inr (.inr (.inl rfl))) h2.p0) (fun _ => h2)
      exact ⟨h3.e.resolve_left h1, h3.f, rfl, fun h => absurd h hl⟩
end Go.Proofs.Ytkpdnpcmeadggaa
/-! How many nodes a reader can have counted. No program in sight. -/
namespace Go.Proofs.Ytkpdnpcmeadggaa
open Go Go.E
set_option linter.unusedVariables false
set_option maxRecDepth 10000
structure NB (B : Nat) (s : RS) : Prop where
  n0 : s.e = 0 → s.n ≤ 512
  n : s.n ≤ B
section
variable {t : List UInt8} {s : RS} {B : Nat}
theorem wrong_n (s : RS) (e f : Nat) : (s.wrong e f).n = s.n := by unfold RS.wrong; split <;> rfl
theorem wrong_e0 {s : RS} {e f : Nat} (h : (s.wrong e f).e = 0) (he : e ≠ 0) : False := wrong_ne he h
theorem NB.wrong (h : NB B s) {e f : Nat} (he : e ≠ 0) : NB B (s.wrong e f) := ⟨fun h2 => (wrong_ne he h2).elim, by rw [wrong_n]; exact h.n⟩
theorem NB.adv (h : NB B s) : NB B s.adv := ⟨h.n0, h.n⟩
theorem NB.le (h : NB B s) {C : Nat} (hc : B ≤ C) : NB C s := ⟨h.n0, Nat.le_trans h.n hc⟩
theorem NB.node (h : NB B s) : NB (B + 1) (nodeS s) := by
  have := h.n
  unfold nodeS
  split
  · exact ⟨fun h2 => (wrong_ne (by decide) h2).elim, by rw [wrong_n]; dsimp only; omega⟩
  · exact ⟨fun _ => by dsimp only; omega, by dsimp only; omega⟩
theorem digit_n {a : Nat} : (digitD t a s).2.n = s.n := by
  unfold digitD
  repeat' split
  all_goals first | rfl | exact wrong_n s.adv _ _
theorem esc_n {a : Nat} : (escD t a s).2.n = s.n := by
  unfold escD
  repeat' split
  all_goals first | rfl | exact wrong_n s.adv _ _ | (dsimp only; rw [digit_n, digit_n]; rfl) | skip
theorem byte_n : (byteD t s).2.n = s.n := by
  unfold byteD
  repeat' split
  all_goals first | rfl | exact wrong_n s _ _ | (rw [esc_n]; rfl)
theorem pair_n : (pairD t s).2.n = s.n := by
  unfold pairD
  split
  · dsimp only; rw [byte_n]; exact byte_n
  · exact byte_n
theorem setL_n {a : Nat} : ∀ {k : Nat} {z : SetD} {s : RS}, (setL t a k z s).2.n = s.n
  | 0, z, s => rfl
  | k + 1, z, s => by
    rw [setL]
    split
    · split
      · exact wrong_n s _ _
      · rw [setL_n]
        split
        · rw [wrong_n, pair_n]
        · exact pair_n
    · rfl
theorem must_n {c : Nat} : (mustS t c s).n = s.n := by
  unfold mustS
  split
  · rfl
  · exact wrong_n s _ _
theorem eat_n {c : Nat} : (eatS t c s).n = s.n := by
  unfold eatS
  split <;> rfl
theorem set_n {a : Nat} : (setD t a s).2.n = s.n := by
  unfold setD
  dsimp only
  split
  · rw [wrong_n, must_n, setL_n, eat_n]
  · rw [must_n, setL_n, eat_n]
theorem count_n : (countD t s).2.n = s.n := by
  unfold countD
  dsimp only
  repeat' split
  all_goals first | rfl | exact wrong_n _ _ _
theorem counts_n : (countsD t s).2.n = s.n := by
  unfold countsD
  dsimp only
  have h : (if peekD t (countD t s).2 = 44 then (if peekD t (countD t s).2.adv = 125 then ((-1 : Int), (countD t s).2.adv) else (((countD t (countD t s).2.adv).1 : Int), (countD t (countD t s).2.adv).2)) else (((countD t s).1 : Int), (countD t s).2)).2.n = s.n := by
    split
    · split
      · exact count_n
      · dsimp only; rw [count_n]; exact count_n
    · exact count_n
  generalize (if peekD t (countD t s).2 = 44 then (if peekD t (countD t s).2.adv = 125 then ((-1 : Int), (countD t s).2.adv) else (((countD t (countD t s).2.adv).1 : Int), (countD t (countD t s).2.adv).2)) else (((countD t s).1 : Int), (countD t s).2)) = x at h
  split
  · rw [wrong_n, must_n, h]
  · rw [must_n, h]
theorem NB.of (h : NB B s) {s' : RS} (hn : s'.n = s.n) (hk : s'.e = 0 → s.e = 0) : NB B s' := ⟨fun h2 => by rw [hn]; exact h.n0 (hk h2), by rw [hn]; exact h.n⟩
theorem NB.small (h : NB B s) (h0 : s.e = 0) {s' : RS} (hn : s'.n = s.n) : NB 513 (nodeS s') := by
  have h1 := h.n0 h0
  have : NB 512 s' := ⟨fun _ => by omega, by omega⟩
  exact this.node
theorem NB.rep (hB : 513 ≤ B) : ∀ {k : Nat} {n : RgD} {s : RS}, NB B s → NB B (repL t k n s).2
  | 0, n, s, h => h
  | k + 1, n, s, h => by
    rw [repL]
    split
    · rename_i e; exact NB.rep hB ((h.small (peek_pos (t := t) (s := s) (by rw [e]; decide)).1 (s' := s.adv) rfl).le hB)
    · split
      · rename_i e; exact NB.rep hB ((h.small (peek_pos (t := t) (s := s) (by rw [e]; decide)).1 (s' := s.adv) rfl).le hB)
      · split
        · rename_i e; exact NB.rep hB ((h.small (peek_pos (t := t) (s := s) (by rw [e]; decide)).1 (s' := s.adv) rfl).le hB)
        · split
          · rename_i e; exact NB.rep hB ((h.small (peek_pos (t := t) (s := s) (by rw [e]; decide)).1 (s' := (countsD t s.adv).2) counts_n).le hB)
          · exact h
end
section
variable {t : List UInt8} {alt : RS → RgD × RS} {B C : Nat} (hB : 513 ≤ B) (ha : ∀ {s : RS}, s.e = 0 → s.n ≤ 512 → NB B (alt s).2)
include hB ha
theorem NB.atom {s : RS} (h0 : s.e = 0) (hn : s.n ≤ 512) : NB B (atomD t alt s).2 := by
  have h : NB 512 s := ⟨fun _ => hn, hn⟩
  unfold atomD
  split
  · have h1 := ha (s := s.adv) h0 hn
    exact h1.of must_n (fun h2 => back_e (f := fun s => ((), mustS t 41 s)) (fun h => must_keep h) h2)
  · split
    · exact (h.small h0 (s' := s.adv) rfl).le hB
    · split
      · exact (h.small h0 (s' := (setD t s.p s.adv).2) set_n).le hB
      · exact (h.small h0 (s' := (byteD t s).2) byte_n).le hB
theorem NB.piece {s : RS} (h0 : s.e = 0) (hn : s.n ≤ 512) : NB B (pieceD t alt s).2 := NB.rep hB (NB.atom hB ha h0 hn)
theorem NB.cats1 : ∀ {k : Nat} {l : List RgD} {s : RS}, NB B s → NB B (catL t alt k l s).2
  | 0, l, s, h => h
  | k + 1, l, s, h => by
    rw [catL]
    split
    · rename_i e
      have h0 := (peek_pos e.1).1
      exact NB.cats1 (NB.piece hB ha h0 (h.n0 h0))
    · exact h
theorem NB.cat {s : RS} (h : NB B s) : NB (B + 1) (catD t alt s).2 := by
  unfold catD
  have h1 := NB.cats1 (t := t) hB ha (k := t.length + 1) (l := []) h
  generalize catL t alt (t.length + 1) [] s = x at h1
  unfold catOf
  split
  · exact h1.node
  · exact h1.le (by omega)
  · exact h1.node
theorem NB.alts : ∀ {k : Nat} {l : List RgD} {s : RS}, NB (B + 1) s → NB (B + 1) (altL t alt k l s).2
  | 0, l, s, h => h
  | k + 1, l, s, h => by
    rw [altL]
    split
    · rename_i e
      have h0 := (peek_pos (t := t) (s := s) (by rw [e]; decide)).1
      exact NB.alts (NB.cat hB ha (s := s.adv) ⟨fun _ => h.n0 h0, Nat.le_trans (h.n0 h0) (by omega)⟩)
    · exact h
end
theorem NB.alt {t : List UInt8} : ∀ {d : Nat} {s : RS}, s.e = 0 → s.n ≤ 512 → NB (513 + 2 * d) (altD t d s).2
  | 0, s, h0, hn => by
    have h : NB 513 s := ⟨fun _ => hn, by omega⟩
    exact h.wrong (by decide)
  | d + 1, s, h0, hn => by
    have ha : ∀ {s : RS}, s.e = 0 → s.n ≤ 512 → NB (513 + 2 * d) (altD t d s).2 := fun h0 hn => NB.alt h0 hn
    have h : NB (513 + 2 * d) s := ⟨fun _ => hn, by omega⟩
    have h1 := NB.alts (t := t) (by omega) ha (k := t.length + 1) (l := [(catD t (altD t d) s).1]) (NB.cat (t := t) (s := s) (by omega) ha h)
    unfold altD
    generalize altL t (altD t d) (t.length + 1) [(catD t (altD t d) s).1] (catD t (altD t d) s).2 = x at h1
    unfold altOf
    split
    · exact h1.le (by omega)
    · exact h1.node
end Go.Proofs.Ytkpdnpcmeadggaa
/-! What is of the grammar may be. No program in sight. -/
namespace Go.Proofs.Ytkpdnpcmeadggaa
open Go Go.E
set_option linter.unusedVariables false
set_option maxRecDepth 10000
theorem DByte.lt {l : List UInt8} {c : Nat} (h : DByte l c) : c < 256 := by
  cases h with
  | @plain c _ _ => exact c.toNat_lt
  | esc h => unfold escN at h; repeat' split at h
             all_goals first | (cases h; decide) | cases h
  | hex h1 h2 =>
    have k : ∀ {c v : Nat}, hexN c = some v → v < 16 := fun {c v} h => by
      unfold hexN isDig at h
      split at h
      · rename_i h1; simp at h1; cases h; omega
      · split at h
        · cases h; omega
        · cases h
    have := k h1
    have := k h2
    omega
  | @sign x _ => exact x.toNat_lt
theorem of_ne {c : Nat} (hc : c < 256) : ofD c ≠ zeroS := by
  intro e
  have := of_has hc hc
  rw [e, zeroS_has] at this
  simp at this
theorem all_ne : allD ≠ zeroS := by decide
theorem DSet.ne {l : List UInt8} {z : SetD} (h : DSet l z) : z ≠ zeroS := by
  cases h with
  | pos _ h => exact h
  | neg _ h => exact h
theorem DRep.ok {m : List UInt8} {a b : Int} (h : DRep m a b) : ¬ (a < 0 ∨ 256 < a ∨ 256 < b ∨ (0 ≤ b ∧ b < a)) := by
  cases h with
  | star => decide
  | plus => decide
  | opt => decide
  | count h =>
    cases h with
    | just h => have := h.le; omega
    | up h => have := h.le; omega
    | both h h2 hle => have := h.le; have := h2.le; omega
theorem wrong_one {z : SetD} (h : z ≠ zeroS) : wrongD (oneD z) = 0 := by
  rw [oneD, wrongD]
  have : formD (.mk 2 z [] 0 0) = 0 := by unfold formD; simp [RgD.kind, RgD.kids, RgD.set, h]
  rw [if_neg (by rw [this]; decide), wrongK]
theorem wrong_empty : wrongD emptyD = 0 := by
  rw [emptyD, wrongD]
  have : formD (.mk 1 zeroS [] 0 0) = 0 := by unfold formD; simp [RgD.kind, RgD.kids]
  rw [if_neg (by rw [this]; decide), wrongK]
theorem wrong_rep {n : RgD} {a b : Int} (hn : wrongD n = 0) (h : ¬ (a < 0 ∨ 256 < a ∨ 256 < b ∨ (0 ≤ b ∧ b < a))) : wrongD (repD n a b) = 0 := by
  rw [repD, wrongD]
  have : formD (.mk 5 zeroS [n] a b) = 0 := by
    show (if (5 : Int) = 1 ∨ (5 : Int) = 2 then _ else if (5 : Int) = 3 ∨ (5 : Int) = 4 then _ else if (5 : Int) = 5 then (if ([n] : List RgD).length ≠ 1 then 5 else if a < 0 ∨ 256 < a ∨ 256 < b ∨ (0 ≤ b ∧ b < a) then 1 else 0) else 5) = 0
    rw [if_neg (by decide), if_neg (by decide), if_pos rfl, if_neg (by simp), if_neg h]
  rw [if_neg (by rw [this]; decide), wrongK, wrongK, if_neg (by rw [hn]; decide)]
theorem wrong_many {l : List RgD} {k : Int} (hk : k = 3 ∨ k = 4) (hl : 2 ≤ l.length) (h : wrongK l = 0) : wrongD (.mk k zeroS l 0 0) = 0 := by
  rw [wrongD]
  have : formD (.mk k zeroS l 0 0) = 0 := by
    show (if k = 1 ∨ k = 2 then _ else if k = 3 ∨ k = 4 then (if l.length < 2 then 5 else 0) else _) = 0
    rw [if_neg (by omega), if_pos hk, if_neg (by omega)]
  rw [if_neg (by rw [this]; decide), h]
section
variable {A : List UInt8 → RgD → Prop} (hA : ∀ l n, A l n → wrongD n = 0)
include hA
theorem DAtom.ok {l : List UInt8} {n : RgD} (h : DAtom A l n) : wrongD n = 0 := by
  cases h with
  | paren h => exact hA _ _ h
  | any => exact wrong_one all_ne
  | set h => exact wrong_one h.ne
  | byte h _ => exact wrong_one (of_ne h.lt)
theorem DPiece.ok {l : List UInt8} {n : RgD} (h : DPiece A l n) : wrongD n = 0 := by
  induction h with
  | atom h => exact h.ok hA
  | rep h1 h2 ih => exact wrong_rep ih h2.ok
theorem DPieces.ok {l : List UInt8} {n : List RgD} (h : DPieces A l n) : wrongK n = 0 := by
  induction h with
  | nil => rw [wrongK]
  | cons h1 h2 ih => rw [wrongK, if_neg (by rw [h1.ok hA]; decide), ih]
theorem DCat.ok {l : List UInt8} {n : RgD} (h : DCat A l n) : wrongD n = 0 := by
  obtain ⟨ns, h1, rfl⟩ := h
  have h2 := h1.ok hA
  match ns, h2 with
  | [], _ => exact wrong_empty
  | [x], h2 => exact (wrongK_cons h2).1
  | x :: y :: q, h2 => exact wrong_many (.inl rfl) (by simp) h2
theorem DCats.ok {l : List UInt8} {n : List RgD} (h : DCats A l n) : wrongK n = 0 := by
  induction h with
  | one h => rw [wrongK, if_neg (by rw [h.ok hA]; decide), wrongK]
  | cons h1 h2 ih => rw [wrongK, if_neg (by rw [h1.ok hA]; decide), ih]
end
theorem DAlt.ok : ∀ {k : Nat} {l : List UInt8} {n : RgD}, DAlt k l n → wrongD n = 0
  | 0, _, _, h => h.elim
  | k + 1, l, n, ⟨ns, h1, e⟩ => by
    have h2 := h1.ok (fun l n h => DAlt.ok h)
    subst e
    match ns, h1, h2 with
    | [], h1, _ => cases h1
    | [x], _, h2 => exact (wrongK_cons h2).1
    | x :: y :: q, _, h2 => exact wrong_many (.inr rfl) (by simp) h2
/-- What is read may be, and is not too great. -/
theorem end_n {t : List UInt8} {s : RS} : (endS t s).n = s.n := by unfold endS; split; exact wrong_n s _ _; rfl
theorem parse_ok {t : List UInt8} (h : (parseD t).2.1 = 0) : wrongD (parseD t).1 = 0 ∧ sizeD (parseD t).1 ≤ 512 := by
  obtain ⟨h1, h2, h3, h4⟩ := parse_sound h
  refine ⟨h3.ok, ?_⟩
  rw [← h4, end_n]
  have hn : NB (513 + 2 * 33) (altD t 33 ⟨0, 0, 0, 0⟩).2 := NB.alt rfl (by decide)
  refine hn.n0 ?_
  have h5 : (endS t (altD t 33 ⟨0, 0, 0, 0⟩).2).e = 0 := by
    unfold parseD at h
    rw [if_neg (by omega)] at h
    split at h
    · assumption
    · exact h
  by_cases hz : (altD t 33 ⟨0, 0, 0, 0⟩).2.e = 0
  · exact hz
  · rw [end_keep hz] at h5; exact h5
end Go.Proofs.Ytkpdnpcmeadggaa
