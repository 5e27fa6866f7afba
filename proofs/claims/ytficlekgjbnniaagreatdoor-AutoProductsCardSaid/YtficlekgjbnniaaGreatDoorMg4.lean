/- Texts of a walk, one behind the other. -/
import Derived.Test.YtficlekgjbnniaaGreatDoorMg3
set_option linter.unusedVariables false
set_option linter.unusedSimpArgs false
set_option linter.unusedSectionVars false
set_option maxRecDepth 10000
section
namespace Go.Proofs.YtficlekgjbnniaaGreatDoor
open Go Go.E
inductive RgD where
 | mk (kind:Int) (set:SetD) (kids:List RgD) (min max:Int)
def zeroS:SetD:=⟨0,0,0,0⟩
def RgD.kind:RgD→Int|.mk k _ _ _ _=>k
def RgD.set:RgD→SetD|.mk _ s _ _ _=>s
def RgD.kids:RgD→List RgD|.mk _ _ l _ _=>l
def RgD.min:RgD→Int|.mk _ _ _ a _=>a
def RgD.max:RgD→Int|.mk _ _ _ _ b=>b
def noneD:RgD:=.mk 0 zeroS [] 0 0
def emptyD:RgD:=.mk 1 zeroS [] 0 0
def oneD (s:SetD):RgD:=.mk 2 s [] 0 0
def catD' (l:List RgD):RgD:=.mk 3 zeroS l 0 0
def altD' (l:List RgD):RgD:=.mk 4 zeroS l 0 0
def repD (n:RgD) (a b:Int):RgD:=.mk 5 zeroS [n] a b
structure RS where
 p:Nat
 n:Nat
 e:Nat
 f:Nat
deriving DecidableEq
def RS.wrong (s:RS) (e f:Nat):RS:=if s.e=0 then { s with e:=e,f:=f } else s
def RS.adv (s:RS):RS:={ s with p:=s.p+1 }
def nodeS (s:RS):RS:=if 512<s.n+1 then RS.wrong { s with n:=s.n+1 } 2 s.p else { s with n:=s.n+1 }
def peekD (t:List UInt8) (s:RS):Nat:=if s.p<t.length∧s.e=0 then (t[s.p]!).toNat else 0
def eatS (t:List UInt8) (c:Nat) (s:RS):RS:=if peekD t s=c then s.adv else s
def mustS (t:List UInt8) (c:Nat) (s:RS):RS:=if peekD t s=c then s.adv else s.wrong 5 s.p
def isDig (c:Nat):Bool:=decide (48≤c)&&decide (c≤57)
def digitD (t:List UInt8) (a:Nat) (s:RS):Nat × RS :=
 if isDig (peekD t s) then (peekD t s-48,s.adv) else if 97≤peekD t s∧peekD t s≤102 then (peekD t s-87,s.adv) else (0,s.adv.wrong 5 a)
def badEsc (c:Nat):Bool:=decide (c≤32)||decide (126<c)||isDig c||(decide (97≤c)&&decide (c≤122))||(decide (65≤c)&&decide (c≤90))
def escD (t:List UInt8) (a:Nat) (s:RS):Nat × RS :=
 if peekD t s=110 then (10,s.adv) else if peekD t s=114 then (13,s.adv) else if peekD t s=116 then (9,s.adv) else if peekD t s=48 then (0,s.adv)
 else if peekD t s=120 then (16*(digitD t a s.adv).1+(digitD t a (digitD t a s.adv).2).1,(digitD t a (digitD t a s.adv).2).2)
 else (peekD t s,if badEsc (peekD t s) then s.adv.wrong 5 a else s.adv)
def signsR:List UInt8:=[47,91,93,40,41,123,125,124,42,43,63,94,34,35,45]
def badB (c:Nat):Bool:=decide (c<32)||decide (126<c)||(signsR.map (·.toNat)).contains c
def byteD (t:List UInt8) (s:RS):Nat × RS :=
 if peekD t s=92 then escD t s.p s.adv else if badB (peekD t s) then (0,s.wrong 5 s.p) else (peekD t s,s.adv)
def rangeD (x y:Nat):SetD:=(List.range 256).foldl (fun s c=>if x≤c∧c≤y then s.add c else s) zeroS
def pairD (t:List UInt8) (s:RS):(Nat × Nat) × RS :=
 if peekD t (byteD t s).2=45 then (((byteD t s).1,(byteD t (byteD t s).2.adv).1),(byteD t (byteD t s).2.adv).2) else (((byteD t s).1,(byteD t s).1),(byteD t s).2)
def setL (t:List UInt8) (a:Nat):Nat→SetD→RS→SetD × RS
 | 0,z,s=>(z,s)
 | k+1,z,s=>if s.e=0∧peekD t s≠93 then (if peekD t s=0 then (z,s.wrong 5 s.p) else
   setL t a k (z.or (rangeD (pairD t s).1.1 (pairD t s).1.2)) (if (pairD t s).1.2<(pairD t s).1.1 then (pairD t s).2.wrong 1 a else (pairD t s).2)) else (z,s)
def turnD (b:Bool) (z:SetD):SetD:=if b then z.not else z
def setD (t:List UInt8) (a:Nat) (s:RS):SetD × RS :=
 let l:=setL t a (t.length+1) zeroS (eatS t 94 s)
 let z:=turnD (decide (peekD t s=94)) l.1
 (z,if (mustS t 93 l.2).e=0∧z=zeroS then (mustS t 93 l.2).wrong 160 a else mustS t 93 l.2)
def digsOf (l:List UInt8):List UInt8:=l.takeWhile fun c=>isDig c.toNat
def valOf (l:List UInt8):Nat:=l.foldl (fun v c=>10*v+(c.toNat-48)) 0
def badNum (l:List UInt8):Bool:=l.isEmpty||(decide (1<l.length)&&decide (l.headD 0=48))
def countD (t:List UInt8) (s:RS):Nat × RS :=
 let l:=digsOf (t.drop s.p)
 let s1:RS:={ s with p:=s.p+l.length }
 if badNum l then (0,s1.wrong 5 s.p) else if 256<valOf l then (0,s1.wrong 1 s.p) else (valOf l,s1)
def countsD (t:List UInt8) (s:RS):(Nat × Int) × RS :=
 let c:=countD t s
 let h:Int × RS:=if peekD t c.2=44 then (if peekD t c.2.adv=125 then (-1,c.2.adv) else (((countD t c.2.adv).1:Int),(countD t c.2.adv).2)) else ((c.1:Int),c.2)
 ((c.1,h.1),if 0≤h.1∧h.1<(c.1:Int) then (mustS t 125 h.2).wrong 1 s.p else mustS t 125 h.2)
def repL (t:List UInt8):Nat→RgD→RS→RgD × RS
 | 0,n,s=>(n,s)
 | k+1,n,s=>if peekD t s=42 then repL t k (repD n 0 (-1)) (nodeS s.adv) else if peekD t s=43 then repL t k (repD n 1 (-1)) (nodeS s.adv)
   else if peekD t s=63 then repL t k (repD n 0 1) (nodeS s.adv)
   else if peekD t s=123 then repL t k (repD n (countsD t s.adv).1.1 (countsD t s.adv).1.2) (nodeS (countsD t s.adv).2) else (n,s)
def ofD (c:Nat):SetD:=zeroS.add c
def atomD (t:List UInt8) (alt:RS→RgD × RS) (s:RS):RgD × RS :=
 if peekD t s=40 then ((alt s.adv).1,mustS t 41 (alt s.adv).2) else if peekD t s=46 then (oneD allD,nodeS s.adv)
 else if peekD t s=91 then (oneD (setD t s.p s.adv).1,nodeS (setD t s.p s.adv).2) else (oneD (ofD (byteD t s).1),nodeS (byteD t s).2)
def pieceD (t:List UInt8) (alt:RS→RgD × RS) (s:RS):RgD × RS:=repL t (t.length+1) (atomD t alt s).1 (atomD t alt s).2
def catL (t:List UInt8) (alt:RS→RgD × RS):Nat→List RgD→RS→List RgD × RS
 | 0,l,s=>(l,s)
 | k+1,l,s=>if peekD t s≠0∧peekD t s≠124∧peekD t s≠41 then catL t alt k (l++[(pieceD t alt s).1]) (pieceD t alt s).2 else (l,s)
def catOf:List RgD × RS→RgD × RS
 | ([],s)=>(emptyD,nodeS s)
 | ([x],s)=>(x,s)
 | (l,s)=>(catD' l,nodeS s)
def catD (t:List UInt8) (alt:RS→RgD × RS) (s:RS):RgD × RS:=catOf (catL t alt (t.length+1) [] s)
def altL (t:List UInt8) (alt:RS→RgD × RS):Nat→List RgD→RS→List RgD × RS
 | 0,l,s=>(l,s)
 | k+1,l,s=>if peekD t s=124 then altL t alt k (l++[(catD t alt s.adv).1]) (catD t alt s.adv).2 else (l,s)
def altOf:List RgD × RS→RgD × RS
 | ([x],s)=>(x,s)
 | (l,s)=>(altD' l,nodeS s)
def altD (t:List UInt8):Nat→RS→RgD × RS
 | 0,s=>(noneD,s.wrong 6 s.p)
 | d+1,s=>altOf (altL t (altD t d) (t.length+1) [(catD t (altD t d) s).1] (catD t (altD t d) s).2)
def endS (t:List UInt8) (s:RS):RS:=if s.e=0∧s.p<t.length then s.wrong 5 s.p else s
def parseD (t:List UInt8):RgD × (Nat × Nat) :=
 if 512<t.length then (noneD,(2,0)) else
  if (endS t (altD t 33 ⟨0,0,0,0⟩).2).e=0 then ((altD t 33 ⟨0,0,0,0⟩).1,(0,0)) else (noneD,((endS t (altD t 33 ⟨0,0,0,0⟩).2).e,(endS t (altD t 33 ⟨0,0,0,0⟩).2).f))
def formD (n:RgD):Nat:=if n.kind=1∨n.kind=2 then (if n.kids≠[] then 5 else if n.kind=2∧n.set=zeroS then 160 else 0) else if n.kind=3∨n.kind=4 then (if n.kids.length<2 then 5 else 0)
 else if n.kind=5 then (if n.kids.length≠1 then 5 else if n.min<0∨256<n.min∨256<n.max∨(0≤n.max∧n.max<n.min) then 1 else 0) else 5
mutual
def checkD:RgD→Int→Nat × Int
 | .mk k s l a b,left=>if left-1<0 then (2,left-1) else if formD (.mk k s l a b)≠0 then (formD (.mk k s l a b),left-1) else if k=1∨k=2 then (0,left-1) else checkK l (left-1)
def checkK:List RgD→Int→Nat × Int
 | [],left=>(0,left)
 | x::r,left=>if (checkD x left).1≠0 then checkD x left else checkK r (checkD x left).2
end
mutual
def wrongD:RgD→Nat
 | .mk k s l a b=>if formD (.mk k s l a b)≠0 then formD (.mk k s l a b) else wrongK l
def wrongK:List RgD→Nat
 | []=>0
 | x::r=>if wrongD x≠0 then wrongD x else wrongK r
end
end Go.Proofs.YtficlekgjbnniaaGreatDoor
namespace Go.Proofs.YtficlekgjbnniaaGreatDoor
open Go Go.E
end Go.Proofs.YtficlekgjbnniaaGreatDoor
namespace Go.Proofs.YtficlekgjbnniaaGreatDoor
open Go Go.E
mutual
def sizeD:RgD→Nat
 | .mk _ _ l _ _=>sizeK l+1
def sizeK:List RgD→Nat
 | []=>0
 | x::r=>sizeD x+sizeK r
end
theorem sizeD_pos:∀ (n:RgD),1≤sizeD n
 | .mk _ _ l _ _=>by rw [sizeD];omega
def hexN (c:Nat):Option Nat:=if isDig c then some (c-48) else if 97≤c∧c≤102 then some (c-87) else none
def escN (c:Nat):Option Nat:=if c=110 then some 10 else if c=114 then some 13 else if c=116 then some 9 else if c=48 then some 0 else none
inductive DByte:List UInt8→Nat→Prop where
 | plain {c:UInt8} (h1:c.toNat≠92) (h2:badB c.toNat=false):DByte [c] c.toNat
 | esc {x:UInt8}{v:Nat} (h:escN x.toNat=some v):DByte [92,x] v
 | hex {h l:UInt8}{a b:Nat} (h1:hexN h.toNat=some a) (h2:hexN l.toNat=some b):DByte [92,120,h,l] (16*a+b)
 | sign {x:UInt8} (h:badEsc x.toNat=false):DByte [92,x] x.toNat
inductive DPair:List UInt8→Nat→Nat→Prop where
 | one {l:List UInt8}{c:Nat} (h:DByte l c):DPair l c c
 | two {l m:List UInt8}{c d:Nat} (h1:DByte l c) (h2:DByte m d) (h:c≤d):DPair (l++45::m) c d
inductive DItems:List UInt8→SetD→SetD→Prop where
 | nil (z:SetD):DItems [] z z
 | cons {l m:List UInt8}{c d:Nat}{z w:SetD} (h1:DPair l c d) (h2:DItems m (z.or (rangeD c d)) w):DItems (l++m) z w
inductive DSet:List UInt8→SetD→Prop where
 | pos {l:List UInt8}{z:SetD} (h:DItems l zeroS z) (h0:z≠zeroS):DSet (l++[93]) z
 | neg {l:List UInt8}{z:SetD} (h:DItems l zeroS z) (h0:z.not≠zeroS):DSet (94::(l++[93])) z.not
structure DNum (l:List UInt8) (n:Nat):Prop where
 digs:∀ c∈l,isDig c.toNat=true
 good:badNum l=false
 val:valOf l=n
 le:n≤256
inductive DCount:List UInt8→Int→Int→Prop where
 | just {l:List UInt8}{n:Nat} (h:DNum l n):DCount (l++[125]) n n
 | up {l:List UInt8}{n:Nat} (h:DNum l n):DCount (l++[44,125]) n (-1)
 | both {l m:List UInt8}{n k:Nat} (h:DNum l n) (h2:DNum m k) (hle:n≤k):DCount (l++44::(m++[125])) n k
inductive DRep:List UInt8→Int→Int→Prop where
 | star:DRep [42] 0 (-1)
 | plus:DRep [43] 1 (-1)
 | opt:DRep [63] 0 1
 | count {l:List UInt8}{a b:Int} (h:DCount l a b):DRep (123::l) a b
section
variable (A:List UInt8→RgD→Prop)
inductive DAtom:List UInt8→RgD→Prop where
 | paren {l:List UInt8}{n:RgD} (h:A l n):DAtom (40::(l++[41])) n
 | any:DAtom [46] (oneD allD)
 | set {l:List UInt8}{z:SetD} (h:DSet l z):DAtom (91::l) (oneD z)
 | byte {l:List UInt8}{c:Nat} (h:DByte l c) (h2:l≠[46]):DAtom l (oneD (ofD c))
inductive DPiece:List UInt8→RgD→Prop where
 | atom {l:List UInt8}{n:RgD} (h:DAtom A l n):DPiece l n
 | rep {l m:List UInt8}{n:RgD}{a b:Int} (h:DPiece l n) (h2:DRep m a b):DPiece (l++m) (repD n a b)
inductive DPieces:List UInt8→List RgD→Prop where
 | nil:DPieces [] []
 | cons {l m:List UInt8}{n:RgD}{r:List RgD} (h1:DPiece A l n) (h2:DPieces m r):DPieces (l++m) (n::r)
def catN':List RgD→RgD
 | []=>emptyD
 | [x]=>x
 | l=>catD' l
def altN':List RgD→RgD
 | [x]=>x
 | l=>altD' l
def DCat (l:List UInt8) (n:RgD):Prop:=∃ ns,DPieces A l ns∧n=catN' ns
inductive DCats:List UInt8→List RgD→Prop where
 | one {l:List UInt8}{n:RgD} (h:DCat A l n):DCats l [n]
 | cons {l m:List UInt8}{n:RgD}{r:List RgD} (h1:DCat A l n) (h2:DCats m r):DCats (l++124::m) (n::r)
end
def DAlt:Nat→List UInt8→RgD→Prop
 | 0=>fun _ _=>False
 | k+1=>fun l n=>∃ ns,DCats (DAlt k) l ns∧n=altN' ns
theorem wrong_keep {s:RS}{e f:Nat} (h:s.e≠0):(s.wrong e f).e=s.e:=by unfold RS.wrong;rw [if_neg h]
theorem node_keep {s:RS} (h:s.e≠0):(nodeS s).e=s.e:=by
 unfold nodeS
 split
 ·exact wrong_keep (s:={ s with n:=s.n+1 }) h
 ·rfl
theorem peek_bad {t:List UInt8}{s:RS} (h:s.e≠0):peekD t s=0:=by unfold peekD;rw [if_neg (fun x=>h x.2)]
theorem must_keep {t:List UInt8}{s:RS}{c:Nat} (h:s.e≠0):(mustS t c s).e=s.e:=by
 unfold mustS
 split
 ·rfl
 ·exact wrong_keep h
theorem digit_keep {t:List UInt8}{s:RS}{a:Nat} (h:s.e≠0):(digitD t a s).2.e=s.e:=by
 unfold digitD;rw [peek_bad h];exact wrong_keep (s:=s.adv) h
theorem byte_keep {t:List UInt8}{s:RS} (h:s.e≠0):(byteD t s).2.e=s.e:=by
 unfold byteD;rw [peek_bad h];exact wrong_keep h
theorem wrong_ne {s:RS}{e f:Nat} (he:e≠0):(s.wrong e f).e≠0:=by
 unfold RS.wrong
 split
 ·exact he
 ·assumption
theorem eat_keep {t:List UInt8}{s:RS}{c:Nat}:(eatS t c s).e=s.e:=by unfold eatS;split<;>rfl
theorem setL_keep {t:List UInt8}{a:Nat}:∀ {k:Nat}{z:SetD}{s:RS},s.e≠0→(setL t a k z s).2.e=s.e
 | 0,z,s,h=>rfl
 | k+1,z,s,h=>by rw [setL,if_neg (fun x=>h x.1)]
theorem repL_keep {t:List UInt8}{k:Nat}{n:RgD}{s:RS} (h:s.e≠0):repL t k n s=(n,s):=by
 cases k with
 | zero=>rfl
 | succ k=>rw [repL,peek_bad h];rfl
theorem catL_keep {t:List UInt8}{alt:RS→RgD × RS}{k:Nat}{l:List RgD}{s:RS} (h:s.e≠0):catL t alt k l s=(l,s):=by
 cases k with
 | zero=>rfl
 | succ k=>rw [catL,peek_bad h];rfl
theorem altL_keep {t:List UInt8}{alt:RS→RgD × RS}{k:Nat}{l:List RgD}{s:RS} (h:s.e≠0):altL t alt k l s=(l,s):=by
 cases k with
 | zero=>rfl
 | succ k=>rw [altL,peek_bad h];rfl
theorem catOf_keep {l:List RgD}{s:RS} (h:s.e≠0):(catOf (l,s)).2.e=s.e:=by
 unfold catOf
 split
 ·rename_i e;cases e;exact node_keep h
 ·rename_i e;cases e;rfl
 ·rename_i e;cases e;exact node_keep h
theorem altOf_keep {l:List RgD}{s:RS} (h:s.e≠0):(altOf (l,s)).2.e=s.e:=by
 unfold altOf
 split
 ·rename_i e;cases e;rfl
 ·rename_i e;cases e;exact node_keep h
theorem end_keep {t:List UInt8}{s:RS} (h:s.e≠0):endS t s=s:=by unfold endS;rw [if_neg (fun x=>h x.1)]
theorem peek_at {t r:List UInt8}{s:RS}{c:UInt8} (h0:s.e=0) (h:t.drop s.p=c::r):peekD t s=c.toNat:=by
 have hl:s.p<t.length:=by
  rcases Nat.lt_or_ge s.p t.length with h2|h2
  ·exact h2
  ·rw [List.drop_eq_nil_of_le h2] at h;cases h
 have hg:t[s.p]?=some c:=by rw [←List.head?_drop,h];rfl
 unfold peekD
 rw [if_pos ⟨hl,h0⟩,List.getElem!_eq_getElem?_getD,hg];rfl
theorem peek_end {t:List UInt8}{s:RS} (h:t.drop s.p=[]):peekD t s=0:=by
 unfold peekD;rw [if_neg (fun x=>by have:=List.drop_eq_nil_iff.1 h;omega)]
theorem drop_app {t l r:List UInt8}{p:Nat} (h:t.drop p=l++r):t.drop (p+l.length)=r:=by
 rw [←List.drop_drop,h];simp
def RS.at' (s:RS) (k n:Nat):RS:=⟨s.p+k,s.n+n,0,s.f⟩
theorem adv_at {s:RS} (h:s.e=0):s.adv=s.at' 1 0:=by unfold RS.adv RS.at';rw [h];rfl
theorem at_at (s:RS) (a b c d:Nat):(s.at' a b).at' c d=s.at' (a+c) (b+d):=by simp only [RS.at',Nat.add_assoc]
theorem at_zero {s:RS} (h:s.e=0):s.at' 0 0=s:=by obtain ⟨p,n,e,f⟩:=s;cases h;rfl
end Go.Proofs.YtficlekgjbnniaaGreatDoor
namespace Go.Proofs.YtficlekgjbnniaaGreatDoor
open Go Go.E
theorem at_p (s:RS) (k n:Nat):(s.at' k n).p=s.p+k:=rfl
def headB (c:Nat):Bool:=decide (c=92)||!badB c
def startB (c:Nat):Bool:=decide (c=40)||decide (c=46)||decide (c=91)||headB c
theorem DByte.head {l:List UInt8}{c:Nat} (h:DByte l c):∃ x m,l=x::m∧headB x.toNat=true:=by
 cases h with
 | plain h1 h2=>exact ⟨_,_,rfl,by simp [headB,h2]⟩
 | esc h=>exact ⟨_,_,rfl,by decide⟩
 | hex h1 h2=>exact ⟨_,_,rfl,by decide⟩
 | sign h=>exact ⟨_,_,rfl,by decide⟩
def Out {α:Type} (F:Prop) (s:RS) (len sz:Nat) (v:α) (x:α × RS):Prop:=(x=(v,s.at' len sz)∧s.n+sz≤512)∨(x.2.e=2∧512<s.n+sz)∨(x.2.e=6∧F)
section
variable {t:List UInt8}{alt:RS→RgD × RS}{A:List UInt8→RgD→Prop}{F:Prop}
theorem DAtom.head {l:List UInt8}{n:RgD} (h:DAtom A l n):∃ x m,l=x::m∧startB x.toNat=true:=by
 cases h with
 | paren=>exact ⟨_,_,rfl,by decide⟩
 | any=>exact ⟨_,_,rfl,by decide⟩
 | set=>exact ⟨_,_,rfl,by decide⟩
 | byte hb=>obtain ⟨x,m,hx,hh⟩:=hb.head;exact ⟨x,m,hx,by simp [startB,hh]⟩
theorem DPiece.head {l:List UInt8}{n:RgD} (h:DPiece A l n):∃ x m,l=x::m∧startB x.toNat=true:=by
 induction h with
 | atom h=>exact h.head
 | rep h1 h2 ih=>obtain ⟨x,m,rfl,hx⟩:=ih;exact ⟨x,_,rfl,hx⟩
theorem sizeD_rep (n:RgD) (a b:Int):sizeD (repD n a b)=sizeD n+1:=by rw [repD,sizeD,sizeK,sizeK]
theorem catD_keep (hk:∀ {s:RS},s.e≠0→(alt s).2.e=s.e) {s:RS} (h:s.e≠0):(catD t alt s).2.e=s.e:=by
 unfold catD;rw [catL_keep h,catOf_keep h]
end
theorem alt_keep {t:List UInt8}:∀ {d:Nat}{s:RS},s.e≠0→(altD t d s).2.e=s.e
 | 0,s,h=>wrong_keep h
 | d+1,s,h=>by
   have h1:(catD t (altD t d) s).2.e=s.e:=catD_keep (fun h=>alt_keep h) h
   rw [altD,altL_keep (by rw [h1];exact h),altOf_keep (by rw [h1];exact h),h1]
end Go.Proofs.YtficlekgjbnniaaGreatDoor
namespace Go.Proofs.YtficlekgjbnniaaGreatDoor
open Go Go.E
theorem zeroS_in:SetIn zeroS:=SetIn.zero
theorem zeroS_has (c:Nat):zeroS.has c=false:=SetD.has_zero c
theorem range_spec (x y:Nat):∀ k,k≤256→SetIn ((List.range k).foldl (fun s c=>if x≤c∧c≤y then s.add c else s) zeroS)∧∀ c,c<256→((List.range k).foldl (fun s c=>if x≤c∧c≤y then s.add c else s) zeroS).has c=decide (x≤c∧c≤y∧c<k)
 | 0,_=>⟨zeroS_in,fun c _=>by rw [List.range_zero,List.foldl_nil,zeroS_has,eq_comm,decide_eq_false_iff_not];omega⟩
 | k+1,h=>by
   obtain ⟨h1,h2⟩:=range_spec x y k (by omega)
   rw [List.range_succ,List.foldl_append,List.foldl_cons,List.foldl_nil]
   split
   ·refine ⟨h1.add (by omega),fun c hc=>?_⟩
    rw [SetD.has_add (by omega) hc,h2 c hc,Bool.eq_iff_iff]
    simp only [Bool.or_eq_true,decide_eq_true_iff];omega
   ·refine ⟨h1,fun c hc=>?_⟩
    rw [h2 c hc,decide_eq_decide];omega
theorem range_in (x y:Nat):SetIn (rangeD x y):=(range_spec x y 256 (by omega)).1
theorem range_has (x y:Nat) {c:Nat} (hc:c<256):(rangeD x y).has c=decide (x≤c∧c≤y):=by
 have:=(range_spec x y 256 (by omega)).2 c hc
 rw [rangeD,this,decide_eq_decide];omega
theorem of_in {c:Nat} (hc:c<256):SetIn (ofD c):=zeroS_in.add hc
theorem of_has {c d:Nat} (hc:c<256) (hd:d<256):(ofD c).has d=decide (d=c):=by rw [ofD,SetD.has_add hc hd,zeroS_has,Bool.false_or]
mutual
def insD:RgD→Prop
 | .mk _ s l _ _=>SetIn s∧insK l
def insK:List RgD→Prop
 | []=>True
 | x::r=>insD x∧insK r
end
mutual
def cdep:RgD→Nat
 | .mk k _ l _ _=>if k=3 then qdepK l else if k=4 then 1+cdepK l else if k=5 then qdepK l else 0
def qdep:RgD→Nat
 | .mk k _ l _ _=>if k=1 then 1 else if k=3 then 1+qdepK l else if k=4 then 1+cdepK l else if k=5 then qdepK l else 0
def cdepK:List RgD→Nat
 | []=>0
 | x::r=>Max.max (cdep x) (cdepK r)
def qdepK:List RgD→Nat
 | []=>0
 | x::r=>Max.max (qdep x) (qdepK r)
end
def adep (n:RgD):Nat:=if n.kind=4 then cdep n else 1+cdep n
section
variable {A B:List UInt8→RgD→Prop} (hAB:∀ l n,A l n→B l n)
include hAB
end
theorem wrongD_parts {n:RgD} (h:wrongD n=0):formD n=0∧wrongK n.kids=0:=by
 obtain ⟨k,s,l,a,b⟩:=n
 rw [wrongD] at h
 split at h
 ·contradiction
 ·rename_i h1;exact ⟨Decidable.of_not_not h1,h⟩
theorem wrongK_cons {x:RgD}{r:List RgD} (h:wrongK (x::r)=0):wrongD x=0∧wrongK r=0:=by
 rw [wrongK] at h
 split at h
 ·contradiction
 ·rename_i h1;exact ⟨Decidable.of_not_not h1,h⟩
inductive Form:RgD→Prop where
 | none (s a b):Form (.mk 1 s [] a b)
 | one (s a b) (h:s≠zeroS):Form (.mk 2 s [] a b)
 | cat (s x y l a b):Form (.mk 3 s (x::y::l) a b)
 | alt (s x y l a b):Form (.mk 4 s (x::y::l) a b)
 | rep (s x a b) (h:¬(a<0∨256<a∨256<b∨(0≤b∧b<a))):Form (.mk 5 s [x] a b)
theorem form_cases {n:RgD} (h:formD n=0):Form n:=by
 obtain ⟨k,s,l,a,b⟩:=n
 change (if k=1∨k=2 then (if l≠[] then 5 else if k=2∧s=zeroS then 160 else 0) else if k=3∨k=4 then (if l.length<2 then 5 else 0)
  else if k=5 then (if l.length≠1 then 5 else if a<0∨256<a∨256<b∨(0≤b∧b<a) then 1 else 0) else 5)=0 at h
 by_cases hk:k=1∨k=2
 ·rw [if_pos hk] at h
  by_cases hl:l≠[]
  ·rw [if_pos hl] at h;cases h
  ·rw [if_neg hl] at h
   have hl:=Decidable.of_not_not hl
   subst hl
   by_cases h2:k=2∧s=zeroS
   ·rw [if_pos h2] at h;cases h
   ·rcases hk with rfl|rfl
    ·exact .none _ _ _
    ·exact .one _ _ _ (fun e=>h2 ⟨rfl,e⟩)
 ·rw [if_neg hk] at h
  by_cases hk2:k=3∨k=4
  ·rw [if_pos hk2] at h
   by_cases h2:l.length<2
   ·rw [if_pos h2] at h;cases h
   ·match l with
    | []=>simp at h2
    | [x]=>simp at h2
    | x::y::l =>
      rcases hk2 with rfl|rfl
      ·exact .cat _ _ _ _ _ _
      ·exact .alt _ _ _ _ _ _
  ·rw [if_neg hk2] at h
   by_cases hk3:k=5
   ·rw [if_pos hk3] at h
    subst hk3
    by_cases h2:l.length≠1
    ·rw [if_pos h2] at h;cases h
    ·rw [if_neg h2] at h
     match l with
     | []=>simp at h2
     | [x] =>
       by_cases h3:a<0∨256<a∨256<b∨(0≤b∧b<a)
       ·rw [if_pos h3] at h;cases h
       ·exact .rep _ _ _ _ h3
     | x::y::l=>simp at h2
   ·rw [if_neg hk3] at h;cases h
mutual
theorem RgD.ind {P:RgD→Prop} (h:∀ k s l a b,(∀ x∈l,P x)→P (.mk k s l a b)):∀ n,P n
 | .mk k s l a b=>h k s l a b (RgD.indK h l)
theorem RgD.indK {P:RgD→Prop} (h:∀ k s l a b,(∀ x∈l,P x)→P (.mk k s l a b)):∀ (l:List RgD),∀ x∈l,P x
 | []=>fun x hx=>absurd hx (by simp)
 | y::r=>List.forall_mem_cons.2 ⟨RgD.ind h y,RgD.indK h r⟩
end
end Go.Proofs.YtficlekgjbnniaaGreatDoor
namespace Go.Proofs.YtficlekgjbnniaaGreatDoor
open Go Go.E
theorem peek_some {t:List UInt8}{s:RS} (h:peekD t s≠0):s.e=0∧∃ c,t.drop s.p=c::t.drop (s.p+1)∧c.toNat=peekD t s:=by
 unfold peekD at h ⊢
 split at h
 ·rename_i h1
  rw [if_pos h1]
  refine ⟨h1.2,t[s.p],List.drop_eq_getElem_cons h1.1,?_⟩
  rw [List.getElem!_eq_getElem?_getD,List.getElem?_eq_getElem h1.1];rfl
 ·exact absurd rfl h
def Rdg (t:List UInt8) (s:RS) (l:List UInt8) (j:Nat) (s':RS):Prop:=s'=s.at' l.length j∧t.drop s.p=l++t.drop (s.p+l.length)
theorem Rdg.nil {t:List UInt8}{s:RS} (h:s.e=0):Rdg t s [] 0 s:=⟨(at_zero h).symm,rfl⟩
theorem Rdg.app {t:List UInt8}{s s1 s2:RS}{l m:List UInt8}{i j:Nat} (h1:Rdg t s l i s1) (h2:Rdg t s1 m j s2):Rdg t s (l++m) (i+j) s2:=by
 obtain ⟨rfl,e1⟩:=h1
 obtain ⟨rfl,e2⟩:=h2
 refine ⟨by rw [at_at,List.length_append],?_⟩
 rw [at_p] at e2
 rw [List.length_append,←Nat.add_assoc,List.append_assoc,←e2];exact e1
theorem Rdg.one {t:List UInt8}{s:RS}{c:Nat} (h:peekD t s=c) (h0:c≠0):∃ x:UInt8,x.toNat=c∧Rdg t s [x] 0 s.adv:=by
 obtain ⟨he,x,h1,h2⟩:=peek_some (t:=t) (s:=s) (by rw [h];exact h0)
 exact ⟨x,h2.trans h,adv_at he,h1⟩
theorem u8_eq {x:UInt8}{c:Nat} (h:x.toNat=c) (hc:c<256):x=UInt8.ofNat c:=by rw [←h,UInt8.ofNat_toNat]
theorem Rdg.lit {t:List UInt8}{s:RS} (c:Nat) (h:peekD t s=c) (h0:c≠0) (hc:c<256):Rdg t s [UInt8.ofNat c] 0 s.adv:=by
 obtain ⟨x,h1,h2⟩:=Rdg.one h h0
 rwa [u8_eq h1 hc] at h2
theorem wrong_sound {s:RS}{e f:Nat} (he:e≠0) (h:(s.wrong e f).e=0):False:=wrong_ne he h
theorem digit_sound {t:List UInt8}{s:RS}{a:Nat} (h:(digitD t a s).2.e=0):∃ c:UInt8,Rdg t s [c] 0 (digitD t a s).2∧hexN c.toNat=some (digitD t a s).1:=by
 unfold digitD at h ⊢
 split at h
 ·rename_i h1
  rw [if_pos h1]
  obtain ⟨x,h2,h3⟩:=Rdg.one (t:=t) (s:=s) rfl (by intro e;rw [e] at h1;cases h1)
  exact ⟨x,h3,by rw [h2];unfold hexN;rw [if_pos h1]⟩
 ·rename_i h1
  rw [if_neg h1]
  split at h
  ·rename_i h4
   rw [if_pos h4]
   obtain ⟨x,h2,h3⟩:=Rdg.one (t:=t) (s:=s) rfl (by omega)
   exact ⟨x,h3,by rw [h2];unfold hexN;rw [if_neg h1,if_pos h4]⟩
  ·exact (wrong_sound (by decide) h).elim
theorem byte_sound {t:List UInt8}{s:RS} (h:(byteD t s).2.e=0):∃ l,Rdg t s l 0 (byteD t s).2∧DByte l (byteD t s).1:=by
 unfold byteD at h ⊢
 split at h
 ·rename_i h92
  rw [if_pos h92]
  have r0:=Rdg.lit 92 h92 (by decide) (by decide)
  have step:∀ c v:Nat,peekD t s.adv=c→c≠0→c<256→escN c=some v→∃ l,Rdg t s l 0 s.adv.adv∧DByte l v:=fun c v hc h0 hl hv =>
   ⟨_,r0.app (Rdg.lit c hc h0 hl),DByte.esc (by rw [UInt8.toNat_ofNat_of_lt' hl];exact hv)⟩
  unfold escD at h ⊢
  split at h
  ·rename_i e;rw [if_pos e];exact step _ _ e (by decide) (by decide) rfl
  ·rename_i e;rw [if_neg e]
   split at h
   ·rename_i e;rw [if_pos e];exact step _ _ e (by decide) (by decide) rfl
   ·rename_i e;rw [if_neg e]
    split at h
    ·rename_i e;rw [if_pos e];exact step _ _ e (by decide) (by decide) rfl
    ·rename_i e;rw [if_neg e]
     split at h
     ·rename_i e;rw [if_pos e];exact step _ _ e (by decide) (by decide) rfl
     ·rename_i e;rw [if_neg e]
      split at h
      ·rename_i e
       rw [if_pos e]
       have r1:=Rdg.lit 120 e (by decide) (by decide)
       have h1:(digitD t s.p s.adv.adv).2.e=0:=by
        by_cases hz:(digitD t s.p s.adv.adv).2.e=0
        ·exact hz
        ·exact absurd ((digit_keep hz).symm.trans h) hz
       obtain ⟨x,r2,hx⟩:=digit_sound h1
       obtain ⟨y,r3,hy⟩:=digit_sound h
       exact ⟨_,((r0.app r1).app r2).app r3,DByte.hex hx hy⟩
      ·rename_i e
       rw [if_neg e]
       dsimp only at h ⊢
       split at h
       ·exact (wrong_sound (by decide) h).elim
       ·rename_i hb
        rw [if_neg hb]
        obtain ⟨x,h2,h3⟩:=Rdg.one (t:=t) (s:=s.adv) rfl (by intro e;rw [e] at hb;exact hb (by decide))
        refine ⟨_,r0.app h3,?_⟩
        rw [←h2] at hb ⊢
        exact DByte.sign (by simpa using hb)
 ·rename_i h92
  rw [if_neg h92]
  split at h
  ·exact (wrong_sound (by decide) h).elim
  ·rename_i hb
   rw [if_neg hb]
   obtain ⟨x,h2,h3⟩:=Rdg.one (t:=t) (s:=s) rfl (by intro e;rw [e] at hb;exact hb (by decide))
   refine ⟨_,h3,?_⟩
   rw [←h2] at hb h92 ⊢
   exact DByte.plain h92 (by simpa using hb)
theorem back_e {α:Type}{f:RS→α × RS} (hk:∀ {s:RS},s.e≠0→(f s).2.e=s.e) {s:RS} (h:(f s).2.e=0):s.e=0:=by
 by_cases hz:s.e=0
 ·exact hz
 ·exact absurd ((hk hz).symm.trans h) hz
theorem pair_sound {t:List UInt8}{s:RS} (h:(pairD t s).2.e=0):∃ l,Rdg t s l 0 (pairD t s).2∧((pairD t s).1.1≤(pairD t s).1.2→DPair l (pairD t s).1.1 (pairD t s).1.2):=by
 unfold pairD at h ⊢
 split at h
 ·rename_i e
  rw [if_pos e]
  have h1:(byteD t s).2.e=0:=back_e (f:=fun s=>byteD t s) (fun h=>byte_keep h) (s:=(byteD t s).2.adv) h
  obtain ⟨l,r1,d1⟩:=byte_sound h1
  obtain ⟨m,r2,d2⟩:=byte_sound h
  exact ⟨_,(r1.app (Rdg.lit 45 e (by decide) (by decide))).app r2,fun hle=>by rw [List.append_assoc];exact .two d1 d2 hle⟩
 ·rename_i e
  rw [if_neg e]
  obtain ⟨l,r1,d1⟩:=byte_sound h
  exact ⟨l,r1,fun _=>.one d1⟩
theorem setL_sound {t:List UInt8}{a:Nat}:∀ {k:Nat}{z:SetD}{s:RS},(setL t a k z s).2.e=0→∃ l,Rdg t s l 0 (setL t a k z s).2∧DItems l z (setL t a k z s).1
 | 0,z,s,h=>⟨[],.nil h,.nil z⟩
 | k+1,z,s,h=>by
   have hs:s.e=0:=back_e (f:=fun s=>setL t a (k+1) z s) (fun h=>setL_keep h) h
   rw [setL] at h ⊢
   split at h
   ·rename_i h1
    rw [if_pos h1]
    split at h
    ·exact (wrong_sound (by decide) h).elim
    ·rename_i h2
     rw [if_neg h2]
     have h3:(if (pairD t s).1.2<(pairD t s).1.1 then (pairD t s).2.wrong 1 a else (pairD t s).2).e=0:=back_e (f:=fun s'=>setL t a k (z.or (rangeD (pairD t s).1.1 (pairD t s).1.2)) s') (fun h=>setL_keep h) h
     split at h3
     ·exact (wrong_sound (by decide) h3).elim
     ·rename_i h4
      rw [if_neg h4] at h ⊢
      obtain ⟨l,r1,d1⟩:=pair_sound h3
      obtain ⟨m,r2,d2⟩:=setL_sound h
      exact ⟨_,r1.app r2,.cons (d1 (by omega)) d2⟩
   ·rename_i h1
    rw [if_neg h1];exact ⟨[],.nil hs,.nil z⟩
theorem must_sound {t:List UInt8}{s:RS}{c:Nat} (h0:c≠0) (hc:c<256) (h:(mustS t c s).e=0):Rdg t s [UInt8.ofNat c] 0 (mustS t c s):=by
 unfold mustS at h ⊢
 split at h
 ·rename_i e;rw [if_pos e];exact Rdg.lit c e h0 hc
 ·exact (wrong_sound (by decide) h).elim
theorem set_sound {t:List UInt8}{a:Nat}{s:RS} (h:(setD t a s).2.e=0):∃ l,Rdg t s l 0 (setD t a s).2∧DSet l (setD t a s).1:=by
 unfold setD at h ⊢
 dsimp only at h ⊢
 split at h
 ·exact (wrong_sound (by decide) h).elim
 ·rename_i h1
  rw [if_neg h1]
  have hz:turnD (decide (peekD t s=94)) (setL t a (t.length+1) zeroS (eatS t 94 s)).1≠zeroS:=fun e=>h1 ⟨h,e⟩
  have r2:=must_sound (by decide) (by decide) h
  have h2:(setL t a (t.length+1) zeroS (eatS t 94 s)).2.e=0:=back_e (f:=fun s=>((),mustS t 93 s)) (fun h=>must_keep h) h
  obtain ⟨l,r1,d1⟩:=setL_sound h2
  by_cases e:peekD t s=94
  ·have he:eatS t 94 s=s.adv:=by unfold eatS;rw [if_pos e]
   rw [he] at r1 r2 d1 hz ⊢
   rw [decide_eq_true e] at hz ⊢
   exact ⟨_,((Rdg.lit 94 e (by decide) (by decide)).app (r1.app r2)),.neg d1 hz⟩
  ·have he:eatS t 94 s=s:=by unfold eatS;rw [if_neg e]
   rw [he] at r1 r2 d1 hz ⊢
   rw [decide_eq_false e] at hz ⊢
   exact ⟨_,r1.app r2,.pos d1 hz⟩
theorem digs_all:∀ (l:List UInt8),∀ c∈digsOf l,isDig c.toNat=true
 | [],c,h=>by cases h
 | x::l,c,h=>by
   unfold digsOf at h
   rw [List.takeWhile_cons] at h
   split at h
   ·rename_i h1
    rcases List.mem_cons.1 h with rfl|h
    ·exact h1
    ·exact digs_all l c h
   ·cases h
theorem count_sound {t:List UInt8}{s:RS} (h0:s.e=0) (h:(countD t s).2.e=0):∃ l,Rdg t s l 0 (countD t s).2∧DNum l (countD t s).1:=by
 unfold countD at h ⊢
 dsimp only at h ⊢
 split at h
 ·exact (wrong_sound (by decide) h).elim
 ·rename_i h1
  rw [if_neg h1]
  split at h
  ·exact (wrong_sound (by decide) h).elim
  ·rename_i h2
   rw [if_neg h2]
   refine ⟨digsOf (t.drop s.p),⟨?_,?_⟩,digs_all _,by simpa using h1,rfl,by omega⟩
   ·obtain ⟨p,n,e,f⟩:=s;cases h0;rfl
   ·have h3:t.drop s.p=digsOf (t.drop s.p)++(t.drop s.p).dropWhile (fun c=>isDig c.toNat):=List.takeWhile_append_dropWhile.symm
    rw [drop_app h3];exact h3
theorem counts_sound {t:List UInt8}{s:RS} (h0:s.e=0) (h:(countsD t s).2.e=0):∃ l,Rdg t s l 0 (countsD t s).2∧DCount l ((countsD t s).1.1:Int) (countsD t s).1.2:=by
 unfold countsD at h ⊢
 dsimp only at h ⊢
 have hmk:∀ {s:RS},(mustS t 125 s).e=0→s.e=0:=fun h=>back_e (f:=fun s=>((),mustS t 125 s)) (fun h=>must_keep h) h
 by_cases e:peekD t (countD t s).2=44
 ·rw [if_pos e] at h ⊢
  by_cases e2:peekD t (countD t s).2.adv=125
  ·rw [if_pos e2] at h ⊢
   dsimp only at h ⊢
   split at h
   ·exact (wrong_sound (by decide) h).elim
   ·rename_i h1
    rw [if_neg h1]
    obtain ⟨l,r1,d1⟩:=count_sound h0 (hmk (s:=(countD t s).2.adv) h)
    exact ⟨_,(r1.app (Rdg.lit 44 e (by decide) (by decide))).app (must_sound (by decide) (by decide) h),by rw [List.append_assoc];exact .up d1⟩
  ·rw [if_neg e2] at h ⊢
   dsimp only at h ⊢
   split at h
   ·exact (wrong_sound (by decide) h).elim
   ·rename_i h1
    rw [if_neg h1]
    have h3:(countD t s).2.e=0:=(peek_some (t:=t) (s:=(countD t s).2) (by rw [e];decide)).1
    obtain ⟨l,r1,d1⟩:=count_sound h0 h3
    obtain ⟨m,r2,d2⟩:=count_sound (s:=(countD t s).2.adv) h3 (hmk h)
    exact ⟨_,((r1.app (Rdg.lit 44 e (by decide) (by decide))).app r2).app (must_sound (by decide) (by decide) h),by rw [List.append_assoc,List.append_assoc];exact .both d1 d2 (by omega)⟩
 ·rw [if_neg e] at h ⊢
  dsimp only at h ⊢
  split at h
  ·exact (wrong_sound (by decide) h).elim
  ·rename_i h1
   rw [if_neg h1]
   obtain ⟨l,r1,d1⟩:=count_sound h0 (hmk h)
   exact ⟨_,r1.app (must_sound (by decide) (by decide) h),.just d1⟩
theorem sizeD_one (z:SetD):sizeD (oneD z)=1:=by rw [oneD,sizeD,sizeK]
theorem sizeD_empty:sizeD emptyD=1:=by rw [emptyD,sizeD,sizeK]
theorem node_sound {t:List UInt8}{s:RS} (h:(nodeS s).e=0):Rdg t s [] 1 (nodeS s)∧s.e=0:=by
 have h0:s.e=0:=back_e (f:=fun s=>((),nodeS s)) (fun h=>node_keep h) h
 unfold nodeS at h ⊢
 split at h
 ·exact (wrong_sound (by decide) h).elim
 ·rename_i h1
  rw [if_neg h1]
  refine ⟨⟨?_,rfl⟩,h0⟩
  obtain ⟨p,n,e,f⟩:=s;cases h0;rfl
section
variable {t:List UInt8}{alt:RS→RgD × RS}{A:List UInt8→RgD→Prop}
theorem repL_sound:∀ {k:Nat}{n:RgD}{s:RS},(repL t k n s).2.e=0→∃ m j,Rdg t s m j (repL t k n s).2∧sizeD (repL t k n s).1=sizeD n+j∧∀ l,DPiece A l n→DPiece A (l++m) (repL t k n s).1
 | 0,n,s,h=>⟨[],0,.nil h,rfl,fun l hl=>by rw [List.append_nil];exact hl⟩
 | k+1,n,s,h=>by
   have hs:s.e=0:=back_e (f:=fun s=>repL t (k+1) n s) (fun h=>by rw [repL_keep h]) h
   have key:∀ {s1:RS}{m1:List UInt8}{a b:Int},Rdg t s m1 0 s1→DRep m1 a b→(repL t k (repD n a b) (nodeS s1)).2.e=0 →
     ∃ m j,Rdg t s m j (repL t k (repD n a b) (nodeS s1)).2∧sizeD (repL t k (repD n a b) (nodeS s1)).1=sizeD n+j∧∀ l,DPiece A l n→DPiece A (l++m) (repL t k (repD n a b) (nodeS s1)).1:=fun {s1 m1 a b} r1 d1 h=>by
    have h2:(nodeS s1).e=0:=back_e (f:=fun s=>repL t k (repD n a b) s) (fun h=>by rw [repL_keep h]) h
    obtain ⟨r2,_⟩:=node_sound (t:=t) h2
    obtain ⟨m,j,r3,h4,h5⟩:=repL_sound h
    refine ⟨m1++m,1+j,?_,by rw [h4,sizeD_rep];omega,fun l hl=>by rw [←List.append_assoc];exact h5 _ (.rep hl d1)⟩
    have:=(r1.app r2).app r3
    rw [List.append_nil] at this
    simpa using this
   rw [repL] at h ⊢
   split at h
   ·rename_i e;rw [if_pos e];exact key (Rdg.lit 42 e (by decide) (by decide)) .star h
   ·rename_i e;rw [if_neg e]
    split at h
    ·rename_i e;rw [if_pos e];exact key (Rdg.lit 43 e (by decide) (by decide)) .plus h
    ·rename_i e;rw [if_neg e]
     split at h
     ·rename_i e;rw [if_pos e];exact key (Rdg.lit 63 e (by decide) (by decide)) .opt h
     ·rename_i e;rw [if_neg e]
      split at h
      ·rename_i e
       rw [if_pos e]
       have h2:(nodeS (countsD t s.adv).2).e=0:=back_e (f:=fun s'=>repL t k (repD n (countsD t s.adv).1.1 (countsD t s.adv).1.2) s') (fun h=>by rw [repL_keep h]) h
       obtain ⟨m,r2,d2⟩:=counts_sound (t:=t) (s:=s.adv) hs (node_sound (t:=t) h2).2
       exact key ((Rdg.lit 123 e (by decide) (by decide)).app r2) (.count d2) h
      ·rename_i e
       rw [if_neg e]
       exact ⟨[],0,.nil hs,rfl,fun l hl=>by rw [List.append_nil];exact hl⟩
structure AltS (t:List UInt8) (alt:RS→RgD × RS) (A:List UInt8→RgD→Prop):Prop where
 run:∀ {s:RS},(alt s).2.e=0→∃ l,Rdg t s l (sizeD (alt s).1) (alt s).2∧A l (alt s).1
 keep:∀ {s:RS},s.e≠0→(alt s).2.e=s.e
theorem atom_sound (ha:AltS t alt A) {s:RS} (h:(atomD t alt s).2.e=0):∃ l,Rdg t s l (sizeD (atomD t alt s).1) (atomD t alt s).2∧DAtom A l (atomD t alt s).1:=by
 unfold atomD at h ⊢
 split at h
 ·rename_i e
  rw [if_pos e]
  have rm:=must_sound (by decide) (by decide) h
  obtain ⟨l,r1,d1⟩:=ha.run (back_e (f:=fun s=>((),mustS t 41 s)) (fun h=>must_keep h) h)
  refine ⟨_,?_,.paren d1⟩
  have:=(Rdg.lit 40 e (by decide) (by decide)).app (r1.app rm)
  simpa using this
 ·rename_i e;rw [if_neg e]
  split at h
  ·rename_i e
   rw [if_pos e]
   obtain ⟨r2,_⟩:=node_sound (t:=t) h
   exact ⟨_,(Rdg.lit 46 e (by decide) (by decide)).app r2,.any⟩
  ·rename_i e46;rw [if_neg e46]
   split at h
   ·rename_i e
    rw [if_pos e]
    obtain ⟨r2,h3⟩:=node_sound (t:=t) h
    obtain ⟨l,r1,d1⟩:=set_sound h3
    refine ⟨91::l,?_,.set d1⟩
    have:=((Rdg.lit 91 e (by decide) (by decide)).app r1).app r2
    simpa [sizeD_one] using this
   ·rename_i e
    rw [if_neg e]
    obtain ⟨r2,h3⟩:=node_sound (t:=t) h
    obtain ⟨l,r1,d1⟩:=byte_sound h3
    refine ⟨l,?_,.byte d1 (fun e2=>?_)⟩
    ·have:=r1.app r2
     simpa [sizeD_one] using this
    ·subst e2
     have h5:s.e=0:=back_e (f:=fun s=>byteD t s) (fun h=>byte_keep h) h3
     exact e46 (peek_at h5 r1.2)
theorem piece_sound (ha:AltS t alt A) {s:RS} (h:(pieceD t alt s).2.e=0):∃ l,Rdg t s l (sizeD (pieceD t alt s).1) (pieceD t alt s).2∧DPiece A l (pieceD t alt s).1:=by
 unfold pieceD at h ⊢
 have h1:(atomD t alt s).2.e=0:=back_e (f:=fun s'=>repL t (t.length+1) (atomD t alt s).1 s') (fun h=>by rw [repL_keep h]) h
 obtain ⟨l,r1,d1⟩:=atom_sound ha h1
 obtain ⟨m,j,r2,e2,d2⟩:=repL_sound (A:=A) h
 exact ⟨_,by rw [e2];exact r1.app r2,d2 _ (.atom d1)⟩
theorem catL_sound (ha:AltS t alt A):∀ {k:Nat}{acc:List RgD}{s:RS},(catL t alt k acc s).2.e=0→∃ l ns,Rdg t s l (sizeK ns) (catL t alt k acc s).2∧(catL t alt k acc s).1=acc++ns∧DPieces A l ns
 | 0,acc,s,h=>⟨[],[],.nil h,by rw [List.append_nil];rfl,.nil⟩
 | k+1,acc,s,h=>by
   have hs:s.e=0:=back_e (f:=fun s=>catL t alt (k+1) acc s) (fun h=>by rw [catL_keep h]) h
   rw [catL] at h ⊢
   split at h
   ·rename_i e
    rw [if_pos e]
    have h1:(pieceD t alt s).2.e=0:=back_e (f:=fun s'=>catL t alt k (acc++[(pieceD t alt s).1]) s') (fun h=>by rw [catL_keep h]) h
    obtain ⟨l,r1,d1⟩:=piece_sound ha h1
    obtain ⟨m,ns,r2,e2,d2⟩:=catL_sound ha h
    exact ⟨_,_,by rw [sizeK];exact r1.app r2,by rw [e2];simp,.cons d1 d2⟩
   ·rename_i e
    rw [if_neg e];exact ⟨[],[],.nil hs,by rw [List.append_nil],.nil⟩
theorem cat_sound (ha:AltS t alt A) {s:RS} (h:(catD t alt s).2.e=0):∃ l,Rdg t s l (sizeD (catD t alt s).1) (catD t alt s).2∧DCat A l (catD t alt s).1:=by
 unfold catD at h ⊢
 have h1:(catL t alt (t.length+1) [] s).2.e=0:=by
  by_cases hz:(catL t alt (t.length+1) [] s).2.e=0
  ·exact hz
  ·exact absurd ((catOf_keep (l:=(catL t alt (t.length+1) [] s).1) hz).symm.trans h) hz
 obtain ⟨l,ns,r1,e1,d1⟩:=catL_sound ha h1
 rw [List.nil_append] at e1
 generalize catL t alt (t.length+1) [] s=x at h h1 r1 e1
 obtain ⟨x1,x2⟩:=x
 dsimp only at e1 r1 h1
 subst e1
 match x1,d1 with
 | [],d1 =>
   obtain ⟨r2,_⟩:=node_sound (t:=t) (s:=x2) h
   exact ⟨l,by show Rdg t s l (sizeD emptyD) (nodeS x2);have:=r1.app r2;rwa [List.append_nil,sizeK,Nat.zero_add,←sizeD_empty] at this,[],d1,rfl⟩
 | [x],d1=>exact ⟨l,by have:=r1;rw [sizeK,sizeK] at this;exact this,[x],d1,rfl⟩
 | x::y::q,d1 =>
   obtain ⟨r2,_⟩:=node_sound (t:=t) (s:=x2) h
   exact ⟨l,by have:=r1.app r2;rw [List.append_nil] at this;exact this,x::y::q,d1,rfl⟩
theorem altL_sound (ha:AltS t alt A):∀ {k:Nat}{acc:List RgD}{s:RS},(altL t alt k acc s).2.e=0→∃ l ns,Rdg t s l (sizeK ns) (altL t alt k acc s).2∧(altL t alt k acc s).1=acc++ns∧∀ m n,DCat A m n→DCats A (m++l) (n::ns)
 | 0,acc,s,h=>⟨[],[],.nil h,by rw [List.append_nil];rfl,fun m n hm=>by rw [List.append_nil];exact .one hm⟩
 | k+1,acc,s,h=>by
   have hs:s.e=0:=back_e (f:=fun s=>altL t alt (k+1) acc s) (fun h=>by rw [altL_keep h]) h
   rw [altL] at h ⊢
   split at h
   ·rename_i e
    rw [if_pos e]
    have h1:(catD t alt s.adv).2.e=0:=back_e (f:=fun s'=>altL t alt k (acc++[(catD t alt s.adv).1]) s') (fun h=>by rw [altL_keep h]) h
    obtain ⟨l,r1,d1⟩:=cat_sound ha h1
    obtain ⟨m,ns,r2,e2,d2⟩:=altL_sound ha h
    refine ⟨[UInt8.ofNat 124]++l++m,(catD t alt s.adv).1::ns,by rw [sizeK];have:=((Rdg.lit 124 e (by decide) (by decide)).app r1).app r2;rw [Nat.zero_add] at this;exact this,by rw [e2];simp,fun m' n' hm=>?_⟩
    exact .cons hm (d2 _ _ d1)
   ·rename_i e
    rw [if_neg e];exact ⟨[],[],.nil hs,by rw [List.append_nil],fun m n hm=>by rw [List.append_nil];exact .one hm⟩
end
theorem alt_sound {t:List UInt8}:∀ {d:Nat}{s:RS},(altD t d s).2.e=0→∃ l,Rdg t s l (sizeD (altD t d s).1) (altD t d s).2∧DAlt d l (altD t d s).1
 | 0,s,h=>(wrong_sound (s:=s) (by decide) h).elim
 | d+1,s,h=>by
   have ha:AltS t (altD t d) (DAlt d):=⟨fun h=>alt_sound h,fun h=>alt_keep h⟩
   rw [altD] at h ⊢
   have h1:(altL t (altD t d) (t.length+1) [(catD t (altD t d) s).1] (catD t (altD t d) s).2).2.e=0:=by
    by_cases hz:(altL t (altD t d) (t.length+1) [(catD t (altD t d) s).1] (catD t (altD t d) s).2).2.e=0
    ·exact hz
    ·exact absurd ((altOf_keep (l:=(altL t (altD t d) (t.length+1) [(catD t (altD t d) s).1] (catD t (altD t d) s).2).1) hz).symm.trans h) hz
   have h2:(catD t (altD t d) s).2.e=0:=back_e (f:=fun s'=>altL t (altD t d) (t.length+1) [(catD t (altD t d) s).1] s') (fun h=>by rw [altL_keep h]) h1
   obtain ⟨l,r1,d1⟩:=cat_sound ha h2
   obtain ⟨m,ns,r2,e2,d2⟩:=altL_sound ha h1
   have hd:=d2 _ _ d1
   have hr:=r1.app r2
   generalize altL t (altD t d) (t.length+1) [(catD t (altD t d) s).1] (catD t (altD t d) s).2=x at h h1 hr e2
   obtain ⟨x1,x2⟩:=x
   dsimp only at e2 hr h1
   subst e2
   match ns,hd,hr with
   | [],hd,hr=>exact ⟨_,by rw [sizeK] at hr;exact hr,_,hd,rfl⟩
   | y::q,hd,hr =>
     obtain ⟨r3,_⟩:=node_sound (t:=t) (s:=x2) h
     exact ⟨_,by have:=hr.app r3;rw [List.append_nil] at this;exact this,_,hd,rfl⟩
end Go.Proofs.YtficlekgjbnniaaGreatDoor
namespace Go.Proofs.YtficlekgjbnniaaGreatDoor
open Go Go.E
def Known (e:Nat):Prop:=e=1∨e=2∨e=5∨e=6∨e=160
structure Inv (t:List UInt8) (s:RS):Prop where
 p0:s.e=0→s.p≤t.length
 p:s.p≤t.length+2
 f:s.f≤t.length
 e:s.e=0∨Known s.e
section
variable {t:List UInt8}{s:RS}
theorem Inv.wrong (h:Inv t s) {e f:Nat} (he:Known e) (hf:s.e=0→f≤t.length):Inv t (s.wrong e f):=by
 unfold RS.wrong
 split
 ·rename_i h0;exact ⟨fun h=>by unfold Known at he;dsimp only at h;omega,h.p,hf h0,.inr he⟩
 ·exact h
theorem peek_pos (h:peekD t s≠0):s.e=0∧s.p<t.length:=by
 unfold peekD at h
 split at h
 ·rename_i h1;exact ⟨h1.2,h1.1⟩
 ·exact absurd rfl h
theorem Inv.adv (h:Inv t s) (hp:peekD t s≠0):Inv t s.adv:=by
 have:=peek_pos hp
 exact ⟨fun _=>this.2,by show s.p+1≤_;omega,h.f,h.e⟩
theorem Inv.advW (h:Inv t s) (hp:s.p≤t.length+1) {a:Nat} (ha:a≤t.length):Inv t (s.adv.wrong 5 a):=by
 unfold RS.wrong
 split
 ·exact ⟨fun h=>(by cases h),by show s.p+1≤_;omega,ha,.inr (.inr (.inr (.inl rfl)))⟩
 ·rename_i h0;exact ⟨fun h=>absurd h h0,by show s.p+1≤_;omega,h.f,h.e⟩
theorem Inv.digit (h:Inv t s) (hp:s.p≤t.length+1) {a:Nat} (ha:a≤t.length):Inv t (digitD t a s).2:=by
 unfold digitD
 split
 ·rename_i h1;exact h.adv (by intro e;rw [e] at h1;cases h1)
 ·split
  ·exact h.adv (by omega)
  ·exact h.advW hp ha
theorem digit_p {a:Nat}:(digitD t a s).2.p=s.p+1:=by
 unfold digitD
 split
 ·rfl
 ·split
  ·rfl
  ·unfold RS.wrong;split<;>rfl
theorem Inv.esc (h:Inv t s) (hp:s.p≤t.length) {a:Nat} (ha:a≤t.length):Inv t (escD t a s).2:=by
 unfold escD
 split
 ·exact h.adv (by omega)
 ·split
  ·exact h.adv (by omega)
  ·split
   ·exact h.adv (by omega)
   ·split
    ·exact h.adv (by omega)
    ·split
     ·have h1:=h.adv (by omega)
      have hq:s.adv.p≤t.length:=(peek_pos (t:=t) (s:=s) (by omega)).2
      exact (h1.digit (by omega) ha).digit (by rw [digit_p];omega) ha
     ·dsimp only
      split
      ·exact h.advW (by omega) ha
      ·rename_i hb;exact h.adv (by intro e;rw [e] at hb;exact hb (by decide))
theorem Inv.byte (h:Inv t s):Inv t (byteD t s).2:=by
 unfold byteD
 split
 ·rename_i e
  have hp:=peek_pos (t:=t) (s:=s) (by rw [e];decide)
  exact (h.adv (by rw [e];decide)).esc (by show s.p+1≤_;omega) (by omega)
 ·split
  ·exact h.wrong (.inr (.inr (.inl rfl))) h.p0
  ·rename_i hb;exact h.adv (by intro e;rw [e] at hb;exact hb (by decide))
theorem Inv.pair (h:Inv t s):Inv t (pairD t s).2:=by
 unfold pairD
 split
 ·rename_i e;exact (h.byte.adv (by rw [e];decide)).byte
 ·exact h.byte
theorem Inv.ite {c:Prop} [Decidable c] {a b:RS} (ha:c→Inv t a) (hb:¬c→Inv t b):Inv t (if c then a else b):=by split<;>(first|exact ha (by assumption)|exact hb (by assumption))
theorem Inv.pairs {a:Nat} (ha:a≤t.length):∀ {k:Nat}{z:SetD}{s:RS},Inv t s→Inv t (setL t a k z s).2
 | 0,z,s,h=>h
 | k+1,z,s,h=>by
   rw [setL]
   split
   ·split
    ·exact h.wrong (.inr (.inr (.inl rfl))) h.p0
    ·exact Inv.pairs ha (Inv.ite (fun _=>h.pair.wrong (.inl rfl) (fun _=>ha)) (fun _=>h.pair))
   ·exact h
theorem Inv.eat (h:Inv t s) {c:Nat} (hc:c≠0):Inv t (eatS t c s):=by
 unfold eatS
 split
 ·rename_i e;exact h.adv (by rw [e];exact hc)
 ·exact h
theorem Inv.must (h:Inv t s) {c:Nat} (hc:c≠0):Inv t (mustS t c s):=by
 unfold mustS
 split
 ·rename_i e;exact h.adv (by rw [e];exact hc)
 ·exact h.wrong (.inr (.inr (.inl rfl))) h.p0
theorem Inv.set (h:Inv t s) {a:Nat} (ha:a≤t.length):Inv t (setD t a s).2:=by
 have h1:=(Inv.pairs (a:=a) ha (k:=t.length+1) (z:=zeroS) (h.eat (c:=94) (by decide))).must (c:=93) (by decide)
 unfold setD
 exact Inv.ite (fun _=>h1.wrong (.inr (.inr (.inr (.inr rfl)))) (fun _=>ha)) (fun _=>h1)
theorem Inv.node (h:Inv t s):Inv t (nodeS s):=by
 unfold nodeS
 have h1:Inv t { s with n:=s.n+1 }:=⟨h.p0,h.p,h.f,h.e⟩
 exact Inv.ite (fun _=>h1.wrong (.inr (.inl rfl)) (fun e=>h.p0 e)) (fun _=>h1)
theorem digs_le (l:List UInt8):(digsOf l).length≤l.length:=List.takeWhile_sublist _ |>.length_le
theorem Inv.count (h:Inv t s) (hp:s.p≤t.length):Inv t (countD t s).2:=by
 have hl:=digs_le (t.drop s.p)
 rw [List.length_drop] at hl
 have h1:Inv t { s with p:=s.p+(digsOf (t.drop s.p)).length }:=⟨fun _=>by dsimp only;omega,by dsimp only;omega,h.f,h.e⟩
 unfold countD
 dsimp only
 split
 ·exact h1.wrong (.inr (.inr (.inl rfl))) (fun _=>hp)
 ·split
  ·exact h1.wrong (.inl rfl) (fun _=>hp)
  ·exact h1
theorem Inv.counts (h:Inv t s) (hp:s.p≤t.length):Inv t (countsD t s).2:=by
 have h1:=h.count hp
 unfold countsD
 dsimp only
 have h2:Inv t (if peekD t (countD t s).2=44 then (if peekD t (countD t s).2.adv=125 then ((-1:Int),(countD t s).2.adv) else (((countD t (countD t s).2.adv).1:Int),(countD t (countD t s).2.adv).2)) else (((countD t s).1:Int),(countD t s).2)).2:=by
  split
  ·rename_i e
   have h3:=h1.adv (by rw [e];decide)
   split
   ·exact h3
   ·exact h3.count (peek_pos (t:=t) (s:=(countD t s).2) (by rw [e];decide)).2
  ·exact h1
 exact Inv.ite (fun _=>(h2.must (by decide)).wrong (.inl rfl) (fun _=>hp)) (fun _=>h2.must (by decide))
theorem Inv.rep:∀ {k:Nat}{n:RgD}{s:RS},Inv t s→Inv t (repL t k n s).2
 | 0,n,s,h=>h
 | k+1,n,s,h=>by
   rw [repL]
   split
   ·rename_i e;exact Inv.rep (h.adv (by rw [e];decide)).node
   ·split
    ·rename_i e;exact Inv.rep (h.adv (by rw [e];decide)).node
    ·split
     ·rename_i e;exact Inv.rep (h.adv (by rw [e];decide)).node
     ·split
      ·rename_i e;exact Inv.rep ((h.adv (by rw [e];decide)).counts (peek_pos (t:=t) (s:=s) (by rw [e];decide)).2).node
      ·exact h
end
section
variable {t:List UInt8}{alt:RS→RgD × RS} (ha:∀ {s:RS},Inv t s→s.e=0→Inv t (alt s).2)
include ha
theorem Inv.atom {s:RS} (h:Inv t s) (h0:s.e=0):Inv t (atomD t alt s).2:=by
 unfold atomD
 split
 ·rename_i e;exact (ha (h.adv (by rw [e];decide)) h0).must (by decide)
 ·split
  ·rename_i e;exact (h.adv (by rw [e];decide)).node
  ·split
   ·rename_i e;exact ((h.adv (by rw [e];decide)).set (h.p0 h0)).node
   ·exact h.byte.node
theorem Inv.piece {s:RS} (h:Inv t s) (h0:s.e=0):Inv t (pieceD t alt s).2:=Inv.rep (h.atom ha h0)
theorem Inv.cats1:∀ {k:Nat}{l:List RgD}{s:RS},Inv t s→Inv t (catL t alt k l s).2
 | 0,l,s,h=>h
 | k+1,l,s,h=>by
   rw [catL]
   split
   ·rename_i e;exact Inv.cats1 (h.piece ha (peek_pos e.1).1)
   ·exact h
theorem Inv.cat {s:RS} (h:Inv t s):Inv t (catD t alt s).2:=by
 unfold catD
 have h1:=Inv.cats1 ha (k:=t.length+1) (l:=[]) h
 generalize catL t alt (t.length+1) [] s=x at h1
 unfold catOf
 split
 ·exact h1.node
 ·exact h1
 ·exact h1.node
theorem Inv.alts:∀ {k:Nat}{l:List RgD}{s:RS},Inv t s→Inv t (altL t alt k l s).2
 | 0,l,s,h=>h
 | k+1,l,s,h=>by
   rw [altL]
   split
   ·rename_i e;exact Inv.alts ((h.adv (by rw [e];decide)).cat ha)
   ·exact h
end
theorem Inv.alt {t:List UInt8}:∀ {d:Nat}{s:RS},Inv t s→Inv t (altD t d s).2
 | 0,s,h=>h.wrong (.inr (.inr (.inr (.inl rfl)))) h.p0
 | d+1,s,h=>by
   have h1:=Inv.alts (fun {s} h _=>Inv.alt (d:=d) h) (k:=t.length+1) (l:=[(catD t (altD t d) s).1]) (h.cat (fun {s} h _=>Inv.alt (d:=d) h))
   unfold altD
   generalize altL t (altD t d) (t.length+1) [(catD t (altD t d) s).1] (catD t (altD t d) s).2=x at h1
   unfold altOf
   split
   ·exact h1
   ·exact h1.node
end Go.Proofs.YtficlekgjbnniaaGreatDoor
namespace Go.Proofs.YtficlekgjbnniaaGreatDoor
open Go Go.E
structure NB (B:Nat) (s:RS):Prop where
 n0:s.e=0→s.n≤512
 n:s.n≤B
section
variable {t:List UInt8}{s:RS}{B:Nat}
theorem wrong_n (s:RS) (e f:Nat):(s.wrong e f).n=s.n:=by unfold RS.wrong;split<;>rfl
theorem NB.wrong (h:NB B s) {e f:Nat} (he:e≠0):NB B (s.wrong e f):=⟨fun h2=>(wrong_ne he h2).elim,by rw [wrong_n];exact h.n⟩
theorem NB.le (h:NB B s) {C:Nat} (hc:B≤C):NB C s:=⟨h.n0,Nat.le_trans h.n hc⟩
theorem NB.node (h:NB B s):NB (B+1) (nodeS s):=by
 have:=h.n
 unfold nodeS
 split
 ·exact ⟨fun h2=>(wrong_ne (by decide) h2).elim,by rw [wrong_n];dsimp only;omega⟩
 ·exact ⟨fun _=>by dsimp only;omega,by dsimp only;omega⟩
theorem digit_n {a:Nat}:(digitD t a s).2.n=s.n:=by
 unfold digitD
 repeat' split
 all_goals first|rfl|exact wrong_n s.adv _ _
theorem esc_n {a:Nat}:(escD t a s).2.n=s.n:=by
 unfold escD
 repeat' split
 all_goals first|rfl|exact wrong_n s.adv _ _|(dsimp only;rw [digit_n,digit_n];rfl)|skip
theorem byte_n:(byteD t s).2.n=s.n:=by
 unfold byteD
 repeat' split
 all_goals first|rfl|exact wrong_n s _ _|(rw [esc_n];rfl)
theorem pair_n:(pairD t s).2.n=s.n:=by
 unfold pairD
 split
 ·dsimp only;rw [byte_n];exact byte_n
 ·exact byte_n
theorem setL_n {a:Nat}:∀ {k:Nat}{z:SetD}{s:RS},(setL t a k z s).2.n=s.n
 | 0,z,s=>rfl
 | k+1,z,s=>by
   rw [setL]
   split
   ·split
    ·exact wrong_n s _ _
    ·rw [setL_n]
     split
     ·rw [wrong_n,pair_n]
     ·exact pair_n
   ·rfl
theorem must_n {c:Nat}:(mustS t c s).n=s.n:=by
 unfold mustS
 split
 ·rfl
 ·exact wrong_n s _ _
theorem eat_n {c:Nat}:(eatS t c s).n=s.n:=by
 unfold eatS
 split<;>rfl
theorem set_n {a:Nat}:(setD t a s).2.n=s.n:=by
 unfold setD
 dsimp only
 split
 ·rw [wrong_n,must_n,setL_n,eat_n]
 ·rw [must_n,setL_n,eat_n]
theorem count_n:(countD t s).2.n=s.n:=by
 unfold countD
 dsimp only
 repeat' split
 all_goals first|rfl|exact wrong_n _ _ _
theorem counts_n:(countsD t s).2.n=s.n:=by
 unfold countsD
 dsimp only
 have h:(if peekD t (countD t s).2=44 then (if peekD t (countD t s).2.adv=125 then ((-1:Int),(countD t s).2.adv) else (((countD t (countD t s).2.adv).1:Int),(countD t (countD t s).2.adv).2)) else (((countD t s).1:Int),(countD t s).2)).2.n=s.n:=by
  split
  ·split
   ·exact count_n
   ·dsimp only;rw [count_n];exact count_n
  ·exact count_n
 generalize (if peekD t (countD t s).2=44 then (if peekD t (countD t s).2.adv=125 then ((-1:Int),(countD t s).2.adv) else (((countD t (countD t s).2.adv).1:Int),(countD t (countD t s).2.adv).2)) else (((countD t s).1:Int),(countD t s).2))=x at h
 split
 ·rw [wrong_n,must_n,h]
 ·rw [must_n,h]
theorem NB.of (h:NB B s) {s':RS} (hn:s'.n=s.n) (hk:s'.e=0→s.e=0):NB B s':=⟨fun h2=>by rw [hn];exact h.n0 (hk h2),by rw [hn];exact h.n⟩
theorem NB.small (h:NB B s) (h0:s.e=0) {s':RS} (hn:s'.n=s.n):NB 513 (nodeS s'):=by
 have h1:=h.n0 h0
 have:NB 512 s':=⟨fun _=>by omega,by omega⟩
 exact this.node
theorem NB.rep (hB:513≤B):∀ {k:Nat}{n:RgD}{s:RS},NB B s→NB B (repL t k n s).2
 | 0,n,s,h=>h
 | k+1,n,s,h=>by
   rw [repL]
   split
   ·rename_i e;exact NB.rep hB ((h.small (peek_pos (t:=t) (s:=s) (by rw [e];decide)).1 (s':=s.adv) rfl).le hB)
   ·split
    ·rename_i e;exact NB.rep hB ((h.small (peek_pos (t:=t) (s:=s) (by rw [e];decide)).1 (s':=s.adv) rfl).le hB)
    ·split
     ·rename_i e;exact NB.rep hB ((h.small (peek_pos (t:=t) (s:=s) (by rw [e];decide)).1 (s':=s.adv) rfl).le hB)
     ·split
      ·rename_i e;exact NB.rep hB ((h.small (peek_pos (t:=t) (s:=s) (by rw [e];decide)).1 (s':=(countsD t s.adv).2) counts_n).le hB)
      ·exact h
end
section
variable {t:List UInt8}{alt:RS→RgD × RS}{B C:Nat} (hB:513≤B) (ha:∀ {s:RS},s.e=0→s.n≤512→NB B (alt s).2)
include hB ha
theorem NB.atom {s:RS} (h0:s.e=0) (hn:s.n≤512):NB B (atomD t alt s).2:=by
 have h:NB 512 s:=⟨fun _=>hn,hn⟩
 unfold atomD
 split
 ·have h1:=ha (s:=s.adv) h0 hn
  exact h1.of must_n (fun h2=>back_e (f:=fun s=>((),mustS t 41 s)) (fun h=>must_keep h) h2)
 ·split
  ·exact (h.small h0 (s':=s.adv) rfl).le hB
  ·split
   ·exact (h.small h0 (s':=(setD t s.p s.adv).2) set_n).le hB
   ·exact (h.small h0 (s':=(byteD t s).2) byte_n).le hB
theorem NB.piece {s:RS} (h0:s.e=0) (hn:s.n≤512):NB B (pieceD t alt s).2:=NB.rep hB (NB.atom hB ha h0 hn)
theorem NB.cats1:∀ {k:Nat}{l:List RgD}{s:RS},NB B s→NB B (catL t alt k l s).2
 | 0,l,s,h=>h
 | k+1,l,s,h=>by
   rw [catL]
   split
   ·rename_i e
    have h0:=(peek_pos e.1).1
    exact NB.cats1 (NB.piece hB ha h0 (h.n0 h0))
   ·exact h
theorem NB.cat {s:RS} (h:NB B s):NB (B+1) (catD t alt s).2:=by
 unfold catD
 have h1:=NB.cats1 (t:=t) hB ha (k:=t.length+1) (l:=[]) h
 generalize catL t alt (t.length+1) [] s=x at h1
 unfold catOf
 split
 ·exact h1.node
 ·exact h1.le (by omega)
 ·exact h1.node
theorem NB.alts:∀ {k:Nat}{l:List RgD}{s:RS},NB (B+1) s→NB (B+1) (altL t alt k l s).2
 | 0,l,s,h=>h
 | k+1,l,s,h=>by
   rw [altL]
   split
   ·rename_i e
    have h0:=(peek_pos (t:=t) (s:=s) (by rw [e];decide)).1
    exact NB.alts (NB.cat hB ha (s:=s.adv) ⟨fun _=>h.n0 h0,Nat.le_trans (h.n0 h0) (by omega)⟩)
   ·exact h
end
theorem NB.alt {t:List UInt8}:∀ {d:Nat}{s:RS},s.e=0→s.n≤512→NB (513+2*d) (altD t d s).2
 | 0,s,h0,hn=>by
   have h:NB 513 s:=⟨fun _=>hn,by omega⟩
   exact h.wrong (by decide)
 | d+1,s,h0,hn=>by
   have ha:∀ {s:RS},s.e=0→s.n≤512→NB (513+2*d) (altD t d s).2:=fun h0 hn=>NB.alt h0 hn
   have h:NB (513+2*d) s:=⟨fun _=>hn,by omega⟩
   have h1:=NB.alts (t:=t) (by omega) ha (k:=t.length+1) (l:=[(catD t (altD t d) s).1]) (NB.cat (t:=t) (s:=s) (by omega) ha h)
   unfold altD
   generalize altL t (altD t d) (t.length+1) [(catD t (altD t d) s).1] (catD t (altD t d) s).2=x at h1
   unfold altOf
   split
   ·exact h1.le (by omega)
   ·exact h1.node
end Go.Proofs.YtficlekgjbnniaaGreatDoor
namespace Go.Proofs.YtficlekgjbnniaaGreatDoor
open Go Go.E
section
variable {A:List UInt8→RgD→Prop} (hA:∀ l n,A l n→wrongD n=0)
include hA
end
structure EdgeD where
 to:Nat
 set:SetD
 free:Bool
deriving DecidableEq
structure StD where
 rows:List (List EdgeD)
 full:Bool
deriving DecidableEq
def freeE (to:Nat):EdgeD:=⟨to,zeroS,true⟩
def setE (to:Nat) (s:SetD):EdgeD:=⟨to,s,false⟩
def stateN (st:StD):Nat × StD:=if st.rows.length=4096 then (0,{ st with full:=true }) else (st.rows.length,{ st with rows:=st.rows++[[]] })
def edgeN (from':Nat) (x:EdgeD) (st:StD):StD:={ st with rows:=st.rows.set from' ((st.rows[from']?.getD [])++[x]) }
abbrev NodeF:=Nat→StD→Nat × StD
def minN (f:NodeF):Nat→Nat→StD→Bool × Nat × StD
 | 0,from',st=>(false,from',st)
 | k+1,from',st=>if st.full then (true,0,st) else minN f k (f from' st).1 (f from' st).2
def oneN (f:NodeF) (to:Nat) (from':Nat) (st:StD):Nat × StD :=
 f (stateN (edgeN from' (freeE to) st)).1 (edgeN from' (freeE (stateN (edgeN from' (freeE to) st)).1) (stateN (edgeN from' (freeE to) st)).2)
def maxN (f:NodeF) (to:Nat):Nat→Nat→StD→Bool × Nat × StD
 | 0,from',st=>(false,from',st)
 | k+1,from',st=>if st.full then (true,0,st) else maxN f to k (oneN f to from' st).1 (oneN f to from' st).2
def loopN (f:NodeF) (to from':Nat) (st:StD):StD :=
 let r:=stateN st
 let p:=f r.1 (edgeN r.1 (freeE to) (edgeN from' (freeE r.1) r.2))
 edgeN p.1 (freeE r.1) p.2
def repeatN (f:NodeF) (a b:Int) (from':Nat) (st:StD):Nat × StD :=
 match minN f a.toNat from' st with
 | (true,_,s1)=>(0,s1)
 | (false,f1,s1) =>
   if b<0 then ((stateN s1).1,loopN f (stateN s1).1 f1 (stateN s1).2)
   else match maxN f (stateN s1).1 (b-a).toNat f1 (stateN s1).2 with
    | (true,_,s2)=>(0,s2)
    | (false,f2,s2)=>((stateN s1).1,edgeN f2 (freeE (stateN s1).1) s2)
mutual
def nodeN:RgD→Nat→StD→Nat × StD
 | .mk k s l a b=>fun from' st=>if st.full then (0,st)
   else if k=2 then ((stateN st).1,edgeN from' (setE (stateN st).1 s) (stateN st).2)
   else if k=3 then catN l from' st
   else if k=4 then ((stateN st).1,altN l from' (stateN st).1 (stateN st).2)
   else if k=5 then repeatN (kidN l) a b from' st
   else (from',st)
def catN:List RgD→Nat→StD→Nat × StD
 | []=>fun from' st=>(from',st)
 | x::r=>fun from' st=>catN r (nodeN x from' st).1 (nodeN x from' st).2
def altN:List RgD→Nat→Nat→StD→StD
 | []=>fun _ _ st=>st
 | x::r=>fun from' to st =>
   let p:=nodeN x (stateN st).1 (edgeN from' (freeE (stateN st).1) (stateN st).2)
   altN r from' to (edgeN p.1 (freeE to) p.2)
def kidN:List RgD→Nat→StD→Nat × StD
 | []=>fun from' st=>(from',st)
 | x::_=>fun from' st=>nodeN x from' st
end
mutual
def cntN:RgD→Nat
 | .mk k _ l a b=>if k=2 then 1 else if k=3 then sumN l else if k=4 then 1+altsN l
   else if k=5 then a.toNat*kidC l+1+(if b<0 then 1+kidC l else (b-a).toNat*(1+kidC l)) else 0
def sumN:List RgD→Nat
 | []=>0
 | x::r=>cntN x+sumN r
def altsN:List RgD→Nat
 | []=>0
 | x::r=>(1+cntN x)+altsN r
def kidC:List RgD→Nat
 | []=>0
 | x::_=>cntN x
end
def edgesN (st:StD):Nat:=(st.rows.map List.length).sum
structure StOk (st:StD):Prop where
 pos:1≤st.rows.length
 le:st.rows.length≤4096
 to:∀ row∈st.rows,∀ x∈row,x.to<st.rows.length
 full:st.full=true→st.rows.length=4096
theorem state_len (st:StD):(stateN st).2.rows.length=if st.rows.length=4096 then 4096 else st.rows.length+1:=by
 unfold stateN;split
 ·rename_i h;exact h
 ·simp
theorem state_lt {st:StD} (h:StOk st):(stateN st).1<(stateN st).2.rows.length:=by
 have:=h.pos
 unfold stateN;split
 ·show 0<_;exact this
 ·simp
theorem state_grow (st:StD):st.rows.length≤(stateN st).2.rows.length:=by rw [state_len];split<;>omega
theorem StOk.state {st:StD} (h:StOk st):StOk (stateN st).2:=by
 have hl:=state_len st
 have hp:=h.pos
 have hle:=h.le
 refine ⟨by rw [hl];split<;>omega,by rw [hl];split<;>omega,?_,?_⟩
 ·intro row hr x hx
  rw [hl]
  unfold stateN at hr
  split at hr
  ·rename_i e;rw [if_pos e];have:=h.to row hr x hx;omega
  ·rename_i e;rw [if_neg e]
   rcases List.mem_append.1 hr with hr|hr
   ·have:=h.to row hr x hx;omega
   ·rw [List.mem_singleton] at hr;subst hr;cases hx
 ·intro hf
  rw [hl]
  unfold stateN at hf
  split at hf
  ·rename_i e;rw [if_pos e]
  ·rename_i e;exact absurd (h.full hf) e
theorem edge_len (f:Nat) (x:EdgeD) (st:StD):(edgeN f x st).rows.length=st.rows.length:=by unfold edgeN;simp
theorem edge_full (f:Nat) (x:EdgeD) (st:StD):(edgeN f x st).full=st.full:=rfl
theorem StOk.edge {st:StD} (h:StOk st) {f:Nat}{x:EdgeD} (hx:x.to<st.rows.length):StOk (edgeN f x st):=by
 refine ⟨by rw [edge_len];exact h.pos,by rw [edge_len];exact h.le,?_,by rw [edge_len];exact h.full⟩
 intro row hr y hy
 rw [edge_len]
 unfold edgeN at hr
 rcases List.mem_or_eq_of_mem_set hr with hr|rfl
 ·exact h.to row hr y hy
 ·rcases List.mem_append.1 hy with hy|hy
  ·cases hg:st.rows[f]? with
   | none=>rw [hg] at hy;cases hy
   | some r0=>rw [hg] at hy;exact h.to r0 (List.mem_of_getElem? hg) y hy
  ·rw [List.mem_singleton] at hy;subst hy;exact hx
theorem sum_set:∀ (l:List Nat) (i:Nat) (v:Nat),(l.set i v).sum+(l[i]?.getD 0)≤l.sum+v
 | [],i,v=>by simp
 | x::l,0,v=>by simp;omega
 | x::l,i+1,v=>by
   have:=sum_set l i v
   rw [List.set_cons_succ,List.sum_cons,List.sum_cons,List.getElem?_cons_succ];omega
theorem edges_edge (f:Nat) (x:EdgeD) (st:StD):edgesN (edgeN f x st)≤edgesN st+1:=by
 unfold edgesN edgeN
 rw [List.map_set,List.length_append,List.length_singleton]
 have h:=sum_set (st.rows.map List.length) f ((st.rows[f]?.getD []).length+1)
 rw [List.getElem?_map] at h
 cases hg:st.rows[f]? with
 | none =>
   rw [hg] at h
   have hl:st.rows.length≤f:=List.getElem?_eq_none_iff.1 hg
   rw [List.set_eq_of_length_le (by simpa using hl)];omega
 | some r=>rw [hg] at h;simp only [Option.getD_some,Option.map_some] at h ⊢;omega
theorem edges_state (st:StD):edgesN (stateN st).2=edgesN st:=by
 unfold stateN edgesN;split
 ·rfl
 ·simp
theorem row_edges {st:StD}{f:Nat}{r:List EdgeD} (h:st.rows[f]?=some r):r.length≤edgesN st:=by
 unfold edgesN
 have hm:r.length∈st.rows.map List.length:=List.mem_map_of_mem (List.mem_of_getElem? h)
 generalize st.rows.map List.length=l at hm
 induction l with
 | nil=>cases hm
 | cons x l ih =>
   rw [List.sum_cons]
   rcases List.mem_cons.1 hm with rfl|hm
   ·omega
   ·have:=ih hm;omega
structure Made (c s:Nat) (st:StD) (p:Nat × StD):Prop where
 ok:StOk p.2
 lt:p.1<p.2.rows.length
 grow:st.rows.length≤p.2.rows.length
 keep:st.full=true→p.2.full=true
 edges0:p.2.full=false→edgesN p.2≤edgesN st+4*(p.2.rows.length-st.rows.length)
 edges1:edgesN p.2≤edgesN st+4*(p.2.rows.length-st.rows.length)+4*s
 len:p.2.full=false→p.2.rows.length=st.rows.length+c
 room:st.full=false→st.rows.length+c≤4096→p.2.full=false
def MadeF (c s:Nat) (f:NodeF):Prop:=∀ (from':Nat) (st:StD),StOk st→from'<st.rows.length→Made c s st (f from' st)∧(st.full=true→edgesN (f from' st).2=edgesN st)
theorem Made.le {c s s2:Nat}{st:StD}{p:Nat × StD} (h:Made c s st p) (hs:s≤s2):Made c s2 st p :=
 ⟨h.ok,h.lt,h.grow,h.keep,h.edges0,Nat.le_trans h.edges1 (by omega),h.len,h.room⟩
theorem Made.refl {st:StD}{f:Nat} (h:StOk st) (hf:f<st.rows.length):Made 0 0 st (f,st):=⟨h,hf,Nat.le_refl _,id,fun _=>Nat.le_add_right _ _,Nat.le_trans (Nat.le_add_right _ _) (Nat.le_add_right _ _),fun _=>rfl,fun h _=>h⟩
theorem Made.stay {c s f:Nat}{st:StD} (h:StOk st) (hf:f<st.rows.length) (hu:st.full=true):Made c s st (f,st) :=
 ⟨h,hf,Nat.le_refl _,id,fun _=>Nat.le_add_right _ _,Nat.le_trans (Nat.le_add_right _ _) (Nat.le_add_right _ _),(fun e=>absurd (hu.symm.trans e) (by decide)),(fun e=>absurd (hu.symm.trans e) (by decide))⟩
theorem full_len {st st2:StD} (h:StOk st) (h2:StOk st2) (hg:st.rows.length≤st2.rows.length) (hf:st.full=true):st2.rows.length=st.rows.length:=by
 have:=h.full hf;have:=h2.le;omega
theorem Made.then {c1 s1 c2 s2:Nat}{st:StD}{p q:Nat × StD} (h1:Made c1 s1 st p) (h2:Made c2 s2 p.2 q) (hq:p.2.full=true→edgesN q.2=edgesN p.2):Made (c1+c2) (s1+s2) st q:=by
 have g1:=h1.grow
 have g2:=h2.grow
 refine ⟨h2.ok,h2.lt,by omega,fun e=>h2.keep (h1.keep e),fun e=>?_,?_,fun e=>?_,fun e hr=>?_⟩
 ·have e1:p.2.full=false:=by cases h:p.2.full with
   | false=>rfl
   | true=>rw [h2.keep h] at e;cases e
  have:=h1.edges0 e1;have:=h2.edges0 e;omega
 ·cases h:p.2.full with
  | false=>have:=h1.edges0 h;have:=h2.edges1;omega
  | true=>have:=h1.edges1;have:=hq h;have:=full_len h1.ok h2.ok g2 h;omega
 ·have e1:p.2.full=false:=by cases h:p.2.full with
   | false=>rfl
   | true=>rw [h2.keep h] at e;cases e
  have:=h1.len e1;have:=h2.len e;omega
 ·have e1:=h1.room e (by omega)
  have:=h1.len e1
  exact h2.room e1 (by omega)
theorem MadeF.then {c1 s1 c2 s2:Nat}{f g:NodeF} (h1:MadeF c1 s1 f) (h2:MadeF c2 s2 g):MadeF (c1+c2) (s1+s2) (fun f0 st=>g (f f0 st).1 (f f0 st).2):=fun f0 st ho hf=>by
 obtain ⟨a1,b1⟩:=h1 f0 st ho hf
 obtain ⟨a2,b2⟩:=h2 (f f0 st).1 (f f0 st).2 a1.ok a1.lt
 exact ⟨a1.then a2 b2,fun e=>by rw [b2 (a1.keep e),b1 e]⟩
theorem state_full (st:StD):(stateN st).2.full=if st.rows.length=4096 then true else st.full:=by unfold stateN;split<;>rfl
theorem made_state {st:StD} (h:StOk st):Made 1 0 st (stateN st):=by
 have hl:=state_len st
 have hf:=state_full st
 refine ⟨h.state,state_lt h,state_grow st,fun e=>by rw [hf,e];split<;>rfl,fun _=>by rw [edges_state];omega,by rw [edges_state];omega,fun e=>?_,fun e hr=>?_⟩
 ·rw [hf] at e;split at e
  ·cases e
  ·rename_i h1;rw [hl,if_neg h1]
 ·rw [hf,if_neg (by omega)];exact e
theorem state_none {st:StD} (h:(stateN st).2.full=true) (ho:StOk st):st.rows.length=4096:=by
 rw [state_full] at h
 split at h
 ·assumption
 ·exact ho.full h
theorem MadeF.min {c s:Nat}{f:NodeF} (h:MadeF c s f):∀ (k:Nat) (f0:Nat) (st:StD),StOk st→f0<st.rows.length→Made (k*c) s st (minN f k f0 st).2∧((minN f k f0 st).1=true→(minN f k f0 st).2.2.full=true)∧(st.full=true→edgesN (minN f k f0 st).2.2=edgesN st)
 | 0,f0,st,ho,hf=>⟨by rw [minN,Nat.zero_mul];exact (Made.refl ho hf).le (Nat.zero_le _),(fun e=>by cases e),fun _=>rfl⟩
 | k+1,f0,st,ho,hf=>by
   rw [minN]
   cases hfull:st.full with
   | true =>
     rw [if_pos rfl]
     have hp:=ho.pos
     exact ⟨Made.stay ho (by omega) hfull,fun _=>hfull,fun _=>rfl⟩
   | false =>
     rw [if_neg (by decide)]
     obtain ⟨a1,b1⟩:=h f0 st ho hf
     obtain ⟨a2,b2,b3⟩:=MadeF.min h k (f f0 st).1 (f f0 st).2 a1.ok a1.lt
     have g1:=a1.grow
     have g2:=a2.grow
     refine ⟨⟨a2.ok,a2.lt,by omega,fun e=>a2.keep (a1.keep e),fun e=>?_,?_,fun e=>?_,fun e hr=>?_⟩,b2,(fun e=>by cases e)⟩
     ·have e1:(f f0 st).2.full=false:=by cases h:(f f0 st).2.full with
       | false=>rfl
       | true=>rw [a2.keep h] at e;cases e
      have:=a1.edges0 e1;have:=a2.edges0 e;omega
     ·cases h:(f f0 st).2.full with
      | false=>have:=a1.edges0 h;have:=a2.edges1;omega
      | true=>have:=a1.edges1;have:=b3 h;have:=full_len a1.ok a2.ok g2 h;omega
     ·have e1:(f f0 st).2.full=false:=by cases h:(f f0 st).2.full with
       | false=>rfl
       | true=>rw [a2.keep h] at e;cases e
      have:=a1.len e1;have:=a2.len e
      rw [Nat.succ_mul];omega
     ·rw [Nat.succ_mul] at hr
      have e1:=a1.room e (by omega)
      have:=a1.len e1
      exact a2.room e1 (by omega)
theorem MadeF.one {c s:Nat}{f:NodeF} (h:MadeF c s f) {to f0:Nat}{st:StD} (ho:StOk st) (hf:f0<st.rows.length) (ht:to<st.rows.length):Made (1+c) (s+1) st (oneN f to f0 st):=by
 have o1:StOk (edgeN f0 (freeE to) st):=ho.edge ht
 have m1:=made_state o1
 have hsl:=state_lt o1
 have hE1:=edges_edge f0 (freeE to) st
 have hL1:=edge_len f0 (freeE to) st
 have hF1:=edge_full f0 (freeE to) st
 unfold oneN
 generalize edgeN f0 (freeE to) st=st1 at *
 have hE2:=edges_state st1
 have hsn:=state_none (st:=st1)
 have hL2:=state_len st1
 have hF2:=state_full st1
 generalize stateN st1=r at *
 have hE3:=edges_edge f0 (freeE r.1) r.2
 have hL3:=edge_len f0 (freeE r.1) r.2
 have hF3:=edge_full f0 (freeE r.1) r.2
 have o3:StOk (edgeN f0 (freeE r.1) r.2):=m1.ok.edge hsl
 generalize edgeN f0 (freeE r.1) r.2=st3 at *
 obtain ⟨a,b⟩:=h r.1 st3 o3 (by rw [hL3];exact hsl)
 have hlen1:=m1.len
 have hg1:=m1.grow
 have hg:=a.grow
 have hkeep:st.full=true→st3.full=true:=fun e=>by rw [hF3];exact m1.keep (by rw [hF1];exact e)
 have hnf:(f r.1 st3).2.full=false→st3.full=false:=fun e=>by cases hh:st3.full with
  | false=>rfl
  | true=>rw [a.keep hh] at e;cases e
 refine ⟨a.ok,a.lt,by omega,fun e=>a.keep (hkeep e),fun e=>?_,?_,fun e=>?_,fun e hr=>?_⟩
 ·have e1:=hnf e
  have:=a.edges0 e
  have:=hlen1 (by rw [←hF3];exact e1)
  omega
 ·cases h3:st3.full with
  | true=>have:=b h3;have:=full_len o3 a.ok hg h3;omega
  | false =>
    have:=a.edges1
    have:=hlen1 (by rw [←hF3];exact h3)
    omega
 ·have e1:=hnf e
  have:=a.len e
  have:=hlen1 (by rw [←hF3];exact e1)
  omega
 ·have e2:=m1.room (by rw [hF1];exact e) (by omega)
  have:=hlen1 e2
  exact a.room (by rw [hF3];exact e2) (by omega)
theorem MadeF.max {c s:Nat}{f:NodeF} (h:MadeF c s f) (to:Nat):∀ (k:Nat) (f0:Nat) (st:StD),StOk st→f0<st.rows.length→to<st.rows.length→Made (k*(1+c)) (s+1) st (maxN f to k f0 st).2∧((maxN f to k f0 st).1=true→(maxN f to k f0 st).2.2.full=true)∧(st.full=true→edgesN (maxN f to k f0 st).2.2=edgesN st)
 | 0,f0,st,ho,hf,ht=>⟨by rw [maxN,Nat.zero_mul];exact (Made.refl ho hf).le (Nat.zero_le _),(fun e=>by cases e),fun _=>rfl⟩
 | k+1,f0,st,ho,hf,ht=>by
   rw [maxN]
   cases hfull:st.full with
   | true =>
     rw [if_pos rfl]
     have hp:=ho.pos
     exact ⟨Made.stay ho (by omega) hfull,fun _=>hfull,fun _=>rfl⟩
   | false =>
     rw [if_neg (by decide)]
     have a1:=h.one ho hf ht
     generalize oneN f to f0 st=p at *
     have g1:=a1.grow
     obtain ⟨a2,b2,b3⟩:=MadeF.max h to k p.1 p.2 a1.ok a1.lt (by omega)
     have g2:=a2.grow
     refine ⟨⟨a2.ok,a2.lt,by omega,fun e=>a2.keep (a1.keep e),fun e=>?_,?_,fun e=>?_,fun e hr=>?_⟩,b2,(fun e=>by cases e)⟩
     ·have e1:p.2.full=false:=by cases h:p.2.full with
       | false=>rfl
       | true=>rw [a2.keep h] at e;cases e
      have:=a1.edges0 e1;have:=a2.edges0 e;omega
     ·cases h:p.2.full with
      | false=>have:=a1.edges0 h;have:=a2.edges1;omega
      | true=>have:=a1.edges1;have:=b3 h;have:=full_len a1.ok a2.ok g2 h;omega
     ·have e1:p.2.full=false:=by cases h:p.2.full with
       | false=>rfl
       | true=>rw [a2.keep h] at e;cases e
      have:=a1.len e1;have:=a2.len e
      rw [Nat.succ_mul];omega
     ·rw [Nat.succ_mul] at hr
      have e1:=a1.room e (by omega)
      have:=a1.len e1
      exact a2.room e1 (by omega)
theorem Made.full {c c2 s f f1:Nat}{st s1:StD} (h:Made c s st (f1,s1)) (hu:s1.full=true) (hf:f<s1.rows.length) (hc:c≤c2):Made c2 s st (f,s1) :=
 ⟨h.ok,hf,h.grow,h.keep,h.edges0,h.edges1,(fun e=>absurd (hu.symm.trans e) (by decide)),fun e hr=>h.room e (by omega)⟩
theorem made_loop {c s:Nat}{f:NodeF} (h:MadeF c s f) {to f0:Nat}{st:StD} (ho:StOk st) (hf:f0<st.rows.length) (ht:to<st.rows.length) :
  StOk (loopN f to f0 st)∧st.rows.length≤(loopN f to f0 st).rows.length∧(st.full=true→(loopN f to f0 st).full=true∧edgesN (loopN f to f0 st)≤edgesN st+3) ∧
  ((loopN f to f0 st).full=false→edgesN (loopN f to f0 st)+1≤edgesN st+4*((loopN f to f0 st).rows.length-st.rows.length)∧(loopN f to f0 st).rows.length=st.rows.length+(1+c)) ∧
  edgesN (loopN f to f0 st)≤edgesN st+4*((loopN f to f0 st).rows.length-st.rows.length)+4*s+3∧(st.full=false→st.rows.length+(1+c)≤4096→(loopN f to f0 st).full=false):=by
 have m1:=made_state ho
 have hsl:=state_lt ho
 have hE2:=edges_state st
 have hsn:=state_none (st:=st)
 unfold loopN
 dsimp only
 generalize stateN st=r at *
 have g1:=m1.grow
 have hE3:=edges_edge f0 (freeE r.1) r.2
 have hL3:=edge_len f0 (freeE r.1) r.2
 have hF3:=edge_full f0 (freeE r.1) r.2
 have o3:StOk (edgeN f0 (freeE r.1) r.2):=m1.ok.edge hsl
 generalize edgeN f0 (freeE r.1) r.2=s3 at *
 have hE4:=edges_edge r.1 (freeE to) s3
 have hL4:=edge_len r.1 (freeE to) s3
 have hF4:=edge_full r.1 (freeE to) s3
 have o4:StOk (edgeN r.1 (freeE to) s3):=o3.edge (show to<s3.rows.length by omega)
 generalize edgeN r.1 (freeE to) s3=s4 at *
 obtain ⟨a,b⟩:=h r.1 s4 o4 (by omega)
 have g2:=a.grow
 generalize f r.1 s4=p at *
 have hE5:=edges_edge p.1 (freeE r.1) p.2
 have hL5:=edge_len p.1 (freeE r.1) p.2
 have hF5:=edge_full p.1 (freeE r.1) p.2
 have o5:StOk (edgeN p.1 (freeE r.1) p.2):=a.ok.edge (show r.1<p.2.rows.length by omega)
 generalize edgeN p.1 (freeE r.1) p.2=s5 at *
 have hnf:p.2.full=false→s4.full=false:=fun e=>by cases hh:s4.full with
  | false=>rfl
  | true=>rw [a.keep hh] at e;cases e
 refine ⟨o5,by omega,fun e=>?_,fun e=>?_,?_,fun e hr=>?_⟩
 ·have e4:s4.full=true:=by rw [hF4,hF3];exact m1.keep e
  refine ⟨by rw [hF5];exact a.keep e4,?_⟩
  have:=b e4;omega
 ·have e5:p.2.full=false:=by rw [←hF5];exact e
  have e4:=hnf e5
  have:=a.edges0 e5
  have:=a.len e5
  have:=m1.len (by rw [←hF3,←hF4];exact e4)
  omega
 ·cases e4:s4.full with
  | true=>have:=b e4;have:=full_len o4 a.ok g2 e4;omega
  | false =>
    have:=a.edges1
    have:=m1.len (by rw [←hF3,←hF4];exact e4)
    omega
 ·have e2:=m1.room e (by omega)
  have:=m1.len e2
  rw [hF5]
  exact a.room (by rw [hF4,hF3];exact e2) (by omega)
theorem made_repeat {c s:Nat}{f:NodeF} (h:MadeF c s f) (a b:Int) {f0:Nat}{st:StD} (ho:StOk st) (hf:f0<st.rows.length):Made (a.toNat*c+1+(if b<0 then 1+c else (b-a).toNat*(1+c))) (s+1) st (repeatN f a b f0 st):=by
 unfold repeatN
 obtain ⟨m1,m2,m3⟩:=h.min a.toNat f0 st ho hf
 generalize minN f a.toNat f0 st=M at *
 obtain ⟨stop,f1,s1⟩:=M
 dsimp only at m1 m2 m3
 have hp1:=m1.ok.pos
 have g1:=m1.grow
 cases stop with
 | true=>exact (m1.full (m2 rfl) (show 0<s1.rows.length from hp1) (by omega)).le (by omega)
 | false =>
   have t1:=made_state m1.ok
   have hE1:=edges_state s1
   dsimp only at t1 ⊢
   have o1:=m1.ok
   have hlt1:=m1.lt
   dsimp only at o1 hlt1 g1 hp1
   have t1:Made 1 0 s1 (stateN s1):=made_state o1
   have hsn:=state_none (st:=s1)
   generalize stateN s1=t at *
   have g2:=t1.grow
   have hlt2:=t1.lt
   have hkm:st.full=true→s1.full=true:=m1.keep
   by_cases hb:b<0
   ·rw [if_pos hb,if_pos hb]
    obtain ⟨l1,l2,l3,l4,l5,l6⟩:=made_loop h t1.ok (f0:=f1) (to:=t.1) (by omega) hlt2
    generalize loopN f t.1 f1 t.2=s2 at *
    have hk2:s2.full=false→t.2.full=false:=fun e=>by cases hh:t.2.full with
     | false=>rfl
     | true=>rw [(l3 hh).1] at e;cases e
    have hk1:t.2.full=false→s1.full=false:=fun e=>by cases hh:s1.full with
     | false=>rfl
     | true=>rw [t1.keep hh] at e;cases e
    refine ⟨l1,by show t.1<s2.rows.length;omega,by show st.rows.length≤s2.rows.length;omega,fun e=>(l3 (t1.keep (hkm e))).1,fun e=>?_,?_,fun e=>?_,fun e hr=>?_⟩
    ·have:=l4 e;have:=m1.edges0 (hk1 (hk2 e));have:=t1.len (hk2 e)
     dsimp only at *;omega
    ·cases e1:s1.full with
     | true =>
       have:=(l3 (t1.keep e1)).2;have:=m1.edges1;have:=full_len o1 t1.ok g2 e1;have:=full_len t1.ok l1 l2 (t1.keep e1)
       dsimp only at *;omega
     | false =>
       have:=m1.edges0 e1
       cases e2:t.2.full with
       | true=>have:=(l3 e2).2;dsimp only at *;omega
       | false=>have:=t1.len e2;dsimp only at *;omega
    ·have:=l4 e;have:=m1.len (hk1 (hk2 e));have:=t1.len (hk2 e)
     dsimp only at *;omega
    ·have e1:=m1.room e (by omega)
     have:=m1.len e1
     dsimp only at *
     have e2:=t1.room e1 (by omega)
     have:=t1.len e2
     exact l6 e2 (by omega)
   ·rw [if_neg hb,if_neg hb]
    obtain ⟨x1,x2,x3⟩:=h.max t.1 (b-a).toNat f1 t.2 t1.ok (by omega) hlt2
    generalize maxN f t.1 (b-a).toNat f1 t.2=M2 at *
    obtain ⟨stop,f2,s2⟩:=M2
    dsimp only at x1 x2 x3
    have o2:StOk s2:=x1.ok
    have g3:t.2.rows.length≤s2.rows.length:=x1.grow
    have hlt3:f2<s2.rows.length:=x1.lt
    have hk1:t.2.full=false→s1.full=false:=fun e=>by cases hh:s1.full with
     | false=>rfl
     | true=>rw [t1.keep hh] at e;cases e
    have hk2:s2.full=false→t.2.full=false:=fun e=>by cases hh:t.2.full with
     | false=>rfl
     | true=>have h2:s2.full=true:=x1.keep hh;rw [h2] at e;cases e
    -- what holds of s2,one edge more or none
    have key:∀ (v:Nat) (s3:StD),StOk s3→v<s3.rows.length→s3.rows.length=s2.rows.length→s3.full=s2.full→edgesN s3≤edgesN s2+1→Made (a.toNat*c+1+(b-a).toNat*(1+c)) (s+1) st (v,s3):=by
     intro v s3 o3 hv hl3 hf3 he3
     refine ⟨o3,hv,by show st.rows.length≤s3.rows.length;omega,fun e=>by show s3.full=true;rw [hf3];exact x1.keep (t1.keep (hkm e)),fun e=>?_,?_,fun e=>?_,fun e hr=>?_⟩
     ·have e2:s2.full=false:=hf3.symm.trans e
      have:=x1.edges0 e2;have:=t1.len (hk2 e2);have:=m1.edges0 (hk1 (hk2 e2))
      dsimp only at *;omega
     ·cases e1:s1.full with
      | true =>
        have:=x3 (t1.keep e1);have:=m1.edges1;have:=full_len o1 t1.ok g2 e1;have:=full_len t1.ok o2 g3 (t1.keep e1)
        dsimp only at *;omega
      | false =>
        have:=m1.edges0 e1
        cases e2:t.2.full with
        | true=>have:=x3 e2;dsimp only at *;omega
        | false=>have:=t1.len e2;have:=x1.edges1;dsimp only at *;omega
     ·have e2:s2.full=false:=hf3.symm.trans e
      have:=x1.len e2;have:=t1.len (hk2 e2);have:=m1.len (hk1 (hk2 e2))
      dsimp only at *;omega
     ·have e1:=m1.room e (by omega)
      have:=m1.len e1
      dsimp only at *
      have e2:=t1.room e1 (by omega)
      have:=t1.len e2
      rw [hf3]
      exact x1.room e2 (by omega)
    cases stop with
    | true=>exact key 0 s2 o2 (by omega) rfl rfl (by omega)
    | false=>exact key t.1 (edgeN f2 (freeE t.1) s2) (o2.edge (show t.1<s2.rows.length by omega)) (by rw [edge_len];omega) (edge_len _ _ _) rfl (edges_edge _ _ _)
theorem made_alt:∀ (l:List RgD),(∀ x∈l,MadeF (cntN x) (sizeD x) (nodeN x))→∀ (f0 to:Nat) (st:StD),StOk st→f0<st.rows.length→to<st.rows.length→Made (altsN l) (sizeK l) st (to,altN l f0 to st)
 | [],_,f0,to,st,ho,hf,ht=>by rw [altsN,sizeK,altN];exact Made.refl ho ht
 | x::l,h,f0,to,st,ho,hf,ht=>by
   rw [altsN,sizeK,altN]
   dsimp only
   have hx:=h x (by simp)
   have hsz:=sizeD_pos x
   have m1:=made_state ho
   have hsl:=state_lt ho
   have hE2:=edges_state st
   generalize stateN st=r at *
   have g1:=m1.grow
   have hE3:=edges_edge f0 (freeE r.1) r.2
   have hL3:=edge_len f0 (freeE r.1) r.2
   have hF3:=edge_full f0 (freeE r.1) r.2
   have o3:StOk (edgeN f0 (freeE r.1) r.2):=m1.ok.edge hsl
   generalize edgeN f0 (freeE r.1) r.2=s3 at *
   obtain ⟨a,b⟩:=hx r.1 s3 o3 (by omega)
   have g2:=a.grow
   generalize nodeN x r.1 s3=p at *
   have hE5:=edges_edge p.1 (freeE to) p.2
   have hL5:=edge_len p.1 (freeE to) p.2
   have hF5:=edge_full p.1 (freeE to) p.2
   have o5:StOk (edgeN p.1 (freeE to) p.2):=a.ok.edge (show to<p.2.rows.length by omega)
   generalize edgeN p.1 (freeE to) p.2=s5 at *
   have hnf:p.2.full=false→s3.full=false:=fun e=>by cases hh:s3.full with
    | false=>rfl
    | true=>rw [a.keep hh] at e;cases e
   have k1:Made (1+cntN x) (sizeD x) st (to,s5):=by
    refine ⟨o5,by show to<s5.rows.length;omega,by show st.rows.length≤s5.rows.length;omega,fun e=>by show s5.full=true;rw [hF5];exact a.keep (by rw [hF3];exact m1.keep e),fun e=>?_,?_,fun e=>?_,fun e hr=>?_⟩
    ·have e5:p.2.full=false:=hF5.symm.trans e
     have:=a.edges0 e5;have:=m1.len (by rw [←hF3];exact hnf e5)
     dsimp only at *;omega
    ·cases e3:s3.full with
     | true=>have:=b e3;have:=full_len o3 a.ok g2 e3;dsimp only at *;omega
     | false=>have:=a.edges1;have:=m1.len (by rw [←hF3];exact e3);dsimp only at *;omega
    ·have e5:p.2.full=false:=hF5.symm.trans e
     have:=a.len e5;have:=m1.len (by rw [←hF3];exact hnf e5)
     dsimp only at *;omega
    ·have e2:=m1.room e (by omega)
     have:=m1.len e2
     show s5.full=false
     rw [hF5]
     exact a.room (by rw [hF3];exact e2) (by omega)
   have k2:=made_alt l (fun y hy=>h y (by simp [hy])) f0 to s5 o5 (by omega) (by omega)
   have g5:=k1.grow
   have g6:=k2.grow
   refine ⟨k2.ok,k2.lt,Nat.le_trans g5 g6,fun e=>k2.keep (k1.keep e),fun e=>?_,?_,fun e=>?_,fun e hr=>?_⟩
   ·have e1:s5.full=false:=by cases hh:s5.full with
     | false=>rfl
     | true=>have h2:=k2.keep hh;rw [h2] at e;cases e
    have:=k1.edges0 e1;have:=k2.edges0 e;dsimp only at *;omega
   ·have:=k1.edges1;have:=k2.edges1;dsimp only at *;omega
   ·have e1:s5.full=false:=by cases hh:s5.full with
     | false=>rfl
     | true=>have h2:=k2.keep hh;rw [h2] at e;cases e
    have:=k1.len e1;have:=k2.len e;dsimp only at *;omega
   ·have e1:=k1.room e (by omega)
    have:=k1.len e1
    exact k2.room e1 (by dsimp only at *;omega)
theorem made_cat:∀ (l:List RgD),(∀ x∈l,MadeF (cntN x) (sizeD x) (nodeN x))→MadeF (sumN l) (sizeK l) (catN l)
 | [],_=>fun f0 st ho hf=>by rw [sumN,sizeK,catN];exact ⟨Made.refl ho hf,fun _=>rfl⟩
 | x::l,h=>fun f0 st ho hf=>by
   rw [sumN,sizeK,catN]
   exact (MadeF.then (h x (by simp)) (made_cat l (fun y hy=>h y (by simp [hy])))) f0 st ho hf
theorem wrongK_all:∀ {l:List RgD},wrongK l=0→∀ x∈l,wrongD x=0
 | [],_,x,hx=>by cases hx
 | y::l,h,x,hx=>by
   obtain ⟨h1,h2⟩:=wrongK_cons h
   rcases List.mem_cons.1 hx with rfl|hx
   ·exact h1
   ·exact wrongK_all h2 x hx
theorem made_node:∀ n:RgD,wrongD n=0→MadeF (cntN n) (sizeD n) (nodeN n):=RgD.ind fun k s l a b ih hw f0 st ho hf=>by
 obtain ⟨hform,hk⟩:=wrongD_parts hw
 have hk:wrongK l=0:=hk
 have hall:∀ x∈l,MadeF (cntN x) (sizeD x) (nodeN x):=fun x hx=>ih x hx (wrongK_all hk x hx)
 rw [cntN,sizeD,nodeN]
 dsimp only
 cases hfull:st.full with
 | true =>
   rw [if_pos rfl]
   have:=ho.pos
   exact ⟨Made.stay ho (by omega) hfull,fun _=>rfl⟩
 | false =>
   rw [if_neg (show ¬(false=true) by decide)]
   refine ⟨?_,fun e=>by cases e⟩
   have hF:=form_cases hform
   by_cases h2:k=2
   ·rw [if_pos h2,if_pos h2]
    have m1:=made_state ho
    have hsl:=state_lt ho
    have hE2:=edges_state st
    generalize stateN st=r at *
    have g1:=m1.grow
    have hE3:=edges_edge f0 (setE r.1 s) r.2
    have hL3:=edge_len f0 (setE r.1 s) r.2
    have hF3:=edge_full f0 (setE r.1 s) r.2
    have o3:StOk (edgeN f0 (setE r.1 s) r.2):=m1.ok.edge hsl
    generalize edgeN f0 (setE r.1 s) r.2=s3 at *
    refine ⟨o3,by show r.1<s3.rows.length;omega,by show st.rows.length≤s3.rows.length;omega,fun e=>by show s3.full=true;rw [hF3];exact m1.keep e,fun e=>?_,?_,fun e=>?_,fun e hr=>?_⟩
    ·have:=m1.len (hF3.symm.trans e);dsimp only at *;omega
    ·dsimp only at *;omega
    ·have:=m1.len (hF3.symm.trans e);dsimp only at *;omega
    ·show s3.full=false
     rw [hF3];exact m1.room e hr
   rw [if_neg h2,if_neg h2]
   by_cases h3:k=3
   ·rw [if_pos h3,if_pos h3]
    exact ((made_cat l hall) f0 st ho hf).1.le (by omega)
   rw [if_neg h3,if_neg h3]
   by_cases h4:k=4
   ·rw [if_pos h4,if_pos h4]
    have m1:=made_state ho
    have hsl:=state_lt ho
    generalize stateN st=r at *
    have g1:=m1.grow
    have m2:=made_alt l hall f0 r.1 r.2 m1.ok (by omega) hsl
    have g2:=m2.grow
    have:=Made.then (s1:=0) (p:=r) m1 m2
    refine ⟨m2.ok,m2.lt,Nat.le_trans g1 g2,fun e=>m2.keep (m1.keep e),fun e=>?_,?_,fun e=>?_,fun e hr=>?_⟩
    ·have e1:r.2.full=false:=by cases hh:r.2.full with
      | false=>rfl
      | true=>have h2:=m2.keep hh;rw [h2] at e;cases e
     have:=m1.edges0 e1;have:=m2.edges0 e;dsimp only at *;omega
    ·have:=m1.edges1;have:=m2.edges1;dsimp only at *;omega
    ·have e1:r.2.full=false:=by cases hh:r.2.full with
      | false=>rfl
      | true=>have h2:=m2.keep hh;rw [h2] at e;cases e
     have:=m1.len e1;have:=m2.len e;dsimp only at *;omega
    ·have e1:=m1.room e (by omega)
     have:=m1.len e1
     exact m2.room e1 (by omega)
   rw [if_neg h4,if_neg h4]
   by_cases h5:k=5
   ·rw [if_pos h5,if_pos h5]
    cases hF with
    | none=>omega
    | one=>omega
    | cat=>omega
    | alt=>omega
    | rep s x a b h =>
      rw [sizeK,sizeK,kidC]
      have hk:kidN [x]=nodeN x:=by rw [kidN]
      rw [hk]
      exact made_repeat (hall x (by simp)) a b ho hf
   ·rw [if_neg h5,if_neg h5]
    exact (Made.refl ho hf).le (Nat.zero_le _)
abbrev RowsN:=List (List EdgeD)
def freeTo (rows:RowsN) (s:Nat):List Nat:=((rows[s]?.getD []).filter (·.free)).map (·.to)
inductive Rch (rows:RowsN) (list:List Int):Nat→Prop
 | base {j:Nat} (h:(j:Int)∈list) (hj:j<rows.length):Rch rows list j
 | step {i j:Nat} (h:Rch rows list i) (hj:j∈freeTo rows i):Rch rows list j
def getB (m:List Bool) (i:Nat):Bool:=m[i]?.getD false
def roundR (rows:RowsN) (m:List Bool):List Bool:=(List.range rows.length).map fun j=>getB m j||(List.range rows.length).any fun i=>getB m i&&(freeTo rows i).contains j
def closeR (rows:RowsN):Nat→List Bool→List Bool
 | 0,m=>m
 | k+1,m=>closeR rows k (roundR rows m)
def firstR (rows:RowsN) (list:List Int):List Bool:=(List.range rows.length).map fun j:Nat=>list.contains (Int.ofNat j)
def reachN (rows:RowsN) (list:List Int):List Nat :=
 let m:=closeR rows rows.length (firstR rows list)
 (List.range rows.length).filter fun j=>getB m j
theorem getB_map {n:Nat} (p:Nat→Bool) (j:Nat):getB ((List.range n).map p) j=(decide (j<n)&&p j):=by
 unfold getB
 rw [List.getElem?_map]
 by_cases h:j<n
 ·rw [List.getElem?_range h];simp [h]
 ·rw [List.getElem?_eq_none (by simpa using h)];simp [h]
def ClosedR (rows:RowsN) (m:List Bool):Prop:=∀ i j:Nat,getB m i=true→j∈freeTo rows i→getB m j=true
def ToIn (rows:RowsN):Prop:=∀ row∈rows,∀ x∈row,x.to<rows.length
theorem freeTo_lt {rows:RowsN} (h:ToIn rows) {i j:Nat} (hj:j∈freeTo rows i):j<rows.length:=by
 unfold freeTo at hj
 obtain ⟨x,hx,rfl⟩:=List.mem_map.1 hj
 have hx:=(List.mem_filter.1 hx).1
 cases hr:rows[i]? with
 | none=>rw [hr] at hx;cases hx
 | some row=>rw [hr] at hx;exact h row (List.mem_of_getElem? hr) x hx
theorem freeTo_src {rows:RowsN}{i j:Nat} (hj:j∈freeTo rows i):i<rows.length:=by
 apply Classical.byContradiction
 intro hn
 unfold freeTo at hj
 rw [List.getElem?_eq_none (by omega)] at hj
 simp at hj
theorem round_get {rows:RowsN} (h:ToIn rows) (m:List Bool) (j:Nat):getB (roundR rows m) j=true↔(j<rows.length∧getB m j=true)∨∃ i,getB m i=true∧j∈freeTo rows i:=by
 unfold roundR
 rw [getB_map,Bool.and_eq_true,decide_eq_true_iff,Bool.or_eq_true,List.any_eq_true]
 constructor
 ·rintro ⟨h1,h2|⟨i,_,h2⟩⟩
  ·exact .inl ⟨h1,h2⟩
  ·rw [Bool.and_eq_true,List.contains_iff_mem] at h2
   exact .inr ⟨i,h2.1,h2.2⟩
 ·rintro (⟨h1,h2⟩|⟨i,h2,h3⟩)
  ·exact ⟨h1,.inl h2⟩
  ·exact ⟨freeTo_lt h h3,.inr ⟨i,List.mem_range.2 (freeTo_src h3),by rw [Bool.and_eq_true,List.contains_iff_mem];exact ⟨h2,h3⟩⟩⟩
def cntB (m:List Bool):Nat:=m.count true
theorem cnt_le:∀ (a b:List Bool),a.length=b.length→(∀ i,getB a i=true→getB b i=true)→cntB a≤cntB b
 | [],b,_,_=>Nat.zero_le _
 | x::a,[],h,_=>by simp at h
 | x::a,y::b,h,h2=>by
   have ih:=cnt_le a b (by simpa using h) (fun i hi=>h2 (i+1) hi)
   have h0:=h2 0
   unfold cntB at *
   rw [List.count_cons,List.count_cons]
   cases x with
   | false=>simp;split<;>omega
   | true=>have:=h0 rfl;have hy:y=true:=this;subst hy;simp;omega
theorem cnt_lt:∀ (a b:List Bool),a.length=b.length→(∀ i,getB a i=true→getB b i=true)→(∃ i,getB a i=false∧getB b i=true)→cntB a+1≤cntB b
 | [],b,h,_,⟨i,_,h3⟩=>by
   have:b=[]:=List.eq_nil_of_length_eq_zero h.symm
   subst this;simp [getB] at h3
 | x::a,[],h,_,_=>by simp at h
 | x::a,y::b,h,h2,⟨i,h3,h4⟩=>by
   have hl:a.length=b.length:=by simpa using h
   have hle:=cnt_le a b hl (fun i hi=>h2 (i+1) hi)
   cases i with
   | zero =>
     have hx:x=false:=h3
     have hy:y=true:=h4
     subst hx;subst hy
     unfold cntB at *
     rw [List.count_cons,List.count_cons];simp;omega
   | succ i =>
     have ih:=cnt_lt a b hl (fun i hi=>h2 (i+1) hi) ⟨i,h3,h4⟩
     have h0:=h2 0
     unfold cntB at *
     rw [List.count_cons,List.count_cons]
     cases x with
     | false=>simp;split<;>omega
     | true=>have hy:y=true:=h0 rfl;subst hy;simp;omega
theorem cnt_max (m:List Bool) (h:m.length≤cntB m):∀ i,i<m.length→getB m i=true:=by
 intro i hi
 unfold cntB at h
 have h2:m.count true=m.length:=Nat.le_antisymm List.count_le_length h
 have h3:=List.count_eq_length.1 h2
 unfold getB
 rw [List.getElem?_eq_getElem hi,Option.getD_some]
 exact (h3 _ (List.getElem_mem hi)).symm
theorem round_len (rows:RowsN) (m:List Bool):(roundR rows m).length=rows.length:=by simp [roundR]
theorem round_keeps {rows:RowsN} (h:ToIn rows) {m:List Bool} (hl:m.length=rows.length) (i:Nat) (hi:getB m i=true):getB (roundR rows m) i=true:=by
 refine (round_get h m i).2 (.inl ⟨?_,hi⟩)
 apply Classical.byContradiction
 intro hn
 unfold getB at hi
 rw [List.getElem?_eq_none (by omega)] at hi
 cases hi
theorem round_more {rows:RowsN} (h:ToIn rows) {m:List Bool} (hl:m.length=rows.length):ClosedR rows m∨cntB m+1≤cntB (roundR rows m):=by
 by_cases hc:ClosedR rows m
 ·exact .inl hc
 ·refine .inr ?_
  unfold ClosedR at hc
  have hex:∃ i j,getB m i=true∧j∈freeTo rows i∧getB m j=false:=by
   apply Classical.byContradiction
   intro hn
   exact hc fun i j h1 h2=>by
    cases h3:getB m j with
    | true=>rfl
    | false=>exact absurd ⟨i,j,h1,h2,h3⟩ hn
  obtain ⟨i,j,h1,h2,h3⟩:=hex
  exact cnt_lt m _ (by rw [hl,round_len]) (round_keeps h hl) ⟨j,h3,(round_get h m j).2 (.inr ⟨i,h1,h2⟩)⟩
theorem closed_round {rows:RowsN} (h:ToIn rows) {m:List Bool} (hl:m.length=rows.length) (hc:ClosedR rows m):ClosedR rows (roundR rows m):=by
 intro i j hi hj
 have hm:getB m i=true:=by
  rcases (round_get h m i).1 hi with h1|⟨i0,h1,h2⟩
  ·exact h1.2
  ·exact hc i0 i h1 h2
 exact round_keeps h hl j (hc i j hm hj)
theorem close_closed {rows:RowsN} (h:ToIn rows):∀ (k:Nat) (m:List Bool),m.length=rows.length→(ClosedR rows m∨rows.length≤k+cntB m)→ClosedR rows (closeR rows k m)
 | 0,m,hl,hc=>by
   rcases hc with hc|hc
   ·exact hc
   ·intro i j hi hj
    exact cnt_max m (by omega) j (by rw [hl];exact freeTo_lt h hj)
 | k+1,m,hl,hc=>by
   rw [closeR]
   refine close_closed h k _ (round_len rows m) ?_
   rcases hc with hc|hc
   ·exact .inl (closed_round h hl hc)
   ·rcases round_more h hl with h1|h1
    ·exact .inl (closed_round h hl h1)
    ·exact .inr (by omega)
theorem close_keeps {rows:RowsN} (h:ToIn rows):∀ (k:Nat) (m:List Bool),m.length=rows.length→∀ i,getB m i=true→getB (closeR rows k m) i=true
 | 0,m,hl,i,hi=>hi
 | k+1,m,hl,i,hi=>close_keeps h k _ (round_len rows m) i (round_keeps h hl i hi)
theorem close_sound {rows:RowsN} (h:ToIn rows) {list:List Int}:∀ (k:Nat) (m:List Bool),(∀ i,getB m i=true→Rch rows list i)→∀ i,getB (closeR rows k m) i=true→Rch rows list i
 | 0,m,hs,i,hi=>hs i hi
 | k+1,m,hs,i,hi=>close_sound h k _ (fun j hj=>by
   rcases (round_get h m j).1 hj with h1|⟨i0,h1,h2⟩
   ·exact hs j h1.2
   ·exact .step (hs i0 h1) h2) i hi
theorem first_get {rows:RowsN}{list:List Int} (j:Nat):getB (firstR rows list) j=true↔j<rows.length∧(j:Int)∈list:=by
 unfold firstR
 rw [getB_map,Bool.and_eq_true,decide_eq_true_iff,List.contains_iff_mem]
 exact Iff.rfl
theorem rch_lt {rows:RowsN} (h:ToIn rows) {list:List Int}{j:Nat} (hj:Rch rows list j):j<rows.length:=by
 cases hj with
 | base _ h1=>exact h1
 | step _ h1=>exact freeTo_lt h h1
theorem reach_iff {rows:RowsN} (h:ToIn rows) {list:List Int} (j:Nat):j∈reachN rows list↔Rch rows list j:=by
 unfold reachN
 dsimp only
 rw [List.mem_filter,List.mem_range]
 have hl:(firstR rows list).length=rows.length:=by simp [firstR]
 have hcl:=close_closed h rows.length (firstR rows list) hl (.inr (by omega))
 constructor
 ·rintro ⟨_,h2⟩
  exact close_sound h _ _ (fun i hi=>by obtain ⟨h3,h4⟩:=(first_get i).1 hi;exact .base h4 h3) j h2
 ·intro hr
  refine ⟨rch_lt h hr,?_⟩
  induction hr with
  | base h1 h2=>exact close_keeps h _ _ hl _ ((first_get _).2 ⟨h2,h1⟩)
  | step h1 h2 ih=>exact hcl _ _ ih h2
theorem reach_sorted (rows:RowsN) (list:List Int):(reachN rows list).Pairwise (· < ·):=List.pairwise_lt_range.filter _
theorem reach_lt {rows:RowsN}{list:List Int}{j:Nat} (h:j∈reachN rows list):j<rows.length:=by
 unfold reachN at h
 exact List.mem_range.1 (List.mem_filter.1 h).1
theorem sorted_ext:∀ {a b:List Nat},a.Pairwise (· < ·)→b.Pairwise (· < ·)→(∀ x,x∈a↔x∈b)→a=b
 | [],[],_,_,_=>rfl
 | [],y::b,_,_,h=>absurd ((h y).2 (by simp)) (by simp)
 | x::a,[],_,_,h=>absurd ((h x).1 (by simp)) (by simp)
 | x::a,y::b,ha,hb,h=>by
   obtain ⟨a1,a2⟩:=List.pairwise_cons.1 ha
   obtain ⟨b1,b2⟩:=List.pairwise_cons.1 hb
   have e:x=y:=by
    rcases List.mem_cons.1 ((h x).1 (by simp)) with e|e
    ·exact e
    ·rcases List.mem_cons.1 ((h y).2 (by simp)) with e2|e2
     ·exact e2.symm
     ·have:=b1 x e;have:=a1 y e2;omega
   subst e
   congr 1
   refine sorted_ext a2 b2 fun z=>⟨fun hz=>?_,fun hz=>?_⟩
   ·rcases List.mem_cons.1 ((h z).1 (by simp [hz])) with e|e
    ·have:=a1 z hz;omega
    ·exact e
   ·rcases List.mem_cons.1 ((h z).2 (by simp [hz])) with e|e
    ·have:=b1 z hz;omega
    ·exact e
def intsN (l:List Nat):List Int:=l.map Int.ofNat
theorem mem_ints {l:List Nat}{j:Nat}:(j:Int)∈intsN l↔j∈l:=by
 unfold intsN
 rw [List.mem_map]
 constructor
 ·rintro ⟨x,hx,e⟩
  have:x=j:=Int.ofNat.inj e
  exact this▸hx
 ·intro h;exact ⟨j,h,rfl⟩
def byteTo (rows:RowsN) (c:Nat) (s:Int):List Int:=if 0≤s∧s<rows.length then (((rows[s.toNat]?.getD []).filter fun x=>!x.free&&x.set.has c).map fun x=>Int.ofNat x.to) else []
def stepN (rows:RowsN) (list:List Int) (c:Nat):List Nat:=reachN rows (list.flatMap (byteTo rows c))
def startN (rows:RowsN):List Nat:=if rows=[] then [] else reachN rows [0]
structure NfaD where
 rows:RowsN
 last:Int
def endsN (a:NfaD) (list:List Int):Bool:=decide (0<a.rows.length)&&list.contains a.last
def runN (a:NfaD) (b:List UInt8):List Nat:=b.foldl (fun l c=>stepN a.rows (intsN l) c.toNat) (startN a.rows)
def matchN (a:NfaD) (b:List UInt8):Bool:=endsN a (intsN (runN a b))
mutual
def fewX (mn mx:Int):RgD→Int→Bool × Int
 | .mk k s l a b=>fun left=>if (left-1<0∨30<l.length)∨(k=5∧(mn<a∨mx<b)) then (false,left-1) else fewY mn mx l (left-1)
def fewY (mn mx:Int):List RgD→Int→Bool × Int
 | []=>fun left=>(true,left)
 | x::r=>fun left=>if (fewX mn mx x left).1 then fewY mn mx r (fewX mn mx x left).2 else (false,(fewX mn mx x left).2)
end
mutual
theorem fewX_left {mn mx:Int}:∀ (n:RgD) (M:Int),(fewX mn mx n M).1=true→0≤(fewX mn mx n M).2∧(fewX mn mx n M).2≤M-1
 | .mk k s l a b,M,h=>by
   rw [fewX] at h ⊢
   dsimp only at h ⊢
   split at h
   ·cases h
   ·rename_i h1
    rw [if_neg h1]
    have:=fewY_left l (M-1) (by omega) h
    omega
theorem fewY_left {mn mx:Int}:∀ (l:List RgD) (M:Int),0≤M→(fewY mn mx l M).1=true→0≤(fewY mn mx l M).2∧(fewY mn mx l M).2≤M
 | [],M,h0,h=>by rw [fewY];exact ⟨h0,Int.le_refl _⟩
 | x::r,M,h0,h=>by
   rw [fewY] at h ⊢
   dsimp only at h ⊢
   split at h
   ·rename_i h1
    rw [if_pos h1]
    have h2:=fewX_left x M h1
    have:=fewY_left r (fewX mn mx x M).2 h2.1 h
    omega
   ·cases h
end
def st0:StD:=⟨[[]],false⟩
theorem st0_ok:StOk st0:=⟨by decide,by decide,(fun row hr x hx=>by simp [st0] at hr;subst hr;cases hx),(fun h=>by cases h)⟩
def nilN:NfaD:=⟨[],0⟩
def makeN (n:RgD):Nat × NfaD :=
 if (checkD n 512).1≠0 then ((checkD n 512).1,nilN)
 else if (nodeN n 0 st0).2.full then (80,nilN)
 else (0,⟨(nodeN n 0 st0).2.rows,(nodeN n 0 st0).1⟩)
structure NfaOk (a:NfaD):Prop where
 to:ToIn a.rows
 le:a.rows.length≤4096
 last:a.rows≠[]→0≤a.last∧a.last<a.rows.length
theorem nil_ok:NfaOk nilN:=⟨(fun row hr=>by cases hr),by decide,fun h=>absurd rfl h⟩
theorem make_ok {n:RgD} (hw:wrongD n=0):NfaOk (makeN n).2:=by
 have m:=(made_node n hw 0 st0 st0_ok (by decide)).1
 unfold makeN
 split
 ·exact nil_ok
 split
 ·exact nil_ok
 ·exact ⟨m.ok.to,m.ok.le,fun _=>⟨Int.natCast_nonneg _,by have:=m.lt;dsimp only;omega⟩⟩
theorem make_rows {n:RgD} (hw:wrongD n=0) (h:(makeN n).1=0):(makeN n).2.rows.length=1+cntN n:=by
 have m:=(made_node n hw 0 st0 st0_ok (by decide)).1
 unfold makeN at h ⊢
 split
 ·rename_i h1;rw [if_pos h1] at h;exact absurd h h1
 ·rename_i h1
  rw [if_neg h1] at h
  split
  ·rename_i h2;rw [if_pos h2] at h;cases h
  ·rename_i h2
   have:=m.len (by simpa using h2)
   rw [this];rfl
end Go.Proofs.YtficlekgjbnniaaGreatDoor
end
