/- Texts of a walk, one behind the other. -/
import Derived.Shelf.Bits.Mul64
import Derived.Ground.NamesProg
import Derived.Test.YtficlekgjbnniaaGreatDoorMg3
import Derived.Test.YtficlekgjbnniaaGreatDoorMg4
import Derived.Test.YtficlekgjbnniaaGreatDoorMg6
set_option linter.unusedVariables false
set_option linter.unusedSimpArgs false
set_option linter.unusedSectionVars false
set_option maxRecDepth 10000
section
namespace Go.Proofs.YtficlekgjbnniaaGreatDoor
open Go Go.E
def rsV (t:List UInt8) (s:RS):List Value:=[str t,.int .i64 (s.p:Int),.int .i64 (s.n:Int),.int .i64 (s.e:Int),.int .i64 (s.f:Int)]
def nodeV (k:Int) (z:SetD) (a:Option Addr) (m c:Nat) (x y:Int):List Value:=[.int .i64 k,wV z.a,wV z.b,wV z.c,wV z.d,.slice a m c,.int .i64 x,.int .i64 y]
section
variable {ro:Ro}{own r:Chs}{K:Value→Ro→Chs→Prop}{g:Chunk→Chs}{q:Nat}{t:List UInt8}
theorem rwrong_ok {s:RS} [hb:HasBlk own q 116 (rsV t s) g] {x y:Int} (e a:Nat) (hx:x=(e:Int)) (hy:y=(a:Int)) (hk:K (.tuple #[]) ro (g (.blk q 116 (rsV t (s.wrong e a))))) :
  CallOk Tryz.prog 68 #[ptr' q,.int .i64 x,.int .i64 y] ro own K:=by
 subst hx;subst hy
 obtain ⟨r,p1,p2⟩:=hb.split
 refine CallOk.perm p1 ?_
 refine CallOk.intro (args:=[_,_,_]) (rs:=[]) T_ok Tryz.func68 Tryz.call68 rfl rfl (by kernel_rfl) rfl rfl ?_
 repeat first|exact zE|refine zP ?_|refine zB fun b=>?_|refine zC fun a' c' hc1 hc2=>?_|(apply GJ.a;exact rfl;intro hg)|(apply GJ.o;exact rfl;intro hg)
 refine Br.cases (fun h=>?_) (fun h=>?_)
 ·have h:s.e=0:=by omega
  unfold RS.wrong at hk
  rw [if_pos h] at hk
  repeat first|exact zE|refine zP ?_|refine zB fun b=>?_|refine zC fun a' c' hc1 hc2=>?_|(apply GJ.a;exact rfl;intro hg)|(apply GJ.o;exact rfl;intro hg)
  refine OpOk.storePart rfl rfl rfl rfl rfl (by exact Nat.le_refl 5) Nf.auto ?_
  repeat first|exact zE|refine zP ?_|refine zB fun b=>?_|refine zC fun a' c' hc1 hc2=>?_|(apply GJ.a;exact rfl;intro hg)|(apply GJ.o;exact rfl;intro hg)
  exact Wk.outS Sup.z (p2 _) hk
 ·have h:s.e≠0:=by omega
  unfold RS.wrong at hk
  rw [if_neg h] at hk
  repeat first|exact zE|refine zP ?_|refine zB fun b=>?_|refine zC fun a' c' hc1 hc2=>?_|(apply GJ.a;exact rfl;intro hg)|(apply GJ.o;exact rfl;intro hg)
  exact Wk.outS Sup.z (p2 _) hk
theorem rok_ok {s:RS} [hb:HasBlk own q 116 (rsV t s) g] (hk:K (.bool (decide ((s.e:Int)=0))) ro own) :
  CallOk Tryz.prog 67 #[ptr' q] ro own K:=by
 obtain ⟨r,p1,p2⟩:=hb.split
 refine CallOk.perm p1 ?_
 refine CallOk.intro (args:=[_]) (rs:=[_]) T_ok Tryz.func67 Tryz.call67 rfl rfl (by kernel_rfl) rfl rfl ?_
 repeat first|exact zE|refine zP ?_|refine zB fun b=>?_|refine zC fun a' c' hc1 hc2=>?_|(apply GJ.a;exact rfl;intro hg)|(apply GJ.o;exact rfl;intro hg)
 exact Wk.outS Sup.z p1.symm hk
theorem peek_ok {s:RS} [hb:HasBlk own q 116 (rsV t s) g] (hk:K (.int .u8 (peekD t s:Int)) ro own) :
  CallOk Tryz.prog 87 #[ptr' q] ro own K:=by
 obtain ⟨r,p1,p2⟩:=hb.split
 refine CallOk.perm p1 ?_
 by_cases h1:s.p<t.length
 ·by_cases h2:s.e=0
  ·rw [peekD,if_pos ⟨h1,h2⟩] at hk
   refine CallOk.intro (args:=[_]) (rs:=[_]) T_ok Tryz.func87 Tryz.call87 rfl rfl (by kernel_rfl) rfl rfl ?_
   repeat (first|exact zE|refine wkT ?_|refine Bs.all ?_|(show QOk _ _ _ _ _ _ _;refine QOk.build rfl rfl Nf.auto ?_)|refine zB (fun b=>?_)|refine zC (fun a' c' hc1 hc2=>?_)|(show GJ _ _ _ _ _ _ _;first|refine GJ.t (by decide) ?_|refine GJ.t omAuto ?_))
   refine rok_ok (t:=t) (s:=s) ?_
   repeat (first|exact zE|refine wkT ?_|refine Bs.all ?_|(show QOk _ _ _ _ _ _ _;refine QOk.build rfl rfl Nf.auto ?_)|refine zB (fun b=>?_)|refine zC (fun a' c' hc1 hc2=>?_)|(show GJ _ _ _ _ _ _ _;first|refine GJ.t (by decide) ?_|refine GJ.t omAuto ?_))
   exact Wk.outS Sup.z p1.symm hk
  ·rw [peekD,if_neg (fun x=>h2 x.2)] at hk
   refine CallOk.intro (args:=[_]) (rs:=[_]) T_ok Tryz.func87 Tryz.call87 rfl rfl (by kernel_rfl) rfl rfl ?_
   repeat (first|exact zE|refine wkT ?_|refine Bs.all ?_|(show QOk _ _ _ _ _ _ _;refine QOk.build rfl rfl Nf.auto ?_)|refine zB (fun b=>?_)|refine zC (fun a' c' hc1 hc2=>?_)|(show GJ _ _ _ _ _ _ _;first|refine GJ.t (by decide) ?_|refine GJ.t omAuto ?_))
   refine rok_ok (t:=t) (s:=s) ?_
   repeat (first|exact zE|refine wkA ?_|refine zB (fun b=>?_)|refine zC (fun a' c' hc1 hc2=>?_)|(apply GJ.a;exact rfl;intro hg)|(apply GJ.o;exact rfl;intro hg))
   exact Wk.outS Sup.z p1.symm hk
 ·rw [peekD,if_neg (fun x=>h1 x.1)] at hk
  refine CallOk.intro (args:=[_]) (rs:=[_]) T_ok Tryz.func87 Tryz.call87 rfl rfl (by kernel_rfl) rfl rfl ?_
  repeat first|exact zE|refine zP ?_|refine zB fun b=>?_|refine zC fun a' c' hc1 hc2=>?_|(apply GJ.a;exact rfl;intro hg)|(apply GJ.o;exact rfl;intro hg)
  exact Wk.outS Sup.z p1.symm hk
theorem peek_lt (t:List UInt8) (s:RS):peekD t s<256:=by
 unfold peekD;split
 ·exact (t[s.p]!).toNat_lt
 ·decide
theorem eat_ok {s:RS} [hb:HasBlk own q 116 (rsV t s) g] {x:Int} (c:Nat) (hx:x=(c:Int)) (h0:c≠0) (hp:s.p≤10000000) (hk:K (.bool (decide (peekD t s=c))) ro (g (.blk q 116 (rsV t (eatS t c s))))) :
  CallOk Tryz.prog 81 #[ptr' q,.int .u8 x] ro own K:=by
 subst hx
 obtain ⟨r,p1,p2⟩:=hb.split
 refine CallOk.perm p1 ?_
 refine CallOk.intro (args:=[_,_]) (rs:=[_]) T_ok Tryz.func81 Tryz.call81 rfl rfl (by kernel_rfl) rfl rfl ?_
 repeat (first|exact zE|refine wkA ?_|refine zB (fun b=>?_)|refine zC (fun a' c' hc1 hc2=>?_)|(apply GJ.a;exact rfl;intro hg)|(apply GJ.o;exact rfl;intro hg))
 refine peek_ok (t:=t) (s:=s) ?_
 by_cases h:peekD t s=c
 ·rw [decide_eq_true h,eatS,if_pos h] at hk
  repeat (first|exact zE|refine wkA ?_|refine zB (fun b=>?_)|refine zC (fun a' c' hc1 hc2=>?_)|(apply GJ.a;exact rfl;intro hg)|(apply GJ.o;exact rfl;intro hg))
  exact Wk.outS Sup.z (p2 _) hk
 ·rw [decide_eq_false h,eatS,if_neg h] at hk
  repeat (first|exact zE|refine wkA ?_|refine zB (fun b=>?_)|refine zC (fun a' c' hc1 hc2=>?_)|(apply GJ.a;exact rfl;intro hg)|(apply GJ.o;exact rfl;intro hg))
  exact Wk.outS Sup.z (p2 _) hk
theorem must_ok {s:RS} [hb:HasBlk own q 116 (rsV t s) g] {x:Int} (c:Nat) (hx:x=(c:Int)) (h0:c≠0) (hp:s.p≤10000000) (hk:K (.tuple #[]) ro (g (.blk q 116 (rsV t (mustS t c s))))) :
  CallOk Tryz.prog 104 #[ptr' q,.int .u8 x] ro own K:=by
 obtain ⟨r,p1,p2⟩:=hb.split
 refine CallOk.perm p1 ?_
 refine CallOk.intro (args:=[_,_]) (rs:=[]) T_ok Tryz.func104 Tryz.call104 rfl rfl (by kernel_rfl) rfl rfl ?_
 repeat (first|exact zE|refine wkA ?_|refine zB (fun b=>?_)|refine zC (fun a' c' hc1 hc2=>?_)|(apply GJ.a;exact rfl;intro hg)|(apply GJ.o;exact rfl;intro hg))
 refine eat_ok (t:=t) (s:=s) c hx h0 hp ?_
 by_cases h:peekD t s=c
 ·rw [mustS,if_pos h] at hk
  rw [decide_eq_true h,eatS,if_pos h]
  repeat (first|exact zE|refine wkA ?_|refine zB (fun b=>?_)|refine zC (fun a' c' hc1 hc2=>?_)|(apply GJ.a;exact rfl;intro hg)|(apply GJ.o;exact rfl;intro hg))
  exact Wk.outS Sup.z (p2 _) hk
 ·rw [mustS,if_neg h] at hk
  rw [decide_eq_false h,eatS,if_neg h]
  repeat (first|exact zE|refine wkA ?_|refine zB (fun b=>?_)|refine zC (fun a' c' hc1 hc2=>?_)|(apply GJ.a;exact rfl;intro hg)|(apply GJ.o;exact rfl;intro hg))
  refine rwrong_ok (t:=t) (s:=s) 5 s.p rfl rfl ?_
  repeat (first|exact zE|refine wkA ?_|refine zB (fun b=>?_)|refine zC (fun a' c' hc1 hc2=>?_)|(apply GJ.a;exact rfl;intro hg)|(apply GJ.o;exact rfl;intro hg))
  exact Wk.outS Sup.z (p2 _) hk
theorem node_ok {s:RS} [hb:HasBlk own q 116 (rsV t s) g] {k x y:Int}{z:SetD}{a:Option Addr}{m c:Nat} (hn:s.n≤10000000)
  (hk:K (.agg (nodeV k z a m c x y).toArray) ro (g (.blk q 116 (rsV t (nodeS s))))) :
  CallOk Tryz.prog 82 #[ptr' q,.agg (nodeV k z a m c x y).toArray] ro own K:=by
 obtain ⟨r,p1,p2⟩:=hb.split
 refine CallOk.perm p1 ?_
 refine CallOk.intro (args:=[_,_]) (rs:=[_]) T_ok Tryz.func82 Tryz.call82 rfl rfl (by kernel_rfl) rfl rfl ?_
 repeat first|exact zE|refine zP ?_|refine zB fun b=>?_|refine zC fun a' c' hc1 hc2=>?_|(apply GJ.a;exact rfl;intro hg)|(apply GJ.o;exact rfl;intro hg)
 have e1:(.blk q 116 [str t,.int .i64 (s.p:Int),.int .i64 ((s.n:Int)+1),.int .i64 (s.e:Int),.int .i64 (s.f:Int)]:Chunk)=.blk q 116 (rsV t { s with n:=s.n+1 }):=rfl
 refine Br.cases (fun h=>?_) (fun h=>?_)
 ·rw [nodeS,if_pos (by omega)] at hk
  repeat (first|exact zE|refine wkA ?_|refine zB (fun b=>?_)|refine zC (fun a' c' hc1 hc2=>?_)|(apply GJ.a;exact rfl;intro hg)|(apply GJ.o;exact rfl;intro hg))
  rw [e1]
  refine rwrong_ok (t:=t) (s:={ s with n:=s.n+1 }) 2 s.p rfl rfl ?_
  repeat first|exact zE|refine zP ?_|refine zB fun b=>?_|refine zC fun a' c' hc1 hc2=>?_|(apply GJ.a;exact rfl;intro hg)|(apply GJ.o;exact rfl;intro hg)
  exact Wk.outS Sup.z (p2 _) hk
 ·rw [nodeS,if_neg (by omega)] at hk
  repeat first|exact zE|refine zP ?_|refine zB fun b=>?_|refine zC fun a' c' hc1 hc2=>?_|(apply GJ.a;exact rfl;intro hg)|(apply GJ.o;exact rfl;intro hg)
  exact Wk.outS Sup.z (p2 _) hk
theorem digit_ok {s:RS} [hb:HasBlk own q 116 (rsV t s) g] {x:Int} (a:Nat) (hx:x=(a:Int)) (hp:s.p≤10000000) (hk:K (.int .u8 ((digitD t a s).1:Int)) ro (g (.blk q 116 (rsV t (digitD t a s).2)))) :
  CallOk Tryz.prog 120 #[ptr' q,.int .i64 x] ro own K:=by
 obtain ⟨r,p1,p2⟩:=hb.split
 refine CallOk.perm p1 ?_
 have hlt:=peek_lt t s
 refine CallOk.intro (args:=[_,_]) (rs:=[_]) T_ok Tryz.func120 Tryz.call120 rfl rfl (by kernel_rfl) rfl rfl ?_
 repeat (first|exact zE|refine wkA ?_|refine zB (fun b=>?_)|refine zC (fun a' c' hc1 hc2=>?_)|(apply GJ.a;exact rfl;intro hg)|(apply GJ.o;exact rfl;intro hg))
 refine peek_ok (t:=t) (s:=s) ?_
 have e1:(.blk q 116 [str t,.int .i64 ((s.p:Int)+1),.int .i64 (s.n:Int),.int .i64 (s.e:Int),.int .i64 (s.f:Int)]:Chunk)=.blk q 116 (rsV t s.adv):=rfl
 unfold digitD at hk
 generalize peekD t s=c at hlt hk ⊢
 by_cases h1:isDig c=true
 ·rw [if_pos h1] at hk
  simp only [isDig,Bool.and_eq_true,decide_eq_true_iff] at h1
  repeat (first|exact zE|refine wkA ?_|refine zB (fun b=>?_)|refine zC (fun a' c' hc1 hc2=>?_)|(apply GJ.a;exact rfl;intro hg)|(apply GJ.o;exact rfl;intro hg))
  exact Wk.outE Sup.z (p2 _) hk (congrArg (Value.int .u8) (by dsimp only;omega))
 ·rw [if_neg h1] at hk
  simp only [isDig,Bool.and_eq_true,decide_eq_true_iff] at h1
  by_cases h2:97≤c∧c≤102
  ·rw [if_pos h2] at hk
   repeat (first|exact zE|refine wkA ?_|refine zB (fun b=>?_)|refine zC (fun a' c' hc1 hc2=>?_)|(apply GJ.a;exact rfl;intro hg)|(apply GJ.o;exact rfl;intro hg))
   exact Wk.outE Sup.z (p2 _) hk (congrArg (Value.int .u8) (by dsimp only;omega))
  ·rw [if_neg h2] at hk
   repeat (first|exact zE|refine wkA ?_|refine zB (fun b=>?_)|refine zC (fun a' c' hc1 hc2=>?_)|(apply GJ.a;exact rfl;intro hg)|(apply GJ.o;exact rfl;intro hg))
   rw [e1]
   refine rwrong_ok (t:=t) (s:=s.adv) 5 a rfl hx ?_
   repeat (first|exact zE|refine wkA ?_|refine zB (fun b=>?_)|refine zC (fun a' c' hc1 hc2=>?_)|(apply GJ.a;exact rfl;intro hg)|(apply GJ.o;exact rfl;intro hg))
   exact Wk.outS Sup.z (p2 _) hk
end
theorem signsR_all:∀ c:Nat,c<256→decide (0≤firstIdx ⟨⟨signsR⟩⟩ (UInt8.ofNat c))=(signsR.map (·.toNat)).contains c:=by decide +kernel
theorem hexes_or:∀ a:Nat,a<16→∀ b:Nat,b<16→nor2 ((a:Int)*2 ^ (4:Int).toNat % 256) (b:Int)=((16*a+b:Nat):Int):=by decide +kernel
theorem digitD_lt {t:List UInt8}{a:Nat}{s:RS}:(digitD t a s).1<16:=by
 unfold digitD isDig
 split
 ·rename_i h;simp at h;dsimp only;omega
 ·split
  ·dsimp only;omega
  ·show (0:Nat)<16;decide
theorem digitD_p {t:List UInt8}{a:Nat}{s:RS}:(digitD t a s).2.p=s.p+1:=by
 unfold digitD
 split
 ·rfl
 ·split
  ·rfl
  ·unfold RS.wrong;split<;>rfl
section
variable {ro:Ro}{own r:Chs}{K:Value→Ro→Chs→Prop}{g:Chunk→Chs}{q:Nat}{t:List UInt8}
theorem containsR_ok {u:UInt8} (hk:K (.bool (decide (0≤firstIdx ⟨⟨signsR⟩⟩ u))) ro own):CallOk Tryz.prog 116 #[str signsR,str [u]] ro own K:=by
 refine CallOk.intro (args:=[_,_]) (rs:=[_]) T_ok Tryz.func116 Tryz.call116 rfl rfl (by kernel_rfl) rfl rfl ?_
 repeat (first|exact zE|refine wkG ?_|refine zB (fun b=>?_)|refine zC (fun a' c' hc1 hc2=>?_)|(show GJ _ _ _ _ _ _ _;first|(apply GJ.a;exact rfl;intro hg)|(apply GJ.o;exact rfl;intro hg)|refine GJ.t omAuto ?_|refine GJ.f omAuto ?_|refine GJ.ft omAuto ?_|refine GJ.ff omAuto ?_))
 refine index_ok (by intro h;cases h) ?_
 repeat (first|exact zE|refine wkG ?_|refine zB (fun b=>?_)|refine zC (fun a' c' hc1 hc2=>?_)|(show GJ _ _ _ _ _ _ _;first|(apply GJ.a;exact rfl;intro hg)|(apply GJ.o;exact rfl;intro hg)|refine GJ.t omAuto ?_|refine GJ.f omAuto ?_|refine GJ.ft omAuto ?_|refine GJ.ff omAuto ?_))
 exact Wk.outS Sup.z (.refl _) hk
set_option maxHeartbeats 4000000 in
theorem escape_ok {s:RS} [hb:HasBlk own q 116 (rsV t s) g] {x:Int} (a:Nat) (hx:x=(a:Int)) (hp:s.p≤1000000) (hk:K (.int .u8 ((escD t a s).1:Int)) ro (g (.blk q 116 (rsV t (escD t a s).2)))) :
  CallOk Tryz.prog 115 #[ptr' q,.int .i64 x] ro own K:=by
 obtain ⟨r,p1,p2⟩:=hb.split
 refine CallOk.perm p1 ?_
 have hlt:=peek_lt t s
 refine CallOk.intro (args:=[_,_]) (rs:=[_]) T_ok Tryz.func115 Tryz.call115 rfl rfl (by kernel_rfl) rfl rfl ?_
 repeat (first|exact zE|refine wkA ?_|refine zB (fun b=>?_)|refine zC (fun a' c' hc1 hc2=>?_)|(apply GJ.a;exact rfl;intro hg)|(apply GJ.o;exact rfl;intro hg))
 refine peek_ok (t:=t) (s:=s) ?_
 have e1:(.blk q 116 [str t,.int .i64 ((s.p:Int)+1),.int .i64 (s.n:Int),.int .i64 (s.e:Int),.int .i64 (s.f:Int)]:Chunk)=.blk q 116 (rsV t s.adv):=rfl
 unfold escD at hk
 generalize peekD t s=c at hlt hk ⊢
 by_cases h1:c=110
 ·rw [if_pos h1] at hk
  repeat first|exact zE|refine zP ?_|refine zB fun b=>?_|refine zC fun a' c' hc1 hc2=>?_|(apply GJ.a;exact rfl;intro hg)|(apply GJ.o;exact rfl;intro hg)
  exact Wk.outS Sup.z (p2 _) hk
 rw [if_neg h1] at hk
 by_cases h2:c=114
 ·rw [if_pos h2] at hk
  repeat first|exact zE|refine zP ?_|refine zB fun b=>?_|refine zC fun a' c' hc1 hc2=>?_|(apply GJ.a;exact rfl;intro hg)|(apply GJ.o;exact rfl;intro hg)
  exact Wk.outS Sup.z (p2 _) hk
 rw [if_neg h2] at hk
 by_cases h3:c=116
 ·rw [if_pos h3] at hk
  repeat first|exact zE|refine zP ?_|refine zB fun b=>?_|refine zC fun a' c' hc1 hc2=>?_|(apply GJ.a;exact rfl;intro hg)|(apply GJ.o;exact rfl;intro hg)
  exact Wk.outS Sup.z (p2 _) hk
 rw [if_neg h3] at hk
 by_cases h4:c=48
 ·rw [if_pos h4] at hk
  repeat first|exact zE|refine zP ?_|refine zB fun b=>?_|refine zC fun a' c' hc1 hc2=>?_|(apply GJ.a;exact rfl;intro hg)|(apply GJ.o;exact rfl;intro hg)
  exact Wk.outS Sup.z (p2 _) hk
 rw [if_neg h4] at hk
 by_cases h5:c=120
 ·rw [if_pos h5] at hk
  repeat first|exact zE|refine zP ?_|refine zB fun b=>?_|refine zC fun a' c' hc1 hc2=>?_|(apply GJ.a;exact rfl;intro hg)|(apply GJ.o;exact rfl;intro hg)
  rw [e1]
  refine digit_ok (t:=t) (s:=s.adv) a hx (by show s.p+1≤_;omega) ?_
  repeat first|exact zE|refine zP ?_|refine zB fun b=>?_|refine zC fun a' c' hc1 hc2=>?_|(apply GJ.a;exact rfl;intro hg)|(apply GJ.o;exact rfl;intro hg)
  refine digit_ok (t:=t) (s:=(digitD t a s.adv).2) a hx (by rw [digitD_p];show s.p+1+1≤_;omega) ?_
  have l1:=digitD_lt (t:=t) (a:=a) (s:=s.adv)
  have l2:=digitD_lt (t:=t) (a:=a) (s:=(digitD t a s.adv).2)
  have l3:=hexes_or _ l1 _ l2
  generalize (digitD t a s.adv).1=y at l1 l3 hk ⊢
  generalize (digitD t a (digitD t a s.adv).2).1=z at l2 l3 hk ⊢
  repeat first|exact zE|refine zP ?_|refine zB fun b=>?_|refine zC fun a' c' hc1 hc2=>?_|(apply GJ.a;exact rfl;intro hg)|(apply GJ.o;exact rfl;intro hg)
  exact Wk.outE Sup.z (p2 _) hk (congrArg (Value.int .u8) l3.symm)
 rw [if_neg h5] at hk
 cases hbad:badEsc c with
 | true =>
   rw [hbad,if_pos rfl] at hk
   simp only [badEsc,isDig,Bool.or_eq_true,Bool.and_eq_true,decide_eq_true_iff] at hbad
   repeat first|exact zE|refine zP ?_|refine zB fun b=>?_|refine zC fun a' c' hc1 hc2=>?_|(apply GJ.a;exact rfl;intro hg)|(apply GJ.o;exact rfl;intro hg)
   rw [e1]
   refine rwrong_ok (t:=t) (s:=s.adv) 5 a rfl hx ?_
   repeat first|exact zE|refine zP ?_|refine zB fun b=>?_|refine zC fun a' c' hc1 hc2=>?_|(apply GJ.a;exact rfl;intro hg)|(apply GJ.o;exact rfl;intro hg)
   exact Wk.outS Sup.z (p2 _) hk
 | false =>
   rw [hbad,if_neg (by decide)] at hk
   have hbad:¬badEsc c=true:=by rw [hbad];decide
   simp only [badEsc,isDig,Bool.or_eq_true,Bool.and_eq_true,decide_eq_true_iff] at hbad
   repeat first|exact zE|refine zP ?_|refine zB fun b=>?_|refine zC fun a' c' hc1 hc2=>?_|(apply GJ.a;exact rfl;intro hg)|(apply GJ.o;exact rfl;intro hg)
   exact Wk.outS Sup.z (p2 _) hk
theorem escD_p {a:Nat}{s:RS}:(escD t a s).2.p≤s.p+3:=by
 unfold escD
 repeat' split
 all_goals first|(show s.p+1≤_;omega)|(dsimp only;rw [digitD_p,digitD_p];show s.p+1+1+1≤_;omega)|(dsimp only;unfold RS.wrong;split<;>(show s.p+1≤_;omega))|(dsimp only;show s.p+1≤_;omega)
theorem byteD_p {s:RS}:(byteD t s).2.p≤s.p+4:=by
 unfold byteD
 split
 ·have:=escD_p (t:=t) (a:=s.p) (s:=s.adv)
  have e:s.adv.p=s.p+1:=rfl
  omega
 ·split
  ·dsimp only;unfold RS.wrong;split<;>(first|omega|(dsimp only;omega))
  ·show s.p+1≤_;omega
theorem escD_lt {a:Nat}{s:RS}:(escD t a s).1<256:=by
 have l1:=digitD_lt (t:=t) (a:=a) (s:=s.adv)
 have l2:=digitD_lt (t:=t) (a:=a) (s:=(digitD t a s.adv).2)
 have l3:=peek_lt t s
 unfold escD
 repeat' split
 all_goals first|omega|(dsimp only;omega)
theorem byteD_lt {s:RS}:(byteD t s).1<256:=by
 have l3:=peek_lt t s
 unfold byteD
 split
 ·exact escD_lt
 ·split
  ·show (0:Nat)<256;decide
  ·exact l3
set_option maxHeartbeats 4000000 in
theorem byte_ok {s:RS} [hb:HasBlk own q 116 (rsV t s) g] (hp:s.p≤100000) (hk:K (.int .u8 ((byteD t s).1:Int)) ro (g (.blk q 116 (rsV t (byteD t s).2)))) :
  CallOk Tryz.prog 106 #[ptr' q] ro own K:=by
 obtain ⟨r,p1,p2⟩:=hb.split
 refine CallOk.perm p1 ?_
 have hlt:=peek_lt t s
 refine CallOk.intro (args:=[_]) (rs:=[_]) T_ok Tryz.func106 Tryz.call106 rfl rfl (by kernel_rfl) rfl rfl ?_
 repeat first|exact zE|refine zP ?_|refine zB fun b=>?_|refine zC fun a' c' hc1 hc2=>?_|(apply GJ.a;exact rfl;intro hg)|(apply GJ.o;exact rfl;intro hg)
 refine peek_ok (t:=t) (s:=s) ?_
 have e1:(.blk q 116 [str t,.int .i64 ((s.p:Int)+1),.int .i64 (s.n:Int),.int .i64 (s.e:Int),.int .i64 (s.f:Int)]:Chunk)=.blk q 116 (rsV t s.adv):=rfl
 unfold byteD at hk
 generalize peekD t s=c at hlt hk ⊢
 by_cases h1:c=92
 ·rw [if_pos h1] at hk
  repeat first|exact zE|refine zP ?_|refine zB fun b=>?_|refine zC fun a' c' hc1 hc2=>?_|(apply GJ.a;exact rfl;intro hg)|(apply GJ.o;exact rfl;intro hg)
  rw [e1]
  refine escape_ok (t:=t) (s:=s.adv) s.p rfl (by show s.p+1≤_;omega) ?_
  repeat first|exact zE|refine zP ?_|refine zB fun b=>?_|refine zC fun a' c' hc1 hc2=>?_|(apply GJ.a;exact rfl;intro hg)|(apply GJ.o;exact rfl;intro hg)
  exact Wk.outS Sup.z (p2 _) hk
 rw [if_neg h1] at hk
 obtain ⟨u,hu⟩:∃ u:UInt8,u.toNat=c:=⟨UInt8.ofNat c,UInt8.toNat_ofNat_of_lt' hlt⟩
 have hsg:=signsR_all c hlt
 rw [←hu,UInt8.ofNat_toNat,hu] at hsg
 unfold badB at hk
 by_cases h2:c<32
 ·rw [decide_eq_true h2] at hk
  repeat first|exact zE|refine zP ?_|refine zB fun b=>?_|refine zC fun a' c' hc1 hc2=>?_|(apply GJ.a;exact rfl;intro hg)|(apply GJ.o;exact rfl;intro hg)
  refine rwrong_ok (t:=t) (s:=s) 5 s.p rfl rfl ?_
  repeat first|exact zE|refine zP ?_|refine zB fun b=>?_|refine zC fun a' c' hc1 hc2=>?_|(apply GJ.a;exact rfl;intro hg)|(apply GJ.o;exact rfl;intro hg)
  exact Wk.outS Sup.z (p2 _) hk
 rw [decide_eq_false h2] at hk
 by_cases h3:126<c
 ·rw [decide_eq_true h3] at hk
  repeat first|exact zE|refine zP ?_|refine zB fun b=>?_|refine zC fun a' c' hc1 hc2=>?_|(apply GJ.a;exact rfl;intro hg)|(apply GJ.o;exact rfl;intro hg)
  refine rwrong_ok (t:=t) (s:=s) 5 s.p rfl rfl ?_
  repeat first|exact zE|refine zP ?_|refine zB fun b=>?_|refine zC fun a' c' hc1 hc2=>?_|(apply GJ.a;exact rfl;intro hg)|(apply GJ.o;exact rfl;intro hg)
  exact Wk.outS Sup.z (p2 _) hk
 rw [decide_eq_false h3,Bool.false_or,Bool.false_or,←hsg] at hk
 repeat first|exact zE|refine zP ?_|refine zB fun b=>?_|refine zC fun a' c' hc1 hc2=>?_|(apply GJ.a;exact rfl;intro hg)|(apply GJ.o;exact rfl;intro hg)
 subst hu
 refine OpOk.toStr (l:=[u]) rfl rfl rfl rfl (Rds.hasSl (cs:=[u8 u]) (by omega) (by decide) rfl) ?_
 repeat first|exact zE|refine zP ?_|refine zB fun b=>?_|refine zC fun a' c' hc1 hc2=>?_|(apply GJ.a;exact rfl;intro hg)|(apply GJ.o;exact rfl;intro hg)
 refine containsR_ok ?_
 generalize decide (0≤firstIdx ⟨⟨signsR⟩⟩ u)=d at hk ⊢
 cases d with
 | true =>
   repeat first|exact zE|refine zP ?_|refine zB fun b=>?_|refine zC fun a' c' hc1 hc2=>?_|(apply GJ.a;exact rfl;intro hg)|(apply GJ.o;exact rfl;intro hg)
   refine rwrong_ok (t:=t) (s:=s) 5 s.p rfl rfl ?_
   repeat first|exact zE|refine zP ?_|refine zB fun b=>?_|refine zC fun a' c' hc1 hc2=>?_|(apply GJ.a;exact rfl;intro hg)|(apply GJ.o;exact rfl;intro hg)
   exact Wk.outS Sup.z (p2 _) hk
 | false =>
   repeat first|exact zE|refine zP ?_|refine zB fun b=>?_|refine zC fun a' c' hc1 hc2=>?_|(apply GJ.a;exact rfl;intro hg)|(apply GJ.o;exact rfl;intro hg)
   exact Wk.outS Sup.z (p2 _) hk
end
theorem pairD_lt {t:List UInt8}{s:RS}:(pairD t s).1.1<256∧(pairD t s).1.2<256:=by
 unfold pairD
 split
 ·exact ⟨byteD_lt,byteD_lt⟩
 ·exact ⟨byteD_lt,byteD_lt⟩
theorem setL_stop {t:List UInt8}{a k:Nat}{z:SetD}{s:RS} (h:s.e≠0):setL t a k z s=(z,s):=by
 cases k with
 | zero=>rfl
 | succ k=>rw [setL,if_neg (fun x=>h x.1)]
theorem setL_in {t:List UInt8}{a:Nat}:∀ {k:Nat}{z:SetD}{s:RS},SetIn z→SetIn (setL t a k z s).1
 | 0,z,s,h=>h
 | k+1,z,s,h=>by
   rw [setL]
   split
   ·split
    ·exact h
    ·exact setL_in (h.or (range_in _ _))
   ·exact h
theorem pair_more {t:List UInt8}{s:RS} (h:Inv t s) (h0:s.e=0):(pairD t s).2.e=0→s.p+1≤(pairD t s).2.p:=by
 intro he
 obtain ⟨l,⟨r1,r2⟩,_⟩:=pair_sound he
 rw [r1]
 show s.p+1≤s.p+l.length
 by_cases hl:l=[]
 ·subst hl
  exfalso
  have:(byteD t s).2.e=0:=by
   unfold pairD at he
   split at he
   ·exact back_e (f:=fun s=>byteD t s) (fun h=>byte_keep h) (s:=(byteD t s).2.adv) he
   ·exact he
  obtain ⟨m,⟨b1,b2⟩,hb⟩:=byte_sound this
  obtain ⟨x,q,hx,_⟩:=hb.head
  have h1:(byteD t s).2.p≤(pairD t s).2.p:=by
   unfold pairD at he ⊢
   split
   ·rename_i e
    rw [if_pos e] at he
    obtain ⟨m2,⟨c1,c2⟩,_⟩:=byte_sound he
    rw [c1];show (byteD t s).2.p≤(byteD t s).2.p+1+m2.length;omega
   ·exact Nat.le_refl _
  rw [r1,b1] at h1
  have h1:s.p+m.length≤s.p+0:=h1
  subst hx
  simp at h1
  omega
 ·have:0<l.length:=List.length_pos_iff.2 hl
  omega
section
variable {ro:Ro}{own r:Chs}{K:Value→Ro→Chs→Prop}{g:Chunk→Chs}{q:Nat}{t:List UInt8}
theorem rangeD_ok {x y:Nat} (hx:x<256) (hy:y<256) (hk:K (.agg (setV (rangeD x y)).toArray) ro own):CallOk Tryz.prog 114 #[.int .u8 (x:Int),.int .u8 (y:Int)] ro own K :=
 range_ok hx hy fun s h1 h2=>by
  have:s=rangeD x y:=SetD.ext h1 (range_in x y) fun c hc=>by rw [h2 c hc,range_has x y hc]
  rw [this];exact hk
set_option maxHeartbeats 8000000 in
theorem set_ok {s:RS} [hb:HasBlk own q 116 (rsV t s) g] {x:Int} (a:Nat) (hx:x=(a:Int)) (ha:a≤t.length) (hi:Inv t s) (h0:s.e=0) (hl:t.length≤10000) (hk:K (.agg (setV (setD t a s).1).toArray) ro (g (.blk q 116 (rsV t (setD t a s).2)))) :
  CallOk Tryz.prog 105 #[ptr' q,.int .i64 x] ro own K:=by
 subst hx
 obtain ⟨r,p1,p2⟩:=hb.split
 refine CallOk.perm p1 ?_
 have hip:=hi.p
 refine CallOk.intro (args:=[_,_]) (rs:=[_]) T_ok Tryz.func105 Tryz.call105 rfl rfl (by kernel_rfl) rfl rfl ?_
 repeat first|exact zE|refine zP ?_|refine zB fun b=>?_|refine zC fun a' c' hc1 hc2=>?_|(apply GJ.a;exact rfl;intro hg)|(apply GJ.o;exact rfl;intro hg)
 obtain ⟨b1,hb1⟩:∃ z:Nat,z=b:=⟨_,rfl⟩
 subst hb1
 refine eat_ok (t:=t) (s:=s) 94 rfl (by decide) (by omega) ?_
 have hi1:Inv t (eatS t 94 s):=hi.eat (by decide)
 have h01:(eatS t 94 s).e=0:=by rw [eat_keep];exact h0
 obtain ⟨R,hR⟩:∃ R,R=setL t a (t.length+1) zeroS (eatS t 94 s):=⟨_,rfl⟩
 have hRin:SetIn R.1:=by rw [hR];exact setL_in zeroS_in
 unfold setD at hk
 dsimp only at hk
 rw [←hR] at hk
 generalize eatS t 94 s=s0 at hi1 h01 hR
 generalize decide (peekD t s=94)=tb at hk ⊢
 have hfin:∀ z s2,R=(z,s2)→Inv t s2→s2.p≤10000000:=fun z s2 _ h=>by have:=h.p;omega
 repeat first|exact zE|refine zP ?_|refine zB fun b=>?_|refine zC fun a' c' hc1 hc2=>?_|(apply GJ.a;exact rfl;intro hg)|(apply GJ.o;exact rfl;intro hg)
 obtain ⟨b2,hb2⟩:∃ z:Nat,z=b:=⟨_,rfl⟩
 subst hb2
 refine LoopOk.at (ι:=Nat × SetD × RS) Keep.z (fun (k,z,s1)=>[]) (fun (k,z,s1)=>.blk b2 40 (setV z)::.blk b1 40 (setV zeroS)::.blk q 116 (rsV t s1)::r) (fun (k,z,s1)=>setL t a k z s1=R∧SetIn z∧Inv t s1∧(s1.e=0→t.length+1≤k+s1.p)) (fun (k,z,s1)=>k) (t.length+1,zeroS,s0) ?_ Sub.z Sup.z ?_
 ·exact ⟨hR.symm,zeroS_in,hi1,fun _=>by omega⟩
 rintro ⟨k,z,s1⟩ ⟨i1,i2,i3,i4⟩
 dsimp only [List.cons_append,List.nil_append] at i1 i2 i3 i4 ⊢
 have hp1:=i3.p
 repeat first|exact zE|refine zP ?_|refine zB fun b=>?_|refine zC fun a' c' hc1 hc2=>?_|(apply GJ.a;exact rfl;intro hg)|(apply GJ.o;exact rfl;intro hg)
 refine rok_ok (t:=t) (s:=s1) ?_
 by_cases he:¬s1.e=0
 ·have hRz:R=(z,s1):=i1.symm.trans (setL_stop he)
  rw [decide_eq_false (show ¬(s1.e:Int)=0 by omega)]
  repeat first|exact zE|refine zP ?_|refine zB fun b=>?_|refine zC fun a' c' hc1 hc2=>?_|(apply GJ.a;exact rfl;intro hg)|(apply GJ.o;exact rfl;intro hg)
  refine must_ok (t:=t) (s:=s1) 93 rfl (by decide) (hfin _ _ hRz i3) ?_
  rw [hRz] at hk hRin
  dsimp only at hk hRin
  generalize mustS t 93 s1=s5 at hk ⊢
  have hzin:SetIn (turnD tb z):=by
   cases tb with
   | true=>exact SetIn.not _
   | false=>exact hRin
  have hck:K (.agg (setV (turnD tb z)).toArray) ro (g (.blk q 116 (rsV t (if s5.e=0∧turnD tb z=zeroS then s5.wrong 160 a else s5)))):=hk
  cases tb with
  | true =>
    rw [show turnD true z=SetD.not z from rfl] at hck
    repeat first|exact zE|refine zP ?_|refine zB fun b=>?_|refine zC fun a' c' hc1 hc2=>?_|(apply GJ.a;exact rfl;intro hg)|(apply GJ.o;exact rfl;intro hg)
    refine not_ok hRin ?_
    repeat first|exact zE|refine zP ?_|refine zB fun b=>?_|refine zC fun a' c' hc1 hc2=>?_|(apply GJ.a;exact rfl;intro hg)|(apply GJ.o;exact rfl;intro hg)
    refine rok_ok (t:=t) (s:=s5) ?_
    by_cases he5:s5.e=0
    ·rw [decide_eq_true (show (s5.e:Int)=0 by omega)]
     repeat first|exact zE|refine zP ?_|refine zB fun b=>?_|refine zC fun a' c' hc1 hc2=>?_|(apply GJ.a;exact rfl;intro hg)|(apply GJ.o;exact rfl;intro hg)
     refine check_ok ?_
     by_cases hz0:SetD.not z=zeroS
     ·rw [if_pos ⟨he5,hz0⟩] at hck
      rw [if_pos (show SetD.not z=⟨0,0,0,0⟩ from hz0)]
      repeat first|exact zE|refine zP ?_|refine zB fun b=>?_|refine zC fun a' c' hc1 hc2=>?_|(apply GJ.a;exact rfl;intro hg)|(apply GJ.o;exact rfl;intro hg)
      refine rwrong_ok (t:=t) (s:=s5) 160 a rfl rfl ?_
      repeat first|exact zE|refine zP ?_|refine zB fun b=>?_|refine zC fun a' c' hc1 hc2=>?_|(apply GJ.a;exact rfl;intro hg)|(apply GJ.o;exact rfl;intro hg)
      exact Wk.outS Sup.z (p2 _) hck
     ·rw [if_neg (fun x=>hz0 x.2)] at hck
      rw [if_neg (show ¬SetD.not z=⟨0,0,0,0⟩ from hz0)]
      repeat first|exact zE|refine zP ?_|refine zB fun b=>?_|refine zC fun a' c' hc1 hc2=>?_|(apply GJ.a;exact rfl;intro hg)|(apply GJ.o;exact rfl;intro hg)
      exact Wk.outS Sup.z (p2 _) hck
    ·rw [decide_eq_false (show ¬(s5.e:Int)=0 by omega)]
     rw [if_neg (fun x=>he5 x.1)] at hck
     repeat first|exact zE|refine zP ?_|refine zB fun b=>?_|refine zC fun a' c' hc1 hc2=>?_|(apply GJ.a;exact rfl;intro hg)|(apply GJ.o;exact rfl;intro hg)
     exact Wk.outS Sup.z (p2 _) hck
  | false =>
    rw [show turnD false z=z from rfl] at hck
    repeat first|exact zE|refine zP ?_|refine zB fun b=>?_|refine zC fun a' c' hc1 hc2=>?_|(apply GJ.a;exact rfl;intro hg)|(apply GJ.o;exact rfl;intro hg)
    refine rok_ok (t:=t) (s:=s5) ?_
    by_cases he5:s5.e=0
    ·rw [decide_eq_true (show (s5.e:Int)=0 by omega)]
     repeat first|exact zE|refine zP ?_|refine zB fun b=>?_|refine zC fun a' c' hc1 hc2=>?_|(apply GJ.a;exact rfl;intro hg)|(apply GJ.o;exact rfl;intro hg)
     refine check_ok ?_
     by_cases hz0:z=zeroS
     ·rw [if_pos ⟨he5,hz0⟩] at hck
      rw [if_pos (show z=⟨0,0,0,0⟩ from hz0)]
      repeat first|exact zE|refine zP ?_|refine zB fun b=>?_|refine zC fun a' c' hc1 hc2=>?_|(apply GJ.a;exact rfl;intro hg)|(apply GJ.o;exact rfl;intro hg)
      refine rwrong_ok (t:=t) (s:=s5) 160 a rfl rfl ?_
      repeat first|exact zE|refine zP ?_|refine zB fun b=>?_|refine zC fun a' c' hc1 hc2=>?_|(apply GJ.a;exact rfl;intro hg)|(apply GJ.o;exact rfl;intro hg)
      exact Wk.outS Sup.z (p2 _) hck
     ·rw [if_neg (fun x=>hz0 x.2)] at hck
      rw [if_neg (show ¬z=⟨0,0,0,0⟩ from hz0)]
      repeat first|exact zE|refine zP ?_|refine zB fun b=>?_|refine zC fun a' c' hc1 hc2=>?_|(apply GJ.a;exact rfl;intro hg)|(apply GJ.o;exact rfl;intro hg)
      exact Wk.outS Sup.z (p2 _) hck
    ·rw [decide_eq_false (show ¬(s5.e:Int)=0 by omega)]
     rw [if_neg (fun x=>he5 x.1)] at hck
     repeat first|exact zE|refine zP ?_|refine zB fun b=>?_|refine zC fun a' c' hc1 hc2=>?_|(apply GJ.a;exact rfl;intro hg)|(apply GJ.o;exact rfl;intro hg)
     exact Wk.outS Sup.z (p2 _) hck
 have he:=Decidable.of_not_not he
 rw [decide_eq_true (show (s1.e:Int)=0 by omega)]
 have h4:=i4 he
 have h5:=i3.p0 he
 obtain ⟨k,rfl⟩:∃ j,k=j+1:=⟨k-1,by omega⟩
 rw [setL] at i1
 repeat first|exact zE|refine zP ?_|refine zB fun b=>?_|refine zC fun a' c' hc1 hc2=>?_|(apply GJ.a;exact rfl;intro hg)|(apply GJ.o;exact rfl;intro hg)
 refine peek_ok (t:=t) (s:=s1) ?_
 by_cases h93:peekD t s1=93
 ·rw [if_neg (fun x=>x.2 h93)] at i1
  have hRz:R=(z,s1):=i1.symm
  rw [h93]
  repeat first|exact zE|refine zP ?_|refine zB fun b=>?_|refine zC fun a' c' hc1 hc2=>?_|(apply GJ.a;exact rfl;intro hg)|(apply GJ.o;exact rfl;intro hg)
  refine must_ok (t:=t) (s:=s1) 93 rfl (by decide) (hfin _ _ hRz i3) ?_
  rw [hRz] at hk hRin
  dsimp only at hk hRin
  generalize mustS t 93 s1=s5 at hk ⊢
  have hzin:SetIn (turnD tb z):=by
   cases tb with
   | true=>exact SetIn.not _
   | false=>exact hRin
  have hck:K (.agg (setV (turnD tb z)).toArray) ro (g (.blk q 116 (rsV t (if s5.e=0∧turnD tb z=zeroS then s5.wrong 160 a else s5)))):=hk
  cases tb with
  | true =>
    rw [show turnD true z=SetD.not z from rfl] at hck
    repeat first|exact zE|refine zP ?_|refine zB fun b=>?_|refine zC fun a' c' hc1 hc2=>?_|(apply GJ.a;exact rfl;intro hg)|(apply GJ.o;exact rfl;intro hg)
    refine not_ok hRin ?_
    repeat first|exact zE|refine zP ?_|refine zB fun b=>?_|refine zC fun a' c' hc1 hc2=>?_|(apply GJ.a;exact rfl;intro hg)|(apply GJ.o;exact rfl;intro hg)
    refine rok_ok (t:=t) (s:=s5) ?_
    by_cases he5:s5.e=0
    ·rw [decide_eq_true (show (s5.e:Int)=0 by omega)]
     repeat first|exact zE|refine zP ?_|refine zB fun b=>?_|refine zC fun a' c' hc1 hc2=>?_|(apply GJ.a;exact rfl;intro hg)|(apply GJ.o;exact rfl;intro hg)
     refine check_ok ?_
     by_cases hz0:SetD.not z=zeroS
     ·rw [if_pos ⟨he5,hz0⟩] at hck
      rw [if_pos (show SetD.not z=⟨0,0,0,0⟩ from hz0)]
      repeat first|exact zE|refine zP ?_|refine zB fun b=>?_|refine zC fun a' c' hc1 hc2=>?_|(apply GJ.a;exact rfl;intro hg)|(apply GJ.o;exact rfl;intro hg)
      refine rwrong_ok (t:=t) (s:=s5) 160 a rfl rfl ?_
      repeat first|exact zE|refine zP ?_|refine zB fun b=>?_|refine zC fun a' c' hc1 hc2=>?_|(apply GJ.a;exact rfl;intro hg)|(apply GJ.o;exact rfl;intro hg)
      exact Wk.outS Sup.z (p2 _) hck
     ·rw [if_neg (fun x=>hz0 x.2)] at hck
      rw [if_neg (show ¬SetD.not z=⟨0,0,0,0⟩ from hz0)]
      repeat first|exact zE|refine zP ?_|refine zB fun b=>?_|refine zC fun a' c' hc1 hc2=>?_|(apply GJ.a;exact rfl;intro hg)|(apply GJ.o;exact rfl;intro hg)
      exact Wk.outS Sup.z (p2 _) hck
    ·rw [decide_eq_false (show ¬(s5.e:Int)=0 by omega)]
     rw [if_neg (fun x=>he5 x.1)] at hck
     repeat first|exact zE|refine zP ?_|refine zB fun b=>?_|refine zC fun a' c' hc1 hc2=>?_|(apply GJ.a;exact rfl;intro hg)|(apply GJ.o;exact rfl;intro hg)
     exact Wk.outS Sup.z (p2 _) hck
  | false =>
    rw [show turnD false z=z from rfl] at hck
    repeat first|exact zE|refine zP ?_|refine zB fun b=>?_|refine zC fun a' c' hc1 hc2=>?_|(apply GJ.a;exact rfl;intro hg)|(apply GJ.o;exact rfl;intro hg)
    refine rok_ok (t:=t) (s:=s5) ?_
    by_cases he5:s5.e=0
    ·rw [decide_eq_true (show (s5.e:Int)=0 by omega)]
     repeat first|exact zE|refine zP ?_|refine zB fun b=>?_|refine zC fun a' c' hc1 hc2=>?_|(apply GJ.a;exact rfl;intro hg)|(apply GJ.o;exact rfl;intro hg)
     refine check_ok ?_
     by_cases hz0:z=zeroS
     ·rw [if_pos ⟨he5,hz0⟩] at hck
      rw [if_pos (show z=⟨0,0,0,0⟩ from hz0)]
      repeat first|exact zE|refine zP ?_|refine zB fun b=>?_|refine zC fun a' c' hc1 hc2=>?_|(apply GJ.a;exact rfl;intro hg)|(apply GJ.o;exact rfl;intro hg)
      refine rwrong_ok (t:=t) (s:=s5) 160 a rfl rfl ?_
      repeat first|exact zE|refine zP ?_|refine zB fun b=>?_|refine zC fun a' c' hc1 hc2=>?_|(apply GJ.a;exact rfl;intro hg)|(apply GJ.o;exact rfl;intro hg)
      exact Wk.outS Sup.z (p2 _) hck
     ·rw [if_neg (fun x=>hz0 x.2)] at hck
      rw [if_neg (show ¬z=⟨0,0,0,0⟩ from hz0)]
      repeat first|exact zE|refine zP ?_|refine zB fun b=>?_|refine zC fun a' c' hc1 hc2=>?_|(apply GJ.a;exact rfl;intro hg)|(apply GJ.o;exact rfl;intro hg)
      exact Wk.outS Sup.z (p2 _) hck
    ·rw [decide_eq_false (show ¬(s5.e:Int)=0 by omega)]
     rw [if_neg (fun x=>he5 x.1)] at hck
     repeat first|exact zE|refine zP ?_|refine zB fun b=>?_|refine zC fun a' c' hc1 hc2=>?_|(apply GJ.a;exact rfl;intro hg)|(apply GJ.o;exact rfl;intro hg)
     exact Wk.outS Sup.z (p2 _) hck
 rw [if_pos ⟨he,h93⟩] at i1
 repeat first|exact zE|refine zP ?_|refine zB fun b=>?_|refine zC fun a' c' hc1 hc2=>?_|(apply GJ.a;exact rfl;intro hg)|(apply GJ.o;exact rfl;intro hg)
 refine peek_ok (t:=t) (s:=s1) ?_
 by_cases hz:peekD t s1=0
 ·rw [if_pos hz] at i1
  have hRz:R=(z,s1.wrong 5 s1.p):=i1.symm
  have hiw:Inv t (s1.wrong 5 s1.p):=i3.wrong (.inr (.inr (.inl rfl))) (fun _=>h5)
  rw [hz]
  repeat first|exact zE|refine zP ?_|refine zB fun b=>?_|refine zC fun a' c' hc1 hc2=>?_|(apply GJ.a;exact rfl;intro hg)|(apply GJ.o;exact rfl;intro hg)
  refine rwrong_ok (t:=t) (s:=s1) 5 s1.p rfl rfl ?_
  generalize s1.wrong 5 s1.p=s4 at hRz hiw ⊢
  repeat first|exact zE|refine zP ?_|refine zB fun b=>?_|refine zC fun a' c' hc1 hc2=>?_|(apply GJ.a;exact rfl;intro hg)|(apply GJ.o;exact rfl;intro hg)
  refine must_ok (t:=t) (s:=s4) 93 rfl (by decide) (hfin _ _ hRz hiw) ?_
  rw [hRz] at hk hRin
  dsimp only at hk hRin
  generalize mustS t 93 s4=s5 at hk ⊢
  have hzin:SetIn (turnD tb z):=by
   cases tb with
   | true=>exact SetIn.not _
   | false=>exact hRin
  have hck:K (.agg (setV (turnD tb z)).toArray) ro (g (.blk q 116 (rsV t (if s5.e=0∧turnD tb z=zeroS then s5.wrong 160 a else s5)))):=hk
  cases tb with
  | true =>
    rw [show turnD true z=SetD.not z from rfl] at hck
    repeat first|exact zE|refine zP ?_|refine zB fun b=>?_|refine zC fun a' c' hc1 hc2=>?_|(apply GJ.a;exact rfl;intro hg)|(apply GJ.o;exact rfl;intro hg)
    refine not_ok hRin ?_
    repeat first|exact zE|refine zP ?_|refine zB fun b=>?_|refine zC fun a' c' hc1 hc2=>?_|(apply GJ.a;exact rfl;intro hg)|(apply GJ.o;exact rfl;intro hg)
    refine rok_ok (t:=t) (s:=s5) ?_
    by_cases he5:s5.e=0
    ·rw [decide_eq_true (show (s5.e:Int)=0 by omega)]
     repeat first|exact zE|refine zP ?_|refine zB fun b=>?_|refine zC fun a' c' hc1 hc2=>?_|(apply GJ.a;exact rfl;intro hg)|(apply GJ.o;exact rfl;intro hg)
     refine check_ok ?_
     by_cases hz0:SetD.not z=zeroS
     ·rw [if_pos ⟨he5,hz0⟩] at hck
      rw [if_pos (show SetD.not z=⟨0,0,0,0⟩ from hz0)]
      repeat first|exact zE|refine zP ?_|refine zB fun b=>?_|refine zC fun a' c' hc1 hc2=>?_|(apply GJ.a;exact rfl;intro hg)|(apply GJ.o;exact rfl;intro hg)
      refine rwrong_ok (t:=t) (s:=s5) 160 a rfl rfl ?_
      repeat first|exact zE|refine zP ?_|refine zB fun b=>?_|refine zC fun a' c' hc1 hc2=>?_|(apply GJ.a;exact rfl;intro hg)|(apply GJ.o;exact rfl;intro hg)
      exact Wk.outS Sup.z (p2 _) hck
     ·rw [if_neg (fun x=>hz0 x.2)] at hck
      rw [if_neg (show ¬SetD.not z=⟨0,0,0,0⟩ from hz0)]
      repeat first|exact zE|refine zP ?_|refine zB fun b=>?_|refine zC fun a' c' hc1 hc2=>?_|(apply GJ.a;exact rfl;intro hg)|(apply GJ.o;exact rfl;intro hg)
      exact Wk.outS Sup.z (p2 _) hck
    ·rw [decide_eq_false (show ¬(s5.e:Int)=0 by omega)]
     rw [if_neg (fun x=>he5 x.1)] at hck
     repeat first|exact zE|refine zP ?_|refine zB fun b=>?_|refine zC fun a' c' hc1 hc2=>?_|(apply GJ.a;exact rfl;intro hg)|(apply GJ.o;exact rfl;intro hg)
     exact Wk.outS Sup.z (p2 _) hck
  | false =>
    rw [show turnD false z=z from rfl] at hck
    repeat first|exact zE|refine zP ?_|refine zB fun b=>?_|refine zC fun a' c' hc1 hc2=>?_|(apply GJ.a;exact rfl;intro hg)|(apply GJ.o;exact rfl;intro hg)
    refine rok_ok (t:=t) (s:=s5) ?_
    by_cases he5:s5.e=0
    ·rw [decide_eq_true (show (s5.e:Int)=0 by omega)]
     repeat first|exact zE|refine zP ?_|refine zB fun b=>?_|refine zC fun a' c' hc1 hc2=>?_|(apply GJ.a;exact rfl;intro hg)|(apply GJ.o;exact rfl;intro hg)
     refine check_ok ?_
     by_cases hz0:z=zeroS
     ·rw [if_pos ⟨he5,hz0⟩] at hck
      rw [if_pos (show z=⟨0,0,0,0⟩ from hz0)]
      repeat first|exact zE|refine zP ?_|refine zB fun b=>?_|refine zC fun a' c' hc1 hc2=>?_|(apply GJ.a;exact rfl;intro hg)|(apply GJ.o;exact rfl;intro hg)
      refine rwrong_ok (t:=t) (s:=s5) 160 a rfl rfl ?_
      repeat first|exact zE|refine zP ?_|refine zB fun b=>?_|refine zC fun a' c' hc1 hc2=>?_|(apply GJ.a;exact rfl;intro hg)|(apply GJ.o;exact rfl;intro hg)
      exact Wk.outS Sup.z (p2 _) hck
     ·rw [if_neg (fun x=>hz0 x.2)] at hck
      rw [if_neg (show ¬z=⟨0,0,0,0⟩ from hz0)]
      repeat first|exact zE|refine zP ?_|refine zB fun b=>?_|refine zC fun a' c' hc1 hc2=>?_|(apply GJ.a;exact rfl;intro hg)|(apply GJ.o;exact rfl;intro hg)
      exact Wk.outS Sup.z (p2 _) hck
    ·rw [decide_eq_false (show ¬(s5.e:Int)=0 by omega)]
     rw [if_neg (fun x=>he5 x.1)] at hck
     repeat first|exact zE|refine zP ?_|refine zB fun b=>?_|refine zC fun a' c' hc1 hc2=>?_|(apply GJ.a;exact rfl;intro hg)|(apply GJ.o;exact rfl;intro hg)
     exact Wk.outS Sup.z (p2 _) hck
 rw [if_neg hz] at i1
 repeat first|exact zE|refine zP ?_|refine zB fun b=>?_|refine zC fun a' c' hc1 hc2=>?_|(apply GJ.a;exact rfl;intro hg)|(apply GJ.o;exact rfl;intro hg)
 refine byte_ok (t:=t) (s:=s1) (by omega) ?_
 repeat first|exact zE|refine zP ?_|refine zB fun b=>?_|refine zC fun a' c' hc1 hc2=>?_|(apply GJ.a;exact rfl;intro hg)|(apply GJ.o;exact rfl;intro hg)
 refine eat_ok (t:=t) (s:=(byteD t s1).2) 45 rfl (by decide) (by have:=byteD_p (t:=t) (s:=s1);omega) ?_
 have hmore:=pair_more i3 he
 have hi3:=i3.pair
 obtain ⟨hc2,hd2⟩:=pairD_lt (t:=t) (s:=s1)
 by_cases h45:peekD t (byteD t s1).2=45
 ·have e1:pairD t s1=(((byteD t s1).1,(byteD t (byteD t s1).2.adv).1),(byteD t (byteD t s1).2.adv).2):=by unfold pairD;rw [if_pos h45]
  rw [decide_eq_true h45,eatS,if_pos h45]
  repeat first|exact zE|refine zP ?_|refine zB fun b=>?_|refine zC fun a' c' hc1 hc2=>?_|(apply GJ.a;exact rfl;intro hg)|(apply GJ.o;exact rfl;intro hg)
  refine byte_ok (t:=t) (s:=(byteD t s1).2.adv) (by have:=byteD_p (t:=t) (s:=s1);show (byteD t s1).2.p+1≤_;omega) ?_
  rw [e1] at i1 hmore hi3 hc2 hd2
  dsimp only at i1 hmore hi3 hc2 hd2
  generalize (byteD t (byteD t s1).2.adv).2=s3 at i1 hmore hi3 ⊢
  generalize (byteD t (byteD t s1).2.adv).1=d2 at i1 hd2 ⊢
  generalize (byteD t s1).1=c2 at i1 hc2 ⊢
  repeat first|exact zE|refine zP ?_|refine zB fun b=>?_|refine zC fun a' c' hc1 hc2=>?_|(apply GJ.a;exact rfl;intro hg)|(apply GJ.o;exact rfl;intro hg)
  by_cases hlt:d2<c2
  ·rw [if_pos hlt] at i1
   repeat first|exact zE|refine zP ?_|refine zB fun b=>?_|refine zC fun a' c' hc1 hc2=>?_|(apply GJ.a;exact rfl;intro hg)|(apply GJ.o;exact rfl;intro hg)
   refine rwrong_ok (t:=t) (s:=s3) 1 a rfl rfl ?_
   repeat first|exact zE|refine zP ?_|refine zB fun b=>?_|refine zC fun a' c' hc1 hc2=>?_|(apply GJ.a;exact rfl;intro hg)|(apply GJ.o;exact rfl;intro hg)
   refine rangeD_ok hc2 hd2 ?_
   repeat first|exact zE|refine zP ?_|refine zB fun b=>?_|refine zC fun a' c' hc1 hc2=>?_|(apply GJ.a;exact rfl;intro hg)|(apply GJ.o;exact rfl;intro hg)
   refine or_ok i2 (range_in c2 d2) ?_
   repeat first|exact zE|refine zP ?_|refine zB fun b=>?_|refine zC fun a' c' hc1 hc2=>?_|(apply GJ.a;exact rfl;intro hg)|(apply GJ.o;exact rfl;intro hg)
   refine Wk.id ⟨(k,z.or (rangeD c2 d2),s3.wrong 1 a),⟨rfl,?_⟩,?_,Sub.z,Sup.z⟩
   all_goals try dsimp only
   ·exact ⟨i1,i2.or (range_in _ _),hi3.wrong (.inl rfl) (fun _=>ha),fun h=>(wrong_ne (by decide) h).elim⟩
   ·omega
  ·rw [if_neg hlt] at i1
   repeat first|exact zE|refine zP ?_|refine zB fun b=>?_|refine zC fun a' c' hc1 hc2=>?_|(apply GJ.a;exact rfl;intro hg)|(apply GJ.o;exact rfl;intro hg)
   refine rangeD_ok hc2 hd2 ?_
   repeat first|exact zE|refine zP ?_|refine zB fun b=>?_|refine zC fun a' c' hc1 hc2=>?_|(apply GJ.a;exact rfl;intro hg)|(apply GJ.o;exact rfl;intro hg)
   refine or_ok i2 (range_in c2 d2) ?_
   repeat first|exact zE|refine zP ?_|refine zB fun b=>?_|refine zC fun a' c' hc1 hc2=>?_|(apply GJ.a;exact rfl;intro hg)|(apply GJ.o;exact rfl;intro hg)
   refine Wk.id ⟨(k,z.or (rangeD c2 d2),s3),⟨rfl,?_⟩,?_,Sub.z,Sup.z⟩
   all_goals try dsimp only
   ·exact ⟨i1,i2.or (range_in _ _),hi3,fun h=>by have:=hmore h;omega⟩
   ·omega
 ·have e1:pairD t s1=(((byteD t s1).1,(byteD t s1).1),(byteD t s1).2):=by unfold pairD;rw [if_neg h45]
  rw [decide_eq_false h45,eatS,if_neg h45]
  rw [e1] at i1 hmore hi3 hc2 hd2
  dsimp only at i1 hmore hi3 hc2 hd2
  generalize (byteD t s1).2=s3 at i1 hmore hi3 ⊢
  generalize (byteD t s1).1=c2 at i1 hc2 hd2 ⊢
  have hlt:¬c2<c2:=Nat.lt_irrefl _
  rw [if_neg hlt] at i1
  repeat first|exact zE|refine zP ?_|refine zB fun b=>?_|refine zC fun a' c' hc1 hc2=>?_|(apply GJ.a;exact rfl;intro hg)|(apply GJ.o;exact rfl;intro hg)
  refine rangeD_ok hc2 hd2 ?_
  repeat first|exact zE|refine zP ?_|refine zB fun b=>?_|refine zC fun a' c' hc1 hc2=>?_|(apply GJ.a;exact rfl;intro hg)|(apply GJ.o;exact rfl;intro hg)
  refine or_ok i2 (range_in c2 c2) ?_
  repeat first|exact zE|refine zP ?_|refine zB fun b=>?_|refine zC fun a' c' hc1 hc2=>?_|(apply GJ.a;exact rfl;intro hg)|(apply GJ.o;exact rfl;intro hg)
  refine Wk.id ⟨(k,z.or (rangeD c2 c2),s3),⟨rfl,?_⟩,?_,Sub.z,Sup.z⟩
  all_goals try dsimp only
  ·exact ⟨i1,i2.or (range_in _ _),hi3,fun h=>by have:=hmore h;omega⟩
  ·omega
end
end Go.Proofs.YtficlekgjbnniaaGreatDoor
end
section
namespace Go.Proofs
open Go.Shelf
def Tryz.laysMul_ren:Go.Shelf.Ren:=⟨fun|264=>130|n=>n,fun|53=>22|46=>77|n=>n,fun|n=>n⟩
theorem Tryz.laysMul:Go.Proofs.Lays.n264 Tryz.prog Tryz.laysMul_ren:={
 mixed:=by kernel_rfl
 f264:=Tryz.func130.trans (congrArg some (by kernel_rfl))
 t46:=Tryz.underlying77
 a46:=Tryz.isAgg77
 z46:=Tryz.sizeOf77
 v46:=Tryz.zeroValue77
 t53:=Tryz.underlying22
 a53:=Tryz.isAgg22
 z53:=Tryz.sizeOf22
 v53:=Tryz.zeroValue22 }
end Go.Proofs
namespace Go.Proofs.YtficlekgjbnniaaGreatDoor
open Go Go.E
section
variable {ro:Ro}{own r:Chs}{K:Value→Ro→Chs→Prop}{g:Chunk→Chs}
theorem mul64_ok {x y:Nat} (hx:x<18446744073709551616) (hy:y<18446744073709551616) (hk:K (.tuple #[.int .u64 ((x*y / 18446744073709551616:Nat):Int),.int .u64 ((x*y % 18446744073709551616:Nat):Int)]) ro own) :
  CallOk Tryz.prog 130 #[.int .u64 (x:Int),.int .u64 (y:Int)] ro own K:=by
 refine CallOk.ofBelow Tryz.call130 (fun w=>?_) hk
 have h:=Go.Proofs.Any.bits_Mul64 Tryz.laysMul x y hx hy w
 rw [show Tryz.laysMul_ren.f 264=130 by kernel_rfl] at h
 refine h.mono fun e w' ⟨he,hb⟩=>⟨he,?_⟩
 rw [hb]
 exact Go.RowKit.Below.refl _ _
theorem wmul_ok {x y:Nat} (hx:x<18446744073709551616) (hy:y<18446744073709551616) (h1:x*y<18446744073709551616→K (.tuple #[.int .u64 ((x*y:Nat):Int),.int .i64 0]) ro own) (h2:18446744073709551616≤x*y→K (.tuple #[.int .u64 0,.int .i64 40]) ro own) :
  CallOk Tryz.prog 124 #[.int .u64 (x:Int),.int .u64 (y:Int)] ro own K:=by
 refine CallOk.intro (args:=[_,_]) (rs:=[_,_]) T_ok Tryz.func124 Tryz.call124 rfl rfl (by kernel_rfl) rfl rfl ?_
 repeat first|exact zE|refine zP ?_|refine zB fun b=>?_|refine zC fun a' c' hc1 hc2=>?_|(apply GJ.a;exact rfl;intro hg)|(apply GJ.o;exact rfl;intro hg)
 refine mul64_ok hx hy ?_
 generalize x*y=z at h1 h2 ⊢
 repeat first|exact zE|refine zP ?_|refine zB fun b=>?_|refine zC fun a' c' hc1 hc2=>?_|(apply GJ.a;exact rfl;intro hg)|(apply GJ.o;exact rfl;intro hg)
 refine Br.cases (fun h=>?_) (fun h=>?_)
 ·repeat first|exact zE|refine zP ?_|refine zB fun b=>?_|refine zC fun a' c' hc1 hc2=>?_|(apply GJ.a;exact rfl;intro hg)|(apply GJ.o;exact rfl;intro hg)
  exact Wk.outS Sup.z (.refl _) (h2 (by omega))
 ·have h3:z<18446744073709551616:=by omega
  rw [Nat.mod_eq_of_lt h3]
  repeat first|exact zE|refine zP ?_|refine zB fun b=>?_|refine zC fun a' c' hc1 hc2=>?_|(apply GJ.a;exact rfl;intro hg)|(apply GJ.o;exact rfl;intro hg)
  exact Wk.outS Sup.z (.refl _) (h1 h3)
theorem wadd_ok {x y:Nat} (hx:x<18446744073709551616) (hy:y<18446744073709551616) (h1:x+y<18446744073709551616→K (.tuple #[.int .u64 ((x+y:Nat):Int),.int .i64 0]) ro own) (h2:18446744073709551616≤x+y→K (.tuple #[.int .u64 0,.int .i64 40]) ro own) :
  CallOk Tryz.prog 125 #[.int .u64 (x:Int),.int .u64 (y:Int)] ro own K:=by
 refine CallOk.intro (args:=[_,_]) (rs:=[_,_]) T_ok Tryz.func125 Tryz.call125 rfl rfl (by kernel_rfl) rfl rfl ?_
 repeat first|exact zE|refine zP ?_|refine zB fun b=>?_|refine zC fun a' c' hc1 hc2=>?_|(apply GJ.a;exact rfl;intro hg)|(apply GJ.o;exact rfl;intro hg)
 refine CallOk.add64 Tryz.func131 (by kernel_rfl) (by kernel_rfl) (by kernel_rfl) (by kernel_rfl) ?_
 generalize x+y=z at h1 h2 ⊢
 repeat first|exact zE|refine zP ?_|refine zB fun b=>?_|refine zC fun a' c' hc1 hc2=>?_|(apply GJ.a;exact rfl;intro hg)|(apply GJ.o;exact rfl;intro hg)
 refine Br.cases (fun h=>?_) (fun h=>?_)
 ·repeat first|exact zE|refine zP ?_|refine zB fun b=>?_|refine zC fun a' c' hc1 hc2=>?_|(apply GJ.a;exact rfl;intro hg)|(apply GJ.o;exact rfl;intro hg)
  exact Wk.outS Sup.z (.refl _) (h2 (by omega))
 ·have h3:z<18446744073709551616:=by omega
  rw [Nat.mod_eq_of_lt h3]
  repeat first|exact zE|refine zP ?_|refine zB fun b=>?_|refine zC fun a' c' hc1 hc2=>?_|(apply GJ.a;exact rfl;intro hg)|(apply GJ.o;exact rfl;intro hg)
  exact Wk.outS Sup.z (.refl _) (h1 h3)
theorem wline_ok {m x y:Nat} (hm:m<18446744073709551616) (hx:x<18446744073709551616) (hy:y<18446744073709551616) (h1:m*x+y<18446744073709551616→K (.tuple #[.int .u64 ((m*x+y:Nat):Int),.int .i64 0]) ro own) (h2:18446744073709551616≤m*x+y→K (.tuple #[.int .u64 0,.int .i64 40]) ro own) :
  CallOk Tryz.prog 122 #[.int .u64 (m:Int),.int .u64 (x:Int),.int .u64 (y:Int)] ro own K:=by
 refine CallOk.intro (args:=[_,_,_]) (rs:=[_,_]) T_ok Tryz.func122 Tryz.call122 rfl rfl (by kernel_rfl) rfl rfl ?_
 repeat first|exact zE|refine zP ?_|refine zB fun b=>?_|refine zC fun a' c' hc1 hc2=>?_|(apply GJ.a;exact rfl;intro hg)|(apply GJ.o;exact rfl;intro hg)
 refine wmul_ok hm hx (fun h=>?_) (fun h=>?_)
 ·repeat first|exact zE|refine zP ?_|refine zB fun b=>?_|refine zC fun a' c' hc1 hc2=>?_|(apply GJ.a;exact rfl;intro hg)|(apply GJ.o;exact rfl;intro hg)
  refine wadd_ok h hy (fun h3=>?_) (fun h3=>?_)
  ·repeat first|exact zE|refine zP ?_|refine zB fun b=>?_|refine zC fun a' c' hc1 hc2=>?_|(apply GJ.a;exact rfl;intro hg)|(apply GJ.o;exact rfl;intro hg)
   exact Wk.outS Sup.z (.refl _) (h1 h3)
  ·repeat first|exact zE|refine zP ?_|refine zB fun b=>?_|refine zC fun a' c' hc1 hc2=>?_|(apply GJ.a;exact rfl;intro hg)|(apply GJ.o;exact rfl;intro hg)
   exact Wk.outS Sup.z (.refl _) (h2 h3)
 ·repeat first|exact zE|refine zP ?_|refine zB fun b=>?_|refine zC fun a' c' hc1 hc2=>?_|(apply GJ.a;exact rfl;intro hg)|(apply GJ.o;exact rfl;intro hg)
  exact Wk.outS Sup.z (.refl _) (h2 (by omega))
theorem wint_ok {n m:Nat} (hn:n<18446744073709551616) (hm:m<1000000000) (h1:n≤m→K (.tuple #[.int .i64 (n:Int),.int .i64 0]) ro own) (h2:m<n→K (.tuple #[.int .i64 0,.int .i64 40]) ro own) :
  CallOk Tryz.prog 118 #[.int .u64 (n:Int),.int .i64 (m:Int)] ro own K:=by
 by_cases h:n≤m
 ·refine CallOk.intro (args:=[_,_]) (rs:=[_,_]) T_ok Tryz.func118 Tryz.call118 rfl rfl (by kernel_rfl) rfl rfl ?_
  repeat first|exact zE|refine zP ?_|refine zB fun b=>?_|refine zC fun a' c' hc1 hc2=>?_|(apply GJ.a;exact rfl;intro hg)|(apply GJ.o;exact rfl;intro hg)
  rw [wrap_i64 (by omega)]
  exact Wk.outS Sup.z (.refl _) (h1 h)
 ·refine CallOk.intro (args:=[_,_]) (rs:=[_,_]) T_ok Tryz.func118 Tryz.call118 rfl rfl (by kernel_rfl) rfl rfl ?_
  repeat first|exact zE|refine zP ?_|refine zB fun b=>?_|refine zC fun a' c' hc1 hc2=>?_|(apply GJ.a;exact rfl;intro hg)|(apply GJ.o;exact rfl;intro hg)
  exact Wk.outS Sup.z (.refl _) (h2 (by omega))
theorem valOf_snoc (l:List UInt8) (c:UInt8):valOf (l++[c])=10*valOf l+(c.toNat-48):=by simp [valOf]
def allDig (l:List UInt8):Bool:=l.all fun c=>isDig c.toNat
def numD (l:List UInt8):Nat × Nat:=if badNum l=true∨allDig l=false then (0,5) else if 18446744073709551616≤valOf l then (0,40) else (valOf l,0)
set_option maxHeartbeats 4000000 in
theorem wparse_ok {l:List UInt8} (hl:l.length≤100000) (hk:K (.tuple #[.int .u64 ((numD l).1:Int),.int .i64 ((numD l).2:Int)]) ro own) :
  CallOk Tryz.prog 117 #[str l] ro own K:=by
 by_cases hb:badNum l=true
 ·have hn:numD l=(0,5):=by unfold numD;rw [if_pos (.inl hb)]
  rw [hn] at hk
  match l,hl,hb with
  | [],hl,hb =>
    refine CallOk.intro (args:=[_]) (rs:=[_,_]) T_ok Tryz.func117 Tryz.call117 rfl rfl (by kernel_rfl) rfl rfl ?_
    repeat first|exact zE|refine zP ?_|refine zB fun b=>?_|refine zC fun a' c' hc1 hc2=>?_|(apply GJ.a;exact rfl;intro hg)|(apply GJ.o;exact rfl;intro hg)
    exact Wk.outS Sup.z (.refl _) hk
  | [c],hl,hb=>simp [badNum] at hb
  | c::d::r,hl,hb =>
    have hc:c=48:=by simpa [badNum] using hb
    subst hc
    have hlen:1<(48::d::r:List UInt8).length:=by simp
    have hne:¬(48::d::r:List UInt8)=[]:=by simp
    refine CallOk.intro (args:=[_]) (rs:=[_,_]) T_ok Tryz.func117 Tryz.call117 rfl rfl (by kernel_rfl) rfl rfl ?_
    repeat first|exact zE|refine zP ?_|refine zB fun b=>?_|refine zC fun a' c' hc1 hc2=>?_|(apply GJ.a;exact rfl;intro hg)|(apply GJ.o;exact rfl;intro hg)
    refine Br.t rfl ?_
    repeat first|exact zE|refine zP ?_|refine zB fun b=>?_|refine zC fun a' c' hc1 hc2=>?_|(apply GJ.a;exact rfl;intro hg)|(apply GJ.o;exact rfl;intro hg)
    exact Wk.outS Sup.z (.refl _) hk
 ·have hne:¬l=[]:=by intro e;subst e;exact hb rfl
  have h0:1<l.length→¬(l[0]!).toNat=48:=by
   intro h e
   apply hb
   match l,h,e with
   | c::d::r,h,e =>
     have hc:c=48:=UInt8.toNat_inj.1 e
     subst hc;rfl
  have hnum:numD l=if allDig l=false then (0,5) else if 18446744073709551616≤valOf l then (0,40) else (valOf l,0):=by
   unfold numD
   by_cases ha:allDig l=false
   ·rw [if_pos (.inr ha),if_pos ha]
   ·rw [if_neg (fun x=>x.elim hb ha),if_neg ha]
  have rest:True:=trivial
  have hz:(Int.toNat 0)=0:=rfl
  refine CallOk.intro (args:=[_]) (rs:=[_,_]) T_ok Tryz.func117 Tryz.call117 rfl rfl (by kernel_rfl) rfl rfl ?_
  by_cases h1:1<l.length
  ·have h0:=h0 h1
   repeat first|exact zE|refine zP ?_|refine zB fun b=>?_|refine zC fun a' c' hc1 hc2=>?_|(apply GJ.a;exact rfl;intro hg)|(apply GJ.o;exact rfl;intro hg)
   refine Br.f (by rw [hz];omega) ?_
   repeat first|exact zE|refine zP ?_|refine zB fun b=>?_|refine zC fun a' c' hc1 hc2=>?_|(apply GJ.a;exact rfl;intro hg)|(apply GJ.o;exact rfl;intro hg)
   refine LoopOk.at (ι:=Nat × Nat × Bool) Keep.z (fun (i,n,gr)=>[(23,.int .i64 (i:Int)),(4,.int .u64 (n:Int)),(5,.bool gr)]) (fun (i,n,gr)=>own) (fun (i,n,gr)=>i≤l.length∧allDig (l.take i)=true∧n<18446744073709551616∧(gr=false→n=valOf (l.take i))∧(gr=true→18446744073709551616≤valOf (l.take i))) (fun (i,n,gr)=>l.length-i) (0,0,false) ?_ Sub.z Sup.z ?_
   ·exact ⟨Nat.zero_le _,rfl,by decide,fun _=>rfl,fun h=>by cases h⟩
   rintro ⟨i,n,gr⟩ ⟨i1,i2,i3,i4,i5⟩
   dsimp only [List.cons_append,List.nil_append] at i1 i2 i3 i4 i5 ⊢
   repeat first|exact zE|refine zP ?_|refine zB fun b=>?_|refine zC fun a' c' hc1 hc2=>?_|(apply GJ.a;exact rfl;intro hg)|(apply GJ.o;exact rfl;intro hg)
   refine Br.cases (fun hg=>?_) (fun hg=>?_)
   ·have hi:i<l.length:=by omega
    obtain ⟨c,hc⟩:∃ c,l[i]?=some c:=⟨_,List.getElem?_eq_getElem hi⟩
    have htk:l.take (i+1)=l.take i++[c]:=by rw [List.take_add_one,hc];rfl
    have hgc:l[(i:Int).toNat]! = c:=by rw [Int.toNat_natCast,List.getElem!_eq_getElem?_getD,hc];rfl
    have hcn:=c.toNat_lt
    have hbad:isDig c.toNat=false→allDig l=false:=fun h=>by
     unfold allDig
     rw [List.all_eq_false]
     exact ⟨c,List.mem_of_getElem? hc,by rw [h];decide⟩
    repeat first|exact zE|refine zP ?_|refine zB fun b=>?_|refine zC fun a' c' hc1 hc2=>?_|(apply GJ.a;exact rfl;intro hg)|(apply GJ.o;exact rfl;intro hg)
    try rw [hgc]
    by_cases hlo:c.toNat<48
    ·have hd:=hbad (by simp [isDig];omega)
     rw [hnum,if_pos hd] at hk
     repeat first|exact zE|refine zP ?_|refine zB fun b=>?_|refine zC fun a' c' hc1 hc2=>?_|(apply GJ.a;exact rfl;intro hg)|(apply GJ.o;exact rfl;intro hg)
     exact Wk.outS Sup.z (.refl _) hk
    by_cases hhi:57<c.toNat
    ·have hd:=hbad (by simp [isDig];omega)
     rw [hnum,if_pos hd] at hk
     repeat first|exact zE|refine zP ?_|refine zB fun b=>?_|refine zC fun a' c' hc1 hc2=>?_|(apply GJ.a;exact rfl;intro hg)|(apply GJ.o;exact rfl;intro hg)
     try rw [hgc]
     repeat first|exact zE|refine zP ?_|refine zB fun b=>?_|refine zC fun a' c' hc1 hc2=>?_|(apply GJ.a;exact rfl;intro hg)|(apply GJ.o;exact rfl;intro hg)
     exact Wk.outS Sup.z (.refl _) hk
    have hdig:isDig c.toNat=true:=by simp [isDig];omega
    have hall:allDig (l.take (i+1))=true:=by
     rw [htk];unfold allDig at i2 ⊢;rw [List.all_append,i2];simp [hdig]
    have hv:valOf (l.take (i+1))=10*valOf (l.take i)+(c.toNat-48):=by rw [htk,valOf_snoc]
    repeat first|exact zE|refine zP ?_|refine zB fun b=>?_|refine zC fun a' c' hc1 hc2=>?_|(apply GJ.a;exact rfl;intro hg)|(apply GJ.o;exact rfl;intro hg)
    try rw [hgc]
    repeat first|exact zE|refine zP ?_|refine zB fun b=>?_|refine zC fun a' c' hc1 hc2=>?_|(apply GJ.a;exact rfl;intro hg)|(apply GJ.o;exact rfl;intro hg)
    try rw [hgc]
    repeat first|exact zE|refine zP ?_|refine zB fun b=>?_|refine zC fun a' c' hc1 hc2=>?_|(apply GJ.a;exact rfl;intro hg)|(apply GJ.o;exact rfl;intro hg)
    rw [show ((c.toNat:Int)-48) % 256=((c.toNat-48:Nat):Int) by omega]
    refine wline_ok (m:=10) (x:=n) (y:=c.toNat-48) (by decide) i3 (by omega) (fun h=>?_) (fun h=>?_)
    ·repeat first|exact zE|refine zP ?_|refine zB fun b=>?_|refine zC fun a' c' hc1 hc2=>?_|(apply GJ.a;exact rfl;intro hg)|(apply GJ.o;exact rfl;intro hg)
     refine Wk.id ⟨(i+1,10*n+(c.toNat-48),gr),⟨rfl,?_⟩,?_,Sub.z,Sup.z⟩
     all_goals try dsimp only
     ·exact ⟨by omega,hall,h,fun e=>by rw [hv,i4 e],fun e=>by have:=i5 e;omega⟩
     ·omega
    ·repeat first|exact zE|refine zP ?_|refine zB fun b=>?_|refine zC fun a' c' hc1 hc2=>?_|(apply GJ.a;exact rfl;intro hg)|(apply GJ.o;exact rfl;intro hg)
     refine Wk.id ⟨(i+1,0,true),⟨rfl,?_⟩,?_,Sub.z,Sup.z⟩
     all_goals try dsimp only
     ·refine ⟨by omega,hall,by decide,fun e=>(by cases e),fun _=>?_⟩
      rw [hv]
      cases gr with
      | false=>rw [←i4 rfl];exact h
      | true=>have:=i5 rfl;omega
     ·omega
   ·obtain rfl:i=l.length:=by omega
    rw [List.take_length] at i2 i4 i5
    rw [hnum,if_neg (by rw [i2];decide)] at hk
    cases gr with
    | true =>
      rw [if_pos (i5 rfl)] at hk
      repeat first|exact zE|refine zP ?_|refine zB fun b=>?_|refine zC fun a' c' hc1 hc2=>?_|(apply GJ.a;exact rfl;intro hg)|(apply GJ.o;exact rfl;intro hg)
      exact Wk.outS Sup.z (.refl _) hk
    | false =>
      rw [←i4 rfl,if_neg (by omega)] at hk
      repeat first|exact zE|refine zP ?_|refine zB fun b=>?_|refine zC fun a' c' hc1 hc2=>?_|(apply GJ.a;exact rfl;intro hg)|(apply GJ.o;exact rfl;intro hg)
      exact Wk.outS Sup.z (.refl _) hk
  ·repeat first|exact zE|refine zP ?_|refine zB fun b=>?_|refine zC fun a' c' hc1 hc2=>?_|(apply GJ.a;exact rfl;intro hg)|(apply GJ.o;exact rfl;intro hg)
   refine LoopOk.at (ι:=Nat × Nat × Bool) Keep.z (fun (i,n,gr)=>[(23,.int .i64 (i:Int)),(4,.int .u64 (n:Int)),(5,.bool gr)]) (fun (i,n,gr)=>own) (fun (i,n,gr)=>i≤l.length∧allDig (l.take i)=true∧n<18446744073709551616∧(gr=false→n=valOf (l.take i))∧(gr=true→18446744073709551616≤valOf (l.take i))) (fun (i,n,gr)=>l.length-i) (0,0,false) ?_ Sub.z Sup.z ?_
   ·exact ⟨Nat.zero_le _,rfl,by decide,fun _=>rfl,fun h=>by cases h⟩
   rintro ⟨i,n,gr⟩ ⟨i1,i2,i3,i4,i5⟩
   dsimp only [List.cons_append,List.nil_append] at i1 i2 i3 i4 i5 ⊢
   repeat first|exact zE|refine zP ?_|refine zB fun b=>?_|refine zC fun a' c' hc1 hc2=>?_|(apply GJ.a;exact rfl;intro hg)|(apply GJ.o;exact rfl;intro hg)
   refine Br.cases (fun hg=>?_) (fun hg=>?_)
   ·have hi:i<l.length:=by omega
    obtain ⟨c,hc⟩:∃ c,l[i]?=some c:=⟨_,List.getElem?_eq_getElem hi⟩
    have htk:l.take (i+1)=l.take i++[c]:=by rw [List.take_add_one,hc];rfl
    have hgc:l[(i:Int).toNat]! = c:=by rw [Int.toNat_natCast,List.getElem!_eq_getElem?_getD,hc];rfl
    have hcn:=c.toNat_lt
    have hbad:isDig c.toNat=false→allDig l=false:=fun h=>by
     unfold allDig
     rw [List.all_eq_false]
     exact ⟨c,List.mem_of_getElem? hc,by rw [h];decide⟩
    repeat first|exact zE|refine zP ?_|refine zB fun b=>?_|refine zC fun a' c' hc1 hc2=>?_|(apply GJ.a;exact rfl;intro hg)|(apply GJ.o;exact rfl;intro hg)
    try rw [hgc]
    by_cases hlo:c.toNat<48
    ·have hd:=hbad (by simp [isDig];omega)
     rw [hnum,if_pos hd] at hk
     repeat first|exact zE|refine zP ?_|refine zB fun b=>?_|refine zC fun a' c' hc1 hc2=>?_|(apply GJ.a;exact rfl;intro hg)|(apply GJ.o;exact rfl;intro hg)
     exact Wk.outS Sup.z (.refl _) hk
    by_cases hhi:57<c.toNat
    ·have hd:=hbad (by simp [isDig];omega)
     rw [hnum,if_pos hd] at hk
     repeat first|exact zE|refine zP ?_|refine zB fun b=>?_|refine zC fun a' c' hc1 hc2=>?_|(apply GJ.a;exact rfl;intro hg)|(apply GJ.o;exact rfl;intro hg)
     try rw [hgc]
     repeat first|exact zE|refine zP ?_|refine zB fun b=>?_|refine zC fun a' c' hc1 hc2=>?_|(apply GJ.a;exact rfl;intro hg)|(apply GJ.o;exact rfl;intro hg)
     exact Wk.outS Sup.z (.refl _) hk
    have hdig:isDig c.toNat=true:=by simp [isDig];omega
    have hall:allDig (l.take (i+1))=true:=by
     rw [htk];unfold allDig at i2 ⊢;rw [List.all_append,i2];simp [hdig]
    have hv:valOf (l.take (i+1))=10*valOf (l.take i)+(c.toNat-48):=by rw [htk,valOf_snoc]
    repeat first|exact zE|refine zP ?_|refine zB fun b=>?_|refine zC fun a' c' hc1 hc2=>?_|(apply GJ.a;exact rfl;intro hg)|(apply GJ.o;exact rfl;intro hg)
    try rw [hgc]
    repeat first|exact zE|refine zP ?_|refine zB fun b=>?_|refine zC fun a' c' hc1 hc2=>?_|(apply GJ.a;exact rfl;intro hg)|(apply GJ.o;exact rfl;intro hg)
    try rw [hgc]
    repeat first|exact zE|refine zP ?_|refine zB fun b=>?_|refine zC fun a' c' hc1 hc2=>?_|(apply GJ.a;exact rfl;intro hg)|(apply GJ.o;exact rfl;intro hg)
    rw [show ((c.toNat:Int)-48) % 256=((c.toNat-48:Nat):Int) by omega]
    refine wline_ok (m:=10) (x:=n) (y:=c.toNat-48) (by decide) i3 (by omega) (fun h=>?_) (fun h=>?_)
    ·repeat first|exact zE|refine zP ?_|refine zB fun b=>?_|refine zC fun a' c' hc1 hc2=>?_|(apply GJ.a;exact rfl;intro hg)|(apply GJ.o;exact rfl;intro hg)
     refine Wk.id ⟨(i+1,10*n+(c.toNat-48),gr),⟨rfl,?_⟩,?_,Sub.z,Sup.z⟩
     all_goals try dsimp only
     ·exact ⟨by omega,hall,h,fun e=>by rw [hv,i4 e],fun e=>by have:=i5 e;omega⟩
     ·omega
    ·repeat first|exact zE|refine zP ?_|refine zB fun b=>?_|refine zC fun a' c' hc1 hc2=>?_|(apply GJ.a;exact rfl;intro hg)|(apply GJ.o;exact rfl;intro hg)
     refine Wk.id ⟨(i+1,0,true),⟨rfl,?_⟩,?_,Sub.z,Sup.z⟩
     all_goals try dsimp only
     ·refine ⟨by omega,hall,by decide,fun e=>(by cases e),fun _=>?_⟩
      rw [hv]
      cases gr with
      | false=>rw [←i4 rfl];exact h
      | true=>have:=i5 rfl;omega
     ·omega
   ·obtain rfl:i=l.length:=by omega
    rw [List.take_length] at i2 i4 i5
    rw [hnum,if_neg (by rw [i2];decide)] at hk
    cases gr with
    | true =>
      rw [if_pos (i5 rfl)] at hk
      repeat first|exact zE|refine zP ?_|refine zB fun b=>?_|refine zC fun a' c' hc1 hc2=>?_|(apply GJ.a;exact rfl;intro hg)|(apply GJ.o;exact rfl;intro hg)
      exact Wk.outS Sup.z (.refl _) hk
    | false =>
      rw [←i4 rfl,if_neg (by omega)] at hk
      repeat first|exact zE|refine zP ?_|refine zB fun b=>?_|refine zC fun a' c' hc1 hc2=>?_|(apply GJ.a;exact rfl;intro hg)|(apply GJ.o;exact rfl;intro hg)
      exact Wk.outS Sup.z (.refl _) hk
end
theorem dropW {α:Type}{p:α→Bool}:∀ {l q:List α}{x:α},l.dropWhile p=x::q→p x=false
 | [],_,_,h=>by cases h
 | y::l,q,x,h=>by
   rw [List.dropWhile_cons] at h
   split at h
   ·exact dropW h
   ·rename_i hy;cases h;simpa using hy
theorem peek_digs {t:List UInt8}{s:RS}{j:Nat} (h0:s.e=0) (hj:j≤(digsOf (t.drop s.p)).length):isDig (peekD t { s with p:=s.p+j })=decide (j<(digsOf (t.drop s.p)).length):=by
 have h3:t.drop s.p=digsOf (t.drop s.p)++(t.drop s.p).dropWhile (fun c=>isDig c.toNat):=List.takeWhile_append_dropWhile.symm
 have hall:=digs_all (t.drop s.p)
 have h4:∀ x q,(t.drop s.p).dropWhile (fun c=>isDig c.toNat)=x::q→isDig x.toNat=false:=fun x q h=>dropW (p:=fun c:UInt8=>isDig c.toNat) h
 generalize digsOf (t.drop s.p)=ds at h3 hj hall ⊢
 generalize (t.drop s.p).dropWhile (fun c=>isDig c.toNat)=rs at h3 h4
 have h5:t.drop (s.p+j)=ds.drop j++rs:=by rw [←List.drop_drop,h3,List.drop_append_of_le_length hj]
 rcases Nat.lt_or_ge j ds.length with hlt|hge
 ·rw [decide_eq_true hlt]
  have h6:t.drop (s.p+j)=ds[j]::(ds.drop (j+1)++rs):=by rw [h5,List.drop_eq_getElem_cons hlt];rfl
  rw [peek_at (s:={ s with p:=s.p+j }) h0 h6]
  exact hall _ (List.getElem_mem hlt)
 ·rw [decide_eq_false (by omega)]
  rw [List.drop_eq_nil_of_le hge,List.nil_append] at h5
  cases rs with
  | nil=>rw [peek_end (s:={ s with p:=s.p+j }) h5];rfl
  | cons x q=>rw [peek_at (s:={ s with p:=s.p+j }) h0 h5];exact h4 x q rfl
section
variable {ro:Ro}{own r:Chs}{K:Value→Ro→Chs→Prop}{g:Chunk→Chs}{q:Nat}{t:List UInt8}
set_option maxHeartbeats 4000000 in
theorem rcount_ok {s:RS} [hb:HasBlk own q 116 (rsV t s) g] (h0:s.e=0) (hp:s.p≤t.length) (hl:t.length≤10000) (hk:K (.int .i64 ((countD t s).1:Int)) ro (g (.blk q 116 (rsV t (countD t s).2)))) :
  CallOk Tryz.prog 107 #[ptr' q] ro own K:=by
 obtain ⟨r,p1,p2⟩:=hb.split
 refine CallOk.perm p1 ?_
 have hdl:=digs_le (t.drop s.p)
 rw [List.length_drop] at hdl
 have hall:=digs_all (t.drop s.p)
 have hpk:=fun j=>peek_digs (t:=t) (s:=s) (j:=j) h0
 have hcut:(t.drop s.p).take (digsOf (t.drop s.p)).length=digsOf (t.drop s.p):=by
  have h3:t.drop s.p=digsOf (t.drop s.p)++(t.drop s.p).dropWhile (fun c=>isDig c.toNat):=List.takeWhile_append_dropWhile.symm
  conv=>lhs;rw [h3]
  rw [show (digsOf (digsOf (t.drop s.p)++(t.drop s.p).dropWhile (fun c=>isDig c.toNat)))=digsOf (t.drop s.p) by rw [←h3]]
  simp
 unfold countD at hk
 dsimp only at hk
 generalize digsOf (t.drop s.p)=ds at hdl hall hpk hcut hk
 refine CallOk.intro (args:=[_]) (rs:=[_]) T_ok Tryz.func107 Tryz.call107 rfl rfl (by kernel_rfl) rfl rfl ?_
 repeat first|exact zE|refine zP ?_|refine zB fun b=>?_|refine zC fun a' c' hc1 hc2=>?_|(apply GJ.a;exact rfl;intro hg)|(apply GJ.o;exact rfl;intro hg)
 refine peek_ok (t:=t) (s:=s) ?_
 repeat first|exact zE|refine zP ?_|refine zB fun b=>?_|refine zC fun a' c' hc1 hc2=>?_|(apply GJ.a;exact rfl;intro hg)|(apply GJ.o;exact rfl;intro hg)
 refine LoopOk.at (ι:=Nat) Keep.z (fun j=>[(4,.int .u8 (peekD t { s with p:=s.p+j }:Int))]) (fun j=>.blk q 116 (rsV t { s with p:=s.p+j })::r) (fun j=>j≤ds.length) (fun j=>ds.length-j) 0 ?_ Sub.z Sup.z ?_
 ·exact Nat.zero_le _
 rintro j j1
 dsimp only [List.cons_append,List.nil_append] at j1 ⊢
 have hd:=hpk j j1
 have hlt:=peek_lt t { s with p:=s.p+j }
 by_cases hj:j<ds.length
 ·rw [decide_eq_true hj] at hd
  simp only [isDig,Bool.and_eq_true,decide_eq_true_iff] at hd
  generalize peekD t { s with p:=s.p+j }=c at hd hlt ⊢
  repeat first|exact zE|refine zP ?_|refine zB fun b=>?_|refine zC fun a' c' hc1 hc2=>?_|(apply GJ.a;exact rfl;intro hg)|(apply GJ.o;exact rfl;intro hg)
  have e1:(.blk q 116 [str t,.int .i64 (((s.p+j:Nat):Int)+1),.int .i64 (s.n:Int),.int .i64 (s.e:Int),.int .i64 (s.f:Int)]:Chunk)=.blk q 116 (rsV t { s with p:=s.p+(j+1) }):=rfl
  rw [e1]
  refine peek_ok (t:=t) (s:={ s with p:=s.p+(j+1) }) ?_
  repeat first|exact zE|refine zP ?_|refine zB fun b=>?_|refine zC fun a' c' hc1 hc2=>?_|(apply GJ.a;exact rfl;intro hg)|(apply GJ.o;exact rfl;intro hg)
  refine Wk.id ⟨j+1,⟨rfl,?_⟩,?_,Sub.z,Sup.z⟩
  all_goals try dsimp only
  ·omega
  ·omega
 ·obtain rfl:j=ds.length:=by omega
  rw [decide_eq_false hj] at hd
  have hd:¬isDig (peekD t { s with p:=s.p+ds.length })=true:=by rw [hd];decide
  simp only [isDig,Bool.and_eq_true,decide_eq_true_iff] at hd
  generalize peekD t { s with p:=s.p+ds.length }=c at hd hlt ⊢
  have hs1e:({ s with p:=s.p+ds.length }:RS).e=0:=h0
  repeat first|exact zE|refine zP ?_|refine zB fun b=>?_|refine zC fun a' c' hc1 hc2=>?_|(apply GJ.a;exact rfl;intro hg)|(apply GJ.o;exact rfl;intro hg)
  rw [show ((s.p+ds.length:Nat):Int).toNat-((s.p:Nat):Int).toNat=ds.length by omega,Int.toNat_natCast,hcut]
  refine wparse_ok (l:=ds) (by omega) ?_
  have hall2:allDig ds=true:=by unfold allDig;rw [List.all_eq_true];exact hall
  have hnum:numD ds=if badNum ds=true then (0,5) else if 18446744073709551616≤valOf ds then (0,40) else (valOf ds,0):=by
   unfold numD
   by_cases ha:badNum ds=true
   ·rw [if_pos (.inl ha),if_pos ha]
   ·rw [if_neg (fun x=>x.elim ha (by rw [hall2];decide)),if_neg ha]
  rw [hnum]
  by_cases hbn:badNum ds=true
  ·rw [if_pos hbn] at hk ⊢
   repeat first|exact zE|refine zP ?_|refine zB fun b=>?_|refine zC fun a' c' hc1 hc2=>?_|(apply GJ.a;exact rfl;intro hg)|(apply GJ.o;exact rfl;intro hg)
   refine rwrong_ok (t:=t) (s:={ s with p:=s.p+ds.length }) 5 s.p rfl rfl ?_
   repeat first|exact zE|refine zP ?_|refine zB fun b=>?_|refine zC fun a' c' hc1 hc2=>?_|(apply GJ.a;exact rfl;intro hg)|(apply GJ.o;exact rfl;intro hg)
   exact Wk.outS Sup.z (p2 _) hk
  rw [if_neg hbn] at hk ⊢
  by_cases hbig:18446744073709551616≤valOf ds
  ·rw [if_pos (show 256<valOf ds by omega)] at hk
   rw [if_pos hbig]
   repeat first|exact zE|refine zP ?_|refine zB fun b=>?_|refine zC fun a' c' hc1 hc2=>?_|(apply GJ.a;exact rfl;intro hg)|(apply GJ.o;exact rfl;intro hg)
   refine wint_ok (n:=0) (m:=256) (by decide) (by decide) (fun _=>?_) (fun h=>absurd h (by decide))
   repeat first|exact zE|refine zP ?_|refine zB fun b=>?_|refine zC fun a' c' hc1 hc2=>?_|(apply GJ.a;exact rfl;intro hg)|(apply GJ.o;exact rfl;intro hg)
   refine rwrong_ok (t:=t) (s:={ s with p:=s.p+ds.length }) 1 s.p rfl rfl ?_
   repeat first|exact zE|refine zP ?_|refine zB fun b=>?_|refine zC fun a' c' hc1 hc2=>?_|(apply GJ.a;exact rfl;intro hg)|(apply GJ.o;exact rfl;intro hg)
   exact Wk.outS Sup.z (p2 _) hk
  rw [if_neg hbig]
  generalize valOf ds=v at hbig hk ⊢
  repeat first|exact zE|refine zP ?_|refine zB fun b=>?_|refine zC fun a' c' hc1 hc2=>?_|(apply GJ.a;exact rfl;intro hg)|(apply GJ.o;exact rfl;intro hg)
  refine wint_ok (n:=v) (m:=256) (by omega) (by decide) (fun hle=>?_) (fun hgt=>?_)
  ·rw [if_neg (by omega)] at hk
   repeat first|exact zE|refine zP ?_|refine zB fun b=>?_|refine zC fun a' c' hc1 hc2=>?_|(apply GJ.a;exact rfl;intro hg)|(apply GJ.o;exact rfl;intro hg)
   exact Wk.outS Sup.z (p2 _) hk
  ·rw [if_pos hgt] at hk
   repeat first|exact zE|refine zP ?_|refine zB fun b=>?_|refine zC fun a' c' hc1 hc2=>?_|(apply GJ.a;exact rfl;intro hg)|(apply GJ.o;exact rfl;intro hg)
   refine rwrong_ok (t:=t) (s:={ s with p:=s.p+ds.length }) 1 s.p rfl rfl ?_
   repeat first|exact zE|refine zP ?_|refine zB fun b=>?_|refine zC fun a' c' hc1 hc2=>?_|(apply GJ.a;exact rfl;intro hg)|(apply GJ.o;exact rfl;intro hg)
   exact Wk.outS Sup.z (p2 _) hk
theorem countD_p {s:RS}:(countD t s).2.p≤s.p+t.length:=by
 have hdl:=digs_le (t.drop s.p)
 rw [List.length_drop] at hdl
 have hw:∀ (s1:RS) (e f:Nat),(s1.wrong e f).p=s1.p:=fun s1 e f=>by unfold RS.wrong;split<;>rfl
 unfold countD
 dsimp only
 repeat' split
 all_goals (try rw [hw]);dsimp only;omega
theorem countD_le {s:RS}:(countD t s).1≤256:=by
 unfold countD
 dsimp only
 repeat' split
 all_goals dsimp only;omega
set_option maxHeartbeats 4000000 in
theorem rcounts_ok {s:RS} [hb:HasBlk own q 116 (rsV t s) g] (h0:s.e=0) (hp:s.p≤t.length) (hl:t.length≤10000) (hk:K (.tuple #[.int .i64 ((countsD t s).1.1:Int),.int .i64 (countsD t s).1.2]) ro (g (.blk q 116 (rsV t (countsD t s).2)))) :
  CallOk Tryz.prog 92 #[ptr' q] ro own K:=by
 obtain ⟨r,p1,p2⟩:=hb.split
 refine CallOk.perm p1 ?_
 have hcp:=countD_p (t:=t) (s:=s)
 have hcl:=countD_le (t:=t) (s:=s)
 unfold countsD at hk
 dsimp only at hk
 refine CallOk.intro (args:=[_]) (rs:=[_,_]) T_ok Tryz.func92 Tryz.call92 rfl rfl (by kernel_rfl) rfl rfl ?_
 repeat first|exact zE|refine zP ?_|refine zB fun b=>?_|refine zC fun a' c' hc1 hc2=>?_|(apply GJ.a;exact rfl;intro hg)|(apply GJ.o;exact rfl;intro hg)
 refine rcount_ok (t:=t) (s:=s) h0 hp hl ?_
 obtain ⟨lo,hlo⟩:∃ z,z=(countD t s).1:=⟨_,rfl⟩
 obtain ⟨s1,hs1⟩:∃ z,z=(countD t s).2:=⟨_,rfl⟩
 rw [←hlo] at hcl
 rw [←hs1] at hcp
 rw [←hlo,←hs1] at hk ⊢
 repeat first|exact zE|refine zP ?_|refine zB fun b=>?_|refine zC fun a' c' hc1 hc2=>?_|(apply GJ.a;exact rfl;intro hg)|(apply GJ.o;exact rfl;intro hg)
 refine eat_ok (t:=t) (s:=s1) 44 rfl (by decide) (by omega) ?_
 by_cases h44:peekD t s1=44
 ·rw [if_pos h44] at hk
  rw [decide_eq_true h44,eatS,if_pos h44]
  have hpp:=peek_pos (t:=t) (s:=s1) (by rw [h44];decide)
  repeat first|exact zE|refine zP ?_|refine zB fun b=>?_|refine zC fun a' c' hc1 hc2=>?_|(apply GJ.a;exact rfl;intro hg)|(apply GJ.o;exact rfl;intro hg)
  refine peek_ok (t:=t) (s:=s1.adv) ?_
  by_cases h125:peekD t s1.adv=125
  ·rw [if_pos h125] at hk
   dsimp only at hk
   rw [if_neg (by omega)] at hk
   rw [h125]
   repeat first|exact zE|refine zP ?_|refine zB fun b=>?_|refine zC fun a' c' hc1 hc2=>?_|(apply GJ.a;exact rfl;intro hg)|(apply GJ.o;exact rfl;intro hg)
   refine must_ok (t:=t) (s:=s1.adv) 125 rfl (by decide) (by show s1.p+1≤_;omega) ?_
   repeat first|exact zE|refine zP ?_|refine zB fun b=>?_|refine zC fun a' c' hc1 hc2=>?_|(apply GJ.a;exact rfl;intro hg)|(apply GJ.o;exact rfl;intro hg)
   exact Wk.outS Sup.z (p2 _) hk
  ·rw [if_neg h125] at hk
   dsimp only at hk
   have hcp2:=countD_p (t:=t) (s:=s1.adv)
   have hcl2:=countD_le (t:=t) (s:=s1.adv)
   have hap:s1.adv.p=s1.p+1:=rfl
   have h125':¬(peekD t s1.adv:Int)=125:=by omega
   generalize peekD t s1.adv=c at h125' ⊢
   repeat first|exact zE|refine zP ?_|refine zB fun b=>?_|refine zC fun a' c' hc1 hc2=>?_|(apply GJ.a;exact rfl;intro hg)|(apply GJ.o;exact rfl;intro hg)
   refine rcount_ok (t:=t) (s:=s1.adv) hpp.1 (by omega) hl ?_
   generalize (countD t s1.adv).1=hi at hk hcl2 ⊢
   generalize (countD t s1.adv).2=s2 at hk hcp2 ⊢
   repeat first|exact zE|refine zP ?_|refine zB fun b=>?_|refine zC fun a' c' hc1 hc2=>?_|(apply GJ.a;exact rfl;intro hg)|(apply GJ.o;exact rfl;intro hg)
   refine must_ok (t:=t) (s:=s2) 125 rfl (by decide) (by omega) ?_
   by_cases hlt:hi<lo
   ·rw [if_pos (by omega)] at hk
    repeat first|exact zE|refine zP ?_|refine zB fun b=>?_|refine zC fun a' c' hc1 hc2=>?_|(apply GJ.a;exact rfl;intro hg)|(apply GJ.o;exact rfl;intro hg)
    refine rwrong_ok (t:=t) (s:=mustS t 125 s2) 1 s.p rfl rfl ?_
    repeat first|exact zE|refine zP ?_|refine zB fun b=>?_|refine zC fun a' c' hc1 hc2=>?_|(apply GJ.a;exact rfl;intro hg)|(apply GJ.o;exact rfl;intro hg)
    exact Wk.outS Sup.z (p2 _) hk
   ·rw [if_neg (by omega)] at hk
    repeat first|exact zE|refine zP ?_|refine zB fun b=>?_|refine zC fun a' c' hc1 hc2=>?_|(apply GJ.a;exact rfl;intro hg)|(apply GJ.o;exact rfl;intro hg)
    exact Wk.outS Sup.z (p2 _) hk
 ·rw [if_neg h44] at hk
  dsimp only at hk
  rw [if_neg (by omega)] at hk
  rw [decide_eq_false h44,eatS,if_neg h44]
  repeat first|exact zE|refine zP ?_|refine zB fun b=>?_|refine zC fun a' c' hc1 hc2=>?_|(apply GJ.a;exact rfl;intro hg)|(apply GJ.o;exact rfl;intro hg)
  refine must_ok (t:=t) (s:=s1) 125 rfl (by decide) (by omega) ?_
  repeat first|exact zE|refine zP ?_|refine zB fun b=>?_|refine zC fun a' c' hc1 hc2=>?_|(apply GJ.a;exact rfl;intro hg)|(apply GJ.o;exact rfl;intro hg)
  exact Wk.outS Sup.z (p2 _) hk
end
mutual
def RgOk (ro:Ro):RgD→List Value→Prop
 | .mk k z l x y,v=>∃ a c cs,v=nodeV k z a l.length c x y∧SetIn z∧Rs ro a l.length c 8 cs∧RgsOk ro l cs
def RgsOk (ro:Ro):List RgD→List Value→Prop
 | [],cs=>cs=[]
 | n::l,cs=>∃ v r,cs=v++r∧RgOk ro n v∧RgsOk ro l r
end
theorem RgOk.cells {ro:Ro}{n:RgD}{v:List Value} (h:RgOk ro n v):∃ a c,v=nodeV n.kind n.set a n.kids.length c n.min n.max:=by
 obtain ⟨k,z,l,x,y⟩:=n
 rw [RgOk] at h
 obtain ⟨a,c,cs,h1,_⟩:=h
 exact ⟨a,c,h1⟩
theorem RgOk.len {ro:Ro}{n:RgD}{v:List Value} (h:RgOk ro n v):v.length=8:=by obtain ⟨a,c,rfl⟩:=h.cells;rfl
theorem RgsOk.len {ro:Ro}:∀ {l:List RgD}{cs:List Value},RgsOk ro l cs→cs.length=l.length*8
 | [],cs,h=>by rw [RgsOk] at h;subst h;rfl
 | n::l,cs,h=>by
   rw [RgsOk] at h
   obtain ⟨v,r,rfl,h1,h2⟩:=h
   rw [List.length_append,h1.len,RgsOk.len h2,List.length_cons];omega
theorem RgsOk.snoc {ro:Ro}{n:RgD}{v:List Value} (hv:RgOk ro n v):∀ {l:List RgD}{cs:List Value},RgsOk ro l cs→RgsOk ro (l++[n]) (cs++v)
 | [],cs,h=>by
   rw [RgsOk] at h;subst h
   rw [List.nil_append,List.nil_append,RgsOk]
   exact ⟨v,[],by simp,hv,by rw [RgsOk]⟩
 | m::l,cs,h=>by
   rw [RgsOk] at h
   obtain ⟨u,r,rfl,h1,h2⟩:=h
   rw [List.cons_append,RgsOk]
   exact ⟨u,r++v,by rw [List.append_assoc],h1,RgsOk.snoc hv h2⟩
theorem RgsOk.get {ro:Ro}:∀ {l:List RgD}{cs:List Value}{i:Nat}{n:RgD},RgsOk ro l cs→l[i]?=some n→RgOk ro n ((cs.drop (i*8)).take 8)
 | [],_,_,_,_,h=>by simp at h
 | m::l,cs,0,n,h,hi=>by
   rw [RgsOk] at h
   obtain ⟨u,r,rfl,h1,h2⟩:=h
   simp at hi;subst hi
   have:=h1.len
   simpa [←this] using h1
 | m::l,cs,i+1,n,h,hi=>by
   rw [RgsOk] at h
   obtain ⟨u,r,rfl,h1,h2⟩:=h
   have:=RgsOk.get h2 (i:=i) (by simpa using hi)
   rw [show (i+1)*8=u.length+i*8 by rw [h1.len];omega,←List.drop_drop]
   simpa using this
def LeOk (n:RgD):Prop:=∀ {ro ro':Ro}{v:List Value},Le ro ro'→RgOk ro n v→RgOk ro' n v
theorem RgsOk.le':∀ {l:List RgD},(∀ x∈l,LeOk x)→∀ {ro ro':Ro}{cs:List Value},Le ro ro'→RgsOk ro l cs→RgsOk ro' l cs
 | [],_,_,_,_,_,h=>by rw [RgsOk] at h ⊢;exact h
 | n::l,hx,ro,ro',cs,hl,h=>by
   rw [RgsOk] at h ⊢
   obtain ⟨v,r,rfl,h1,h2⟩:=h
   exact ⟨v,r,rfl,hx n (by simp) hl h1,RgsOk.le' (fun y hy=>hx y (by simp [hy])) hl h2⟩
theorem leOk:∀ n,LeOk n:=RgD.ind fun k z l x y ih {ro ro' v} hl h=>by
 rw [RgOk] at h ⊢
 obtain ⟨a,c,cs,h1,h2,h3,h4⟩:=h
 exact ⟨a,c,cs,h1,h2,h3.up,RgsOk.le' ih hl h4⟩
theorem RgOk.le {ro ro':Ro}{n:RgD}{v:List Value} (h:RgOk ro n v) (hl:Le ro ro'):RgOk ro' n v:=leOk n hl h
theorem RgsOk.le {ro ro':Ro}{l:List RgD}{cs:List Value} (h:RgsOk ro l cs) (hl:Le ro ro'):RgsOk ro' l cs:=RgsOk.le' (fun x _=>leOk x) hl h
theorem RgOk.leaf {ro:Ro}{k:Int}{z:SetD}{x y:Int} (hz:SetIn z):RgOk ro (.mk k z [] x y) (nodeV k z none 0 0 x y):=by
 rw [RgOk];exact ⟨none,0,[],rfl,hz,Rs.nil ro 8,by rw [RgsOk]⟩
theorem setD_in {t:List UInt8}{a:Nat}{s:RS}:SetIn (setD t a s).1:=by
 unfold setD
 dsimp only
 unfold turnD
 split
 ·exact SetIn.not _
 ·exact setL_in zeroS_in
def AltC (t:List UInt8) (d:Nat):Prop:=∀ {ro:Ro}{own:Chs}{g:Chunk→Chs}{q:Nat}{s:RS}{K:Value→Ro→Chs→Prop},HasBlk own q 116 (rsV t s) g→Inv t s→s.e=0→s.n≤512 →
 (∀ ro' v,Le ro ro'→RgOk ro' (altD t d s).1 v→K (.agg v.toArray) ro' (g (.blk q 116 (rsV t (altD t d s).2))))→CallOk Tryz.prog 66 #[ptr' q,.int .i64 (33-(d:Int))] ro own K
section
variable {ro:Ro}{own r:Chs}{K:Value→Ro→Chs→Prop}{g:Chunk→Chs}{q:Nat}{t:List UInt8}
theorem ofD_ok {b:Nat}{x:Nat} (hx:x<256) (hk:∀ ro',Le ro ro'→K (.agg (setV (ofD x)).toArray) ro' r):CallOk Tryz.prog 40 #[.slice (some ⟨b,0,none⟩) 1 1] ro (.sl (some ⟨b,0,none⟩) 1 1 5 1 [.int .u8 (x:Int)]::r) K:=by
 have hu:(UInt8.ofNat x).toNat=x:=UInt8.toNat_ofNat_of_lt' hx
 refine CallOk.freeze (c:=.sl (some ⟨b,0,none⟩) _ _ _ _ _) Take.auto (fun ro1 hl1 hc1=>?_)
 have hB:Bys ro1 (some ⟨b,0,none⟩) [UInt8.ofNat x].length 1 [UInt8.ofNat x]:=by
  have:=Rs.last hc1
  show Rs ro1 _ 1 1 1 [.int .u8 ((UInt8.ofNat x).toNat:Int)]
  rw [hu];exact this
 refine of_ok (l:=[UInt8.ofNat x]) hB (by simp) (fun s h1 h2=>?_)
 have:s=ofD x:=SetD.ext h1 (of_in hx) fun d hd=>by
  have e:=h2 (UInt8.ofNat d)
  rw [UInt8.toNat_ofNat_of_lt' hd] at e
  rw [e,of_has hx hd,decide_eq_decide,List.mem_singleton]
  constructor
  ·intro h;have:=congrArg UInt8.toNat h;rwa [UInt8.toNat_ofNat_of_lt' hd,hu] at this
  ·intro h;rw [h]
 rw [this]
 exact hk ro1 hl1
set_option maxHeartbeats 8000000 in
theorem atom_ok {s:RS} [hb:HasBlk own q 116 (rsV t s) g] {d:Nat}{x:Int} (ha:AltC t d) (hx:x=32-(d:Int)) (hd:d≤32) (hi:Inv t s) (h0:s.e=0) (hn:s.n≤512) (hl:t.length≤10000)
  (hk:∀ ro' v,Le ro ro'→RgOk ro' (atomD t (altD t d) s).1 v→K (.agg v.toArray) ro' (g (.blk q 116 (rsV t (atomD t (altD t d) s).2)))) :
  CallOk Tryz.prog 91 #[ptr' q,.int .i64 x] ro own K:=by
 subst hx
 obtain ⟨r,p1,p2⟩:=hb.split
 refine CallOk.perm p1 ?_
 have hp:=hi.p0 h0
 unfold atomD at hk
 refine CallOk.intro (args:=[_,_]) (rs:=[_]) T_ok Tryz.func91 Tryz.call91 rfl rfl (by kernel_rfl) rfl rfl ?_
 repeat first|exact zE|refine zP ?_|refine zB fun b=>?_|refine zC fun a' c' hc1 hc2=>?_|(apply GJ.a;exact rfl;intro hg)|(apply GJ.o;exact rfl;intro hg)
 obtain ⟨b4,hb4⟩:∃ z:Nat,z=b:=⟨_,rfl⟩
 subst hb4
 refine eat_ok (t:=t) (s:=s) 40 rfl (by decide) (by omega) ?_
 by_cases h40:peekD t s=40
 ·rw [if_pos h40] at hk
  rw [decide_eq_true h40,eatS,if_pos h40]
  have hia:=hi.adv (by rw [h40];decide)
  repeat first|exact zE|refine zP ?_|refine zB fun b=>?_|refine zC fun a' c' hc1 hc2=>?_|(apply GJ.a;exact rfl;intro hg)|(apply GJ.o;exact rfl;intro hg)
  rw [show (32:Int)-(d:Int)+1=33-(d:Int) by omega]
  refine ha inferInstance hia h0 hn (fun ro1 v hl1 hv=>?_)
  obtain ⟨a1,c1,hvc⟩:=hv.cells
  have hib:Inv t (altD t d s.adv).2:=Inv.alt hia
  have hpb:=hib.p
  subst hvc
  repeat first|exact zE|refine zP ?_|refine zB fun b=>?_|refine zC fun a' c' hc1 hc2=>?_|(apply GJ.a;exact rfl;intro hg)|(apply GJ.o;exact rfl;intro hg)
  refine must_ok (t:=t) (s:=(altD t d s.adv).2) 41 rfl (by decide) (by omega) ?_
  repeat first|exact zE|refine zP ?_|refine zB fun b=>?_|refine zC fun a' c' hc1 hc2=>?_|(apply GJ.a;exact rfl;intro hg)|(apply GJ.o;exact rfl;intro hg)
  exact Wk.outS Sup.z (p2 _) (hk ro1 _ hl1 hv)
 rw [if_neg h40] at hk
 rw [decide_eq_false h40,eatS,if_neg h40]
 repeat first|exact zE|refine zP ?_|refine zB fun b=>?_|refine zC fun a' c' hc1 hc2=>?_|(apply GJ.a;exact rfl;intro hg)|(apply GJ.o;exact rfl;intro hg)
 refine eat_ok (t:=t) (s:=s) 46 rfl (by decide) (by omega) ?_
 by_cases h46:peekD t s=46
 ·rw [if_pos h46] at hk
  rw [decide_eq_true h46,eatS,if_pos h46]
  repeat first|exact zE|refine zP ?_|refine zB fun b=>?_|refine zC fun a' c' hc1 hc2=>?_|(apply GJ.a;exact rfl;intro hg)|(apply GJ.o;exact rfl;intro hg)
  refine all_ok ?_
  repeat first|exact zE|refine zP ?_|refine zB fun b=>?_|refine zC fun a' c' hc1 hc2=>?_|(apply GJ.a;exact rfl;intro hg)|(apply GJ.o;exact rfl;intro hg)
  refine node_ok (t:=t) (s:=s.adv) (k:=2) (z:=allD) (a:=none) (m:=0) (c:=0) (x:=0) (y:=0) (by show s.n≤_;omega) ?_
  repeat first|exact zE|refine zP ?_|refine zB fun b=>?_|refine zC fun a' c' hc1 hc2=>?_|(apply GJ.a;exact rfl;intro hg)|(apply GJ.o;exact rfl;intro hg)
  exact Wk.outS Sup.z (p2 _) (hk ro _ (.refl _) (RgOk.leaf SetIn.all))
 rw [if_neg h46] at hk
 rw [decide_eq_false h46,eatS,if_neg h46]
 repeat first|exact zE|refine zP ?_|refine zB fun b=>?_|refine zC fun a' c' hc1 hc2=>?_|(apply GJ.a;exact rfl;intro hg)|(apply GJ.o;exact rfl;intro hg)
 refine eat_ok (t:=t) (s:=s) 91 rfl (by decide) (by omega) ?_
 by_cases h91:peekD t s=91
 ·rw [if_pos h91] at hk
  rw [decide_eq_true h91,eatS,if_pos h91]
  repeat first|exact zE|refine zP ?_|refine zB fun b=>?_|refine zC fun a' c' hc1 hc2=>?_|(apply GJ.a;exact rfl;intro hg)|(apply GJ.o;exact rfl;intro hg)
  refine set_ok (t:=t) (s:=s.adv) s.p rfl hp (hi.adv (by rw [h91];decide)) h0 hl ?_
  have hsn:=set_n (t:=t) (a:=s.p) (s:=s.adv)
  have hsi:=setD_in (t:=t) (a:=s.p) (s:=s.adv)
  have hsn:(setD t s.p s.adv).2.n=s.n:=hsn
  generalize (setD t s.p s.adv).1=z at hk hsi ⊢
  generalize (setD t s.p s.adv).2=s2 at hk hsn ⊢
  repeat first|exact zE|refine zP ?_|refine zB fun b=>?_|refine zC fun a' c' hc1 hc2=>?_|(apply GJ.a;exact rfl;intro hg)|(apply GJ.o;exact rfl;intro hg)
  refine node_ok (t:=t) (s:=s2) (k:=2) (z:=z) (a:=none) (m:=0) (c:=0) (x:=0) (y:=0) (by omega) ?_
  repeat first|exact zE|refine zP ?_|refine zB fun b=>?_|refine zC fun a' c' hc1 hc2=>?_|(apply GJ.a;exact rfl;intro hg)|(apply GJ.o;exact rfl;intro hg)
  exact Wk.outS Sup.z (p2 _) (hk ro _ (.refl _) (RgOk.leaf hsi))
 rw [if_neg h91] at hk
 rw [decide_eq_false h91,eatS,if_neg h91]
 repeat first|exact zE|refine zP ?_|refine zB fun b=>?_|refine zC fun a' c' hc1 hc2=>?_|(apply GJ.a;exact rfl;intro hg)|(apply GJ.o;exact rfl;intro hg)
 refine byte_ok (t:=t) (s:=s) (by omega) ?_
 have hbn:=byte_n (t:=t) (s:=s)
 have hbl:=byteD_lt (t:=t) (s:=s)
 generalize (byteD t s).1=c at hk hbl ⊢
 generalize (byteD t s).2=s2 at hk hbn ⊢
 repeat first|exact zE|refine zP ?_|refine zB fun b=>?_|refine zC fun a' c' hc1 hc2=>?_|(apply GJ.a;exact rfl;intro hg)|(apply GJ.o;exact rfl;intro hg)
 refine ofD_ok hbl (fun ro1 hl1=>?_)
 have hoi:=of_in hbl
 generalize ofD c=z at hk hoi ⊢
 repeat first|exact zE|refine zP ?_|refine zB fun b=>?_|refine zC fun a' c' hc1 hc2=>?_|(apply GJ.a;exact rfl;intro hg)|(apply GJ.o;exact rfl;intro hg)
 refine node_ok (t:=t) (s:=s2) (k:=2) (z:=z) (a:=none) (m:=0) (c:=0) (x:=0) (y:=0) (by omega) ?_
 repeat first|exact zE|refine zP ?_|refine zB fun b=>?_|refine zC fun a' c' hc1 hc2=>?_|(apply GJ.a;exact rfl;intro hg)|(apply GJ.o;exact rfl;intro hg)
 exact Wk.outS Sup.z (p2 _) (hk ro1 _ hl1 (RgOk.leaf hoi))
end
theorem rep_none {t:List UInt8}{k:Nat}{n:RgD}{s:RS} (h1:¬peekD t s=42) (h2:¬peekD t s=43) (h3:¬peekD t s=63) (h4:¬peekD t s=123):repL t k n s=(n,s):=by
 cases k with
 | zero=>rfl
 | succ k=>rw [repL,if_neg h1,if_neg h2,if_neg h3,if_neg h4]
theorem node_p (s:RS):(nodeS s).p=s.p:=by
 unfold nodeS RS.wrong
 repeat' split
 all_goals rfl
theorem counts_more {t:List UInt8}{s:RS} (h0:s.e=0) (h:(countsD t s).2.e=0):s.p≤(countsD t s).2.p:=by
 obtain ⟨l,⟨r1,_⟩,_⟩:=counts_sound h0 h
 rw [r1];show s.p≤s.p+l.length;omega
theorem RgOk.rep {ro:Ro}{n:RgD}{v:List Value}{a:Option Addr}{x y:Int} (hv:RgOk ro n v) (hr:Rs ro a 1 1 8 v):RgOk ro (repD n x y) (nodeV 5 zeroS a 1 1 x y):=by
 rw [repD,RgOk]
 exact ⟨a,1,v,rfl,zeroS_in,hr,by rw [RgsOk];exact ⟨v,[],by simp,hv,by rw [RgsOk]⟩⟩
section
variable {ro:Ro}{own r:Chs}{K:Value→Ro→Chs→Prop}{g:Chunk→Chs}{q:Nat}{t:List UInt8}
set_option maxHeartbeats 8000000 in
theorem repeat_ok {s:RS} [hb:HasBlk own q 116 (rsV t s) g] {d:Nat}{x:Int} (ha:AltC t d) (hx:x=32-(d:Int)) (hd:d≤32) (hi:Inv t s) (h0:s.e=0) (hn:s.n≤512) (hl:t.length≤10000)
  (hk:∀ ro' v,Le ro ro'→RgOk ro' (pieceD t (altD t d) s).1 v→K (.agg v.toArray) ro' (g (.blk q 116 (rsV t (pieceD t (altD t d) s).2)))) :
  CallOk Tryz.prog 88 #[ptr' q,.int .i64 x] ro own K:=by
 obtain ⟨r,p1,p2⟩:=hb.split
 refine CallOk.perm p1 ?_
 have hp:=hi.p0 h0
 unfold pieceD at hk
 obtain ⟨R,hR⟩:∃ R,R=repL t (t.length+1) (atomD t (altD t d) s).1 (atomD t (altD t d) s).2:=⟨_,rfl⟩
 rw [←hR] at hk
 have hia:Inv t (atomD t (altD t d) s).2:=hi.atom (fun h _=>Inv.alt h) h0
 have hna:NB (513+2*d) (atomD t (altD t d) s).2:=NB.atom (by omega) (fun h0 hn=>NB.alt h0 hn) h0 hn
 refine CallOk.intro (args:=[_,_]) (rs:=[_]) T_ok Tryz.func88 Tryz.call88 rfl rfl (by kernel_rfl) rfl rfl ?_
 repeat first|exact zE|refine zP ?_|refine zB fun b=>?_|refine zC fun a' c' hc1 hc2=>?_|(apply GJ.a;exact rfl;intro hg)|(apply GJ.o;exact rfl;intro hg)
 obtain ⟨b4,hb4⟩:∃ z:Nat,z=b:=⟨_,rfl⟩
 subst hb4
 refine atom_ok (t:=t) (s:=s) ha hx hd hi h0 hn hl (fun ro1 v hl1 hv=>?_)
 generalize (atomD t (altD t d) s).1=n0 at hR hv
 generalize (atomD t (altD t d) s).2=s0 at hR hia hna ⊢
 obtain ⟨a1,c1,hvc⟩:=hv.cells
 obtain ⟨V,hV⟩:∃ V,V=v:=⟨_,rfl⟩
 rw [←hV] at hv
 subst hvc
 repeat first|exact zE|refine zP ?_|refine zB fun b=>?_|refine zC fun a' c' hc1 hc2=>?_|(apply GJ.a;exact rfl;intro hg)|(apply GJ.o;exact rfl;intro hg)
 rw [←hV]
 clear hV
 obtain ⟨b5,hb5⟩:∃ z:Nat,z=b:=⟨_,rfl⟩
 subst hb5
 refine LoopOk.auto (ι:=Nat × RgD × List Value × RS) Keep.z (fun (k,n,v,s1)=>[]) (fun (k,n,v,s1)=>.blk b5 26 v::.blk b4 26 (nodeV 0 zeroS none 0 0 0 0)::.blk q 116 (rsV t s1)::r) (fun (k,n,v,s1) ro2=>RgOk ro2 n v∧repL t k n s1=R∧(s1.e=0→t.length+1≤k+s1.p)∧Inv t s1∧NB (513+2*d) s1) (fun (k,n,v,s1)=>k) (t.length+1,n0,V,s0) ?_ Sub.z Sup.z ?_
 ·exact ⟨hv,hR.symm,fun _=>by omega,hia,hna⟩
 rintro ⟨k,n,v,s1⟩ ro2 hl2 ⟨i1,i2,i3,i4,i5⟩
 dsimp only [List.cons_append,List.nil_append] at i1 i2 i3 i4 i5 ⊢
 have hp1:=i4.p
 have hn1:=i5.n
 obtain ⟨a2,c2,hvc⟩:=i1.cells
 subst hvc
 repeat first|exact zE|refine zP ?_|refine zB fun b=>?_|refine zC fun a' c' hc1 hc2=>?_|(apply GJ.a;exact rfl;intro hg)|(apply GJ.o;exact rfl;intro hg)
 refine eat_ok (t:=t) (s:=s1) 42 rfl (by decide) (by omega) ?_
 by_cases h42:peekD t s1=42
 ·have hpp:=peek_pos (t:=t) (s:=s1) (by rw [h42];decide)
  have h3:=i3 hpp.1
  obtain ⟨k,rfl⟩:∃ j,k=j+1:=⟨k-1,by omega⟩
  rw [repL,if_pos h42] at i2
  rw [decide_eq_true h42,eatS,if_pos h42]
  have hn2:s1.adv.n≤10000000:=by show s1.n≤_;omega
  have hiv:Inv t s1.adv:=i4.adv (by rw [h42];decide)
  have hsm:NB 513 (nodeS s1.adv):=i5.small hpp.1 rfl
  have hm2:(nodeS s1.adv).e=0→t.length+1≤k+(nodeS s1.adv).p:=fun _=>by rw [node_p];show _≤k+(s1.p+1);omega
  repeat first|exact zE|refine zP ?_|refine zB fun b=>?_|refine zC fun a' c' hc1 hc2=>?_|(apply GJ.a;exact rfl;intro hg)|(apply GJ.o;exact rfl;intro hg)
  refine CallOk.freeze (c:=.sl (some ⟨b,0,none⟩) _ _ _ _ _) Take.auto (fun ro3 hl3 hc3=>?_)
  have hv3:RgOk ro3 n (nodeV n.kind n.set a2 n.kids.length c2 n.min n.max):=i1.le hl3
  have hr3:Rs ro3 (some ⟨b,0,none⟩) 1 1 8 (nodeV n.kind n.set a2 n.kids.length c2 n.min n.max):=Rs.last hc3
  refine node_ok (t:=t) (s:=s1.adv) (k:=5) (z:=zeroS) (a:=some ⟨b,0,none⟩) (m:=1) (c:=1) (x:=0) (y:=(-1)) hn2 ?_
  repeat first|exact zE|refine zP ?_|refine zB fun b=>?_|refine zC fun a' c' hc1 hc2=>?_|(apply GJ.a;exact rfl;intro hg)|(apply GJ.o;exact rfl;intro hg)
  refine Wk.id ⟨(k,repD n 0 (-1),nodeV 5 zeroS (some ⟨b,0,none⟩) 1 1 0 (-1),nodeS s1.adv),?_,?_,Sub.z,Sup.z⟩
  all_goals try dsimp only
  ·exact ⟨hv3.rep hr3,i2,hm2,hiv.node,hsm.le (by omega)⟩
  ·omega
 rw [decide_eq_false h42,eatS,if_neg h42]
 repeat first|exact zE|refine zP ?_|refine zB fun b=>?_|refine zC fun a' c' hc1 hc2=>?_|(apply GJ.a;exact rfl;intro hg)|(apply GJ.o;exact rfl;intro hg)
 refine eat_ok (t:=t) (s:=s1) 43 rfl (by decide) (by omega) ?_
 by_cases h43:peekD t s1=43
 ·have hpp:=peek_pos (t:=t) (s:=s1) (by rw [h43];decide)
  have h3:=i3 hpp.1
  obtain ⟨k,rfl⟩:∃ j,k=j+1:=⟨k-1,by omega⟩
  rw [repL,if_neg h42,if_pos h43] at i2
  rw [decide_eq_true h43,eatS,if_pos h43]
  have hn2:s1.adv.n≤10000000:=by show s1.n≤_;omega
  have hiv:Inv t s1.adv:=i4.adv (by rw [h43];decide)
  have hsm:NB 513 (nodeS s1.adv):=i5.small hpp.1 rfl
  have hm2:(nodeS s1.adv).e=0→t.length+1≤k+(nodeS s1.adv).p:=fun _=>by rw [node_p];show _≤k+(s1.p+1);omega
  repeat first|exact zE|refine zP ?_|refine zB fun b=>?_|refine zC fun a' c' hc1 hc2=>?_|(apply GJ.a;exact rfl;intro hg)|(apply GJ.o;exact rfl;intro hg)
  refine CallOk.freeze (c:=.sl (some ⟨b,0,none⟩) _ _ _ _ _) Take.auto (fun ro3 hl3 hc3=>?_)
  have hv3:RgOk ro3 n (nodeV n.kind n.set a2 n.kids.length c2 n.min n.max):=i1.le hl3
  have hr3:Rs ro3 (some ⟨b,0,none⟩) 1 1 8 (nodeV n.kind n.set a2 n.kids.length c2 n.min n.max):=Rs.last hc3
  refine node_ok (t:=t) (s:=s1.adv) (k:=5) (z:=zeroS) (a:=some ⟨b,0,none⟩) (m:=1) (c:=1) (x:=1) (y:=(-1)) hn2 ?_
  repeat first|exact zE|refine zP ?_|refine zB fun b=>?_|refine zC fun a' c' hc1 hc2=>?_|(apply GJ.a;exact rfl;intro hg)|(apply GJ.o;exact rfl;intro hg)
  refine Wk.id ⟨(k,repD n 1 (-1),nodeV 5 zeroS (some ⟨b,0,none⟩) 1 1 1 (-1),nodeS s1.adv),?_,?_,Sub.z,Sup.z⟩
  all_goals try dsimp only
  ·exact ⟨hv3.rep hr3,i2,hm2,hiv.node,hsm.le (by omega)⟩
  ·omega
 rw [decide_eq_false h43,eatS,if_neg h43]
 repeat first|exact zE|refine zP ?_|refine zB fun b=>?_|refine zC fun a' c' hc1 hc2=>?_|(apply GJ.a;exact rfl;intro hg)|(apply GJ.o;exact rfl;intro hg)
 refine eat_ok (t:=t) (s:=s1) 63 rfl (by decide) (by omega) ?_
 by_cases h63:peekD t s1=63
 ·have hpp:=peek_pos (t:=t) (s:=s1) (by rw [h63];decide)
  have h3:=i3 hpp.1
  obtain ⟨k,rfl⟩:∃ j,k=j+1:=⟨k-1,by omega⟩
  rw [repL,if_neg h42,if_neg h43,if_pos h63] at i2
  rw [decide_eq_true h63,eatS,if_pos h63]
  have hn2:s1.adv.n≤10000000:=by show s1.n≤_;omega
  have hiv:Inv t s1.adv:=i4.adv (by rw [h63];decide)
  have hsm:NB 513 (nodeS s1.adv):=i5.small hpp.1 rfl
  have hm2:(nodeS s1.adv).e=0→t.length+1≤k+(nodeS s1.adv).p:=fun _=>by rw [node_p];show _≤k+(s1.p+1);omega
  repeat first|exact zE|refine zP ?_|refine zB fun b=>?_|refine zC fun a' c' hc1 hc2=>?_|(apply GJ.a;exact rfl;intro hg)|(apply GJ.o;exact rfl;intro hg)
  refine CallOk.freeze (c:=.sl (some ⟨b,0,none⟩) _ _ _ _ _) Take.auto (fun ro3 hl3 hc3=>?_)
  have hv3:RgOk ro3 n (nodeV n.kind n.set a2 n.kids.length c2 n.min n.max):=i1.le hl3
  have hr3:Rs ro3 (some ⟨b,0,none⟩) 1 1 8 (nodeV n.kind n.set a2 n.kids.length c2 n.min n.max):=Rs.last hc3
  refine node_ok (t:=t) (s:=s1.adv) (k:=5) (z:=zeroS) (a:=some ⟨b,0,none⟩) (m:=1) (c:=1) (x:=0) (y:=1) hn2 ?_
  repeat first|exact zE|refine zP ?_|refine zB fun b=>?_|refine zC fun a' c' hc1 hc2=>?_|(apply GJ.a;exact rfl;intro hg)|(apply GJ.o;exact rfl;intro hg)
  refine Wk.id ⟨(k,repD n 0 1,nodeV 5 zeroS (some ⟨b,0,none⟩) 1 1 0 1,nodeS s1.adv),?_,?_,Sub.z,Sup.z⟩
  all_goals try dsimp only
  ·exact ⟨hv3.rep hr3,i2,hm2,hiv.node,hsm.le (by omega)⟩
  ·omega
 rw [decide_eq_false h63,eatS,if_neg h63]
 repeat first|exact zE|refine zP ?_|refine zB fun b=>?_|refine zC fun a' c' hc1 hc2=>?_|(apply GJ.a;exact rfl;intro hg)|(apply GJ.o;exact rfl;intro hg)
 refine eat_ok (t:=t) (s:=s1) 123 rfl (by decide) (by omega) ?_
 by_cases h123:peekD t s1=123
 ·have hpp:=peek_pos (t:=t) (s:=s1) (by rw [h123];decide)
  have h3:=i3 hpp.1
  obtain ⟨k,rfl⟩:∃ j,k=j+1:=⟨k-1,by omega⟩
  rw [repL,if_neg h42,if_neg h43,if_neg h63,if_pos h123] at i2
  rw [decide_eq_true h123,eatS,if_pos h123]
  have hiv:Inv t (countsD t s1.adv).2:=(i4.adv (by rw [h123];decide)).counts hpp.2
  have hsm:NB 513 (nodeS (countsD t s1.adv).2):=i5.small hpp.1 counts_n
  have hn2:(countsD t s1.adv).2.n≤10000000:=by rw [counts_n];show s1.n≤_;omega
  have hm2:(nodeS (countsD t s1.adv).2).e=0→t.length+1≤k+(nodeS (countsD t s1.adv).2).p:=fun he=>by
   rw [node_p]
   have:=counts_more (t:=t) (s:=s1.adv) hpp.1 (node_sound (t:=t) he).2
   have e:s1.adv.p=s1.p+1:=rfl
   omega
  repeat first|exact zE|refine zP ?_|refine zB fun b=>?_|refine zC fun a' c' hc1 hc2=>?_|(apply GJ.a;exact rfl;intro hg)|(apply GJ.o;exact rfl;intro hg)
  refine rcounts_ok (t:=t) (s:=s1.adv) hpp.1 (by show s1.p+1≤_;omega) hl ?_
  generalize (countsD t s1.adv).1.1=lo at i2 ⊢
  generalize (countsD t s1.adv).1.2=hi2 at i2 ⊢
  generalize (countsD t s1.adv).2=s2 at i2 hiv hsm hn2 hm2 ⊢
  repeat first|exact zE|refine zP ?_|refine zB fun b=>?_|refine zC fun a' c' hc1 hc2=>?_|(apply GJ.a;exact rfl;intro hg)|(apply GJ.o;exact rfl;intro hg)
  refine CallOk.freeze (c:=.sl (some ⟨b,0,none⟩) _ _ _ _ _) Take.auto (fun ro3 hl3 hc3=>?_)
  have hv3:RgOk ro3 n (nodeV n.kind n.set a2 n.kids.length c2 n.min n.max):=i1.le hl3
  have hr3:Rs ro3 (some ⟨b,0,none⟩) 1 1 8 (nodeV n.kind n.set a2 n.kids.length c2 n.min n.max):=Rs.last hc3
  refine node_ok (t:=t) (s:=s2) (k:=5) (z:=zeroS) (a:=some ⟨b,0,none⟩) (m:=1) (c:=1) (x:=(lo:Int)) (y:=hi2) hn2 ?_
  repeat first|exact zE|refine zP ?_|refine zB fun b=>?_|refine zC fun a' c' hc1 hc2=>?_|(apply GJ.a;exact rfl;intro hg)|(apply GJ.o;exact rfl;intro hg)
  refine Wk.id ⟨(k,repD n (lo:Int) hi2,nodeV 5 zeroS (some ⟨b,0,none⟩) 1 1 (lo:Int) hi2,nodeS s2),?_,?_,Sub.z,Sup.z⟩
  all_goals try dsimp only
  ·exact ⟨hv3.rep hr3,i2,hm2,hiv.node,hsm.le (by omega)⟩
  ·omega
 rw [decide_eq_false h123,eatS,if_neg h123]
 rw [rep_none h42 h43 h63 h123] at i2
 rw [←i2] at hk
 repeat first|exact zE|refine zP ?_|refine zB fun b=>?_|refine zC fun a' c' hc1 hc2=>?_|(apply GJ.a;exact rfl;intro hg)|(apply GJ.o;exact rfl;intro hg)
 exact Wk.outS Sup.z (p2 _) (hk ro2 _ (hl1.trans hl2) i1)
end
theorem cat_none {t:List UInt8}{alt:RS→RgD × RS}{k:Nat}{l:List RgD}{s:RS} (h:peekD t s=0∨peekD t s=124∨peekD t s=41):catL t alt k l s=(l,s):=by
 cases k with
 | zero=>rfl
 | succ k=>rw [catL,if_neg (fun x=>by omega)]
theorem RgOk.many {ro:Ro}{k:Int}{l:List RgD}{cs:List Value}{a:Option Addr}{c:Nat} (hl:RgsOk ro l cs) (hr:Rs ro a l.length c 8 cs):RgOk ro (.mk k zeroS l 0 0) (nodeV k zeroS a l.length c 0 0):=by
 rw [RgOk];exact ⟨a,c,cs,rfl,zeroS_in,hr,hl⟩
theorem RgsOk.single {ro:Ro}{n:RgD}{cs:List Value} (h:RgsOk ro [n] cs):RgOk ro n cs:=by
 rw [RgsOk] at h
 obtain ⟨v,r,rfl,h1,h2⟩:=h
 rw [RgsOk] at h2;subst h2
 rw [List.append_nil];exact h1
theorem piece_more {t:List UInt8}{d:Nat}{s:RS} (h:(pieceD t (altD t d) s).2.e=0):s.p+1≤(pieceD t (altD t d) s).2.p:=by
 obtain ⟨l,⟨r1,_⟩,hp⟩:=piece_sound (t:=t) (alt:=altD t d) ⟨fun h=>alt_sound h,fun h=>alt_keep h⟩ h
 obtain ⟨x,m,hx,_⟩:=hp.head
 rw [r1,hx];show s.p+1≤s.p+(m.length+1);omega
section
variable {ro:Ro}{own r:Chs}{K:Value→Ro→Chs→Prop}{g:Chunk→Chs}{q:Nat}{t:List UInt8}
set_option maxHeartbeats 8000000 in
theorem cat_ok {s:RS} [hb:HasBlk own q 116 (rsV t s) g] {d:Nat}{x:Int} (ha:AltC t d) (hx:x=32-(d:Int)) (hd:d≤32) (hi:Inv t s) (h0:s.e=0) (hn:s.n≤512) (hl:t.length≤10000)
  (hk:∀ ro' v,Le ro ro'→RgOk ro' (catD t (altD t d) s).1 v→K (.agg v.toArray) ro' (g (.blk q 116 (rsV t (catD t (altD t d) s).2)))) :
  CallOk Tryz.prog 80 #[ptr' q,.int .i64 x] ro own K:=by
 obtain ⟨r,p1,p2⟩:=hb.split
 refine CallOk.perm p1 ?_
 have hp:=hi.p0 h0
 unfold catD at hk
 obtain ⟨R,hR⟩:∃ R,R=catL t (altD t d) (t.length+1) [] s:=⟨_,rfl⟩
 rw [←hR] at hk
 refine CallOk.intro (args:=[_,_]) (rs:=[_]) T_ok Tryz.func80 Tryz.call80 rfl rfl (by kernel_rfl) rfl rfl ?_
 repeat first|exact zE|refine zP ?_|refine zB fun b=>?_|refine zC fun a' c' hc1 hc2=>?_|(apply GJ.a;exact rfl;intro hg)|(apply GJ.o;exact rfl;intro hg)
 obtain ⟨b4,hb4⟩:∃ z:Nat,z=b:=⟨_,rfl⟩
 subst hb4
 refine peek_ok (t:=t) (s:=s) ?_
 repeat first|exact zE|refine zP ?_|refine zB fun b=>?_|refine zC fun a' c' hc1 hc2=>?_|(apply GJ.a;exact rfl;intro hg)|(apply GJ.o;exact rfl;intro hg)
 refine LoopOk.auto (ι:=Nat × List RgD × List Value × RS × Option Addr × Nat) Keep.z (fun (k,l,cs,s1,ad,cp)=>[(5,.slice ad l.length cp),(6,.int .u8 (peekD t s1:Int))]) (fun (k,l,cs,s1,ad,cp)=>.sl ad l.length cp 26 8 cs::.blk b4 26 (nodeV 0 zeroS none 0 0 0 0)::.blk q 116 (rsV t s1)::r) (fun (k,l,cs,s1,ad,cp) ro2=>RgsOk ro2 l cs∧catL t (altD t d) k l s1=R∧(s1.e=0→t.length+1≤k+s1.p∧l.length≤s1.p)∧l.length≤t.length+1∧Inv t s1∧NB (513+2*d) s1∧l.length≤cp∧cp≤maxLen) (fun (k,l,cs,s1,ad,cp)=>k) (t.length+1,[],[],s,none,0) ?_ Sub.z Sup.z ?_
 ·exact ⟨by rw [RgsOk],hR.symm,fun _=>⟨by omega,Nat.zero_le _⟩,Nat.zero_le _,hi,⟨fun _=>hn,by omega⟩,Nat.zero_le _,Nat.zero_le _⟩
 rintro ⟨k,l,cs,s1,ad,cp⟩ ro2 hl2 ⟨i1,i2,i3,i4,i5,i6,i7,i8⟩
 dsimp only [List.cons_append,List.nil_append] at i1 i2 i3 i4 i5 i6 i7 i8 ⊢
 have hp1:=i5.p
 have hn1:=i6.n
 have hL:cs.length=l.length*8:=i1.len
 have hlt:=peek_lt t s1
 by_cases hgo:peekD t s1=0∨peekD t s1=124∨peekD t s1=41
 ·rw [cat_none hgo] at i2
  rw [←i2] at hk
  have hgo:((peekD t s1:Int)=0∨(peekD t s1:Int)=124∨(peekD t s1:Int)=41):=by omega
  generalize (peekD t s1:Int)=c at hgo ⊢
  have hgc:¬(c≠0∧c≠124∧c≠41):=by omega
  repeat first|exact zE|refine zP ?_|refine zB fun b=>?_|refine zC fun a' c' hc1 hc2=>?_|(apply GJ.a;exact rfl;intro hg)|(apply GJ.o;exact rfl;intro hg)
  rcases l with _|⟨x1,_|⟨y1,l1⟩⟩
  ·refine Br.t rfl ?_
   repeat first|exact zE|refine zP ?_|refine zB fun b=>?_|refine zC fun a' c' hc1 hc2=>?_|(apply GJ.a;exact rfl;intro hg)|(apply GJ.o;exact rfl;intro hg)
   refine node_ok (t:=t) (s:=s1) (k:=1) (z:=zeroS) (a:=none) (m:=0) (c:=0) (x:=0) (y:=0) (by omega) ?_
   repeat first|exact zE|refine zP ?_|refine zB fun b=>?_|refine zC fun a' c' hc1 hc2=>?_|(apply GJ.a;exact rfl;intro hg)|(apply GJ.o;exact rfl;intro hg)
   exact Wk.outS Sup.z (p2 _) (hk ro2 _ hl2 (RgOk.leaf zeroS_in))
  ·rw [show ([x1]:List RgD).length=1 from rfl] at i4 i7 hL ⊢
   have hv:=i1.single
   obtain ⟨a1,c1,hvc⟩:=hv.cells
   subst hvc
   refine Br.f (by simp) ?_
   repeat first|exact zE|refine zP ?_|refine zB fun b=>?_|refine zC fun a' c' hc1 hc2=>?_|(apply GJ.a;exact rfl;intro hg)|(apply GJ.o;exact rfl;intro hg)
   refine OpOk.loadRow rfl rfl (LdN.slRow (k:=0) (z:=8) (cs:=nodeV x1.kind x1.set a1 x1.kids.length c1 x1.min x1.max) (vs:=nodeV x1.kind x1.set a1 x1.kids.length c1 x1.min x1.max) rfl) rfl ?_
   repeat first|exact zE|refine zP ?_|refine zB fun b=>?_|refine zC fun a' c' hc1 hc2=>?_|(apply GJ.a;exact rfl;intro hg)|(apply GJ.o;exact rfl;intro hg)
   exact Wk.outS Sup.z (p2 _) (hk ro2 _ hl2 hv)
  ·have hlen:2≤(x1::y1::l1).length:=by simp
   have hcat:catOf (x1::y1::l1,s1)=(catD' (x1::y1::l1),nodeS s1):=rfl
   rw [hcat] at hk
   generalize x1::y1::l1=l at hk i1 i2 i3 i4 i7 hL hlen ⊢
   repeat first|exact zE|refine zP ?_|refine zB fun b=>?_|refine zC fun a' c' hc1 hc2=>?_|(apply GJ.a;exact rfl;intro hg)|(apply GJ.o;exact rfl;intro hg)
   refine CallOk.freeze (c:=.sl ad _ _ _ _ _) Take.auto (fun ro3 hl3 hc3=>?_)
   have hw:=RgOk.many (k:=3) (i1.le hl3) (Rs.last hc3)
   refine node_ok (t:=t) (s:=s1) (k:=3) (z:=zeroS) (a:=ad) (m:=l.length) (c:=cp) (x:=0) (y:=0) (by omega) ?_
   repeat first|exact zE|refine zP ?_|refine zB fun b=>?_|refine zC fun a' c' hc1 hc2=>?_|(apply GJ.a;exact rfl;intro hg)|(apply GJ.o;exact rfl;intro hg)
   exact Wk.outS Sup.z (p2 _) (hk ro3 _ (hl2.trans hl3) hw)
 ·have hpp:=peek_pos (t:=t) (s:=s1) (by omega)
  obtain ⟨h3,h4⟩:=i3 hpp.1
  obtain ⟨k,rfl⟩:∃ j,k=j+1:=⟨k-1,by omega⟩
  rw [catL,if_pos (by omega)] at i2
  have hgo:¬(peekD t s1:Int)=0∧¬(peekD t s1:Int)=124∧¬(peekD t s1:Int)=41:=by omega
  have hin:Inv t (pieceD t (altD t d) s1).2:=i5.piece (fun h _=>Inv.alt h) hpp.1
  have hnn:NB (513+2*d) (pieceD t (altD t d) s1).2:=NB.piece (by omega) (fun h0 hn=>NB.alt h0 hn) hpp.1 (i6.n0 hpp.1)
  have hmore:=piece_more (t:=t) (d:=d) (s:=s1)
  generalize (peekD t s1:Int)=c at hgo ⊢
  obtain ⟨g1,g2,g3⟩:=hgo
  repeat first|exact zE|refine zP ?_|refine zB fun b=>?_|refine zC fun a' c' hc1 hc2=>?_|(apply GJ.a;exact rfl;intro hg)|(apply GJ.o;exact rfl;intro hg)
  refine repeat_ok (t:=t) (s:=s1) ha hx hd i5 hpp.1 (i6.n0 hpp.1) hl (fun ro3 v hl3 hv=>?_)
  generalize (pieceD t (altD t d) s1).1=n at i2 hv
  generalize (pieceD t (altD t d) s1).2=s2 at i2 hin hnn hmore ⊢
  obtain ⟨a1,c1,hvc⟩:=hv.cells
  subst hvc
  repeat first|exact zE|refine zP ?_|refine zB fun b=>?_|refine zC fun a' c' hc1 hc2=>?_|(apply GJ.a;exact rfl;intro hg)|(apply GJ.o;exact rfl;intro hg)
  rw [show l.length+1=(l++[n]).length by simp] at hc1 ⊢
  repeat first|exact zE|refine zP ?_|refine zB fun b=>?_|refine zC fun a' c' hc1 hc2=>?_|(apply GJ.a;exact rfl;intro hg)|(apply GJ.o;exact rfl;intro hg)
  refine peek_ok (t:=t) (s:=s2) ?_
  repeat first|exact zE|refine zP ?_|refine zB fun b=>?_|refine zC fun a' c' hc1 hc2=>?_|(apply GJ.a;exact rfl;intro hg)|(apply GJ.o;exact rfl;intro hg)
  refine Wk.id ⟨(k,l++[n],cs++nodeV n.kind n.set a1 n.kids.length c1 n.min n.max,s2,a',c'),?_,?_,Sub.z,Sup.z⟩
  all_goals try dsimp only
  ·refine ⟨RgsOk.snoc hv (i1.le hl3),i2,fun he=>?_,by simp;omega,hin,hnn,hc1,hc2⟩
   have:=hmore he
   simp;omega
  ·omega
end
theorem alt_none {t:List UInt8}{alt:RS→RgD × RS}{k:Nat}{l:List RgD}{s:RS} (h:¬peekD t s=124):altL t alt k l s=(l,s):=by
 cases k with
 | zero=>rfl
 | succ k=>rw [altL,if_neg h]
theorem cat_more {t:List UInt8}{d:Nat}{s:RS} (h:(catD t (altD t d) s).2.e=0):s.p≤(catD t (altD t d) s).2.p:=by
 obtain ⟨l,⟨r1,_⟩,_⟩:=cat_sound (t:=t) (alt:=altD t d) ⟨fun h=>alt_sound h,fun h=>alt_keep h⟩ h
 rw [r1];show s.p≤s.p+l.length;omega
set_option maxHeartbeats 8000000 in
theorem altC {t:List UInt8} (hl:t.length≤10000):∀ d:Nat,d≤33→AltC t d:=by
 intro d
 induction d with
 | zero =>
   intro _
   unfold AltC
   intro ro own g q s K hb hi h0 hn hk
   obtain ⟨r,p1,p2⟩:=hb.split
   refine CallOk.perm p1 ?_
   refine CallOk.intro (args:=[_,_]) (rs:=[_]) T_ok Tryz.func66 Tryz.call66 rfl rfl (by kernel_rfl) rfl rfl ?_
   repeat first|exact zE|refine zP ?_|refine zB fun b=>?_|refine zC fun a' c' hc1 hc2=>?_|(apply GJ.a;exact rfl;intro hg)|(apply GJ.o;exact rfl;intro hg)
   refine rwrong_ok (t:=t) (s:=s) 6 s.p rfl rfl ?_
   repeat first|exact zE|refine zP ?_|refine zB fun b=>?_|refine zC fun a' c' hc1 hc2=>?_|(apply GJ.a;exact rfl;intro hg)|(apply GJ.o;exact rfl;intro hg)
   exact Wk.outS Sup.z (p2 _) (hk ro _ (.refl _) (RgOk.leaf zeroS_in))
 | succ d ih =>
   intro hd
   have ha:AltC t d:=ih (by omega)
   unfold AltC
   intro ro own g q s K hb hi h0 hn hk
   obtain ⟨r,p1,p2⟩:=hb.split
   refine CallOk.perm p1 ?_
   have hp:=hi.p0 h0
   rw [altD] at hk
   obtain ⟨R,hR⟩:∃ R,R=altL t (altD t d) (t.length+1) [(catD t (altD t d) s).1] (catD t (altD t d) s).2:=⟨_,rfl⟩
   rw [←hR] at hk
   have hic:Inv t (catD t (altD t d) s).2:=hi.cat (fun h _=>Inv.alt h)
   have hnc:NB (513+2*d+1) (catD t (altD t d) s).2:=NB.cat (t:=t) (by omega) (fun h0 hn=>NB.alt h0 hn) ⟨fun _=>hn,by omega⟩
   have hmc:=cat_more (t:=t) (d:=d) (s:=s)
   have hx:33-((d+1:Nat):Int)=32-(d:Int):=by omega
   rw [hx]
   generalize hX:32-(d:Int)=X
   have hX:X=32-(d:Int):=hX.symm
   refine CallOk.intro (args:=[_,_]) (rs:=[_]) T_ok Tryz.func66 Tryz.call66 rfl rfl (by kernel_rfl) rfl rfl ?_
   repeat first|exact zE|refine zP ?_|refine zB fun b=>?_|refine zC fun a' c' hc1 hc2=>?_|(apply GJ.a;exact rfl;intro hg)|(apply GJ.o;exact rfl;intro hg)
   obtain ⟨b4,hb4⟩:∃ z:Nat,z=b:=⟨_,rfl⟩
   subst hb4
   refine cat_ok (t:=t) (s:=s) ha hX (by omega) hi h0 hn hl (fun ro1 v hl1 hv=>?_)
   generalize (catD t (altD t d) s).1=n0 at hR hv
   generalize (catD t (altD t d) s).2=s0 at hR hic hnc hmc ⊢
   obtain ⟨a1,c1,hvc⟩:=hv.cells
   subst hvc
   repeat first|exact zE|refine zP ?_|refine zB fun b=>?_|refine zC fun a' c' hc1 hc2=>?_|(apply GJ.a;exact rfl;intro hg)|(apply GJ.o;exact rfl;intro hg)
   refine LoopOk.auto (ι:=Nat × List RgD × List Value × RS × Option Addr × Nat) Keep.z (fun (k,l,cs,s1,ad,cp)=>[(5,.slice ad l.length cp)]) (fun (k,l,cs,s1,ad,cp)=>.sl ad l.length cp 26 8 cs::.blk b4 26 (nodeV 0 zeroS none 0 0 0 0)::.blk q 116 (rsV t s1)::r) (fun (k,l,cs,s1,ad,cp) ro2=>RgsOk ro2 l cs∧altL t (altD t d) k l s1=R∧(s1.e=0→t.length+1≤k+s1.p∧l.length≤s1.p+1)∧(1≤l.length∧l.length≤t.length+2)∧Inv t s1∧NB (513+2*d+1) s1∧l.length≤cp∧cp≤maxLen) (fun (k,l,cs,s1,ad,cp)=>k) (t.length+1,[n0],nodeV n0.kind n0.set a1 n0.kids.length c1 n0.min n0.max,s0,some ⟨b,0,none⟩,1) ?_ Sub.z Sup.z ?_
   ·refine ⟨?_,hR.symm,fun h=>⟨by have:=hmc h;omega,by simp⟩,by simp,hic,hnc,by simp,by decide⟩
    rw [RgsOk];exact ⟨_,[],by simp,hv,by rw [RgsOk]⟩
   rintro ⟨k,l,cs,s1,ad,cp⟩ ro2 hl2 ⟨i1,i2,i3,i4,i5,i6,i7,i8⟩
   dsimp only [List.cons_append,List.nil_append] at i1 i2 i3 i4 i5 i6 i7 i8 ⊢
   have hp1:=i5.p
   have hn1:=i6.n
   have hL:cs.length=l.length*8:=i1.len
   repeat first|exact zE|refine zP ?_|refine zB fun b=>?_|refine zC fun a' c' hc1 hc2=>?_|(apply GJ.a;exact rfl;intro hg)|(apply GJ.o;exact rfl;intro hg)
   refine eat_ok (t:=t) (s:=s1) 124 rfl (by decide) (by omega) ?_
   by_cases h124:¬peekD t s1=124
   ·rw [alt_none h124] at i2
    rw [←i2] at hk
    rw [decide_eq_false h124,eatS,if_neg h124]
    repeat first|exact zE|refine zP ?_|refine zB fun b=>?_|refine zC fun a' c' hc1 hc2=>?_|(apply GJ.a;exact rfl;intro hg)|(apply GJ.o;exact rfl;intro hg)
    rcases l with _|⟨x1,_|⟨y1,l1⟩⟩
    ·exact absurd i4.1 (by decide)
    ·rw [show ([x1]:List RgD).length=1 from rfl] at i4 i7 hL ⊢
     have hv:=i1.single
     obtain ⟨a1,c1,hvc⟩:=hv.cells
     subst hvc
     repeat first|exact zE|refine zP ?_|refine zB fun b=>?_|refine zC fun a' c' hc1 hc2=>?_|(apply GJ.a;exact rfl;intro hg)|(apply GJ.o;exact rfl;intro hg)
     refine OpOk.loadRow rfl rfl (LdN.slRow (k:=0) (z:=8) (cs:=nodeV x1.kind x1.set a1 x1.kids.length c1 x1.min x1.max) (vs:=nodeV x1.kind x1.set a1 x1.kids.length c1 x1.min x1.max) rfl) rfl ?_
     repeat first|exact zE|refine zP ?_|refine zB fun b=>?_|refine zC fun a' c' hc1 hc2=>?_|(apply GJ.a;exact rfl;intro hg)|(apply GJ.o;exact rfl;intro hg)
     exact Wk.outS Sup.z (p2 _) (hk ro2 _ (hl1.trans hl2) hv)
    ·have hlen:2≤(x1::y1::l1).length:=by simp
     have hcat:altOf (x1::y1::l1,s1)=(altD' (x1::y1::l1),nodeS s1):=rfl
     rw [hcat] at hk
     generalize x1::y1::l1=l at hk i1 i2 i3 i4 i7 hL hlen ⊢
     refine Br.f (by omega) ?_
     repeat first|exact zE|refine zP ?_|refine zB fun b=>?_|refine zC fun a' c' hc1 hc2=>?_|(apply GJ.a;exact rfl;intro hg)|(apply GJ.o;exact rfl;intro hg)
     refine CallOk.freeze (c:=.sl ad _ _ _ _ _) Take.auto (fun ro3 hl3 hc3=>?_)
     have hw:=RgOk.many (k:=4) (i1.le hl3) (Rs.last hc3)
     refine node_ok (t:=t) (s:=s1) (k:=4) (z:=zeroS) (a:=ad) (m:=l.length) (c:=cp) (x:=0) (y:=0) (by omega) ?_
     repeat first|exact zE|refine zP ?_|refine zB fun b=>?_|refine zC fun a' c' hc1 hc2=>?_|(apply GJ.a;exact rfl;intro hg)|(apply GJ.o;exact rfl;intro hg)
     exact Wk.outS Sup.z (p2 _) (hk ro3 _ ((hl1.trans hl2).trans hl3) hw)
   ·have h124:=Decidable.of_not_not h124
    have hpp:=peek_pos (t:=t) (s:=s1) (by omega)
    obtain ⟨h3,h4⟩:=i3 hpp.1
    obtain ⟨k,rfl⟩:∃ j,k=j+1:=⟨k-1,by omega⟩
    rw [altL,if_pos h124] at i2
    rw [decide_eq_true h124,eatS,if_pos h124]
    have hia:Inv t s1.adv:=i5.adv (by omega)
    have hin:Inv t (catD t (altD t d) s1.adv).2:=hia.cat (fun h _=>Inv.alt h)
    have hnn:NB (513+2*d+1) (catD t (altD t d) s1.adv).2:=NB.cat (t:=t) (s:=s1.adv) (by omega) (fun h0 hn=>NB.alt h0 hn) ⟨fun _=>i6.n0 hpp.1,by have:=i6.n0 hpp.1;show s1.n≤_;omega⟩
    have hmore:=cat_more (t:=t) (d:=d) (s:=s1.adv)
    have hap:s1.adv.p=s1.p+1:=rfl
    repeat first|exact zE|refine zP ?_|refine zB fun b=>?_|refine zC fun a' c' hc1 hc2=>?_|(apply GJ.a;exact rfl;intro hg)|(apply GJ.o;exact rfl;intro hg)
    refine cat_ok (t:=t) (s:=s1.adv) ha hX (by omega) hia hpp.1 (i6.n0 hpp.1) hl (fun ro3 v hl3 hv=>?_)
    generalize (catD t (altD t d) s1.adv).1=n at i2 hv
    generalize (catD t (altD t d) s1.adv).2=s2 at i2 hin hnn hmore ⊢
    obtain ⟨a1,c1,hvc⟩:=hv.cells
    subst hvc
    repeat first|exact zE|refine zP ?_|refine zB fun b=>?_|refine zC fun a' c' hc1 hc2=>?_|(apply GJ.a;exact rfl;intro hg)|(apply GJ.o;exact rfl;intro hg)
    rw [show l.length+1=(l++[n]).length by simp] at hc1 ⊢
    repeat first|exact zE|refine zP ?_|refine zB fun b=>?_|refine zC fun a' c' hc1 hc2=>?_|(apply GJ.a;exact rfl;intro hg)|(apply GJ.o;exact rfl;intro hg)
    refine Wk.id ⟨(k,l++[n],cs++nodeV n.kind n.set a1 n.kids.length c1 n.min n.max,s2,a',c'),?_,?_,Sub.z,Sup.z⟩
    all_goals try dsimp only
    ·refine ⟨RgsOk.snoc hv (i1.le hl3),i2,fun he=>?_,by simp;omega,hin,hnn,hc1,hc2⟩
     have:=hmore he
     simp;omega
    ·omega
def faultV (p:Nat × Nat):List Value:=[.int .i64 (p.1:Int),.int .i64 (p.2:Int)]
section
variable {ro:Ro}{own r:Chs}{K:Value→Ro→Chs→Prop}{g:Chunk→Chs}{q:Nat}{t:List UInt8}
set_option maxHeartbeats 8000000 in
theorem rparse_ok (hl:t.length≤1000000) (hk:∀ ro' v,Le ro ro'→RgOk ro' (parseD t).1 v→K (.tuple #[.agg v.toArray,.agg (faultV (parseD t).2).toArray]) ro' own) :
  CallOk Tryz.prog 50 #[str t] ro own K:=by
 unfold parseD at hk
 by_cases h512:512<t.length
 ·rw [if_pos h512] at hk
  refine CallOk.intro (args:=[_]) (rs:=[_,_]) T_ok Tryz.func50 Tryz.call50 rfl rfl (by kernel_rfl) rfl rfl ?_
  repeat first|exact zE|refine zP ?_|refine zB fun b=>?_|refine zC fun a' c' hc1 hc2=>?_|(apply GJ.a;exact rfl;intro hg)|(apply GJ.o;exact rfl;intro hg)
  exact Wk.outS Sup.z (.refl _) (hk ro _ (.refl _) (RgOk.leaf zeroS_in))
 ·rw [if_neg h512] at hk
  have hi:Inv t ⟨0,0,0,0⟩:=⟨fun _=>Nat.zero_le _,Nat.zero_le _,Nat.zero_le _,.inl rfl⟩
  refine CallOk.intro (args:=[_]) (rs:=[_,_]) T_ok Tryz.func50 Tryz.call50 rfl rfl (by kernel_rfl) rfl rfl ?_
  repeat first|exact zE|refine zP ?_|refine zB fun b=>?_|refine zC fun a' c' hc1 hc2=>?_|(apply GJ.a;exact rfl;intro hg)|(apply GJ.o;exact rfl;intro hg)
  rename_i b2 b3
  obtain ⟨q,hq⟩:∃ z:Nat,z=b:=⟨_,rfl⟩
  subst hq
  have e1:(.blk q 116 (Value.agg #[str t,.int .i64 0,.int .i64 0,.int .i64 0,.int .i64 0]).cells.toList:Chunk)=.blk q 116 (rsV t ⟨0,0,0,0⟩):=rfl
  rw [e1]
  refine altC (t:=t) (by omega) 33 (Nat.le_refl _) (s:=⟨0,0,0,0⟩) inferInstance hi rfl (by decide) (fun ro1 v hl1 hv=>?_)
  have hia:Inv t (altD t 33 ⟨0,0,0,0⟩).2:=Inv.alt hi
  generalize (altD t 33 ⟨0,0,0,0⟩).1=n at hk hv
  generalize (altD t 33 ⟨0,0,0,0⟩).2=s at hk hia ⊢
  obtain ⟨a1,c1,hvc⟩:=hv.cells
  subst hvc
  repeat first|exact zE|refine zP ?_|refine zB fun b=>?_|refine zC fun a' c' hc1 hc2=>?_|(apply GJ.a;exact rfl;intro hg)|(apply GJ.o;exact rfl;intro hg)
  refine rok_ok (t:=t) (s:=s) ?_
  have hbad:∀ s2:RS,s2.e≠0→endS t s=s2→K (.tuple #[.agg (nodeV 0 zeroS none 0 0 0 0).toArray,.agg #[.int .i64 (s2.e:Int),.int .i64 (s2.f:Int)]]) ro1 own:=fun s2 h2 h3=>by
   rw [h3,if_neg h2] at hk
   exact hk ro1 _ hl1 (RgOk.leaf zeroS_in)
  by_cases he:s.e=0
  ·rw [decide_eq_true (show (s.e:Int)=0 by omega)]
   have hp:=hia.p0 he
   by_cases hlt:s.p<t.length
   ·have hE:endS t s=s.wrong 5 s.p:=by unfold endS;rw [if_pos ⟨he,hlt⟩]
    have hb2:=hbad _ (wrong_ne (by decide)) hE
    have hne:=wrong_ne (s:=s) (e:=5) (f:=s.p) (by decide)
    repeat first|exact zE|refine zP ?_|refine zB fun b=>?_|refine zC fun a' c' hc1 hc2=>?_|(apply GJ.a;exact rfl;intro hg)|(apply GJ.o;exact rfl;intro hg)
    refine rwrong_ok (t:=t) (s:=s) 5 s.p rfl rfl ?_
    generalize s.wrong 5 s.p=s2 at hb2 hne ⊢
    repeat first|exact zE|refine zP ?_|refine zB fun b=>?_|refine zC fun a' c' hc1 hc2=>?_|(apply GJ.a;exact rfl;intro hg)|(apply GJ.o;exact rfl;intro hg)
    refine rok_ok (t:=t) (s:=s2) ?_
    rw [decide_eq_false (show ¬(s2.e:Int)=0 by omega)]
    repeat first|exact zE|refine zP ?_|refine zB fun b=>?_|refine zC fun a' c' hc1 hc2=>?_|(apply GJ.a;exact rfl;intro hg)|(apply GJ.o;exact rfl;intro hg)
    exact Wk.outS Sup.z (.refl _) hb2
   ·have hE:endS t s=s:=by unfold endS;rw [if_neg (fun x=>hlt x.2)]
    rw [hE,if_pos he] at hk
    repeat first|exact zE|refine zP ?_|refine zB fun b=>?_|refine zC fun a' c' hc1 hc2=>?_|(apply GJ.a;exact rfl;intro hg)|(apply GJ.o;exact rfl;intro hg)
    refine rok_ok (t:=t) (s:=s) ?_
    rw [decide_eq_true (show (s.e:Int)=0 by omega)]
    repeat first|exact zE|refine zP ?_|refine zB fun b=>?_|refine zC fun a' c' hc1 hc2=>?_|(apply GJ.a;exact rfl;intro hg)|(apply GJ.o;exact rfl;intro hg)
    exact Wk.outS Sup.z (.refl _) (hk ro1 _ hl1 hv)
  ·have hE:endS t s=s:=end_keep he
   have hb2:=hbad _ he hE
   rw [decide_eq_false (show ¬(s.e:Int)=0 by omega)]
   repeat first|exact zE|refine zP ?_|refine zB fun b=>?_|refine zC fun a' c' hc1 hc2=>?_|(apply GJ.a;exact rfl;intro hg)|(apply GJ.o;exact rfl;intro hg)
   refine rok_ok (t:=t) (s:=s) ?_
   rw [decide_eq_false (show ¬(s.e:Int)=0 by omega)]
   repeat first|exact zE|refine zP ?_|refine zB fun b=>?_|refine zC fun a' c' hc1 hc2=>?_|(apply GJ.a;exact rfl;intro hg)|(apply GJ.o;exact rfl;intro hg)
   exact Wk.outS Sup.z (.refl _) hb2
end
def autT (t:List UInt8):DfaA:=leastA (makeA (makeN (parseD t).1).2).2
def t1:List UInt8:=[97,43,98]
def t2:List UInt8:=[97,42,98,124,99]
def t3:List UInt8:=[99]
def t4:List UInt8:=[97,124,97,98]
def t5:List UInt8:=[97]
def t6:List UInt8:=[97,123,50,44,53,125]
def clsK (l:List Nat):List Nat:=(List.range 256).map fun c=>((l.idxOf? c).map (·+1)).getD 0
def c1:DfaA:=⟨clsK [97,98],[[-1,1,-1],[-1,1,2],[-1,-1,-1]],[false,false,true]⟩
def c2:DfaA:=⟨clsK [97,98,99],[[-1,1,2,2],[-1,1,2,-1],[-1,-1,-1,-1]],[false,false,true]⟩
def c3:DfaA:=⟨clsK [99],[[-1,1],[-1,-1]],[false,true]⟩
def c4:DfaA:=⟨clsK [97,98],[[-1,1,-1],[-1,-1,2],[-1,-1,-1]],[false,true,true]⟩
def c5:DfaA:=⟨clsK [97],[[-1,1],[-1,-1]],[false,true]⟩
def c6:DfaA:=⟨clsK [97],[[-1,1],[-1,2],[-1,3],[-1,4],[-1,5],[-1,-1]],[false,false,true,true,true,true]⟩
theorem aut_1:autT t1=c1:=by kernel_rfl
theorem aut_2:autT t2=c2:=by kernel_rfl
theorem aut_3:autT t3=c3:=by kernel_rfl
theorem aut_4:autT t4=c4:=by kernel_rfl
theorem aut_5:autT t5=c5:=by kernel_rfl
theorem aut_6:autT t6=c6:=by kernel_rfl
theorem au_1:shortA c1=some [97,98]:=by kernel_rfl
theorem au_2:(prodA c1 c2 3).map (fun P=>shortA (leastA P))=some none:=by kernel_rfl
theorem au_3:(prodA c2 c1 3).map (fun P=>shortA (leastA P))=some (some [98]):=by kernel_rfl
theorem au_4:(prodA c1 c3 1).map (fun P=>shortA (leastA P))=some none:=by kernel_rfl
theorem au_5:prefA c1=true:=by kernel_rfl
theorem au_6:prefA c4=false:=by kernel_rfl
theorem au_7:endsA c1 0=false:=by kernel_rfl
theorem au_8:shortA c5=some [97]:=by kernel_rfl
theorem au_9:longF c6=5:=by kernel_rfl
theorem au_10:longF c1=-1:=by kernel_rfl
end Go.Proofs.YtficlekgjbnniaaGreatDoor
end
