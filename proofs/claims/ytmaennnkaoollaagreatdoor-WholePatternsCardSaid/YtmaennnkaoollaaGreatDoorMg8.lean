/- Texts of a walk, one behind the other. -/
import Derived.OrdersIn
import Derived.RangeFuncNested
import Derived.RangeFuncBound
import Derived.RangeFuncCalls
import Derived.RangeFuncLeaves
import Derived.Shelf.Strings.Search3
import Derived.Ground.NamesProg
import Derived.Lib.LaidTab
import Derived.Stop.LaidErr
import Derived.Test.YtmaennnkaoollaaGreatDoorMg2
import Derived.Test.YtmaennnkaoollaaGreatDoorMg3
import Derived.Test.YtmaennnkaoollaaGreatDoorMg4
import Derived.Test.YtmaennnkaoollaaGreatDoorMg6
import Derived.Test.YtmaennnkaoollaaGreatDoorMg7
set_option linter.unusedVariables false
set_option linter.unusedSimpArgs false
set_option linter.unusedSectionVars false
set_option maxRecDepth 10000
section
namespace Go.Proofs.YtmaennnkaoollaaGreatDoor
open Go Go.E
theorem cat_none {t:List UInt8}{alt:RS→RgD × RS}{k:Nat}{l:List RgD}{s:RS} (h:zAe t s=0∨zAe t s=124∨zAe t s=41):catL t alt k l s=(l,s):=by
 cases k with
 | zero=>rfl
 | succ k=>rw [catL,if_neg (fun x=>by omega)]
theorem RgOk.many {ro:Ro}{k:Int}{l:List RgD}{cs:List Value}{a:Option Addr}{c:Nat} (hl:RgsOk ro l cs) (hr:Rs ro a l.length c 8 cs):RgOk ro (.mk k zeroS l 0 0) (zA7 k zeroS a l.length c 0 0):=by
 rw [RgOk];exact ⟨a,c,cs,rfl,zeroS_in,hr,hl⟩
theorem RgsOk.single {ro:Ro}{n:RgD}{cs:List Value} (h:RgsOk ro [n] cs):RgOk ro n cs:=by
 rw [RgsOk] at h
 obtain ⟨v,r,rfl,h1,h2⟩:=h
 rw [RgsOk] at h2;subst h2
 rw [List.append_nil];exact h1
theorem zLj {t:List UInt8}{d:Nat}{s:RS} (h:(zBr t (altD t d) s).2.e=0):s.p+1≤(zBr t (altD t d) s).2.p:=by
 obtain ⟨l,⟨r1,_⟩,hp⟩:=zF5 (t:=t) (alt:=altD t d) ⟨fun h=>zGe h,fun h=>zE7 h⟩ h
 obtain ⟨x,m,hx,_⟩:=hp.head
 rw [r1,hx];show s.p+1≤s.p+(m.length+1);omega
section
variable {ro:Ro}{own r:Chs}{K:Value→Ro→Chs→Prop}{g:Chunk→Chs}{q:Nat}{t:List UInt8}
set_option maxHeartbeats 8000000 in
theorem cat_ok {s:RS} [hb:HasBlk own q 68 (rsV t s) g] {d:Nat}{x:Int} (ha:AltC t d) (hx:x=32-(d:Int)) (hd:d≤32) (hi:Inv t s) (h0:s.e=0) (hn:s.n≤512) (hl:t.length≤10000)
  (hk:∀ ro' v,Le ro ro'→RgOk ro' (catD t (altD t d) s).1 v→K (.agg v.toArray) ro' (g (.blk q 68 (rsV t (catD t (altD t d) s).2)))) :
  CallOk Tryz.prog 52 #[ptr' q,.int .i64 x] ro own K:=by
 obtain ⟨r,p1,p2⟩:=hb.split
 refine CallOk.perm p1 ?_
 have hp:=hi.p0 h0
 unfold catD at hk
 obtain ⟨R,hR⟩:∃ R,R=catL t (altD t d) (t.length+1) [] s:=⟨_,rfl⟩
 rw [←hR] at hk
 refine CallOk.intro (args:=[_,_]) (rs:=[_]) T_ok Tryz.func52 Tryz.call52 rfl rfl (by kernel_rfl) rfl rfl ?_
 repeat first|exact zE|refine zP ?_|refine zB fun b=>?_|refine zC fun a' c' hc1 hc2=>?_|(apply GJ.a;exact rfl;intro hg)|(apply GJ.o;exact rfl;intro hg)
 obtain ⟨b4,hb4⟩:∃ z:Nat,z=b:=⟨_,rfl⟩
 subst hb4
 refine zCc (t:=t) (s:=s) ?_
 repeat first|exact zE|refine zP ?_|refine zB fun b=>?_|refine zC fun a' c' hc1 hc2=>?_|(apply GJ.a;exact rfl;intro hg)|(apply GJ.o;exact rfl;intro hg)
 refine LoopOk.auto (ι:=Nat × List RgD × List Value × RS × Option Addr × Nat) Keep.z (fun (k,l,cs,s1,ad,cp)=>[(5,.slice ad l.length cp),(6,.int .u8 (zAe t s1:Int))]) (fun (k,l,cs,s1,ad,cp)=>.sl ad l.length cp 26 8 cs::.blk b4 26 (zA7 0 zeroS none 0 0 0 0)::.blk q 68 (rsV t s1)::r) (fun (k,l,cs,s1,ad,cp) ro2=>RgsOk ro2 l cs∧catL t (altD t d) k l s1=R∧(s1.e=0→t.length+1≤k+s1.p∧l.length≤s1.p)∧l.length≤t.length+1∧Inv t s1∧NB (513+2*d) s1∧l.length≤cp∧cp≤maxLen) (fun (k,l,cs,s1,ad,cp)=>k) (t.length+1,[],[],s,none,0) ?_ Sub.z Sup.z ?_
 ·exact ⟨by rw [RgsOk],hR.symm,fun _=>⟨by omega,Nat.zero_le _⟩,Nat.zero_le _,hi,⟨fun _=>hn,by omega⟩,Nat.zero_le _,Nat.zero_le _⟩
 rintro ⟨k,l,cs,s1,ad,cp⟩ ro2 hl2 ⟨i1,i2,i3,i4,i5,i6,i7,i8⟩
 dsimp only [List.cons_append,List.nil_append] at i1 i2 i3 i4 i5 i6 i7 i8 ⊢
 have hp1:=i5.p
 have hn1:=i6.n
 have hL:cs.length=l.length*8:=i1.len
 have hlt:=zDN t s1
 by_cases hgo:zAe t s1=0∨zAe t s1=124∨zAe t s1=41
 ·rw [cat_none hgo] at i2
  rw [←i2] at hk
  have hgo:((zAe t s1:Int)=0∨(zAe t s1:Int)=124∨(zAe t s1:Int)=41):=by omega
  generalize (zAe t s1:Int)=c at hgo ⊢
  have hgc:¬(c≠0∧c≠124∧c≠41):=by omega
  repeat first|exact zE|refine zP ?_|refine zB fun b=>?_|refine zC fun a' c' hc1 hc2=>?_|(apply GJ.a;exact rfl;intro hg)|(apply GJ.o;exact rfl;intro hg)
  rcases l with _|⟨x1,_|⟨y1,l1⟩⟩
  ·refine Br.t rfl ?_
   repeat first|exact zE|refine zP ?_|refine zB fun b=>?_|refine zC fun a' c' hc1 hc2=>?_|(apply GJ.a;exact rfl;intro hg)|(apply GJ.o;exact rfl;intro hg)
   refine zCw (t:=t) (s:=s1) (k:=1) (z:=zeroS) (a:=none) (m:=0) (c:=0) (x:=0) (y:=0) (by omega) ?_
   repeat first|exact zE|refine zP ?_|refine zB fun b=>?_|refine zC fun a' c' hc1 hc2=>?_|(apply GJ.a;exact rfl;intro hg)|(apply GJ.o;exact rfl;intro hg)
   exact Wk.outS Sup.z (p2 _) (hk ro2 _ hl2 (RgOk.leaf zeroS_in))
  ·rw [show ([x1]:List RgD).length=1 from rfl] at i4 i7 hL ⊢
   have hv:=i1.single
   obtain ⟨a1,c1,hvc⟩:=hv.cells
   subst hvc
   refine Br.f (by simp) ?_
   repeat first|exact zE|refine zP ?_|refine zB fun b=>?_|refine zC fun a' c' hc1 hc2=>?_|(apply GJ.a;exact rfl;intro hg)|(apply GJ.o;exact rfl;intro hg)
   refine OpOk.loadRow rfl rfl (LdN.slRow (k:=0) (z:=8) (cs:=zA7 x1.kind x1.set a1 x1.kids.length c1 x1.min x1.max) (vs:=zA7 x1.kind x1.set a1 x1.kids.length c1 x1.min x1.max) rfl) rfl ?_
   repeat first|exact zE|refine zP ?_|refine zB fun b=>?_|refine zC fun a' c' hc1 hc2=>?_|(apply GJ.a;exact rfl;intro hg)|(apply GJ.o;exact rfl;intro hg)
   exact Wk.outS Sup.z (p2 _) (hk ro2 _ hl2 hv)
  ·have hlen:2≤(x1::y1::l1).length:=by simp
   have hcat:zJz (x1::y1::l1,s1)=(zIC (x1::y1::l1),zA3 s1):=rfl
   rw [hcat] at hk
   generalize x1::y1::l1=l at hk i1 i2 i3 i4 i7 hL hlen ⊢
   repeat first|exact zE|refine zP ?_|refine zB fun b=>?_|refine zC fun a' c' hc1 hc2=>?_|(apply GJ.a;exact rfl;intro hg)|(apply GJ.o;exact rfl;intro hg)
   refine CallOk.freeze (c:=.sl ad _ _ _ _ _) Take.auto (fun ro3 hl3 hc3=>?_)
   have hw:=RgOk.many (k:=3) (i1.le hl3) (Rs.last hc3)
   refine zCw (t:=t) (s:=s1) (k:=3) (z:=zeroS) (a:=ad) (m:=l.length) (c:=cp) (x:=0) (y:=0) (by omega) ?_
   repeat first|exact zE|refine zP ?_|refine zB fun b=>?_|refine zC fun a' c' hc1 hc2=>?_|(apply GJ.a;exact rfl;intro hg)|(apply GJ.o;exact rfl;intro hg)
   exact Wk.outS Sup.z (p2 _) (hk ro3 _ (hl2.trans hl3) hw)
 ·have hpp:=zAF (t:=t) (s:=s1) (by omega)
  obtain ⟨h3,h4⟩:=i3 hpp.1
  obtain ⟨k,rfl⟩:∃ j,k=j+1:=⟨k-1,by omega⟩
  rw [catL,if_pos (by omega)] at i2
  have hgo:¬(zAe t s1:Int)=0∧¬(zAe t s1:Int)=124∧¬(zAe t s1:Int)=41:=by omega
  have hin:Inv t (zBr t (altD t d) s1).2:=i5.piece (fun h _=>Inv.alt h) hpp.1
  have hnn:NB (513+2*d) (zBr t (altD t d) s1).2:=NB.piece (by omega) (fun h0 hn=>NB.alt h0 hn) hpp.1 (i6.n0 hpp.1)
  have hmore:=zLj (t:=t) (d:=d) (s:=s1)
  generalize (zAe t s1:Int)=c at hgo ⊢
  obtain ⟨g1,g2,g3⟩:=hgo
  repeat first|exact zE|refine zP ?_|refine zB fun b=>?_|refine zC fun a' c' hc1 hc2=>?_|(apply GJ.a;exact rfl;intro hg)|(apply GJ.o;exact rfl;intro hg)
  refine zMp (t:=t) (s:=s1) ha hx hd i5 hpp.1 (i6.n0 hpp.1) hl (fun ro3 v hl3 hv=>?_)
  generalize (zBr t (altD t d) s1).1=n at i2 hv
  generalize (zBr t (altD t d) s1).2=s2 at i2 hin hnn hmore ⊢
  obtain ⟨a1,c1,hvc⟩:=hv.cells
  subst hvc
  repeat first|exact zE|refine zP ?_|refine zB fun b=>?_|refine zC fun a' c' hc1 hc2=>?_|(apply GJ.a;exact rfl;intro hg)|(apply GJ.o;exact rfl;intro hg)
  rw [show l.length+1=(l++[n]).length by simp] at hc1 ⊢
  repeat first|exact zE|refine zP ?_|refine zB fun b=>?_|refine zC fun a' c' hc1 hc2=>?_|(apply GJ.a;exact rfl;intro hg)|(apply GJ.o;exact rfl;intro hg)
  refine zCc (t:=t) (s:=s2) ?_
  repeat first|exact zE|refine zP ?_|refine zB fun b=>?_|refine zC fun a' c' hc1 hc2=>?_|(apply GJ.a;exact rfl;intro hg)|(apply GJ.o;exact rfl;intro hg)
  refine Wk.id ⟨(k,l++[n],cs++zA7 n.kind n.set a1 n.kids.length c1 n.min n.max,s2,a',c'),?_,?_,Sub.z,Sup.z⟩
  all_goals try dsimp only
  ·refine ⟨RgsOk.snoc hv (i1.le hl3),i2,fun he=>?_,by simp;omega,hin,hnn,hc1,hc2⟩
   have:=hmore he
   simp;omega
  ·omega
end
theorem alt_none {t:List UInt8}{alt:RS→RgD × RS}{k:Nat}{l:List RgD}{s:RS} (h:¬zAe t s=124):altL t alt k l s=(l,s):=by
 cases k with
 | zero=>rfl
 | succ k=>rw [altL,if_neg h]
theorem zKF {t:List UInt8}{d:Nat}{s:RS} (h:(catD t (altD t d) s).2.e=0):s.p≤(catD t (altD t d) s).2.p:=by
 obtain ⟨l,⟨r1,_⟩,_⟩:=zGb (t:=t) (alt:=altD t d) ⟨fun h=>zGe h,fun h=>zE7 h⟩ h
 rw [r1];show s.p≤s.p+l.length;omega
set_option maxHeartbeats 8000000 in
theorem altC {t:List UInt8} (hl:t.length≤10000):∀ d:Nat,d≤33→AltC t d:=by
 intro d
 induction d with
 | zero =>
   intro _
   unfold AltC
   intro ro own g q s K hb hi h0 hn hk
   obtain ⟨r,p1,p2⟩:=hb.split
   refine CallOk.perm p1 ?_
   refine CallOk.intro (args:=[_,_]) (rs:=[_]) T_ok Tryz.func22 Tryz.call22 rfl rfl (by kernel_rfl) rfl rfl ?_
   repeat first|exact zE|refine zP ?_|refine zB fun b=>?_|refine zC fun a' c' hc1 hc2=>?_|(apply GJ.a;exact rfl;intro hg)|(apply GJ.o;exact rfl;intro hg)
   refine zAv (t:=t) (s:=s) 6 s.p rfl rfl ?_
   repeat first|exact zE|refine zP ?_|refine zB fun b=>?_|refine zC fun a' c' hc1 hc2=>?_|(apply GJ.a;exact rfl;intro hg)|(apply GJ.o;exact rfl;intro hg)
   exact Wk.outS Sup.z (p2 _) (hk ro _ (.refl _) (RgOk.leaf zeroS_in))
 | succ d ih =>
   intro hd
   have ha:AltC t d:=ih (by omega)
   unfold AltC
   intro ro own g q s K hb hi h0 hn hk
   obtain ⟨r,p1,p2⟩:=hb.split
   refine CallOk.perm p1 ?_
   have hp:=hi.p0 h0
   rw [altD] at hk
   obtain ⟨R,hR⟩:∃ R,R=altL t (altD t d) (t.length+1) [(catD t (altD t d) s).1] (catD t (altD t d) s).2:=⟨_,rfl⟩
   rw [←hR] at hk
   have hic:Inv t (catD t (altD t d) s).2:=hi.cat (fun h _=>Inv.alt h)
   have hnc:NB (513+2*d+1) (catD t (altD t d) s).2:=NB.cat (t:=t) (by omega) (fun h0 hn=>NB.alt h0 hn) ⟨fun _=>hn,by omega⟩
   have hmc:=zKF (t:=t) (d:=d) (s:=s)
   have hx:33-((d+1:Nat):Int)=32-(d:Int):=by omega
   rw [hx]
   generalize hX:32-(d:Int)=X
   have hX:X=32-(d:Int):=hX.symm
   refine CallOk.intro (args:=[_,_]) (rs:=[_]) T_ok Tryz.func22 Tryz.call22 rfl rfl (by kernel_rfl) rfl rfl ?_
   repeat first|exact zE|refine zP ?_|refine zB fun b=>?_|refine zC fun a' c' hc1 hc2=>?_|(apply GJ.a;exact rfl;intro hg)|(apply GJ.o;exact rfl;intro hg)
   obtain ⟨b4,hb4⟩:∃ z:Nat,z=b:=⟨_,rfl⟩
   subst hb4
   refine cat_ok (t:=t) (s:=s) ha hX (by omega) hi h0 hn hl (fun ro1 v hl1 hv=>?_)
   generalize (catD t (altD t d) s).1=n0 at hR hv
   generalize (catD t (altD t d) s).2=s0 at hR hic hnc hmc ⊢
   obtain ⟨a1,c1,hvc⟩:=hv.cells
   subst hvc
   repeat first|exact zE|refine zP ?_|refine zB fun b=>?_|refine zC fun a' c' hc1 hc2=>?_|(apply GJ.a;exact rfl;intro hg)|(apply GJ.o;exact rfl;intro hg)
   refine LoopOk.auto (ι:=Nat × List RgD × List Value × RS × Option Addr × Nat) Keep.z (fun (k,l,cs,s1,ad,cp)=>[(5,.slice ad l.length cp)]) (fun (k,l,cs,s1,ad,cp)=>.sl ad l.length cp 26 8 cs::.blk b4 26 (zA7 0 zeroS none 0 0 0 0)::.blk q 68 (rsV t s1)::r) (fun (k,l,cs,s1,ad,cp) ro2=>RgsOk ro2 l cs∧altL t (altD t d) k l s1=R∧(s1.e=0→t.length+1≤k+s1.p∧l.length≤s1.p+1)∧(1≤l.length∧l.length≤t.length+2)∧Inv t s1∧NB (513+2*d+1) s1∧l.length≤cp∧cp≤maxLen) (fun (k,l,cs,s1,ad,cp)=>k) (t.length+1,[n0],zA7 n0.kind n0.set a1 n0.kids.length c1 n0.min n0.max,s0,some ⟨b,0,none⟩,1) ?_ Sub.z Sup.z ?_
   ·refine ⟨?_,hR.symm,fun h=>⟨by have:=hmc h;omega,by simp⟩,by simp,hic,hnc,by simp,by decide⟩
    rw [RgsOk];exact ⟨_,[],by simp,hv,by rw [RgsOk]⟩
   rintro ⟨k,l,cs,s1,ad,cp⟩ ro2 hl2 ⟨i1,i2,i3,i4,i5,i6,i7,i8⟩
   dsimp only [List.cons_append,List.nil_append] at i1 i2 i3 i4 i5 i6 i7 i8 ⊢
   have hp1:=i5.p
   have hn1:=i6.n
   have hL:cs.length=l.length*8:=i1.len
   repeat first|exact zE|refine zP ?_|refine zB fun b=>?_|refine zC fun a' c' hc1 hc2=>?_|(apply GJ.a;exact rfl;intro hg)|(apply GJ.o;exact rfl;intro hg)
   refine zDk (t:=t) (s:=s1) 124 rfl (by decide) (by omega) ?_
   by_cases h124:¬zAe t s1=124
   ·rw [alt_none h124] at i2
    rw [←i2] at hk
    rw [decide_eq_false h124,eatS,if_neg h124]
    repeat first|exact zE|refine zP ?_|refine zB fun b=>?_|refine zC fun a' c' hc1 hc2=>?_|(apply GJ.a;exact rfl;intro hg)|(apply GJ.o;exact rfl;intro hg)
    rcases l with _|⟨x1,_|⟨y1,l1⟩⟩
    ·exact absurd i4.1 (by decide)
    ·rw [show ([x1]:List RgD).length=1 from rfl] at i4 i7 hL ⊢
     have hv:=i1.single
     obtain ⟨a1,c1,hvc⟩:=hv.cells
     subst hvc
     repeat first|exact zE|refine zP ?_|refine zB fun b=>?_|refine zC fun a' c' hc1 hc2=>?_|(apply GJ.a;exact rfl;intro hg)|(apply GJ.o;exact rfl;intro hg)
     refine OpOk.loadRow rfl rfl (LdN.slRow (k:=0) (z:=8) (cs:=zA7 x1.kind x1.set a1 x1.kids.length c1 x1.min x1.max) (vs:=zA7 x1.kind x1.set a1 x1.kids.length c1 x1.min x1.max) rfl) rfl ?_
     repeat first|exact zE|refine zP ?_|refine zB fun b=>?_|refine zC fun a' c' hc1 hc2=>?_|(apply GJ.a;exact rfl;intro hg)|(apply GJ.o;exact rfl;intro hg)
     exact Wk.outS Sup.z (p2 _) (hk ro2 _ (hl1.trans hl2) hv)
    ·have hlen:2≤(x1::y1::l1).length:=by simp
     have hcat:zJ6 (x1::y1::l1,s1)=(zIH (x1::y1::l1),zA3 s1):=rfl
     rw [hcat] at hk
     generalize x1::y1::l1=l at hk i1 i2 i3 i4 i7 hL hlen ⊢
     refine Br.f (by omega) ?_
     repeat first|exact zE|refine zP ?_|refine zB fun b=>?_|refine zC fun a' c' hc1 hc2=>?_|(apply GJ.a;exact rfl;intro hg)|(apply GJ.o;exact rfl;intro hg)
     refine CallOk.freeze (c:=.sl ad _ _ _ _ _) Take.auto (fun ro3 hl3 hc3=>?_)
     have hw:=RgOk.many (k:=4) (i1.le hl3) (Rs.last hc3)
     refine zCw (t:=t) (s:=s1) (k:=4) (z:=zeroS) (a:=ad) (m:=l.length) (c:=cp) (x:=0) (y:=0) (by omega) ?_
     repeat first|exact zE|refine zP ?_|refine zB fun b=>?_|refine zC fun a' c' hc1 hc2=>?_|(apply GJ.a;exact rfl;intro hg)|(apply GJ.o;exact rfl;intro hg)
     exact Wk.outS Sup.z (p2 _) (hk ro3 _ ((hl1.trans hl2).trans hl3) hw)
   ·have h124:=Decidable.of_not_not h124
    have hpp:=zAF (t:=t) (s:=s1) (by omega)
    obtain ⟨h3,h4⟩:=i3 hpp.1
    obtain ⟨k,rfl⟩:∃ j,k=j+1:=⟨k-1,by omega⟩
    rw [altL,if_pos h124] at i2
    rw [decide_eq_true h124,eatS,if_pos h124]
    have hia:Inv t s1.adv:=i5.adv (by omega)
    have hin:Inv t (catD t (altD t d) s1.adv).2:=hia.cat (fun h _=>Inv.alt h)
    have hnn:NB (513+2*d+1) (catD t (altD t d) s1.adv).2:=NB.cat (t:=t) (s:=s1.adv) (by omega) (fun h0 hn=>NB.alt h0 hn) ⟨fun _=>i6.n0 hpp.1,by have:=i6.n0 hpp.1;show s1.n≤_;omega⟩
    have hmore:=zKF (t:=t) (d:=d) (s:=s1.adv)
    have hap:s1.adv.p=s1.p+1:=rfl
    repeat first|exact zE|refine zP ?_|refine zB fun b=>?_|refine zC fun a' c' hc1 hc2=>?_|(apply GJ.a;exact rfl;intro hg)|(apply GJ.o;exact rfl;intro hg)
    refine cat_ok (t:=t) (s:=s1.adv) ha hX (by omega) hia hpp.1 (i6.n0 hpp.1) hl (fun ro3 v hl3 hv=>?_)
    generalize (catD t (altD t d) s1.adv).1=n at i2 hv
    generalize (catD t (altD t d) s1.adv).2=s2 at i2 hin hnn hmore ⊢
    obtain ⟨a1,c1,hvc⟩:=hv.cells
    subst hvc
    repeat first|exact zE|refine zP ?_|refine zB fun b=>?_|refine zC fun a' c' hc1 hc2=>?_|(apply GJ.a;exact rfl;intro hg)|(apply GJ.o;exact rfl;intro hg)
    rw [show l.length+1=(l++[n]).length by simp] at hc1 ⊢
    repeat first|exact zE|refine zP ?_|refine zB fun b=>?_|refine zC fun a' c' hc1 hc2=>?_|(apply GJ.a;exact rfl;intro hg)|(apply GJ.o;exact rfl;intro hg)
    refine Wk.id ⟨(k,l++[n],cs++zA7 n.kind n.set a1 n.kids.length c1 n.min n.max,s2,a',c'),?_,?_,Sub.z,Sup.z⟩
    all_goals try dsimp only
    ·refine ⟨RgsOk.snoc hv (i1.le hl3),i2,fun he=>?_,by simp;omega,hin,hnn,hc1,hc2⟩
     have:=hmore he
     simp;omega
    ·omega
def zNy (p:Nat × Nat):List Value:=[.int .i64 (p.1:Int),.int .i64 (p.2:Int)]
section
variable {ro:Ro}{own r:Chs}{K:Value→Ro→Chs→Prop}{g:Chunk→Chs}{q:Nat}{t:List UInt8}
set_option maxHeartbeats 8000000 in
theorem zMh (hl:t.length≤1000000) (hk:∀ ro' v,Le ro ro'→RgOk ro' (zDG t).1 v→K (.tuple #[.agg v.toArray,.agg (zNy (zDG t).2).toArray]) ro' own) :
  CallOk Tryz.prog 8 #[str t] ro own K:=by
 unfold zDG at hk
 by_cases h512:512<t.length
 ·rw [if_pos h512] at hk
  refine CallOk.intro (args:=[_]) (rs:=[_,_]) T_ok Tryz.func8 Tryz.call8 rfl rfl (by kernel_rfl) rfl rfl ?_
  repeat first|exact zE|refine zP ?_|refine zB fun b=>?_|refine zC fun a' c' hc1 hc2=>?_|(apply GJ.a;exact rfl;intro hg)|(apply GJ.o;exact rfl;intro hg)
  exact Wk.outS Sup.z (.refl _) (hk ro _ (.refl _) (RgOk.leaf zeroS_in))
 ·rw [if_neg h512] at hk
  have hi:Inv t ⟨0,0,0,0⟩:=⟨fun _=>Nat.zero_le _,Nat.zero_le _,Nat.zero_le _,.inl rfl⟩
  refine CallOk.intro (args:=[_]) (rs:=[_,_]) T_ok Tryz.func8 Tryz.call8 rfl rfl (by kernel_rfl) rfl rfl ?_
  repeat first|exact zE|refine zP ?_|refine zB fun b=>?_|refine zC fun a' c' hc1 hc2=>?_|(apply GJ.a;exact rfl;intro hg)|(apply GJ.o;exact rfl;intro hg)
  rename_i b2 b3
  obtain ⟨q,hq⟩:∃ z:Nat,z=b:=⟨_,rfl⟩
  subst hq
  have e1:(.blk q 68 (Value.agg #[str t,.int .i64 0,.int .i64 0,.int .i64 0,.int .i64 0]).cells.toList:Chunk)=.blk q 68 (rsV t ⟨0,0,0,0⟩):=rfl
  rw [e1]
  refine altC (t:=t) (by omega) 33 (Nat.le_refl _) (s:=⟨0,0,0,0⟩) inferInstance hi rfl (by decide) (fun ro1 v hl1 hv=>?_)
  have hia:Inv t (altD t 33 ⟨0,0,0,0⟩).2:=Inv.alt hi
  generalize (altD t 33 ⟨0,0,0,0⟩).1=n at hk hv
  generalize (altD t 33 ⟨0,0,0,0⟩).2=s at hk hia ⊢
  obtain ⟨a1,c1,hvc⟩:=hv.cells
  subst hvc
  repeat first|exact zE|refine zP ?_|refine zB fun b=>?_|refine zC fun a' c' hc1 hc2=>?_|(apply GJ.a;exact rfl;intro hg)|(apply GJ.o;exact rfl;intro hg)
  refine zCC (t:=t) (s:=s) ?_
  have hbad:∀ s2:RS,s2.e≠0→endS t s=s2→K (.tuple #[.agg (zA7 0 zeroS none 0 0 0 0).toArray,.agg #[.int .i64 (s2.e:Int),.int .i64 (s2.f:Int)]]) ro1 own:=fun s2 h2 h3=>by
   rw [h3,if_neg h2] at hk
   exact hk ro1 _ hl1 (RgOk.leaf zeroS_in)
  by_cases he:s.e=0
  ·rw [decide_eq_true (show (s.e:Int)=0 by omega)]
   have hp:=hia.p0 he
   by_cases hlt:s.p<t.length
   ·have hE:endS t s=s.wrong 5 s.p:=by unfold endS;rw [if_pos ⟨he,hlt⟩]
    have hb2:=hbad _ (zD3 (by decide)) hE
    have hne:=zD3 (s:=s) (e:=5) (f:=s.p) (by decide)
    repeat first|exact zE|refine zP ?_|refine zB fun b=>?_|refine zC fun a' c' hc1 hc2=>?_|(apply GJ.a;exact rfl;intro hg)|(apply GJ.o;exact rfl;intro hg)
    refine zAv (t:=t) (s:=s) 5 s.p rfl rfl ?_
    generalize s.wrong 5 s.p=s2 at hb2 hne ⊢
    repeat first|exact zE|refine zP ?_|refine zB fun b=>?_|refine zC fun a' c' hc1 hc2=>?_|(apply GJ.a;exact rfl;intro hg)|(apply GJ.o;exact rfl;intro hg)
    refine zCC (t:=t) (s:=s2) ?_
    rw [decide_eq_false (show ¬(s2.e:Int)=0 by omega)]
    repeat first|exact zE|refine zP ?_|refine zB fun b=>?_|refine zC fun a' c' hc1 hc2=>?_|(apply GJ.a;exact rfl;intro hg)|(apply GJ.o;exact rfl;intro hg)
    exact Wk.outS Sup.z (.refl _) hb2
   ·have hE:endS t s=s:=by unfold endS;rw [if_neg (fun x=>hlt x.2)]
    rw [hE,if_pos he] at hk
    repeat first|exact zE|refine zP ?_|refine zB fun b=>?_|refine zC fun a' c' hc1 hc2=>?_|(apply GJ.a;exact rfl;intro hg)|(apply GJ.o;exact rfl;intro hg)
    refine zCC (t:=t) (s:=s) ?_
    rw [decide_eq_true (show (s.e:Int)=0 by omega)]
    repeat first|exact zE|refine zP ?_|refine zB fun b=>?_|refine zC fun a' c' hc1 hc2=>?_|(apply GJ.a;exact rfl;intro hg)|(apply GJ.o;exact rfl;intro hg)
    exact Wk.outS Sup.z (.refl _) (hk ro1 _ hl1 hv)
  ·have hE:endS t s=s:=zHp he
   have hb2:=hbad _ he hE
   rw [decide_eq_false (show ¬(s.e:Int)=0 by omega)]
   repeat first|exact zE|refine zP ?_|refine zB fun b=>?_|refine zC fun a' c' hc1 hc2=>?_|(apply GJ.a;exact rfl;intro hg)|(apply GJ.o;exact rfl;intro hg)
   refine zCC (t:=t) (s:=s) ?_
   rw [decide_eq_false (show ¬(s.e:Int)=0 by omega)]
   repeat first|exact zE|refine zP ?_|refine zB fun b=>?_|refine zC fun a' c' hc1 hc2=>?_|(apply GJ.a;exact rfl;intro hg)|(apply GJ.o;exact rfl;intro hg)
   exact Wk.outS Sup.z (.refl _) hb2
end
theorem zIR {a:NfaD} (hs:∀ s∈zB4 a.rows,SetIn s) {p:SetD}{c:Nat} (hp:p∈zCv a) (hc:c<256) (h:p.has c=true) (list:List Int):zBJ a.rows list c=zBJ a.rows list (zCg p):=by
 have hcut:=zCO (hs)
 obtain ⟨d,hd,hf⟩:=zFp (hcut.each p hp).1 (hcut.each p hp).2
 have h2:=zCY hf
 rw [zI1 hf]
 exact zLO (fun s hsm=>sig_at ((hcut.like p hp c d hc hd h).1 h2.2.1) hsm) list
theorem zHI {a:NfaD}{d:DfaA}{sets:List (List Nat)} (hs:∀ s∈zB4 a.rows,SetIn s) (h:Subs a d sets):∀ (n:Nat) (b:List UInt8),b.length=n →
  (runN a b=[]∧runA d b=-1)∨∃ i:Nat,sets[i]?=some (runN a b)∧runA d b=(i:Int)
 | 0,b,hb=>by
   have:b=[]:=List.eq_nil_of_length_eq_zero hb
   subst this
   exact .inr ⟨0,h.ok.start,rfl⟩
 | n+1,b,hb=>by
   obtain ⟨w,c,rfl⟩:∃ w c,b=w++[c]:=⟨b.dropLast,b.getLast (by intro e;subst e;cases hb),(List.dropLast_concat_getLast _).symm⟩
   have hr:runA d (w++[c])=zAb d (runA d w) c.toNat:=by unfold runA;rw [List.foldl_append];rfl
   rw [zJR,hr]
   have hcut:Cuts (zCv a) (zB4 a.rows):=zCO (hs)
   rcases zHI hs h n w (by simpa using hb) with ⟨h1,h2⟩|⟨i,h1,h2⟩
   ·rw [h1,h2]
    refine .inl ⟨?_,by unfold zAb;rw [if_pos (.inl (by omega))]⟩
    unfold zBJ zAp
    have:∀ j,¬j∈zBQ a.rows []:=fun j hj=>by
     unfold zBQ at hj
     have h3:∀ k m,(∀ i,getB m i=false)→∀ i,getB (zFY a.rows k m) i=false:=by
      intro k
      induction k with
      | zero=>exact fun m h=>h
      | succ k ih =>
        intro m hm
        refine ih _ fun i=>?_
        unfold zEh
        rw [zD9]
        simp [hm]
     have h4:=(List.mem_filter.1 hj).2
     rw [h3 _ _ (fun i=>by unfold zFP;rw [zD9];simp) j] at h4
     cases h4
    simp only [List.map_nil,List.flatMap_nil]
    exact List.eq_nil_iff_forall_not_mem.2 this
   ·rw [h2]
    have hi:=(List.getElem?_eq_some_iff.1 h1).1
    have hni:i<d.next.length:=by rw [h.len];exact hi
    obtain ⟨k,p,k1,k2,k3⟩:=zNI hcut (c:=c.toNat) c.toNat_lt
    have hsf:=zIR hs (List.mem_of_getElem? k2) c.toNat_lt k3 (zAp (runN a w))
    obtain ⟨q1,q2⟩:=h.ok.row i d.next[i] (runN a w) (List.getElem?_eq_getElem hni) h1
    have hst:zAb d (i:Int) c.toNat=(d.next[i][k]?).getD (-1):=by
     unfold zAb
     rw [if_neg (by omega),Int.toNat_natCast,List.getElem?_eq_getElem hni,h.cls,k1];rfl
    rw [hst,hsf]
    rcases q2 k p k2 with ⟨h3,h4⟩|⟨j,h3,h4⟩
    ·exact .inl ⟨h3,by rw [h4];rfl⟩
    ·exact .inr ⟨j,h3,by rw [h4];rfl⟩
theorem zJf {a:NfaD}{d:DfaA}{sets:List (List Nat)} (hs:∀ s∈zB4 a.rows,SetIn s) (h:Subs a d sets) (b:List UInt8):zBe d b=zG7 a b:=by
 unfold zBe zG7
 rcases zHI hs h b.length b rfl with ⟨h1,h2⟩|⟨i,h1,h2⟩
 ·rw [h1,h2]
  unfold zAD zHo zAp;simp
 ·rw [h2]
  have hi:=(List.getElem?_eq_some_iff.1 h1).1
  have hni:i<d.next.length:=by rw [h.len];exact hi
  have hac:=h.ok.acc i _ hni h1
  unfold zAD
  rw [decide_eq_true (by omega),decide_eq_true (by rw [h.ok.alen];omega),Int.toNat_natCast,hac];rfl
theorem zHf {a:NfaD} (ha:ToIn a.rows) (hs:∀ s∈zB4 a.rows,SetIn s) (h:(zAP a).1=0):MadeA (zAP a).2∧∀ b,zBe (zAP a).2 b=zG7 a b:=by
 obtain ⟨sets,hsu,hne⟩:=zLp ha h
 have hm:=zJf hs hsu
 generalize (zAP a).2=d at *
 have hcut:Cuts (zCv a) (zB4 a.rows):=zCO (hs)
 have h1:=(List.getElem?_eq_some_iff.1 hsu.ok.start).1
 have hsn:∀ s,s<d.next.length→∃ cur,sets[s]?=some cur:=fun s hs=>⟨_,List.getElem?_eq_getElem (by have:=hsu.len;omega)⟩
 have hok:zAt (zCv a).length d:=by
  refine ⟨by rw [hsu.cls,zJy],fun k hk=>?_,hsu.ok.alen,fun r hr=>?_,fun r hr z hz=>?_⟩
  ·rw [hsu.cls] at hk
   obtain ⟨c,hc,e⟩:=List.getElem_of_mem hk
   obtain ⟨k2,p,p1,p2,p3⟩:=zNI hcut (c:=c) (by rw [zJy] at hc;exact hc)
   rw [List.getElem?_eq_getElem hc,e] at p1
   rw [Option.some.inj p1]
   exact (List.getElem?_eq_some_iff.1 p2).1
  ·obtain ⟨s,hs1,e⟩:=List.getElem_of_mem hr
   obtain ⟨cur,hcur⟩:=hsn s hs1
   exact (hsu.ok.row s r cur (by rw [List.getElem?_eq_getElem hs1,e]) hcur).1
  ·obtain ⟨s,hs1,e⟩:=List.getElem_of_mem hr
   obtain ⟨cur,hcur⟩:=hsn s hs1
   obtain ⟨q1,q2⟩:=hsu.ok.row s r cur (by rw [List.getElem?_eq_getElem hs1,e]) hcur
   obtain ⟨k,hk,e2⟩:=List.getElem_of_mem hz
   have hkp:k<(zCv a).length:=by omega
   rcases q2 k _ (List.getElem?_eq_getElem hkp) with ⟨_,q⟩|⟨i,q3,q4⟩
   ·rw [List.getElem?_eq_getElem hk,e2] at q
    exact .inl (Option.some.inj q)
   ·rw [List.getElem?_eq_getElem hk,e2] at q4
    have:=(List.getElem?_eq_some_iff.1 q3).1
    have:=Option.some.inj q4
    have:=hsu.len
    exact .inr ⟨by omega,by omega⟩
 refine ⟨⟨⟨_,hcut.len,hok,fun k hk=>?_⟩,by rw [hsu.len];exact h1,by rw [hsu.len];exact hsu.ok.le⟩,hm⟩
 have hp:=List.getElem?_eq_getElem hk
 obtain ⟨c,hc,hf⟩:=zFp (hcut.each _ (List.getElem_mem hk)).1 (hcut.each _ (List.getElem_mem hk)).2
 have hpc:=(zCY hf).2.1
 obtain ⟨k2,p,p1,p2,p3⟩:=zNI hcut hc
 refine ⟨c,hc,?_⟩
 rw [hsu.cls,p1]
 rcases Nat.lt_trichotomy k2 k with h|h|h
 ·exact absurd ⟨p3,hpc⟩ ((hcut.at h p2 hp).2 c hc)
 ·rw [h]
 ·exact absurd ⟨hpc,p3⟩ ((hcut.at h hp p2).2 c hc)
theorem dfa_lang {n:RgD} (hw:zAJ n=0) (hs:∀ s∈zB4 (zA8 n).2.rows,SetIn s) (h1:(zA8 n).1=0) (h2:(zAP (zA8 n).2).1=0) :
  MadeA (zAP (zA8 n).2).2∧(∀ b,zBe (zAP (zA8 n).2).2 b=zG7 (zA8 n).2 b)∧(∀ b,zBe (zAP (zA8 n).2).2 b=true↔zCk n b)∧(∀ b,zBe (zAR (zAP (zA8 n).2).2) b=true↔zCk n b):=by
 obtain ⟨m1,m2⟩:=zHf (zJg hw).to hs h2
 have m3:=m1.least.2.1
 refine ⟨m1,m2,fun b=>by rw [m2];exact zG6 hw h1 b,fun b=>by rw [m3,m2];exact zG6 hw h1 b⟩
theorem dfa_ref {n:RgD} (hw:zAJ n=0) (hs:∀ s∈zB4 (zA8 n).2.rows,SetIn s) (h1:(zA8 n).1=0) (h2:(zAP (zA8 n).2).1=0) (b:List UInt8) :
  zBe (zAP (zA8 n).2).2 b=refM n b∧zBe (zAR (zAP (zA8 n).2).2) b=refM n b:=by
 obtain ⟨_,_,l1,l2⟩:=dfa_lang hw hs h1 h2
 exact ⟨Bool.eq_iff_iff.2 ((l1 b).trans (zGW hw b).symm),Bool.eq_iff_iff.2 ((l2 b).trans (zGW hw b).symm)⟩
section
variable {a b P:DfaA}{how:Nat}
theorem zGz (h:zEl a b how=some P):zDl (zAR P)∧∀ t,zBe (zAR P) t=accP how (zBe a t) (zBe b t):=by
 obtain ⟨h1,h2⟩:=zHU h
 obtain ⟨h3,h4,_⟩:=h1.least
 exact ⟨h3,fun t=>by rw [h4,h2]⟩
theorem zIM (h:zEl a b 3=some P) {s:List UInt8} (hs:zDf (zAR P)=some s):zBe a s=true∧zBe b s=false∧∀ t,zBe a t=true→zBe b t=false→s.length≤t.length:=by
 obtain ⟨hL,hm⟩:=zGz h
 obtain ⟨w,_,ho,_⟩:=hL.ok
 obtain ⟨h1,h2⟩:=zGv ho hs
 have h3:=hm s
 rw [zBL,h1] at h3
 simp [accP] at h3
 refine ⟨h3.1,h3.2,fun t h4 h5=>?_⟩
 have h6:=hm t
 rw [h4,h5,zBL] at h6
 exact numW_len (h2 t (by rw [h6];rfl))
end
end Go.Proofs.YtmaennnkaoollaaGreatDoor
end
section
namespace Go.E
open Go Go.RowKit
end Go.E
namespace Go.E
open Go Go.RowKit
def zF9 (o:Oper):Bool:=match o.op with
 | .defer _=>false
 | _=>true
theorem zEE {o:Oper} (h:zF9 o=true):∀ c,o.op≠.defer c:=fun c e=>by unfold zF9 at h;rw [e] at h;cases h
section
variable {P:Program}{Q:Exit→Act→World→Prop}
theorem zGL (hQ:∀ a w,¬Q .outgrown a w):¬LetsOut Q:=fun ⟨a,w,h⟩=>hQ a w h
theorem zES (l n:Nat) (hQ:∀ a w,¬Q .outgrown a w) {o:Oper}{a:Act}{next next':Act→World→Prop} (hn:∀ a w,next a w→next' a w):∀ {r:Result Next},o.upon P a next Q r→o.uponIn (Fence.wide.inRound l) n P a next' Q r:=by
 intro r h
 cases r with
 | ok x w =>
   cases x<;>simp only [Oper.upon] at h<;>try exact h.elim
   all_goals simp only [Oper.uponIn]
   all_goals first
    | exact hn _ _ h
    | exact ⟨fun e=>by simp [Fence.wide] at e,CallsIn.inRound l (callsIn_wide.2 (h.mono fun e w' he=>by cases e<;>first|exact hn _ _ he|exact he))⟩
    | exact ⟨fun e=>by simp [Fence.wide] at e,fun c cs _=>by
      obtain ⟨v,w',r,s⟩:=h c cs
      exact ⟨v,w',hn _ _ r,stepsIn_wide.2 s⟩⟩
 | halt x w=>cases x<;>simp only [Oper.upon,Oper.uponIn] at h ⊢<;>exact h
theorem zCu (l n:Nat) {all:Array Oper} (hQ:∀ a w,¬Q .outgrown a w):∀ {ops:List Oper},ops.all zF9=true→∀ {a:Act}{w:World},wpList P all Q ops a w→wpListIn (Fence.wide.inRound l) n P all Q ops a w
 | [],_,a,w,h=>h
 | o::ops,hd,a,w,h=>by
   simp only [List.all_cons,Bool.and_eq_true] at hd
   unfold wpList at h
   unfold wpListIn
   split
   ·rename_i hw
    rw [if_pos hw] at h
    rcases h with h|⟨_,h⟩
    ·refine ⟨fun f _=>trivial,?_⟩
     rw [Oper.semAt_eq _ _ _ (zEE hd.1)]
     exact zES l n hQ (fun a w h=>zCu l n hQ hd.2 h) h
    ·exact absurd h (zGL hQ)
   ·rename_i hw
    rw [if_neg hw] at h
    exact ⟨fun f _=>trivial,zCu l n hQ hd.2 h⟩
def okR:Code→Bool
 | .skip=>true
 | .region _ ops draw=>ops.toList.all zF9&&!draw
 | .seq a b=>okR a&&okR b
 | .cond _ a b=>okR a&&okR b
 | .block _ a=>okR a
 | .exit _=>true
 | .ret=>true
 | _=>false
structure CodeR (P:Program) (c:Code) (k:Exit→Kt) (env:Env) (ro:Ro) (own:Chs):Prop where
 run:∀ l m n σ Q,(∀ a w,¬Q .outgrown a w)→okS n.size c=true→okR c=true→(∀ e env' ro' own' h,Le ro ro'→k e env' ro' own'→Sat ro' own' h→N n σ (Q e) env' h)→∀ h,Sat ro own h→∀ a w,Fits n env a→Hp h σ w→c.wpIn (Fence.wide.inRound l) m P Q a w
theorem zDB {T:TT} (hT:TOk P T):∀ {c:Code}{k:Exit→Kt}{env:Env}{ro:Ro}{own:Chs},V P T c k env ro own→CodeR P c k env ro own
 | .skip,k,env,ro,own,hv=>⟨fun l m n σ Q hQ hok hR hk h hs a w hf hw=>wpIn_skip (hk .normal env ro own h (Le.refl _) hv hs a w hf hw)⟩
 | .region id ops draw,k,env,ro,own,hv=>by
   refine ⟨fun l m n σ Q hQ hok hR hk h hs a w hf hw=>?_⟩
   simp only [okR,Bool.and_eq_true,Bool.not_eq_true'] at hR
   obtain ⟨hR,rfl⟩:=hR
   obtain ⟨ol⟩:=ops
   exact wpIn_region_lit (zCu l m hQ hR (zB1 hT hok hv (fun env' ro' own' h' _ hl hk' hs'=>hk .normal env' ro' own' h' hl hk' hs') hs a w hf hw))
 | .seq a b,k,env,ro,own,hv=>by
   refine ⟨fun l m n σ Q hQ hok hR hk h hs ac w hf hw=>?_⟩
   simp only [okS,okR,Bool.and_eq_true] at hok hR
   have hb:∀ env' ro' own' h',Le ro ro'→V P T b k env' ro' own'→Sat ro' own' h'→N n σ (b.wpIn (Fence.wide.inRound l) m P Q) env' h':=fun env' ro' own' h' hl hv' hs' a2 w2 hf2 hw2 =>
    (zDB hT hv').run l m n σ Q hQ hok.2 hR.2 (fun e env2 ro2 own2 h2 hl2 hk2 hs2=>hk e env2 ro2 own2 h2 (hl.trans hl2) hk2 hs2) h' hs' a2 w2 hf2 hw2
   have ha:∀ J:Kt,V P T a (fun e=>match e with|.normal=>J|e=>k e) env ro own→(∀ env' ro' own' h',Le ro ro'→J env' ro' own'→Sat ro' own' h'→N n σ (b.wpIn (Fence.wide.inRound l) m P Q) env' h')→(Code.seq a b).wpIn (Fence.wide.inRound l) m P Q ac w:=fun J hv' hJ =>
    wpIn_seq ((zDB hT hv').run l m n σ (Exit.then (b.wpIn (Fence.wide.inRound l) m P Q) Q) (fun a w h=>hQ a w h) hok.1 hR.1 (fun e env2 ro2 own2 h2 hl2 hk2 hs2=>by
     cases e<;>first|exact hJ env2 ro2 own2 h2 hl2 hk2 hs2|exact hk _ env2 ro2 own2 h2 hl2 hk2 hs2) h hs ac w hf hw)
   replace hv:vSeq a (V P T a) (V P T b) k env ro own:=hv
   unfold vSeq at hv
   cases hj:joins a<;>simp only [hj] at hv
   rotate_left
   ·rcases hv.run with h1|⟨E,O,I,h1,h2⟩
    ·exact ha _ h1 hb
    ·exact ha _ h1 (fun env' ro' own' h' hl hw' hs'=>hw'.sound hl (fun env2 ro2 own2 h2' hl2 hl3 ⟨i,hI,hsub,hsup⟩ hs2=>N.sub2 hsub.to2 (hb _ ro2 _ h2' hl2 (h2 i ro2 hl2 hI) (hs2.sup hsup))) hs')
   ·exact ha _ hv hb
 | .cond c a b,k,env,ro,own,hv=>by
   refine ⟨fun l m n σ Q hQ hok hR hk h hs ac w hf hw=>?_⟩
   simp only [okS,okR,Bool.and_eq_true] at hok hR
   replace hv:zLG c (V P T a) (V P T b) k env ro own:=hv
   unfold zLG at hv
   split at hv
   ·rename_i v hx
    obtain ⟨h1,h2⟩:=hv.run
    have hev:ac.eval c=.bool v:=hf.agree _ _ hx
    cases v with
    | true=>exact wpIn_cond_true hev ((zDB hT (h1 rfl)).run l m n σ Q hQ hok.1 hR.1 hk h hs ac w hf hw)
    | false=>exact wpIn_cond_false hev ((zDB hT (h2 rfl)).run l m n σ Q hQ hok.2 hR.2 hk h hs ac w hf hw)
   ·exact hv.elim
 | .block id a,k,env,ro,own,hv=>by
   refine ⟨fun l m n σ Q hQ hok hR hk h hs ac w hf hw=>?_⟩
   replace hv:zH6 id (V P T a) k env ro own:=hv
   unfold zH6 at hv
   refine wpIn_block ((zDB hT hv).run l m n σ (Exit.inBlock id Q) (fun a w h=>hQ a w h) hok hR (fun e env2 ro2 own2 h2 hl2 hk2 hs2=>?_) h hs ac w hf hw)
   cases e with
   | exit j =>
     cases hj:Nat.beq j id with
     | true =>
       have:=Nat.eq_of_beq_eq_true hj
       subst this
       simp only [hj,cond_true] at hk2
       exact N.block_same (hk _ env2 ro2 own2 h2 hl2 hk2 hs2)
     | false =>
       simp only [hj,cond_false] at hk2
       exact N.block_other hj (hk _ env2 ro2 own2 h2 hl2 hk2 hs2)
   | _=>exact hk _ env2 ro2 own2 h2 hl2 hk2 hs2
 | .exit id,k,env,ro,own,hv=>⟨fun l m n σ Q hQ hok hR hk h hs a w hf hw=>wpIn_exit (hk _ env ro own h (Le.refl _) hv hs a w hf hw)⟩
 | .ret,k,env,ro,own,hv=>⟨fun l m n σ Q hQ hok hR hk h hs a w hf hw=>wpIn_ret (hk _ env ro own h (Le.refl _) hv hs a w hf hw)⟩
 | .loop _,_,_,_,_,_=>⟨fun l m n σ Q hQ hok hR=>by cases hR⟩
 | .label _,_,_,_,_,_=>⟨fun l m n σ Q hQ hok hR=>by cases hR⟩
 | .rangeFunc ..,_,_,_,_,_=>⟨fun l m n σ Q hQ hok hR=>by cases hR⟩
 | .scope _,_,_,_,_,_=>⟨fun l m n σ Q hQ hok hR=>by cases hR⟩
 | .goto _,_,_,_,_,_=>⟨fun l m n σ Q hQ hok hR=>by cases hR⟩
 | .refuse _,_,_,_,_,_=>⟨fun l m n σ Q hQ hok hR=>by cases hR⟩
structure CodeRR (P:Program) (c:Code) (k:Exit→Kt) (env:Env) (ro:Ro) (own:Chs):Prop where
 run:∀ l m n σ Q,(∀ a w,¬Q .outgrown a w)→okS n.size c=true→(∀ e env' ro' own' h,Le ro ro'→k e env' ro' own'→Sat ro' own' h→N n σ (Q e) env' h)→∀ h,Sat ro own h→∀ a w,Fits n env a→Hp h σ w→c.wpIn (Fence.wide.inRound l) m P Q a w
theorem CodeRR.block {id:Nat}{a:Code}{k:Exit→Kt}{env:Env}{ro:Ro}{own:Chs} (h:CodeRR P a (fun e=>match e with
 | .exit j=>bif Nat.beq j id then k .normal else k (.exit j)
 | e=>k e) env ro own):CodeRR P (.block id a) k env ro own :=
 ⟨fun l m n σ Q hQ hok hk g hs ac w hf hw=>by
  refine wpIn_block (h.run l m n σ (Exit.inBlock id Q) (fun a w h=>hQ a w h) hok (fun e env2 ro2 own2 h2 hl2 hk2 hs2=>?_) g hs ac w hf hw)
  cases e with
  | exit j =>
    cases hj:Nat.beq j id with
    | true =>
      have:=Nat.eq_of_beq_eq_true hj
      subst this
      simp only [hj,cond_true] at hk2
      exact N.block_same (hk _ env2 ro2 own2 h2 hl2 hk2 hs2)
    | false =>
      simp only [hj,cond_false] at hk2
      exact N.block_other hj (hk _ env2 ro2 own2 h2 hl2 hk2 hs2)
  | _=>exact hk _ env2 ro2 own2 h2 hl2 hk2 hs2⟩
theorem zH4 (l n:Nat) {all:Array Oper} (hd:∀ (i:Nat) (o:Oper),all[i]?=some o→zF9 o=true) (hQ:∀ a w,¬Q .outgrown a w) {i:Nat}{K K':Act→World→Prop} (hK:∀ a w,K a w→K' a w) {a:Act}{w:World} (h:wpOp P all Q i K a w):wpOpIn (Fence.wide.inRound l) n P all Q i K' a w:=by
 unfold wpOp at h
 unfold wpOpIn
 cases ho:all[i]? with
 | none=>rw [ho] at h;exact hK _ _ h
 | some o =>
   rw [ho] at h
   dsimp only at h ⊢
   split
   ·rename_i hw
    rw [if_pos hw] at h
    rcases h with h|⟨_,h⟩
    ·refine ⟨fun f _=>trivial,?_⟩
     rw [Oper.semAt_eq _ _ _ (zEE (hd i o ho))]
     exact zES l n hQ hK h
    ·exact absurd h (zGL hQ)
   ·rename_i hw
    rw [if_neg hw] at h
    exact ⟨fun f _=>trivial,hK _ _ h⟩
theorem zEa (l n:Nat) {all:Array Oper} (hd:∀ (i:Nat) (o:Oper),all[i]?=some o→zF9 o=true) (hQ:∀ a w,¬Q .outgrown a w) {md:Region.Mode}:∀ (fuel:Nat) (listed:Array Bool) (a:Act) (w:World),wpAny P md all Q fuel listed a w→wpAnyIn (Fence.wide.inRound l) n P md all Q fuel listed a w
 | 0,_,_,_,h=>h
 | fuel+1,listed,a,w,h=>⟨h.1,fun i hi=>zH4 l n hd hQ (fun a w h=>zEa l n hd hQ fuel _ a w h) (h.2 i hi)⟩
theorem CodeRR.drawn {T:TT}{id:Nat}{l:List Oper}{k:Exit→Kt}{env:Env}{ro:Ro}{own:Chs} [hT:TTab P T] {plan:List Tk} (hnf:NfT (planOf l) plan) (hm:P.follows .mixedOrders=true) (hns:Region.noSelect l.toArray=true) (hd:l.all zF9=true) (hlen:Nat.beq plan.length l.length=true) (hp:zDj l.toArray plan (Array.replicate l.length false)=true)
  (hv:nextB plan (vH P T l plan []) (k .normal) env ro own):CodeRR P (.region id l.toArray true) k env ro own :=
 ⟨fun l0 m n σ Q hQ hok hk h hs a w hf hw=>wpIn_mono (wpIn_region_any (Q:=fun e a w=>match e with|.panic _=>False|e=>Q e a w) hm (by
   have hl:plan.length=l.length:=Nat.eq_of_beq_eq_true hlen
   obtain ⟨B,hB,hv⟩:=hv.spec
   have:=wpU.any _ _ _ _ (zCN (σ:=σ) (w:={ w with drawn:=w.drawn+1 }) (Q:=fun e a w=>match e with|.panic _=>False|e=>Q e a w) hT.ok hns (by simpa [okS] using hok) (fun c a w h=>h) hB (fun j o _ hd=>by simp [Array.getD] at hd) hp hv (fun env' ro' own' h' hl' hk' hs'=>hk .normal env' ro' own' h' hl' hk' hs') hf (by rw [hw.heap];exact hs) ⟨rfl,hw.os,hw.tape,hw.output⟩)
   rw [hl] at this
   have hd2:∀ (i:Nat) (o:Oper),l.toArray[i]?=some o→zF9 o=true:=fun i o ho=>List.all_eq_true.1 hd o (List.mem_of_getElem? (i:=i) (by simpa using ho))
   refine zEa (Q:=fun e a w=>match e with|.panic _=>False|e=>Q e a w) l0 m hd2 (fun a w h=>hQ a w h) _ _ _ _ ?_
   simpa using this)) (fun e a w hq=>by cases e<;>first|exact hq|exact hq.elim)⟩
end
end Go.E
namespace Go.E
open Go Go.RowKit
def zEJ (h:Heap) (own:Chs):Ro:=fun b=>if b∈own.flatMap Chunk.fp then none else h[b]?
theorem zNm {h:Heap}{own:Chs}{c:Chunk} (hc:c∈own) {b:Nat} (hb:b∈c.fp):zEJ h own b=none:=if_pos (List.mem_flatMap.2 ⟨c,hc,hb⟩)
theorem zFK {h:Heap}{own:Chs}{b:Nat} (hb:∀ c∈own,b∉c.fp):zEJ h own b=h[b]?:=if_neg (fun e=>by obtain ⟨c,hc,hbc⟩:=List.mem_flatMap.1 e;exact hb c hc hbc)
theorem Sat.full {ro:Ro}{own:Chs}{h:Heap} (hs:Sat ro own h):Sat (zEJ h own) own h :=
 ⟨fun b o hb=>by
  by_cases hm:b∈own.flatMap Chunk.fp
  ·rw [zEJ,if_pos hm] at hb;cases hb
  ·rwa [zEJ,if_neg hm] at hb,hs.parts,hs.nd,fun c hc b hb=>zNm hc hb⟩
theorem Sat.leFull {ro:Ro}{own:Chs}{h:Heap} (hs:Sat ro own h):Le ro (zEJ h own):=⟨fun b o hb=>by
 rw [zFK (fun c hc hbc=>by rw [hs.ap c hc b hbc] at hb;cases hb)]
 exact hs.last b o hb⟩
theorem Sat.less {ro ro':Ro}{own:Chs}{h:Heap} (hs:Sat ro' own h) (hl:Le ro ro'):Sat ro own h :=
 ⟨fun b o hb=>hs.last b o (hl.le b o hb),hs.parts,hs.nd,fun c hc b hb=>by
  cases hr:ro b with
  | none=>rfl
  | some o=>have:=hl.le b o hr;rw [hs.ap c hc b hb] at this;cases this⟩
theorem Sat.out {ro:Ro}{own:Chs}{h h':Heap} (hs:Sat ro own h) {L:Nat} (hL:ro L=none) (hL2:∀ c∈own,L∉c.fp) (hk:∀ b,b≠L→h'[b]?=h[b]?):Sat ro own h' :=
 ⟨fun b o hb=>by
  rw [hk b (fun e=>by subst e;rw [hL] at hb;cases hb)]
  exact hs.last b o hb,fun c hc=>(hs.parts c hc).congr (fun b hb=>hk b (fun e=>by subst e;exact hL2 c hc hb)),hs.nd,hs.ap⟩
theorem Sat.up {ro ro':Ro}{own:Chs}{h:Heap} (hs:Sat ro own h) (h1:∀ b o,ro' b=some o→h[b]?=some o) (h2:∀ b o,ro' b=some o→ro b=some o∨∀ c∈own,b∉c.fp):Sat ro' own h :=
 ⟨h1,hs.parts,hs.nd,fun c hc b hb=>by
  cases hr:ro' b with
  | none=>rfl
  | some o =>
    rcases h2 b o hr with h|h
    ·rw [hs.ap c hc b hb] at h;cases h
    ·exact absurd hb (h c hc)⟩
structure IterOk {α:Type} (P:Program) (f:FuncId) (bs:Array Value) (encs:α→Array Value) (xs:List α):Prop where
 run:∀ (l:Nat) (J:Ro→List α→World→Prop) (Jx:World→Prop) (ρ:Ro) (W:World),
  (∀ ρ pre W,J ρ pre W→∀ b o,ρ b=some o→W.heap[b]?=some o) →
  (∀ ρ ρ' pre W W',J ρ pre W→Le ρ ρ'→(∀ b o,ρ' b=some o→ρ b=some o∨W.heap.size≤b)→(∀ b,b<W.heap.size→W'.heap[b]?=W.heap[b]?)→(∀ b o,ρ' b=some o→W'.heap[b]?=some o)→Hp W'.heap W W'→J ρ' pre W') →
  (∀ ρ pre x rest W,xs=pre++x::rest→J ρ pre W→YieldAt Fence.wide 0 P l (encs x) W fun e W'=>(e=.returned (.bool true)∧J ρ (pre++[x]) W')∨(e=.returned (.bool false)∧Jx W')) →
  (∀ W W',Jx W→W'.heap=W.heap→Hp W'.heap W W'→Jx W') →
  (∀ ρ pre W',J ρ pre W'→Hp W'.heap W W')→(∀ W',Jx W'→Hp W'.heap W W') →
  J ρ [] W →
  CallsIn Fence.wide 0 P f (bs++#[.func (.yield l) #[] #[]]) W fun e W'=>∃ v,e=.returned v∧((∃ ρ',J ρ' xs W')∨Jx W')
def zKe (env:Env):List Nat→List Value→Env
 | p::ps,v::vs=>zKe ((p,v)::env) ps vs
 | _,_=>env
theorem Fits.pars {n:Fr}:∀ {ps:List Nat}{vs:List Value}{env:Env}{t:Array Value},ps.all (fun p=>Nat.blt p n.size)=true→Fits n env ⟨t,n.D⟩→Fits n (zKe env ps vs) ⟨(ps.zip vs).foldl (fun t (p,v)=>t.setIfInBounds p v) t,n.D⟩
 | [],_,env,t,_,h=>h
 | _::_,[],env,t,_,h=>h
 | p::ps,v::vs,env,t,hp,h=>by
   simp only [List.all_cons,Bool.and_eq_true] at hp
   have:=h.put (d:=p) hp.1 v
   exact Fits.pars (ps:=ps) (vs:=vs) (env:=(p,v)::env) (t:=t.setIfInBounds p v) hp.2 this
def rndK {ι κ:Type} (O:ι→Chs) (A:ι→Prop) (Ox:κ→Chs) (Ix:Exit→κ→Prop):Exit→Kt
 | .normal=>Wk fun _ _ own=>∃ i,A i∧Sup own (O i)
 | .ret=>Wk fun _ _ own=>∃ j,Ix .ret j∧Sup own (Ox j)
 | .exit id=>Wk fun _ _ own=>∃ j,Ix (.exit id) j∧Sup own (Ox j)
 | _=>fun _ _ _=>False
def asgK (env1:Env) (own1:Chs):Exit→Kt
 | .normal=>fun env _ own=>Sub env1 env∧Sup own own1
 | _=>fun _ _ _=>False
def jumpOf:Exit→Option Code
 | .ret=>some .ret
 | .exit id=>some (.exit id)
 | _=>none
section
variable {P:Program}{T:TT}{env:Env}{ro:Ro}{own:Chs}
theorem zIu {w σ:World}{h:Heap} (L:Nat) (o:Obj) (hw:Hp h σ w):Hp (w.putObj L o).heap σ (w.putObj L o):=⟨rfl,hw.os,hw.tape,hw.output⟩
theorem zHi {w σ:World}{h:Heap} (hw:Hp h σ w):Hp w.heap σ w:=⟨rfl,hw.os,hw.tape,hw.output⟩
theorem zMr {L:Nat}{o:Obj}{own own':Chs}{h h':Heap} (hs:Sat (zEJ h own) own' h') (hL:h[L]?=some o) (hL2:∀ c∈own,L∉c.fp):h'[L]?=some o∧∀ c∈own',L∉c.fp:=by
 have e:zEJ h own L=some o:=(zFK hL2).trans hL
 refine ⟨hs.last L o e,fun c hc hb=>?_⟩
 have:=hs.ap c hc L hb
 rw [e] at this;cases this
theorem CodeOk.rangeFuncR {α:Type} [hT:TTab P T] {g:Operand}{ps:List Nat}{assign body:Code}{k:Exit→Kt}{f:FuncId}{bs:List Value}{encs:α→List Value}{xs:List α}
  (hg:ev env g=some (.func (.func f) bs.toArray #[])) (enter:∀ args w,(callFunc f args).run P w=.ok (.enter f args) w)
  (hit:IterOk P f bs.toArray (fun x=>(encs x).toArray) xs) (hps:∀ x,(encs x).length=ps.length) (hR:okR assign=true)
  {ι κ:Type} (O:ι→Chs) (I:List α→ι→Prop) (Ox:κ→Chs) (Ix:Exit→κ→Prop) (env1:α→Env) (i0:ι) (hI:I [] i0) (ho:Sup own (O i0))
  (asg:∀ x own' ro',Le ro ro'→V P T assign (asgK (env1 x) own') (zKe env ps (encs x)) ro' own')
  (round:∀ pre x rest i ro',Le ro ro'→xs=pre++x::rest→I pre i→CodeRR P body (rndK O (I (pre++[x])) Ox Ix) (env1 x) ro' (O i))
  (done:∀ i ro',Le ro ro'→I xs i→k .normal env ro' (O i))
  (stop:∀ e j ro',Le ro ro'→Ix e j→k e env ro' (Ox j)):CodeOk P (.rangeFunc g ps.toArray assign body) k env ro own:=by
 refine ⟨fun n σ Q hok hk h hs a w hf hw=>?_⟩
 simp only [okS,Bool.and_eq_true] at hok
 obtain ⟨⟨hok1,hok2⟩,hok3⟩:=hok
 have hwh:=hw.heap
 subst hwh
 refine (wpIn_wide (n:=0)).1 (wpIn_rangeFunc fun fn _=>?_)
 obtain ⟨rec,hrec⟩:∃ rec:LoopState→Option Code→Loop,rec=fun st pe=>{ state:=st,pending:=pe,fn,tmps:=a.tmps,params:=ps.toArray,assign,body,defers:=w.heap.size }:=⟨_,rfl⟩
 obtain ⟨W1,hW1⟩:∃ W1,(w.alloc (.deferred (some []))).alloc (.loop (rec .ready none))=W1:=⟨_,rfl⟩
 obtain ⟨L,hLe⟩:∃ L,w.heap.size+1=L:=⟨_,rfl⟩
 have hsz1:W1.heap.size=w.heap.size+2:=by rw [←hW1];simp
 have hL1:W1.heap[L]?=some (.loop (rec .ready none)):=by
  rw [←hW1,←hLe];have:=World.alloc_heap_new (w.alloc (.deferred (some []))) (.loop (rec .ready none));rwa [World.size_alloc] at this
 have hK1:W1.heap[w.heap.size]?=some (.deferred (some [])):=by
  rw [←hW1];exact (Below.heap_alloc _ _ _ (by simp)).trans (World.alloc_heap_new w _)
 have hlow:∀ b,b<w.heap.size→W1.heap[b]?=w.heap[b]?:=fun b hb=>by
  rw [←hW1];exact (Below.heap_alloc _ _ _ (by simp;omega)).trans (Below.heap_alloc _ _ _ hb)
 have hHp1:Hp W1.heap σ W1:=by rw [←hW1];exact ⟨rfl,hw.os,hw.tape,hw.output⟩
 have hroD:ro w.heap.size=none:=by
  cases hr:ro w.heap.size with
  | none=>rfl
  | some o=>have:=(Array.getElem?_eq_some_iff.1 (hs.last _ _ hr)).1;omega
 have hroL:ro L=none:=by
  cases hr:ro L with
  | none=>rfl
  | some o=>have:=(Array.getElem?_eq_some_iff.1 (hs.last _ _ hr)).1;omega
 obtain ⟨ro1,hro1⟩:∃ ro1:Ro,ro1=fun b=>if b=w.heap.size then some (.deferred (some [])) else ro b:=⟨_,rfl⟩
 have hv1:∀ b,ro1 b=if b=w.heap.size then some (.deferred (some [])) else ro b:=fun b=>by rw [hro1]
 have hle1:Le ro ro1:=⟨fun b o hb=>by
  rw [hv1,if_neg (fun e=>by subst e;rw [hroD] at hb;cases hb)]
  exact hb⟩
 have hro1D:ro1 w.heap.size=some (.deferred (some [])):=by rw [hv1];exact if_pos rfl
 have hro1L:ro1 L=none:=by
  rw [hv1,if_neg (by omega)];exact hroL
 have hmk:Mk (rf (.rangeFunc g ps.toArray assign body)) n.D (zG8 w.heap.size::n.D) ro ro1:=⟨fun e=>by simp [rf] at e,[w.heap.size],rfl,by simp,fun b hb=>by
  simp only [List.mem_singleton] at hb;subst hb;exact ⟨hroD,hro1D⟩⟩
 have hs1:Sat ro1 (O i0) W1.heap:=by
  have h0:Sat ro (O i0) W1.heap:=(hs.keep hlow).sup ho
  have h00:Sat ro (O i0) w.heap:=hs.sup ho
  refine h0.up (fun b o hb=>?_) (fun b o hb=>?_)
  ·rw [hv1] at hb
   by_cases e:b=w.heap.size
   ·subst e;rw [if_pos rfl] at hb;cases hb;exact hK1
   ·rw [if_neg e] at hb;exact h0.last b o hb
  ·rw [hv1] at hb
   by_cases e:b=w.heap.size
   ·subst e
    exact .inr (fun c hc hbc=>by have:=(h00.parts c hc).lt _ hbc;omega)
   ·rw [if_neg e] at hb;exact .inl hb
 have hL10:∀ c∈O i0,L∉c.fp:=fun c hc hbc=>by
  have:=((hs.sup ho).parts c hc).lt _ hbc;omega
 have hfm:∀ {W:World}{h':Heap},Hp h' σ W→Fits ⟨n.size,zG8 w.heap.size::n.D⟩ env { a with defers:=[{ target:=.collected w.heap.size,args:=#[] }]++a.defers }:=fun _=>⟨by simp [hf.defers,zG8],hf.size,hf.get⟩
 refine ⟨L,[{ target:=.collected w.heap.size,args:=#[] }],W1,{ target:=.fn (.func f) #[],args:=bs.toArray++#[.func (.yield L) #[] #[]] },W1,f,bs.toArray++#[.func (.yield L) #[] #[]],W1,?_,?_,fun _ _=>trivial,?_,fun e=>by simp [Fence.wide] at e,?_⟩
 ·rw [←hW1,hrec,←hLe];exact run_enterLoop_outer _ _ _ _ _
 ·have:=hf.agree _ _ hg
  simp only [resolve,this]
  simp [Deferred.ofValue,Act.eval,go_sem]
 ·simp [invoke,go_sem,enter]
 ·refine (hit.run L (fun ρ pre W=>∃ i,I pre i∧Sat ρ (O i) W.heap∧Le ro1 ρ∧W.heap[L]?=some (.loop (rec .ready none))∧ρ L=none∧(∀ c∈O i,L∉c.fp)∧Hp W.heap σ W)
   (fun W=>∃ e c j,jumpOf e=some c∧Ix e j∧Sat ro1 (Ox j) W.heap∧W.heap[L]?=some (.loop (rec .done (some c)))∧(∀ c∈Ox j,L∉c.fp)∧Hp W.heap σ W) ro1 W1 ?_ ?_ ?_ ?_ ?_ ?_ ⟨i0,hI,hs1,Le.refl _,hL1,hro1L,hL10,hHp1⟩).mono ?_
  ·rintro ρ pre W ⟨i,_,h2,_⟩ b o hb
   exact h2.last b o hb
  ·rintro ρ ρ' pre W W' ⟨i,h1,h2,h3,h4,h5,h6,h7⟩ hl hn hkp hlast hh
   have hLlt:L<W.heap.size:=(Array.getElem?_eq_some_iff.1 h4).1
   refine ⟨i,h1,(h2.keep hkp).up hlast (fun b o hb=>?_),h3.trans hl,(hkp L hLlt).trans h4,?_,h6,h7.trans hh⟩
   ·rcases hn b o hb with h|h
    ·exact .inl h
    ·exact .inr (fun c hc hbc=>by have:=(h2.parts c hc).lt _ hbc;omega)
   ·cases hr:ρ' L with
    | none=>rfl
    | some o =>
      rcases hn L o hr with h|h
      ·rw [h5] at h;cases h
      ·omega
  ·rintro ρ pre x rest W hx ⟨i,h1,h2,h3,h4,h5,h6,h7⟩
   have hy:=run_yield (P:=P) (args:=(encs x).toArray) h4 (by rw [hrec];simpa using hps x)
   rw [hrec] at hy
   refine ⟨fn,_,assign,body,hy,roundIn_of_wpIn trivial ?_⟩
   have hf0:Fits ⟨n.size,[]⟩ (zKe env ps (encs x)) { tmps:=(ps.toArray.zip (encs x).toArray).foldl (fun t (p,v)=>t.setIfInBounds p v) a.tmps,defers:=[] }:=by
    have:=Fits.pars (n:=⟨n.size,[]⟩) (ps:=ps) (vs:=encs x) (env:=env) (t:=a.tmps) (by simpa using hok1) ⟨rfl,hf.size,hf.get⟩
    simpa using this
   refine (zDB hT.ok (asg x (O i) (zEJ W.heap (O i)) ((hle1.trans h3).trans h2.leFull))).run L 0 ⟨n.size,[]⟩ σ _ (fun _ _ h=>h) hok2 hR (fun e env' ro' own' h' hl hk' hs'=>?_) W.heap h2.full _ W hf0 h7
   cases e<;>first|exact hk'.elim|skip
   intro a1 w1 hf1 hw1
   have hw1h:=hw1.heap
   subst hw1h
   have hs2:Sat (zEJ W.heap (O i)) (O i) w1.heap:=(hs'.sup hk'.2).less hl
   have hL2:=(zMr hs2 h4 h6).1
   have hlt:L<w1.heap.size:=(Array.getElem?_eq_some_iff.1 hL2).1
   refine ⟨_,run_beginRound hL2 (by rw [hrec]),?_⟩
   have hL3:(w1.putObj L (.loop { rec .ready none with state:=.busy })).heap[L]?=some (.loop { rec .ready none with state:=.busy }):=World.putObj_heap_same hlt
   have hs3:Sat ρ (O i) (w1.putObj L (.loop { rec .ready none with state:=.busy })).heap:=(hs2.less h2.leFull).out h5 h6 (fun b hb=>World.putObj_heap_other hb)
   generalize hW2:w1.putObj L (.loop { rec .ready none with state:=.busy })=W2 at hL3 hs3 ⊢
   have hH2:Hp W2.heap σ W2:=by rw [←hW2];exact zIu _ _ hw1
   have hro:Le ro (zEJ W2.heap (O i)):=(hle1.trans h3).trans hs3.leFull
   refine (round pre x rest i (zEJ W2.heap (O i)) hro hx h1).run L 0 ⟨n.size,[]⟩ σ _ (fun _ _ h=>h) hok3 (fun e env' ro' own' h' hl hk' hs'=>?_) W2.heap hs3.full _ W2 (hf1.sub hk'.1) hH2
   have fin:∀ (jump:Option Code) (w3:World) (own3:Chs),Hp w3.heap σ w3→Sat (zEJ W2.heap (O i)) own3 w3.heap →
     ∃ w4,(Instr.endRound L jump).run P w3=.ok (.bool jump.isNone) w4∧Hp w4.heap σ w4∧Sat ρ own3 w4.heap∧w4.heap[L]?=some (.loop (rec (if jump.isNone then .ready else .done) jump))∧(∀ c∈own3,L∉c.fp):=fun jump w3 own3 hh hsat=>by
    obtain ⟨q1,q2⟩:=zMr hsat hL3 h6
    have hr:=run_endRound (P:=P) jump q1
    have hlt3:L<w3.heap.size:=(Array.getElem?_eq_some_iff.1 q1).1
    refine ⟨_,hr,zIu _ _ hh,(hsat.less hs3.leFull).out h5 q2 (fun b hb=>World.putObj_heap_other hb),?_,q2⟩
    rw [World.putObj_heap_same hlt3,hrec]
   cases e with
   | normal =>
     obtain ⟨e1,ro2,own2,k1,k2,k3,i',k4,k5⟩:=hk'.get h' hs'
     intro a3 w3 hf3 hw3
     have hw3h:=hw3.heap
     subst hw3h
     obtain ⟨w4,r1,r2,r3,r4,r5⟩:=fin none w3 (O i') (zHi hw3) ((k3.sup k5).less (hl.trans k2))
     exact ⟨_,w4,r1,.inl ⟨rfl,i',k4,r3,h3,r4,h5,r5,r2⟩⟩
   | ret =>
     obtain ⟨e1,ro2,own2,k1,k2,k3,i',k4,k5⟩:=hk'.get h' hs'
     intro a3 w3 hf3 hw3
     have hw3h:=hw3.heap
     subst hw3h
     obtain ⟨w4,r1,r2,r3,r4,r5⟩:=fin (some .ret) w3 (Ox i') (zHi hw3) ((k3.sup k5).less (hl.trans k2))
     exact ⟨_,w4,r1,.inr ⟨rfl,.ret,_,i',rfl,k4,r3.less h3,r4,r5,r2⟩⟩
   | exit id =>
     obtain ⟨e1,ro2,own2,k1,k2,k3,i',k4,k5⟩:=hk'.get h' hs'
     intro a3 w3 hf3 hw3
     have hw3h:=hw3.heap
     subst hw3h
     obtain ⟨w4,r1,r2,r3,r4,r5⟩:=fin (some (.exit id)) w3 (Ox i') (zHi hw3) ((k3.sup k5).less (hl.trans k2))
     exact ⟨_,w4,r1,.inr ⟨rfl,.exit id,_,i',rfl,k4,r3.less h3,r4,r5,r2⟩⟩
   | goto t=>exact hk'.elim
   | panic c=>exact hk'.elim
   | outgrown=>exact hk'.elim
  ·rintro W W' ⟨e,c,j,h1,h2,h3,h4,h5,h6⟩ hh hp
   exact ⟨e,c,j,h1,h2,by rw [hh];exact h3,by rw [hh];exact h4,h5,h6.trans hp⟩
  ·rintro ρ pre W' ⟨i,h1,h2,h3,h4,h5,h6,h7⟩
   exact ⟨rfl,h7.os.trans hHp1.os.symm,h7.tape.trans hHp1.tape.symm,h7.output.trans hHp1.output.symm⟩
  ·rintro W' ⟨e,c,j,h1,h2,h3,h4,h5,h7⟩
   exact ⟨rfl,h7.os.trans hHp1.os.symm,h7.tape.trans hHp1.tape.symm,h7.output.trans hHp1.output.symm⟩
  ·rintro e W2 ⟨v,rfl,(⟨ρ',i,h1,h2,h3,h4,h5,h6,h7⟩|⟨e,c,j,h1,h2,h3,h4,h5,h6⟩)⟩
   ·refine ⟨none,_,by have:=run_endLoop (P:=P) h4 (by rw [hrec];simp);rw [hrec] at this;exact this,?_⟩
    have hs4:Sat ro1 (O i) (W2.putObj L (.loop { rec .ready none with state:=.exhausted })).heap:=(h2.less h3).out hro1L h6 (fun b hb=>World.putObj_heap_other hb)
    exact hk .normal env ro1 (O i) _ _ hle1 (done i ro1 hle1 h1) (by rw [hrec] at hs4;exact hs4) hmk _ _ (hfm h7) (zIu _ _ h7)
   ·refine ⟨some c,_,by have:=run_endLoop (P:=P) h4 (by rw [hrec];simp);rw [hrec] at this;exact this,?_⟩
    have hs4:Sat ro1 (Ox j) (W2.putObj L (.loop { rec .done (some c) with state:=.exhausted })).heap:=h3.out hro1L h5 (fun b hb=>World.putObj_heap_other hb)
    have key:=hk e env ro1 (Ox j) _ _ hle1 (stop e j ro1 hle1 h2) (by rw [hrec] at hs4;exact hs4) hmk _ _ (hfm h6) (zIu _ _ h6)
    cases e<;>simp only [jumpOf,Option.some.injEq,reduceCtorEq] at h1<;>subst h1
    ·exact wpIn_exit key
    ·exact wpIn_ret key
end
end Go.E
namespace Go.E
open Go Go.RowKit
section
variable {P:Program}{T:TT}{al:Array Oper}{Q:Exit→Act→World→Prop}{n:Fr}{σ:World}{env:Env}{h:Heap}
def LI (P:Program) (al:Array Oper) (Q:Exit→Act→World→Prop) (n:Fr) (σ:World) (ops:List Oper) (env:Env) (h:Heap):Prop :=
 ∀ a w,Fits n env a→Hp h σ w→wpListIn Fence.wide 0 P al Q ops a w
theorem C.regionI {id:Nat}{l:List Oper} (k:LI P l.toArray Q n σ l env h):C P Q n σ (.region id l.toArray false) env h:=fun a w hf hw=>(wpIn_wide (n:=0)).1 (wpIn_region_lit (k a w hf hw))
theorem zIO {o:Oper}{a:Act}{K:Act→World→Prop}{next next':Act→World→Prop} (hn:∀ a w,next a w→next' a w):∀ {r:Result Next},o.upon P a next (fun e a w=>e=.normal∧K a w) r→o.uponIn Fence.wide 0 P a next' Q r:=by
 intro r h
 cases r with
 | ok x w =>
   cases x<;>simp only [Oper.upon] at h<;>try exact h.elim
   all_goals simp only [Oper.uponIn]
   all_goals first
    | exact hn _ _ h
    | exact ⟨fun e=>by simp [Fence.wide] at e,callsIn_wide.2 (h.mono fun e w' he=>by
      cases e<;>first
       | exact hn _ _ he
       | (obtain ⟨hh,_⟩:=he;cases hh;done)
       | (obtain ⟨_,_,hh,_⟩:=he;cases hh;done))⟩
    | exact ⟨fun e=>by simp [Fence.wide] at e,fun c cs _=>by
      obtain ⟨v,w',r,s⟩:=h c cs
      exact ⟨v,w',hn _ _ r,stepsIn_wide.2 s⟩⟩
 | halt x w=>cases x<;>simp only [Oper.upon] at h<;>(obtain ⟨hh,_⟩:=h;cases hh)
theorem zBG {K:Act→World→Prop}{rest:List Oper} (hK:∀ a w,K a w→wpListIn Fence.wide 0 P al Q rest a w):∀ {ops:List Oper},ops.all zF9=true→∀ {a:Act}{w:World},wpList P al (fun e a w=>e=.normal∧K a w) ops a w→wpListIn Fence.wide 0 P al Q (ops++rest) a w
 | [],_,a,w,h=>hK a w h.2
 | o::ops,hd,a,w,h=>by
   simp only [List.all_cons,Bool.and_eq_true] at hd
   unfold wpList at h
   show wpListIn Fence.wide 0 P al Q (o::(ops++rest)) a w
   unfold wpListIn
   split
   ·rename_i hw
    rw [if_pos hw] at h
    rcases h with h|⟨_,h⟩
    ·refine ⟨fun f _=>trivial,?_⟩
     rw [Oper.semAt_eq _ _ _ (zEE hd.1)]
     exact zIO (fun a w h=>zBG hK hd.2 h) h
    ·obtain ⟨_,_,hh,_⟩:=h;cases hh
   ·rename_i hw
    rw [if_neg hw] at h
    exact ⟨fun f _=>trivial,zBG hK hd.2 h⟩
theorem LI.split {rest:List Oper}{ops:List Oper} (hd:ops.all zF9=true) (k:L P al (fun e a w=>e=.normal∧wpListIn Fence.wide 0 P al Q rest a w) n σ ops env h):LI P al Q n σ (ops++rest) env h :=
 fun a w hf hw=>zBG (fun a w h=>h) hd (k a w hf hw)
theorem LI.all {ops:List Oper} (hd:ops.all zF9=true) (k:L P al (fun e a w=>e=.normal∧Q .normal a w) n σ ops env h):LI P al Q n σ ops env h:=fun a w hf hw=>by
 have:=zBG (rest:=[]) (Q:=Q) (fun a w h=>h) hd (k a w hf hw)
 rwa [List.append_nil] at this
theorem N.normalI {rest:List Oper} (k:LI P al Q n σ rest env h):N n σ ((fun (e:Exit) a w=>e=.normal∧wpListIn Fence.wide 0 P al Q rest a w) .normal) env h:=fun a w hf hw=>⟨rfl,k a w hf hw⟩
theorem N.normalA {Q':Act→World→Prop} (k:N n σ Q' env h):N n σ ((fun (e:Exit) a w=>e=.normal∧Q' a w) .normal) env h:=fun a w hf hw=>⟨rfl,k a w hf hw⟩
theorem LI.yield {rest:List Oper}{d l:Nat}{x:Operand}{ys:List Operand}{vs:List Value}{tys:Array TypeId}{ty:TypeId}{pos:String}{af:Array Edge}
  (hx:ev env x=some (.func (.yield l) #[] #[])) (hy:evs env ys=some vs) (hd:Nat.blt d n.size=true)
  (hY:∀ w,Hp h σ w→YieldAt Fence.wide 0 P l vs.toArray w fun e w'=>∃ v,e=.returned v∧Hp w'.heap σ w'∧∀ a',Fits n ((d,v)::env) a'→wpListIn Fence.wide 0 P al Q rest a' w') :
  LI P al Q n σ (⟨some d,.call ⟨.value x,ys.toArray,tys⟩,ty,pos,af,none⟩::rest) env h:=fun a w hf hw=>by
 obtain ⟨fn,tmps,assign,body,hy1,hR⟩:=hY w hw
 have e1:=hf.agree _ _ hx
 have e2:=hf.agree.list hy
 unfold wpListIn
 rw [if_pos (show Region.wanted _ _=true from rfl)]
 refine ⟨fun f _=>trivial,?_⟩
 have hrun:(execOp a.eval ⟨some d,.call ⟨.value x,ys.toArray,tys⟩,ty,pos,af,none⟩).run P w=.ok (.round l fn tmps assign body) w:=by
  rw [←hy1]
  simp [execOp,resolve,e1,e2,Deferred.ofValue,invoke,Sem.run_bind,Result.andThen,Sem.run_pure]
 rw [Oper.semAt_eq _ _ _ (fun c e=>by cases e)]
 rw [hrun]
 simp only [Oper.uponIn]
 refine ⟨fun e=>by simp [Fence.wide] at e,hR.mono fun e w' ⟨v,he,hh,hk⟩=>?_⟩
 subst he
 exact hk _ (hf.put hd v)
theorem LI.guard {rest:List Oper}{d:Option Nat}{op:Op}{ty:TypeId}{pos:String}{af:Array Edge}{j:Nat}{b:Bool}{t:Nat}
  {l:List Oper} (hj0:zCi l j=some t) (ht:look env t=some (.bool b)) (k:LI P l.toArray Q n σ (⟨d,op,ty,pos,af,none⟩::rest) env h) :
  LI P l.toArray Q n σ (⟨d,op,ty,pos,af,some (j,b)⟩::rest) env h:=fun a w hf hw=>by
 have hj:=zAT hj0
 have hy:yielded l.toArray a.tmps j=some b:=by simp [yielded,hj,hf.get _ _ ht]
 have k:=k a w hf hw
 unfold wpListIn at k ⊢
 rw [if_pos (show Region.wanted _ _=true from rfl)] at k
 rw [if_pos (by simp [Region.wanted,hy])]
 exact k
theorem zNc {fn:Func}{tmps:Array Value}{R:Ending→World→Prop}{own:Chs}{ro:Ro}{σ:World}{v:Value} (hres:∀ w,(results fn tmps).run P w=.ok v w) (hR:∀ w,Hp w.heap σ w→Sat ro own w.heap→R (.returned v) w) :
  ∀ (ms:List Nat) (w:World),ms.Nodup→Hp w.heap σ w→(∀ b∈ms,ro b=none)→(∀ b∈ms,w.heap[b]?=some (.deferred (some [])))→(∀ b∈ms,∀ c∈own,b∉c.fp)→Sat ro own w.heap→LeavesInM Fence.wide 0 P fn tmps R (ms.map zG8) .returning w
 | [],w,_,hh,_,_,_,hs=>⟨v,hres w,hR w hh hs⟩
 | b::ms,w,hn,hh,h1,h2,h3,hs=>by
   obtain ⟨n1,n2⟩:=List.nodup_cons.1 hn
   refine ⟨by simp,.inl ⟨b,_,rfl,run_takeDeferred (h2 b (by simp)),?_⟩⟩
   refine zNc hres hR ms _ n2 (zIu _ _ hh) (fun c hc=>h1 c (by simp [hc])) (fun c hc=>?_) (fun c hc=>h3 c (by simp [hc])) (hs.out (h1 b (by simp)) (h3 b (by simp)) (fun c hc=>World.putObj_heap_other hc))
   have hne:c≠b:=fun e=>n1 (by rw [←e];exact hc)
   rw [World.putObj_heap_other hne]
   exact h2 c (by simp [hc])
def retM (rs:List ResultVar) (Φ:Value→Chs→Prop):Exit→Kt
 | .ret=>fun env ro own=>match zFw env rs with
   | some vs=>Stop (Wk (fun _ _ own=>Φ (tup vs) own) [] ro own)
   | none=>False
 | .normal=>fun env ro own=>match rs with
   | []=>Stop (Wk (fun _ _ own=>Φ (tup []) own) [] ro own)
   | _=>False
 | _=>fun _ _ _=>False
theorem zLg {fn:Func}{rs:List ResultVar}{vs:List Value}{a:Act} (hr:fn.results=rs.toArray) (hv:zFw env rs=some vs) (hf:Fits n env a) (w:World):(results fn a.tmps).run P w=.ok (tup vs) w:=by
 have:=(RV.of (P:=P) (h:=w.heap) hv).run hf (rfl:w.heap=w.heap)
 have e:results fn a.tmps=(do let vs ←fn.results.mapM (zF1 a.tmps);pure (if h:vs.size=1 then vs[0] else .tuple vs)):=rfl
 rw [e,hr,List.mapM_toArray]
 simp only [bind_map_left,Sem.run_bind,this,Result.andThen_ok,Sem.run_pure,tup_eq]
theorem CallOk.introM {f:FuncId}{fn:Func}{c:Code}{args:List Value}{rs:List ResultVar}{Φ:Value→Ro→Chs→Prop}{ro:Ro}{own:Chs} (hT:TOk P T) (hf:P.funcs[f]?=some fn) (he:∀ args w,(callFunc f args).run P w=.ok (.enter f args) w) (hb:fn.body=some c) (hr:fn.results=rs.toArray)
  (hn:okS fn.ntmps c=true) (hl:Nat.ble args.length fn.ntmps=true) (k:V P T c (retM rs (fun v own=>Φ v ro own)) (zE6 0 args) ro own):CallOk P f args.toArray ro own Φ:=by
 refine ⟨fun w hs=>.inl ⟨he _ _,(callsIn_wide (n:=0)).1 (callsIn_of_wp_marks hf hb trivial (wpIn_wide.2 ?_))⟩⟩
 have fin:∀ {env':Env}{vs:List Value}{ro':Ro}{own':Chs}{D:List Deferred}{h':Heap},zFw env' rs=some vs→Le ro ro'→Wk (fun _ _ own=>Φ (tup vs) ro own) [] ro' own'→Sat ro' own' h'→Mk (rf c) [] D ro ro' →
   ∀ a w2,Fits ⟨fn.ntmps,D⟩ env' a→Hp h' w w2→LeavesInM Fence.wide 0 P fn a.tmps (fun e w'=>∃ v,e=.returned v∧Post ro Φ w v w') a.defers .returning w2:=by
  intro env' vs ro' own' D h' hv hl hk hs' hm a w2 hf2 hw2
  obtain ⟨e1,ro2,own2,h1,h2,h3,h4⟩:=hk.get h' hs'
  obtain ⟨ms,hD,hnd,hms⟩:=hm.yes
  have hw2h:=hw2.heap
  subst hw2h
  have hD2:a.defers=ms.map zG8:=by rw [hf2.defers];simpa using hD
  rw [hD2]
  refine zNc (σ:=w) (ro:=ro) (own:=own2) (zLg hr hv hf2) (fun w3 hh hs3=>⟨_,rfl,hh,ro,own2,Le.refl _,hs3,h4⟩) ms w2 hnd (zHi hw2) (fun b hb=>(hms b hb).1) (fun b hb=>hs'.last b _ (hms b hb).2) (fun b hb c hc hbc=>?_) (h3.less (hl.trans h2))
  have:=h3.ap c hc b hbc
  rw [h2.le _ _ (hms b hb).2] at this;cases this
 refine (zC0 hT k).run ⟨fn.ntmps,[]⟩ w _ hn (fun e env' ro' own' D h' hl hk hs' hm=>?_) w.heap hs _ w ⟨rfl,?_,fun t v hv=>?_⟩ (Hp.self w)
 ·cases e with
  | ret =>
    simp only [retM] at hk
    split at hk
    ·rename_i vs hv
     exact fun a w2 hf2 hw2=>fin hv hl hk.run hs' hm a w2 hf2 hw2
    ·exact hk.elim
  | normal =>
    simp only [retM] at hk
    split at hk
    ·exact fun a w2 hf2 hw2=>fin rfl hl hk.run hs' hm a w2 hf2 hw2
    ·exact hk.elim
  | _=>exact hk.elim
 ·have:args.length≤fn.ntmps:=by simpa using hl
  simp;omega
 ·have:=(zCU args 0 t v hv).2
  simp only [Nat.sub_zero] at this
  have ht:t<args.length:=(List.getElem?_eq_some_iff.1 this).1
  rw [Array.getElem?_append_left (by simpa using ht)]
  simpa using this
theorem zL1 {f:FuncId}{fn:Func}{c:Code}{args:List Value}{W:World}{R:Ending→World→Prop}{m:Nat} (hf:P.funcs[f]?=some fn) (hb:fn.body=some c) (hn:fn.ntmps=m) (hl:Nat.ble args.length m=true)
  (k:C P (bodyPost P fn R) ⟨m,[]⟩ W c (zE6 0 args) W.heap):Calls P f args.toArray W R :=
 calls_of_wp hf hb (k _ W ⟨rfl,by have:args.length≤m:=by simpa using hl
                                  simp [hn];omega,fun t v hv=>by
  have:=(zCU args 0 t v hv).2
  simp only [Nat.sub_zero] at this
  have ht:t<args.length:=(List.getElem?_eq_some_iff.1 this).1
  rw [Array.getElem?_append_left (by simpa using ht)]
  simpa using this⟩ (Hp.self W))
theorem C.byV (hT:TOk P T) {c:Code} (hok:okS n.size c=true) (hrf:rf c=false) {k:Exit→Kt} (hv:V P T c k env (hm h) []) (hk:∀ e env' ro' own' h',Le (hm h) ro'→k e env' ro' own'→Sat ro' own' h'→N n σ (Q e) env' h'):C P Q n σ c env h :=
 (zC0 hT hv).run n σ Q hok (fun e env' ro' own' D h' hl hk' hs' hm=>by
  have:D=n.D:=hm.no hrf
  subst this
  exact hk e env' ro' own' h' hl hk' hs') h (zIX h)
theorem L.byV (hT:TOk P T) {l0 ops:List Oper} (hok:ops.all (fun o=>okD n.size o.dst)=true) {k:Kt} (hv:vOps P T l0 ops [] ops k env (hm h) []) (hk:∀ env' ro' own' h',Le (hm h) ro'→k env' ro' own'→Sat ro' own' h'→N n σ (Q .normal) env' h'):L P l0.toArray Q n σ ops env h :=
 zB1 hT hok hv (fun env' ro' own' h' _ hl hk' hs'=>hk env' ro' own' h' hl hk' hs') (zIX h)
end
end Go.E
end
section
namespace Go.Proofs.YtmaennnkaoollaaGreatDoor
open Go Go.E
def zEZ (s:SetD):List Nat:=(List.range 256).filter s.has
theorem hp_back {w W:World}{h h0:Heap} (hw:Hp h W w):Hp h0 W { w with heap:=h0 }:=⟨rfl,hw.os,hw.tape,hw.output⟩
set_option maxHeartbeats 1000000 in
theorem zN5 {s:SetD} (hs:SetIn s):IterOk Tryz.prog 60 ([.agg (setV s).toArray]:List Value).toArray (fun c:Nat=>([.int .u8 (c:Int)]:List Value).toArray) (zEZ s):=by
 refine ⟨fun l J Jx ρ W hJr hJa hJy hJx hJp hJxp h0=>callsIn_wide.2 ?_⟩
 show Calls _ _ ([.agg (setV s).toArray,.func (.yield l) #[] #[]]:List Value).toArray _ _
 refine zL1 Tryz.func60 rfl rfl rfl ?_
 have hup:∀ {ρ ρ':Ro}{pre:List Nat}{h h':Heap},(∀ w,Hp h W w→J ρ pre w)→Le ρ ρ'→(∀ b o,ρ' b=some o→ρ b=some o∨h.size≤b)→(∀ b,b<h.size→h'[b]?=h[b]?)→(∀ b o,ρ' b=some o→h'[b]?=some o)→∀ w,Hp h' W w→J ρ' pre w:=fun {ρ ρ' pre h h'} hJ hl hn hk hla w hw=>by
  have hh:=hw.heap
  subst hh
  exact hJa ρ ρ' pre { w with heap:=h } w (hJ _ (hp_back hw)) hl hn hk hla ⟨rfl,rfl,rfl,rfl⟩
 have h0':∀ w,Hp W.heap W w→J ρ [] w:=fun w hw=>hJa ρ ρ [] W w h0 (Le.refl _) (fun b o h=>.inl h) (fun b _=>by rw [hw.heap]) (fun b o h=>by rw [hw.heap];exact hJr _ _ _ h0 b o h) ⟨rfl,hw.os,hw.tape,hw.output⟩
 refine C.seq (C.byV (T:=T) T_ok rfl rfl (k:=fun e=>match e with
  | .normal=>fun env' ro' own'=>∃ B,own'=[.blk B 113 (setV s)]∧Sub [(1,.func (.yield l) #[] #[]),(2,.pointer (some ⟨B,0,none⟩))] env'
  | _=>fun _ _ _=>False) ?_ ?_)
 ·repeat first|exact zE|refine wkG ?_|refine zB fun b=>?_|refine zC fun a' c' hc1 hc2=>?_|(show GJ _ _ _ _ _ _ _;first|(apply GJ.a;exact rfl;intro hg)|(apply GJ.o;exact rfl;intro hg)|refine GJ.t zO ?_|refine GJ.f zO ?_|refine GJ.ft zO ?_|refine GJ.ff zO ?_)
  exact ⟨_,rfl,Sub.z⟩
 rintro e env' ro' own' h' hl hk hs'
 cases e<;>first|exact hk.elim|skip
 obtain ⟨B,rfl,hsub⟩:=hk
 have hBrow:h'[B]?=some (.cells (setV s).toArray 113 (0,0)):=hs'.parts (.blk B 113 (setV s)) (by simp)
 have hBsz:W.heap.size≤B:=by
  refine Nat.le_of_not_lt fun hlt=>?_
  have h1:=hs'.ap _ (List.mem_singleton.2 rfl) B (by simp [Chunk.fp])
  rw [hl.le B _ (Array.getElem?_eq_getElem hlt)] at h1
  cases h1
 obtain ⟨ρ2,hρ2⟩:∃ ρ2:Ro,∀ b,ρ2 b=if b=B then some (.cells (setV s).toArray 113 (0,0)) else ρ b:=⟨_,fun b=>rfl⟩
 have hkeep:∀ b,b<W.heap.size→h'[b]?=W.heap[b]?:=fun b hb=>by
  rw [Array.getElem?_eq_getElem hb]
  exact hs'.last b _ (hl.le b _ (Array.getElem?_eq_getElem hb))
 have h1':∀ w,Hp h' W w→J ρ2 [] w:=hup h0' ⟨fun b o hb=>by
   rw [hρ2,if_neg (fun e=>by
    subst e
    have:=(Array.getElem?_eq_some_iff.1 (hJr _ _ _ h0 _ _ hb)).1
    omega)];exact hb⟩ (fun b o hb=>by
   rw [hρ2] at hb
   by_cases e:b=B
   ·subst e;exact .inr hBsz
   ·rw [if_neg e] at hb;exact .inl hb) hkeep (fun b o hb=>by
   rw [hρ2] at hb
   by_cases e:b=B
   ·subst e;rw [if_pos rfl] at hb;cases hb;exact hBrow
   ·rw [if_neg e] at hb
    have h1:=hJr _ _ _ h0 _ _ hb
    have hlt:=(Array.getElem?_eq_some_iff.1 h1).1
    rw [hkeep b hlt];exact h1)
 have hρB:ρ2 B=some (.cells (setV s).toArray 113 (0,0)):=by rw [hρ2];exact if_pos rfl
 refine N.then_normal (N.wp (C.sub _ hsub ?_))
 clear hsub hl hs' h0' hρ2 hkeep hBrow hBsz
 refine C.seq (C.region (L.pure (Pu.move rfl) rfl (L.nil (N.then_normal (N.wp ?_)))))
 refine C.block (C.loop (ι:=Nat) (n:=fun _=>⟨20,[]⟩) (fun c=>[(5,.int .i64 (c:Int)),(1,.func (.yield l) #[] #[]),(2,.pointer (some ⟨B,0,none⟩))]) (fun c h=>c≤256∧∀ w,Hp h W w→J ρ2 ((List.range c).filter s.has) w) (fun c=>256-c) 0 ⟨by omega,h1'⟩ (by repeat (first|exact trivial|refine Sub.cons rfl ?_)) ?_)
 clear h1'
 rintro c h ⟨hc,hJ⟩
 refine C.seq (C.region (L.pure (Pu.lss rfl rfl) rfl (L.nil (N.then_normal (N.wp ?_)))))
 refine C.seq (C.dec rfl (fun hlt=>C.skip (N.then_normal (N.wp ?_))) (fun hge=>C.exit (N.then_exit (N.then_exit (N.block_same ?_)))))
 rotate_left
 ·obtain rfl:c=256:=by omega
  exact fun a w hf hw=>⟨hf.defers,.tuple #[],by simp [results,show (Tryz.f60).results=#[] from rfl],_,rfl,.inl ⟨ρ2,hJ w hw⟩⟩
 have hlt:c<256:=by omega
 have hRow:RowR (hm h) B 113 (setV s):=hJr _ _ _ (hJ { W with heap:=h } ⟨rfl,rfl,rfl,rfl⟩) _ _ hρB
 refine C.seq (C.block (C.seq (C.region (L.pure (Pu.move rfl) rfl (L.pure (Pu.assign rfl) rfl (L.nil (N.then_normal (N.wp ?_))))))))
 refine C.seq (C.regionI (LI.split (ops:=[_,_,_,_,_]) (rest:=_) rfl (L.byV (T:=T) T_ok rfl (k:=fun env' ro' own'=>Sub [(12,.bool (s.has c)),(1,.func (.yield l) #[] #[]),(2,.pointer (some ⟨B,0,none⟩)),(4,.int .i64 (c:Int)),(5,.int .i64 (c:Int))] env') ?_ ?_)))
 ·repeat first|exact zE|refine wkG ?_|refine zB fun b=>?_|refine zC fun a' c' hc1 hc2=>?_|(show GJ _ _ _ _ _ _ _;first|(apply GJ.a;exact rfl;intro hg)|(apply GJ.o;exact rfl;intro hg)|refine GJ.t zO ?_|refine GJ.f zO ?_|refine GJ.ft zO ?_|refine GJ.ff zO ?_)
  refine OpOk.loadRow rfl rfl (LdN.lastBlk hRow) rfl ?_
  repeat first|exact zE|refine wkG ?_|refine zB fun b=>?_|refine zC fun a' c' hc1 hc2=>?_|(show GJ _ _ _ _ _ _ _;first|(apply GJ.a;exact rfl;intro hg)|(apply GJ.o;exact rfl;intro hg)|refine GJ.t zO ?_|refine GJ.f zO ?_|refine GJ.ft zO ?_|refine GJ.ff zO ?_)
  have e1:(c:Int) % 256=(c:Int):=by omega
  rw [e1]
  refine zG9 hs hlt ?_
  repeat first|exact zE|refine wkG ?_|refine zB fun b=>?_|refine zC fun a' c' hc1 hc2=>?_|(show GJ _ _ _ _ _ _ _;first|(apply GJ.a;exact rfl;intro hg)|(apply GJ.o;exact rfl;intro hg)|refine GJ.t zO ?_|refine GJ.f zO ?_|refine GJ.ft zO ?_|refine GJ.ff zO ?_)
  exact (by repeat (first|exact trivial|refine Sub.cons rfl ?_))
 rintro env' ro' own' h' hl hsub hs'
 have hJ':∀ w,Hp h' W w→J ρ2 ((List.range c).filter s.has) w:=by
  have hkp:∀ b,b<h.size→h'[b]?=h[b]?:=fun b hb=>by
   rw [Array.getElem?_eq_getElem hb]
   exact hs'.last b _ (hl.le b _ (Array.getElem?_eq_getElem hb))
  refine hup hJ (Le.refl _) (fun b o h=>.inl h) hkp (fun b o hb=>?_)
  have h1:=hJr _ _ _ (hJ { W with heap:=h } ⟨rfl,rfl,rfl,rfl⟩) _ _ hb
  rw [hkp b (Array.getElem?_eq_some_iff.1 h1).1];exact h1
 have hsplit:(List.range (c+1)).filter s.has=(List.range c).filter s.has++(if s.has c=true then [c] else []):=by
  rw [List.range_succ,List.filter_append]
  congr 1
  by_cases e:s.has c=true<;>simp [e]
 refine N.sub _ hsub (N.normalI ?_)
 cases hh:s.has c with
 | false =>
   rw [hh] at hsplit
   simp only [Bool.false_eq_true,if_false,List.append_nil] at hsplit
   refine LI.all rfl (L.guard_not rfl rfl rfl (L.guard_not rfl rfl rfl (L.guard_not rfl rfl rfl (L.guard_not rfl rfl rfl (L.guard_not rfl rfl rfl (L.pure (Pu.pickF rfl rfl) rfl (L.nil (N.normalA ?_))))))))
   refine N.then_normal (N.wp (C.ff rfl (C.skip (N.block_normal (N.then_normal (N.wp (C.region (L.pure (Pu.addI rfl rfl (by omega)) rfl (L.pure (Pu.move rfl) rfl (L.nil (N.then_normal ?_)))))))))))
   refine N.round (n:=fun _=>⟨20,[]⟩) (c+1) ?_ ?_ ?_
   ·exact ⟨by omega,by rw [hsplit];exact hJ'⟩
   ·omega
   ·exact (by repeat (first|exact trivial|refine Sub.cons rfl ?_))
 | true =>
   rw [hh] at hsplit
   simp only [if_true] at hsplit
   refine LI.split (ops:=[_,_,_]) (rest:=_) rfl (L.guard rfl rfl (L.pure (Pu.move rfl) rfl (L.guard rfl rfl (L.pure (Pu.move rfl) rfl (L.guard rfl rfl (L.pure (Pu.convU8 rfl Tryz.underlying3 Tryz.underlying5) rfl (L.nil (N.normalI ?_))))))))
   refine LI.guard rfl rfl (LI.yield rfl (vs:=[.int .u8 ((c % 256:Nat):Int)]) rfl rfl (fun w hw=>?_))
   have hx:zEZ s=(List.range c).filter s.has++c::((List.range' (c+1) (255-c)).filter s.has):=by
    have e:List.range 256=List.range c++c::List.range' (c+1) (255-c):=by
     rw [List.range_eq_range',List.range_eq_range',show (256:Nat)=c+(1+(255-c)) by omega,←List.range'_append_1]
     rw [Nat.zero_add,show 1+(255-c)=(255-c)+1 by omega,List.range'_succ]
    unfold zEZ
    rw [e,List.filter_append,List.filter_cons,if_pos hh]
   obtain ⟨fn,tmps,assign,body,hy,hR⟩:=hJy ρ2 _ c _ w hx (hJ' w hw)
   rw [Nat.mod_eq_of_lt hlt]
   refine ⟨fn,tmps,assign,body,hy,hR.mono fun e w' he=>?_⟩
   rcases he with ⟨rfl,hJ2⟩|⟨rfl,hJ2⟩
   ·refine ⟨_,rfl,hJp _ _ _ hJ2,fun a' hf'=>?_⟩
    have hJ3:∀ w2,Hp w'.heap W w2→J ρ2 ((List.range (c+1)).filter s.has) w2:=fun w2 hw2=>by
     rw [hsplit]
     exact hJa ρ2 ρ2 _ w' w2 hJ2 (Le.refl _) (fun b o h=>.inl h) (fun b _=>by rw [hw2.heap]) (fun b o h=>by rw [hw2.heap];exact hJr _ _ _ hJ2 b o h) ⟨rfl,hw2.os.trans (hJp _ _ _ hJ2).os.symm,hw2.tape.trans (hJp _ _ _ hJ2).tape.symm,hw2.output.trans (hJp _ _ _ hJ2).output.symm⟩
    refine LI.all rfl (L.guard rfl rfl (L.pure (Pu.not rfl) rfl (L.pure (Pu.pickT rfl rfl) rfl (L.nil (N.normalA ?_))))) a' w' hf' (hJp _ _ _ hJ2)
    refine N.then_normal (N.wp (C.ff rfl (C.skip (N.block_normal (N.then_normal (N.wp (C.region (L.pure (Pu.addI rfl rfl (by omega)) rfl (L.pure (Pu.move rfl) rfl (L.nil (N.then_normal ?_)))))))))))
    refine N.round (n:=fun _=>⟨20,[]⟩) (c+1) ?_ ?_ ?_
    ·exact ⟨by omega,hJ3⟩
    ·omega
    ·exact (by repeat (first|exact trivial|refine Sub.cons rfl ?_))
   ·refine ⟨_,rfl,hJxp _ hJ2,fun a' hf'=>?_⟩
    have hJ3:∀ w2,Hp w'.heap W w2→Jx w2:=fun w2 hw2 =>
     hJx w' w2 hJ2 hw2.heap ⟨rfl,hw2.os.trans (hJxp _ hJ2).os.symm,hw2.tape.trans (hJxp _ hJ2).tape.symm,hw2.output.trans (hJxp _ hJ2).output.symm⟩
    refine LI.all rfl (L.guard rfl rfl (L.pure (Pu.not rfl) rfl (L.pure (Pu.pickT rfl rfl) rfl (L.nil (N.normalA ?_))))) a' w' hf' (hJxp _ hJ2)
    refine N.then_normal (N.wp (C.tt rfl (C.ret (N.block_ret (N.then_ret (N.then_ret (N.block_ret ?_)))))))
    exact fun a w hf hw=>⟨hf.defers,.tuple #[],by simp [results,show (Tryz.f60).results=#[] from rfl],_,rfl,.inr (hJ3 w hw)⟩
theorem zNO {s:SetD}{c:Nat} (h:c∈zEZ s):c<256:=List.mem_range.1 (List.mem_filter.1 h).1
section
variable {ro:Ro}{own r:Chs}{K:Value→Ro→Chs→Prop}{g:Chunk→Chs}
end
end Go.Proofs.YtmaennnkaoollaaGreatDoor
end
section
namespace Go.Proofs
open Go.Shelf
def Tryz.laysContains_ren:Go.Shelf.Ren:=⟨fun|143=>21|144=>7|217=>81|219=>51|224=>83|225=>82|266=>99|267=>84|314=>100|n=>n,fun|3=>3|4=>4|5=>5|9=>9|46=>137|51=>157|146=>163|n=>n,fun|1=>1|n=>n⟩
theorem Tryz.laysContains:Go.Proofs.Lays.n144 Tryz.prog Tryz.laysContains_ren:={
 mixed:=by kernel_rfl
 f143:=Tryz.func21.trans (congrArg some (by kernel_rfl))
 f144:=Tryz.func7.trans (congrArg some (by kernel_rfl))
 f217:=Tryz.func81.trans (congrArg some (by kernel_rfl))
 f219:=Tryz.func51.trans (congrArg some (by kernel_rfl))
 f224:=Tryz.func83.trans (congrArg some (by kernel_rfl))
 f225:=Tryz.func82.trans (congrArg some (by kernel_rfl))
 f266:=Tryz.func99.trans (congrArg some (by kernel_rfl))
 f267:=Tryz.func84.trans (congrArg some (by kernel_rfl))
 f314:=Tryz.func100.trans (congrArg some (by kernel_rfl))
 t3:=Tryz.underlying3
 a3:=Tryz.isAgg3
 z3:=Tryz.sizeOf3
 v3:=Tryz.zeroValue3
 t4:=Tryz.underlying4
 a4:=Tryz.isAgg4
 z4:=Tryz.sizeOf4
 v4:=Tryz.zeroValue4
 t5:=Tryz.underlying5
 a5:=Tryz.isAgg5
 z5:=Tryz.sizeOf5
 v5:=Tryz.zeroValue5
 t9:=Tryz.underlying9
 a9:=Tryz.isAgg9
 z9:=Tryz.sizeOf9
 v9:=Tryz.zeroValue9
 t46:=Tryz.underlying137
 a46:=Tryz.isAgg137
 z46:=Tryz.sizeOf137
 v46:=Tryz.zeroValue137
 t51:=Tryz.underlying157
 a51:=Tryz.isAgg157
 z51:=Tryz.sizeOf157
 v51:=Tryz.zeroValue157
 t146:=Tryz.underlying163
 a146:=Tryz.isAgg163
 z146:=Tryz.sizeOf163
 v146:=Tryz.zeroValue163
 g1:=by kernel_rfl }
end Go.Proofs
namespace Go.E
open Go
theorem CallOk.ofCell {P:Program}{f:FuncId}{ro:Ro}{own:Chs}{K:Value→Ro→Chs→Prop}{args:Array Value}{v x:Value}{b:Nat} (enter:∀ args w,(callFunc f args).run P w=.ok (.enter f args) w) (hl:Ld ro own b 0 x)
  (h:∀ w:World,w.cell? ⟨b,0,none⟩=some x→Calls P f args w fun e w'=>e=.returned v∧w'=w) (hk:K v ro own):CallOk P f args ro own K :=
 CallOk.body enter fun h0 hs w hw=>(h w (by subst hw;rw [zCz];exact hl _ hs)).mono fun e w' ⟨he,hb⟩=>⟨v,he,by subst hb;exact ⟨rfl,rfl,rfl,rfl⟩,ro,own,Le.refl _,by subst hb;rw [hw];exact hs,hk⟩
end Go.E
namespace Go.Proofs.YtmaennnkaoollaaGreatDoor
open Go Go.E
def MaxOk (ro:Ro):Prop:=∃ m:Int,∀ own,Ld ro own 1 0 (.int .i64 m)
section
variable {ro:Ro}{own q:Chs}{K:Value→Ro→Chs→Prop}
theorem zH7 {x y:List UInt8} (hM:MaxOk ro) (hx:x.length≤1000000) (hk:K (.bool (Lib.contains x y)) ro own):CallOk Tryz.prog 7 #[str x,str y] ro own K:=by
 obtain ⟨m,hm⟩:=hM
 refine CallOk.ofCell Tryz.call7 (hm own) (fun w hw=>?_) hk
 have h:=Go.Proofs.Any.strings_Contains Tryz.laysContains ⟨x.toArray⟩ ⟨y.toArray⟩ m w (by simp [ByteArray.size];omega) hw
 rw [show Tryz.laysContains_ren.f 144=7 by kernel_rfl] at h
 exact h
end
end Go.Proofs.YtmaennnkaoollaaGreatDoor
end
section
namespace Go.E
open Go
theorem zCW {P:Program}{t:TypeId}{q:IntKind} (d:Nat) (hu:P.underlying t=some (.int q)) {z:Int} (hw:(Lit.int q z).wf=true):P.keyLits (d+1) t [.int q z]=some [.int q z]:=by
 unfold Program.keyLits
 rw [hu]
 dsimp only
 rw [if_pos ⟨rfl,hw⟩]
theorem zJm {P:Program}{k e:TypeId}{q:IntKind} (d:Nat) (hk:P.underlying k=some (.array 2 e)) (he:P.underlying e=some (.int q)) (c1:P.cellsOf e=1) (c2:P.cellsOf k=2) {x y:Int} (hx:(Lit.int q x).wf=true) (hy:(Lit.int q y).wf=true) :
  P.keyLits (d+1+1) k [.int q x,.int q y]=some [.int q x,.int q y]:=by
 unfold Program.keyLits
 rw [hk]
 dsimp only
 rw [if_pos (by rw [c2];rfl),c1,show List.range 2=[0,1] from rfl]
 have e1:=zCW d he hx
 have e2:=zCW d he hy
 simp [List.mapM_cons,e1,e2]
theorem zIr {P : Program} {k e : TypeId} {q : IntKind} {f1 f2 : Field} (d : Nat) (hk : P.underlying k = some (.struct #[f1, f2])) (hn : (#[f1, f2] : Array Field).all (·.name != "_") = true) (o1 : f1.offset = 0) (o2 : f2.offset = 1) (t1 : f1.type = e) (t2 : f2.type = e)
  (he:P.underlying e=some (.int q)) (c1:P.cellsOf e=1) (c2:P.cellsOf k=2) {x y:Int} (hx:(Lit.int q x).wf=true) (hy:(Lit.int q y).wf=true) :
  P.keyLits (d+1+1) k [.int q x,.int q y]=some [.int q x,.int q y]:=by
 unfold Program.keyLits
 rw [hk]
 dsimp only
 rw [if_pos ⟨by rw [c2];rfl,hn⟩]
 have e1:=zCW d he hx
 have e2:=zCW d he hy
 simp [List.mapM_cons,o1,o2,t1,t2,c1,e1,e2]
theorem KeyEnc.two {P:Program}{k e:TypeId}{q:IntKind} (law:WideMaps.KeyLaw P k) (hkt:P.keyType k=true) (hp:0<P.types.size) (hk:P.underlying k=some (.array 2 e)) (he:P.underlying e=some (.int q)) (c1:P.cellsOf e=1) (c2:P.cellsOf k=2) :
  KeyEnc P k (fun p:Int × Int=>.agg #[.int q p.1,.int q p.2]) (fun p=>(Lit.int q p.1).wf=true∧(Lit.int q p.2).wf=true):=KeyEnc.ofLaw law
 (fun p h=>by
  obtain ⟨d,hd⟩:∃ d,P.types.size+1=d+1+1:=⟨P.types.size-1,by omega⟩
  have hl:=zJm d hk he c1 c2 h.1 h.2
  rw [←hd] at hl
  unfold keyOf
  rw [hk]
  dsimp only
  rw [if_pos (by
   rw [Bool.and_eq_true]
   refine ⟨hkt,?_⟩
   unfold Value.formed
   rw [hk]
   dsimp only
   rw [c2];rfl)]
  rw [show (Value.agg #[.int q p.1,.int q p.2]).cells.toList=[.int q p.1,.int q p.2] from rfl,hl]
  exact ⟨_,rfl⟩)
 (fun a b h=>by
  obtain ⟨a1,a2⟩:=a
  obtain ⟨b1,b2⟩:=b
  simp at h
  rw [h.1,h.2])
theorem KeyEnc.pair {P : Program} {k e : TypeId} {q : IntKind} {f1 f2 : Field} (law : WideMaps.KeyLaw P k) (hkt : P.keyType k = true) (hp : 0 < P.types.size) (hk : P.underlying k = some (.struct #[f1, f2])) (hn : (#[f1, f2] : Array Field).all (·.name != "_") = true) (o1 : f1.offset = 0) (o2 : f2.offset = 1) (t1 : f1.type = e) (t2 : f2.type = e)
  (he:P.underlying e=some (.int q)) (c1:P.cellsOf e=1) (c2:P.cellsOf k=2) :
  KeyEnc P k (fun p:Int × Int=>.agg #[.int q p.1,.int q p.2]) (fun p=>(Lit.int q p.1).wf=true∧(Lit.int q p.2).wf=true):=KeyEnc.ofLaw law
 (fun p h=>by
  obtain ⟨d,hd⟩:∃ d,P.types.size+1=d+1+1:=⟨P.types.size-1,by omega⟩
  have hl:=zIr d hk hn o1 o2 t1 t2 he c1 c2 h.1 h.2
  rw [←hd] at hl
  unfold keyOf
  rw [hk]
  dsimp only
  rw [if_pos (by
   rw [Bool.and_eq_true]
   refine ⟨hkt,?_⟩
   unfold Value.formed
   rw [hk]
   dsimp only
   rw [c2];rfl)]
  rw [show (Value.agg #[.int q p.1,.int q p.2]).cells.toList=[.int q p.1,.int q p.2] from rfl,hl]
  exact ⟨_,rfl⟩)
 (fun a b h=>by
  obtain ⟨a1,a2⟩:=a
  obtain ⟨b1,b2⟩:=b
  simp at h
  rw [h.1,h.2])
section
variable {P:Program}{T:TT} [hT:TTab P T]
theorem CodeOk.scope {a:Code}{k:Exit→Kt}{env:Env}{ro:Ro}{own:Chs} (hv:V P T a (fun e=>match e with
  | .goto _=>fun _ _ _=>False
  | e=>k e) env ro own):CodeOk P (.scope a) k env ro own :=
 ⟨fun n σ Q hok hk h hs a' w hf hw=>wp_scope_straight ((zC0 hT.ok hv).run n σ (Exit.noGoto Q) (by simpa [okS] using hok) (fun e env' ro' own' D h' hl hk' hs' hm=>by
  cases e<;>first|exact hk'.elim|exact fun a2 w2 hf2 hw2=>hk _ env' ro' own' D h' hl hk' hs' hm a2 w2 hf2 hw2) h hs a' w hf hw)⟩
end
end Go.E
namespace Go.Proofs.YtmaennnkaoollaaGreatDoor
open Go Go.E
def letB (u:UInt8):Bool:=(decide (97≤u.toNat)&&decide (u.toNat≤122))||(decide (65≤u.toNat)&&decide (u.toNat≤90))||decide (u.toNat=95)
def digB (u:UInt8):Bool:=decide (48≤u.toNat)&&decide (u.toNat≤57)
def nlB (u:UInt8):Bool:=decide (u.toNat≠10)
def zEb (u:UInt8):Bool:=letB u||digB u
def patB (u:UInt8):Bool:=decide (u.toNat≠47)&&(decide (32≤u.toNat)&&decide (u.toNat<127))
def zGM (f:FuncId) (S:UInt8→Bool):Prop:=∀ (u:UInt8) (ro:Ro) (own:Chs) (K:Value→Ro→Chs→Prop),K (.bool (S u)) ro own→CallOk Tryz.prog f #[.int .u8 ((u.toNat:Nat):Int)] ro own K
theorem zIq:zGM 40 letB:=fun u ro own K hk=>by
 have hu:=u.toNat_lt
 have hl:letB u=((decide (97≤u.toNat)&&decide (u.toNat≤122))||(decide (65≤u.toNat)&&decide (u.toNat≤90))||decide (u.toNat=95)):=rfl
 generalize letB u=q at hl hk
 refine CallOk.intro (args:=[_]) (rs:=[_]) T_ok Tryz.func40 Tryz.call40 rfl rfl (by kernel_rfl) rfl rfl ?_
 by_cases h1:97≤u.toNat<;>by_cases h2:u.toNat≤122<;>by_cases h3:65≤u.toNat<;>by_cases h4:u.toNat≤90
 all_goals
  try omega
 all_goals
  repeat first|exact zE|refine wkT ?_|refine zB fun b=>?_|refine zC fun a' c' hc1 hc2=>?_|(apply GJ.a;exact rfl;intro hg)|(apply GJ.o;exact rfl;intro hg)
  refine Wk.outV Sup.z hk (congrArg Value.bool ?_)
  rw [hl]
  simp [h1,h2,h3,h4]
  try omega
theorem zFF:zGM 42 digB:=fun u ro own K hk=>by
 have hu:=u.toNat_lt
 have hl:digB u=(decide (48≤u.toNat)&&decide (u.toNat≤57)):=rfl
 generalize digB u=q at hl hk
 refine CallOk.intro (args:=[_]) (rs:=[_]) T_ok Tryz.func42 Tryz.call42 rfl rfl (by kernel_rfl) rfl rfl ?_
 by_cases h1:48≤u.toNat<;>by_cases h2:u.toNat≤57
 all_goals
  try omega
 all_goals
  repeat first|exact zE|refine wkT ?_|refine zB fun b=>?_|refine zC fun a' c' hc1 hc2=>?_|(apply GJ.a;exact rfl;intro hg)|(apply GJ.o;exact rfl;intro hg)
  refine Wk.outV Sup.z hk (congrArg Value.bool ?_)
  rw [hl]
  simp [h1,h2]
  try omega
theorem nl_ok:zGM 39 nlB:=fun u ro own K hk=>by
 have hu:=u.toNat_lt
 refine CallOk.intro (args:=[_]) (rs:=[_]) T_ok Tryz.func39 Tryz.call39 rfl rfl (by kernel_rfl) rfl rfl ?_
 repeat first|exact zE|refine wkT ?_|refine zB fun b=>?_|refine zC fun a' c' hc1 hc2=>?_|(apply GJ.a;exact rfl;intro hg)|(apply GJ.o;exact rfl;intro hg)
 refine Wk.outV Sup.z hk (congrArg Value.bool ?_)
 unfold nlB
 rw [decide_eq_decide]
 omega
theorem word_ok:zGM 41 zEb:=fun u ro own K hk=>by
 have hu:=u.toNat_lt
 have hw:zEb u=(letB u||digB u):=rfl
 generalize zEb u=q at hw hk
 refine CallOk.intro (args:=[_]) (rs:=[_]) T_ok Tryz.func41 Tryz.call41 rfl rfl (by kernel_rfl) rfl rfl ?_
 repeat first|exact zE|refine wkT ?_|refine zB fun b=>?_|refine zC fun a' c' hc1 hc2=>?_|(apply GJ.a;exact rfl;intro hg)|(apply GJ.o;exact rfl;intro hg)
 refine zIq u _ _ _ ?_
 obtain ⟨x,hx⟩:∃ x,letB u=x:=⟨_,rfl⟩
 rw [hx] at hw ⊢
 cases x with
 | true =>
   repeat first|exact zE|refine wkT ?_|refine zB fun b=>?_|refine zC fun a' c' hc1 hc2=>?_|(apply GJ.a;exact rfl;intro hg)|(apply GJ.o;exact rfl;intro hg)
   exact Wk.outV Sup.z hk (by rw [hw];rfl)
 | false =>
   repeat first|exact zE|refine wkT ?_|refine zB fun b=>?_|refine zC fun a' c' hc1 hc2=>?_|(apply GJ.a;exact rfl;intro hg)|(apply GJ.o;exact rfl;intro hg)
   refine zFF u _ _ _ ?_
   repeat first|exact zE|refine wkT ?_|refine zB fun b=>?_|refine zC fun a' c' hc1 hc2=>?_|(apply GJ.a;exact rfl;intro hg)|(apply GJ.o;exact rfl;intro hg)
   exact Wk.outV Sup.z hk (by rw [hw];rfl)
theorem pat_ok:zGM 70 patB:=fun u ro own K hk=>by
 have hu:=u.toNat_lt
 have hl:patB u=(decide (u.toNat≠47)&&(decide (32≤u.toNat)&&decide (u.toNat<127))):=rfl
 generalize patB u=q at hl hk
 refine CallOk.intro (args:=[_]) (rs:=[_]) T_ok Tryz.func70 Tryz.call70 rfl rfl (by kernel_rfl) rfl rfl ?_
 by_cases h1:u.toNat=47<;>by_cases h2:32≤u.toNat<;>by_cases h3:u.toNat<127
 all_goals
  try omega
 all_goals
  repeat first|exact zE|refine wkT ?_|refine zB fun b=>?_|refine zC fun a' c' hc1 hc2=>?_|(apply GJ.a;exact rfl;intro hg)|(apply GJ.o;exact rfl;intro hg)
  refine Wk.outV Sup.z hk (congrArg Value.bool ?_)
  rw [hl]
  simp [h1,h2,h3]
  try omega
theorem zET {α:Type}{S:α→Bool}:∀ {l:List α}{i:Nat}{u:α},l[i]?=some u→(i<(l.takeWhile S).length→S u=true)∧(i=(l.takeWhile S).length→S u=false)
 | [],i,u,h=>by simp at h
 | x::l,0,u,h=>by
   simp at h;subst h
   rw [List.takeWhile_cons]
   cases hx:S x<;>simp [hx]
 | x::l,i+1,u,h=>by
   have ih:=zET (S:=S) (l:=l) (i:=i) (u:=u) (by simpa using h)
   rw [List.takeWhile_cons]
   cases hx:S x with
   | false=>simp
   | true=>simp;exact ih
theorem zBI {α:Type} (S:α→Bool) (l:List α):(l.takeWhile S).length≤l.length:=(List.takeWhile_sublist S).length_le
theorem zGf {α:Type} (S:α→Bool) (l:List α):l.takeWhile S=l.take (l.takeWhile S).length:=List.prefix_iff_eq_take.1 (List.takeWhile_prefix S)
theorem cutW {S:UInt8→Bool}{tx:List UInt8}{a i:Nat} (h:((tx.drop a).takeWhile S).length=i):(tx.drop a).takeWhile S=List.take (((a+i:Nat):Int).toNat-(a:Int).toNat) (List.drop (a:Int).toNat tx):=by
 rw [Int.toNat_natCast,Int.toNat_natCast,show a+i-a=i by omega,←h]
 exact zGf S _
section
variable {ro:Ro}{own r:Chs}{K:Value→Ro→Chs→Prop}{g:Chunk→Chs}
theorem zFf {fid:FuncId}{S:UInt8→Bool}{b a:Nat}{tx:List UInt8}{o:Value} (hS:zGM fid S) (hat:a≤tx.length) (hl:tx.length≤100000)
  (hk:K (str ((tx.drop a).takeWhile S)) ro (.blk b 55 [str tx,.int .i64 ((a+((tx.drop a).takeWhile S).length:Nat):Int),o]::r)):CallOk Tryz.prog 38 #[ptr' b,.func (.func fid) #[] #[]] ro (.blk b 55 [str tx,.int .i64 (a:Int),o]::r) K:=by
 obtain ⟨m,hm⟩:∃ m,((tx.drop a).takeWhile S).length=m:=⟨_,rfl⟩
 have hml:m≤tx.length-a:=by rw [←hm];exact Nat.le_trans (zBI _ _) (by simp)
 rw [hm] at hk
 refine CallOk.intro (args:=[_,_]) (rs:=[_]) T_ok Tryz.func38 Tryz.call38 rfl rfl (by kernel_rfl) rfl rfl ?_
 repeat first|exact zE|refine wkT ?_|refine zB fun b=>?_|refine zC fun a' c' hc1 hc2=>?_|(apply GJ.a;exact rfl;intro hg)|(apply GJ.o;exact rfl;intro hg)
 refine LoopOk.at (ι:=Nat) Keep.z (fun i=>[]) (fun i=>.blk b 55 [str tx,.int .i64 ((a+i:Nat):Int),o]::r) (fun i=>i≤m) (fun i=>m-i) 0 ?_ Sub.z Sup.z ?_
 ·exact Nat.zero_le _
 rintro i i1
 dsimp only [List.cons_append,List.nil_append] at i1 ⊢
 by_cases hb:a+i<tx.length
 ·obtain ⟨u,hu⟩:∃ u,tx[a+i]?=some u:=⟨_,List.getElem?_eq_getElem hb⟩
  have hu2:tx[((a+i:Nat):Int).toNat]! = u:=by
   rw [Int.toNat_natCast,List.getElem!_eq_getElem?_getD,hu];rfl
  have hw:=zET (S:=S) (l:=tx.drop a) (i:=i) (u:=u) (by rw [List.getElem?_drop];exact hu)
  rw [hm] at hw
  repeat first|exact zE|refine wkA ?_|refine zB fun b=>?_|refine zC fun a' c' hc1 hc2=>?_|(apply GJ.a;exact rfl;intro hg)|(apply GJ.o;exact rfl;intro hg)
  try rw [hu2]
  refine hS u _ _ _ ?_
  cases hs:S u with
  | true =>
    repeat first|exact zE|refine wkA ?_|refine zB fun b=>?_|refine zC fun a' c' hc1 hc2=>?_|(apply GJ.a;exact rfl;intro hg)|(apply GJ.o;exact rfl;intro hg)
    refine Wk.id ⟨i+1,⟨rfl,?_⟩,?_,Sub.z,Sup.z⟩
    all_goals try dsimp only
    ·have:i≠m:=fun e=>by have:=hw.2 e;rw [hs] at this;cases this
     omega
    ·have:i≠m:=fun e=>by have:=hw.2 e;rw [hs] at this;cases this
     omega
  | false =>
    have him:i=m:=by
     apply Classical.byContradiction
     intro e
     have:=hw.1 (by omega)
     rw [hs] at this;cases this
    subst him
    repeat first|exact zE|refine wkA ?_|refine zB fun b=>?_|refine zC fun a' c' hc1 hc2=>?_|(apply GJ.a;exact rfl;intro hg)|(apply GJ.o;exact rfl;intro hg)
    exact Wk.outV Sup.z hk (congrArg str (cutW hm))
 ·obtain rfl:i=m:=by omega
  repeat first|exact zE|refine wkA ?_|refine zB fun b=>?_|refine zC fun a' c' hc1 hc2=>?_|(apply GJ.a;exact rfl;intro hg)|(apply GJ.o;exact rfl;intro hg)
  exact Wk.outV Sup.z hk (congrArg str (cutW hm))
end
def gapD:Bool→List UInt8→Nat
 | _,[]=>0
 | n,c::r=>if c.toNat=10 then 1+gapD false r else if n=true∨c.toNat=32∨c.toNat=9∨c.toNat=13 then 1+gapD n r else if c.toNat=35 then 1+gapD true r else 0
theorem zHl:∀ (l:List UInt8) (n:Bool),gapD n l≤l.length
 | [],n=>by cases n<;>simp [gapD]
 | c::r,n=>by
   have h1:=zHl r false
   have h2:=zHl r true
   have h3:=zHl r n
   rw [gapD,List.length_cons]
   split
   ·omega
   ·split
    ·omega
    ·split
     ·omega
     ·omega
theorem zIw:∀ (r:List UInt8),gapD true r=(r.takeWhile nlB).length+gapD false (r.drop (r.takeWhile nlB).length)
 | []=>rfl
 | c::r=>by
   rw [List.takeWhile_cons]
   by_cases h:c.toNat=10
   ·have:nlB c=false:=by unfold nlB;simp [h]
    rw [this]
    simp [gapD,h]
   ·have:nlB c=true:=by unfold nlB;simp [h]
    rw [this,gapD,if_neg h,if_pos (.inl rfl),zIw r]
    simp
    omega
theorem zNk {c:UInt8} (r:List UInt8) (h:c.toNat=35):gapD false (c::r)=((c::r).takeWhile nlB).length+gapD false ((c::r).drop ((c::r).takeWhile nlB).length):=by
 have h1:nlB c=true:=by unfold nlB;simp [h]
 rw [List.takeWhile_cons,h1,gapD,if_neg (by omega),if_neg (by simp;omega),if_pos h,zIw r]
 simp
 omega
section
variable {ro:Ro}{own r:Chs}{K:Value→Ro→Chs→Prop}{g:Chunk→Chs}
theorem gap_ok {b a:Nat}{tx:List UInt8}{o:Value} (hat:a≤tx.length) (hl:tx.length≤100000)
  (hk:K (.tuple #[]) ro (.blk b 55 [str tx,.int .i64 ((a+gapD false (tx.drop a):Nat):Int),o]::r)):CallOk Tryz.prog 16 #[ptr' b] ro (.blk b 55 [str tx,.int .i64 (a:Int),o]::r) K:=by
 refine CallOk.intro (args:=[_]) (rs:=[]) T_ok Tryz.func16 Tryz.call16 rfl rfl (by kernel_rfl) rfl rfl ?_
 repeat first|exact zE|refine wkT ?_|refine zB fun b=>?_|refine zC fun a' c' hc1 hc2=>?_|(apply GJ.a;exact rfl;intro hg)|(apply GJ.o;exact rfl;intro hg)
 refine CodeOk.scope ?_
 repeat first|exact zE|refine wkT ?_|refine zB fun b=>?_|refine zC fun a' c' hc1 hc2=>?_|(apply GJ.a;exact rfl;intro hg)|(apply GJ.o;exact rfl;intro hg)
 refine LoopOk.at (ι:=Nat) Keep.z (fun i=>[]) (fun i=>.blk b 55 [str tx,.int .i64 ((a+i:Nat):Int),o]::r) (fun i=>a+i≤tx.length∧i+gapD false (tx.drop (a+i))=gapD false (tx.drop a)) (fun i=>tx.length-(a+i)) 0 ?_ Sub.z Sup.z ?_
 ·exact ⟨by omega,by simp⟩
 rintro i ⟨i1,i2⟩
 dsimp only [List.cons_append,List.nil_append] at i1 i2 ⊢
 by_cases hb:a+i<tx.length
 ·obtain ⟨u,hu⟩:∃ u,tx[a+i]?=some u:=⟨_,List.getElem?_eq_getElem hb⟩
  have hu2:tx[((a+i:Nat):Int).toNat]! = u:=by
   rw [Int.toNat_natCast,List.getElem!_eq_getElem?_getD,hu];rfl
  have hd:tx.drop (a+i)=u::tx.drop (a+(i+1)):=by
   rw [List.drop_eq_getElem_cons hb]
   congr 1
   rw [List.getElem?_eq_getElem hb] at hu
   exact Option.some.inj hu
  have hun:=u.toNat_lt
  rw [hd,gapD] at i2
  repeat first|exact zE|refine wkA ?_|refine zB fun b=>?_|refine zC fun a' c' hc1 hc2=>?_|(apply GJ.a;exact rfl;intro hg)|(apply GJ.o;exact rfl;intro hg)
  try rw [hu2]
  refine SeqOk.pass ?_
  by_cases h1:u.toNat=32
  ·rw [if_neg (by omega),if_pos (.inr (.inl h1))] at i2
   repeat first|exact zE|refine wkA ?_|refine zB fun b=>?_|refine zC fun a' c' hc1 hc2=>?_|(apply GJ.a;exact rfl;intro hg)|(apply GJ.o;exact rfl;intro hg)
   refine Wk.id ⟨i+1,⟨rfl,?_⟩,?_,Sub.z,Sup.z⟩
   all_goals try dsimp only
   ·exact ⟨by omega,by omega⟩
   ·omega
  ·by_cases h2:u.toNat=9
   ·rw [if_neg (by omega),if_pos (.inr (.inr (.inl h2)))] at i2
    repeat first|exact zE|refine wkA ?_|refine zB fun b=>?_|refine zC fun a' c' hc1 hc2=>?_|(apply GJ.a;exact rfl;intro hg)|(apply GJ.o;exact rfl;intro hg)
    refine Wk.id ⟨i+1,⟨rfl,?_⟩,?_,Sub.z,Sup.z⟩
    all_goals try dsimp only
    ·exact ⟨by omega,by omega⟩
    ·omega
   ·by_cases h3:u.toNat=10
    ·rw [if_pos h3] at i2
     repeat first|exact zE|refine wkA ?_|refine zB fun b=>?_|refine zC fun a' c' hc1 hc2=>?_|(apply GJ.a;exact rfl;intro hg)|(apply GJ.o;exact rfl;intro hg)
     refine Wk.id ⟨i+1,⟨rfl,?_⟩,?_,Sub.z,Sup.z⟩
     all_goals try dsimp only
     ·exact ⟨by omega,by omega⟩
     ·omega
    ·by_cases h4:u.toNat=13
     ·rw [if_neg h3,if_pos (.inr (.inr (.inr h4)))] at i2
      repeat first|exact zE|refine wkA ?_|refine zB fun b=>?_|refine zC fun a' c' hc1 hc2=>?_|(apply GJ.a;exact rfl;intro hg)|(apply GJ.o;exact rfl;intro hg)
      refine Wk.id ⟨i+1,⟨rfl,?_⟩,?_,Sub.z,Sup.z⟩
      all_goals try dsimp only
      ·exact ⟨by omega,by omega⟩
      ·omega
     ·by_cases h5:u.toNat=35
      ·have hh:=zNk (tx.drop (a+(i+1))) h5
       rw [gapD] at hh
       rw [hh,←hd] at i2
       have hwl:=zBI nlB (tx.drop (a+i))
       rw [List.length_drop] at hwl
       have hw1:1≤((tx.drop (a+i)).takeWhile nlB).length:=by
        have:nlB u=true:=by unfold nlB;simp [h5]
        rw [hd,List.takeWhile_cons,this];simp
       repeat first|exact zE|refine wkA ?_|refine zB fun b=>?_|refine zC fun a' c' hc1 hc2=>?_|(apply GJ.a;exact rfl;intro hg)|(apply GJ.o;exact rfl;intro hg)
       refine zFf nl_ok (by omega) hl ?_
       generalize ((tx.drop (a+i)).takeWhile nlB).length=w at *
       rw [show a+i+w=a+(i+w) by omega]
       repeat first|exact zE|refine wkA ?_|refine zB fun b=>?_|refine zC fun a' c' hc1 hc2=>?_|(apply GJ.a;exact rfl;intro hg)|(apply GJ.o;exact rfl;intro hg)
       refine Wk.id ⟨i+w,⟨rfl,?_⟩,?_,Sub.z,Sup.z⟩
       all_goals try dsimp only
       ·refine ⟨by omega,?_⟩
        rw [List.drop_drop] at i2
        rw [show a+(i+w)=a+i+w by omega]
        omega
       ·omega
      ·rw [if_neg h3,if_neg (by simp;omega),if_neg h5] at i2
       have e:gapD false (tx.drop a)=i:=by omega
       rw [e] at hk
       repeat first|exact zE|refine wkA ?_|refine zB fun b=>?_|refine zC fun a' c' hc1 hc2=>?_|(apply GJ.a;exact rfl;intro hg)|(apply GJ.o;exact rfl;intro hg)
       exact Wk.outS Sup.z (.refl _) hk
 ·have:a+i=tx.length:=by omega
  have h0:tx.drop (a+i)=[]:=List.drop_eq_nil_of_le (by omega)
  rw [h0] at i2
  have e:gapD false (tx.drop a)=i:=by rw [←i2];simp [gapD]
  rw [e] at hk
  repeat first|exact zE|refine wkA ?_|refine zB fun b=>?_|refine zC fun a' c' hc1 hc2=>?_|(apply GJ.a;exact rfl;intro hg)|(apply GJ.o;exact rfl;intro hg)
  exact Wk.outS Sup.z (.refl _) hk
end
def tokV (k a:Nat) (x:List UInt8):List Value:=[.int .i64 (k:Int),.int .i64 (a:Int),str x]
def patD (l:List UInt8):Option (List UInt8):=match (l.drop (l.takeWhile patB).length) with
 | []=>none
 | x::_=>if x.toNat=47 then some (l.takeWhile patB) else none
section
variable {ro:Ro}{own r:Chs}{K:Value→Ro→Chs→Prop}{g:Chunk→Chs}
theorem zLk {p a:Nat}{tx:List UInt8}{o:Value} (hat:a<tx.length) (hl:tx.length≤100000)
  (hk1:∀ w,patD (tx.drop (a+1))=some w→a+w.length+2≤tx.length→K (.tuple #[.agg (tokV 3 0 w).toArray,.int .i64 0]) ro (.blk p 55 [str tx,.int .i64 ((a+w.length+2:Nat):Int),o]::r))
  (hk2:patD (tx.drop (a+1))=none→∀ a':Nat,a'≤tx.length→K (.tuple #[.agg (tokV 0 0 []).toArray,.int .i64 5]) ro (.blk p 55 [str tx,.int .i64 (a':Int),o]::r)) :
  CallOk Tryz.prog 43 #[ptr' p] ro (.blk p 55 [str tx,.int .i64 (a:Int),o]::r) K:=by
 have hwl:=zBI patB (tx.drop (a+1))
 rw [List.length_drop] at hwl
 refine CallOk.intro (args:=[_]) (rs:=[_,_]) T_ok Tryz.func43 Tryz.call43 rfl rfl (by kernel_rfl) rfl rfl ?_
 repeat first|exact zE|refine wkT ?_|refine zB fun b=>?_|refine zC fun a' c' hc1 hc2=>?_|(apply GJ.a;exact rfl;intro hg)|(apply GJ.o;exact rfl;intro hg)
 refine CallOk.sup (own0:=.blk p 55 [str tx,.int .i64 ((a+1:Nat):Int),o]::.blk b 37 [.int .i64 0,.int .i64 0,str []]::r) Sup.z ?_
 refine zFf pat_ok (by omega) hl ?_
 have hpd:patD (tx.drop (a+1))=(match tx.drop (a+1+((tx.drop (a+1)).takeWhile patB).length) with
  | []=>none
  | x::_=>if x.toNat=47 then some ((tx.drop (a+1)).takeWhile patB) else none):=by unfold patD;rw [List.drop_drop]
 generalize (tx.drop (a+1)).takeWhile patB=w at *
 by_cases hb:a+1+w.length<tx.length
 ·obtain ⟨u,hu⟩:∃ u,tx[a+1+w.length]?=some u:=⟨_,List.getElem?_eq_getElem hb⟩
  have hu2:tx[((a+1+w.length:Nat):Int).toNat]! = u:=by
   rw [Int.toNat_natCast,List.getElem!_eq_getElem?_getD,hu];rfl
  have hd:tx.drop (a+1+w.length)=u::tx.drop (a+1+w.length+1):=by
   rw [List.drop_eq_getElem_cons hb]
   congr 1
   rw [List.getElem?_eq_getElem hb] at hu
   exact Option.some.inj hu
  rw [hd] at hpd
  simp only at hpd
  repeat first|exact zE|refine wkA ?_|refine zB fun b=>?_|refine zC fun a' c' hc1 hc2=>?_|(apply GJ.a;exact rfl;intro hg)|(apply GJ.o;exact rfl;intro hg)
  try rw [hu2]
  by_cases h47:u.toNat=47
  ·rw [if_pos h47] at hpd
   have hk:=hk1 w hpd (by omega)
   rw [show a+w.length+2=a+1+w.length+1 by omega] at hk
   repeat first|exact zE|refine wkA ?_|refine zB fun b=>?_|refine zC fun a' c' hc1 hc2=>?_|(apply GJ.a;exact rfl;intro hg)|(apply GJ.o;exact rfl;intro hg)
   exact Wk.outS Sup.z (.refl _) hk
  ·rw [if_neg h47] at hpd
   have hk:=hk2 hpd _ (Nat.le_of_lt hb)
   repeat first|exact zE|refine wkA ?_|refine zB fun b=>?_|refine zC fun a' c' hc1 hc2=>?_|(apply GJ.a;exact rfl;intro hg)|(apply GJ.o;exact rfl;intro hg)
   exact Wk.outS Sup.z (.refl _) hk
 ·have h0:tx.drop (a+1+w.length)=[]:=List.drop_eq_nil_of_le (by omega)
  rw [h0] at hpd
  have hk:=hk2 hpd (a+1+w.length) (by omega)
  repeat first|exact zE|refine wkA ?_|refine zB fun b=>?_|refine zC fun a' c' hc1 hc2=>?_|(apply GJ.a;exact rfl;intro hg)|(apply GJ.o;exact rfl;intro hg)
  exact Wk.outS Sup.z (.refl _) hk
theorem zKU {x y:List UInt8} (hx:x.length≤1000000) (hy:y.length≤1000000) (hk:K (.bool (y.isPrefixOf x)) ro own):CallOk Tryz.prog 73 #[str x,str y] ro own K:=by
 have hp:y.isPrefixOf x=decide (x.take y.length=y):=by
  rw [Bool.eq_iff_iff,List.isPrefixOf_iff_prefix,decide_eq_true_iff,List.prefix_iff_eq_take]
  exact eq_comm
 rw [hp] at hk
 refine CallOk.intro (args:=[_,_]) (rs:=[_]) T_ok Tryz.func73 Tryz.call73 rfl rfl (by kernel_rfl) rfl rfl ?_
 by_cases hl:y.length≤x.length
 ·repeat first|exact zE|refine wkT ?_|refine zB fun b=>?_|refine zC fun a' c' hc1 hc2=>?_|(apply GJ.a;exact rfl;intro hg)|(apply GJ.o;exact rfl;intro hg)
  exact Wk.outV Sup.z hk (congrArg Value.bool (by rw [Int.toNat_natCast]))
 ·have:decide (x.take y.length=y)=false:=by
   rw [decide_eq_false_iff_not]
   intro e
   have:=congrArg List.length e
   rw [List.length_take] at this
   omega
  rw [this] at hk
  repeat first|exact zE|refine wkT ?_|refine zB fun b=>?_|refine zC fun a' c' hc1 hc2=>?_|(apply GJ.a;exact rfl;intro hg)|(apply GJ.o;exact rfl;intro hg)
  exact Wk.outV Sup.z hk rfl
theorem zM1 {x y:List UInt8} (hx:x.length≤1000000) (hy:y.length≤1000000) (hk:K (.bool (y.isPrefixOf x)) ro own):CallOk Tryz.prog 45 #[str x,str y] ro own K:=by
 refine CallOk.intro (args:=[_,_]) (rs:=[_]) T_ok Tryz.func45 Tryz.call45 rfl rfl (by kernel_rfl) rfl rfl ?_
 repeat first|exact zE|refine wkT ?_|refine zB fun b=>?_|refine zC fun a' c' hc1 hc2=>?_|(apply GJ.a;exact rfl;intro hg)|(apply GJ.o;exact rfl;intro hg)
 refine zKU hx hy ?_
 repeat first|exact zE|refine wkT ?_|refine zB fun b=>?_|refine zC fun a' c' hc1 hc2=>?_|(apply GJ.a;exact rfl;intro hg)|(apply GJ.o;exact rfl;intro hg)
 exact Wk.outS Sup.z (.refl _) hk
end
def spI (i:Nat):Int:=if 9≤i∧i≤13∨i=32 then 1 else 0
def spL:List Int:=(List.range 256).map spI
structure SpOk (ro:Ro):Prop where
 cells:∃ cs t fr,ro 0=some (.cells cs t fr)∧∀ i,i<256→cs[i]?=some (.int .u8 (spI i))
theorem SpOk.ld {ro:Ro}{own:Chs}{o i:Nat} (h:SpOk ro) (ho:o=i) (hi:i<256):Ld ro own 0 o (.int .u8 (spI i)):=fun hp hs=>by
 subst ho
 obtain ⟨cs,t,fr,h1,h2⟩:=h.cells
 have:=hs.last _ _ h1
 rw [zBM this];exact h2 o hi
theorem SpOk.ofLaid {W : World} {x : String × DataW Unit} {rest : List (String × DataW Unit)} (h : laidMet Tryz.prog (x :: ("strings.asciiSpace", Lib.tabData .u8 spL) :: rest) W) : SpOk (hm W.heap) := by
 have hg : Tryz.prog.globalNamed "strings.asciiSpace" = some 0 := by kernel_rfl
 have hT:=Lib.tabIs_of_head (n:=256) hg (by kernel_rfl) Tryz.underlying79 Tryz.underlying5 (by kernel_rfl) (by kernel_rfl) h.tail
 unfold Lib.TabIs World.var? at hT
 rw [hg] at hT
 simp only [Option.bind_some] at hT
 split at hT
 ·rename_i cs t fr he
  cases hT
  refine ⟨⟨_,_,_,he,fun i hi=>?_⟩⟩
  simp [spL,hi]
 ·cases hT
def sgB:List UInt8:=[46,46,32,61,32,59,32,123,32,125,32,91,32,93,32,40,32,41,32,58,32,124,32,42,32,43,32,37]
def sgU (i:Nat):UInt8:=sgB.getD i 0
def spU (u:UInt8):Int:=spI u.toNat
def wF:Nat→Int
 | 0=>1
 | i+1=>spU (sgU i)
def nF:Nat→Int
 | 0=>0
 | i+1=>nF i+iand (wF i) (ixor (-1) (spU (sgU i)))
def bF:Nat→Nat
 | 0=>0
 | i+1=>bF i ||| (sgU i).toNat
def naF:Nat→Nat
 | 0=>0
 | i+1=>if spU (sgU i)=0 then naF i else naF i+1
def fsF:Nat→Nat
 | 0=>0
 | i+1=>if spU (sgU i)=0 then fsF i else i+1
def tbF:Nat→List (List UInt8)
 | 0=>List.replicate 14 []
 | i+1=>if spU (sgU i)=0 then tbF i else (tbF i).set (naF i) ((sgB.drop (fsF i)).take (i-fsF i))
def signsL:List (List UInt8):=[[46,46],[61],[59],[123],[125],[91],[93],[40],[41],[58],[124],[42],[43],[37]]
theorem zJM:∀ i,i≤28→0≤nF i∧nF i≤28∧(wF i=0∨wF i=1)∧bF i<128:=by decide +kernel
theorem sg_get:∀ i,i<28→sgB[i]?=some (sgU i):=by decide +kernel
theorem sg_n:nF 28=14:=by decide +kernel
theorem sg_two:∀ i,i≤28→naF i≤13∧fsF i≤i∧(tbF i).length=14:=by decide +kernel
theorem sg_next:∀ i,i<27→spU (sgU i)≠0→spU (sgU (i+1))=0:=by decide +kernel
theorem sg_end:fsF 28=27∧naF 28=13∧(tbF 28).set 13 (sgB.drop 27)=signsL∧spU (sgU 27)=0:=by decide +kernel
section
variable {ro:Ro}{own r:Chs}{K:Value→Ro→Chs→Prop}{g:Chunk→Chs}
set_option maxHeartbeats 2000000 in
theorem zNx (hS:SpOk ro) (hk:∀ b:Nat,K (.slice (some ⟨b,0,none⟩) 14 14) ro (.sl (some ⟨b,0,none⟩) 14 14 9 1 (signsL.map str)::own)):CallOk Tryz.prog 44 #[str sgB] ro own K:=by
 have hlen:sgB.length=28:=rfl
 obtain ⟨sg,hsg⟩:∃ x,sgB=x:=⟨_,rfl⟩
 rw [hsg] at hlen ⊢
 have hget:=sg_get
 rw [hsg] at hget
 refine CallOk.intro (args:=[_]) (rs:=[_]) T_ok Tryz.func44 Tryz.call44 rfl rfl (by kernel_rfl) rfl rfl ?_
 repeat first|exact zE|refine wkT ?_|refine zB fun b=>?_|refine zC fun a' c' hc1 hc2=>?_|(apply GJ.a;exact rfl;intro hg)|(apply GJ.o;exact rfl;intro hg)
 refine LoopOk.at (ι:=Nat) Keep.z (fun i=>[(6,.int .i64 (i:Int)),(3,.int .i64 (nF i)),(4,.int .i64 (wF i)),(5,.int .u8 ((bF i:Nat):Int))]) (fun i=>own) (fun i=>i≤28) (fun i=>28-i) 0 ?_ Sub.z Sup.z ?_
 ·exact Nat.zero_le _
 rintro i i1
 dsimp only [List.cons_append,List.nil_append] at i1 ⊢
 by_cases hb:i<28
 ·have hu:=hget i hb
  have h1:=zJM i i1
  have h2:=zJM (i+1) hb
  have hn:nF (i+1)=nF i+iand (wF i) (ixor (-1) (spU (sgU i))):=rfl
  have hw:wF (i+1)=spU (sgU i):=rfl
  have hbb:bF (i+1)=bF i ||| (sgU i).toNat:=rfl
  have hsp:spU (sgU i)=spI (sgU i).toNat:=rfl
  generalize hn2:nF (i+1)=n2 at hn h2
  generalize hw2:wF (i+1)=w2 at hw h2
  generalize hb2:bF (i+1)=b2 at hbb h2
  generalize hn1:nF i=n1 at h1 hn ⊢
  generalize hw1:wF i=w1 at h1 hn ⊢
  generalize hb1:bF i=b1 at h1 hbb ⊢
  generalize sgU i=u at hu hn hw hbb hsp
  generalize spU u=s at hn hw hsp
  have hun:=u.toNat_lt
  have hu2:sg[(i:Int).toNat]! = u:=by
   rw [Int.toNat_natCast,List.getElem!_eq_getElem?_getD,hu];rfl
  have hor:nor2 ((b1:Nat):Int) ((u.toNat:Nat):Int)=((b2:Nat):Int):=by rw [hbb];rfl
  repeat first|exact zE|refine wkT ?_|refine zB fun b=>?_|refine zC fun a' c' hc1 hc2=>?_|(apply GJ.a;exact rfl;intro hg)|(apply GJ.o;exact rfl;intro hg)
  rw [hu2,hor]
  refine ⟨by omega,?_⟩
  repeat first|exact zE|refine wkT ?_|refine zB fun b=>?_|refine zC fun a' c' hc1 hc2=>?_|(apply GJ.a;exact rfl;intro hg)|(apply GJ.o;exact rfl;intro hg)
  refine OpOk.load rfl rfl (hS.ld (i:=u.toNat) (by omega) (by omega)) ?_
  rw [←hsp]
  repeat first|exact zE|refine wkT ?_|refine zB fun b=>?_|refine zC fun a' c' hc1 hc2=>?_|(apply GJ.a;exact rfl;intro hg)|(apply GJ.o;exact rfl;intro hg)
  refine OpOk.notI rfl ?_
  generalize ixor (-1) s=x at hn ⊢
  repeat first|exact zE|refine wkT ?_|refine zB fun b=>?_|refine zC fun a' c' hc1 hc2=>?_|(apply GJ.a;exact rfl;intro hg)|(apply GJ.o;exact rfl;intro hg)
  refine OpOk.andI rfl rfl ?_
  generalize iand w1 x=y at hn ⊢
  repeat first|exact zE|refine wkT ?_|refine zB fun b=>?_|refine zC fun a' c' hc1 hc2=>?_|(apply GJ.a;exact rfl;intro hg)|(apply GJ.o;exact rfl;intro hg)
  try rw [←hn]
  repeat first|exact zE|refine wkT ?_|refine zB fun b=>?_|refine zC fun a' c' hc1 hc2=>?_|(apply GJ.a;exact rfl;intro hg)|(apply GJ.o;exact rfl;intro hg)
  try rw [←hn]
  try rw [←hw]
  subst hn2
  subst hw2
  subst hb2
  refine Wk.id ⟨i+1,⟨rfl,?_⟩,?_,Sub.z,Sup.z⟩
  all_goals try dsimp only
  ·omega
  ·omega
 ·obtain rfl:i=28:=by omega
  have h1:=zJM 28 (Nat.le_refl _)
  rw [sg_n] at h1 ⊢
  generalize wF 28=w at h1 ⊢
  generalize bF 28=bb at h1 ⊢
  repeat first|exact zE|refine wkT ?_|refine zB fun b=>?_|refine zC fun a' c' hc1 hc2=>?_|(apply GJ.a;exact rfl;intro hg)|(apply GJ.o;exact rfl;intro hg)
  have hu0:sg[Int.toNat 0]! = 46:=by rw [←hsg];rfl
  have hs46:spI 46=0:=by decide
  have hx46:(46:UInt8).toNat=46:=rfl
  refine LoopOk.at (ι:=Unit) Keep.z (fun _u=>[(12,.int .i64 0)]) (fun _u=>.sl (some ⟨b,0,none⟩) 14 14 9 1 (List.replicate 14 (str []))::own) (fun _u=>True) (fun _u=>0) () ?_ Sub.z Sup.z ?_
  ·trivial
  rintro _u -
  dsimp only [List.cons_append,List.nil_append]
  repeat first|exact zE|refine wkA ?_|refine zB fun b=>?_|refine zC fun a' c' hc1 hc2=>?_|(apply GJ.a;exact rfl;intro hg)|(apply GJ.o;exact rfl;intro hg)
  try rw [hu0]
  repeat first|exact zE|refine wkA ?_|refine zB fun b=>?_|refine zC fun a' c' hc1 hc2=>?_|(apply GJ.a;exact rfl;intro hg)|(apply GJ.o;exact rfl;intro hg)
  refine OpOk.load rfl rfl (hS.ld (i:=46) (by omega) (by omega)) ?_
  rw [hs46]
  repeat first|exact zE|refine wkA ?_|refine zB fun b=>?_|refine zC fun a' c' hc1 hc2=>?_|(apply GJ.a;exact rfl;intro hg)|(apply GJ.o;exact rfl;intro hg)
  refine LoopOk.at (ι:=Nat) Keep.z (fun i=>[(12,.int .i64 (i:Int)),(10,.int .i64 ((naF i:Nat):Int)),(11,.int .i64 ((fsF i:Nat):Int))]) (fun i=>.sl (some ⟨b,0,none⟩) 14 14 9 1 ((tbF i).map str)::own) (fun i=>i≤28) (fun i=>28-i) 0 ?_ Sub.z Sup.z ?_
  ·exact Nat.zero_le _
  rintro i i1
  dsimp only [List.cons_append,List.nil_append] at i1 ⊢
  have h2:=sg_two i i1
  by_cases hb:i<28
  ·have hu:=hget i hb
   have h3:=sg_next i
   have h4:=sg_end.2.2.2
   have hna:naF (i+1)=if spU (sgU i)=0 then naF i else naF i+1:=rfl
   have hfs:fsF (i+1)=if spU (sgU i)=0 then fsF i else i+1:=rfl
   have htb:tbF (i+1)=if spU (sgU i)=0 then tbF i else (tbF i).set (naF i) ((sg.drop (fsF i)).take (i-fsF i)):=by rw [←hsg];rfl
   have hsp:spU (sgU i)=spI (sgU i).toNat:=rfl
   have hs1:=(zJM (i+1) hb).2.2.1
   have hw:wF (i+1)=spU (sgU i):=rfl
   rw [hw] at hs1
   have hi27:spU (sgU i)≠0→i<27:=fun hne=>by
    rcases Nat.lt_or_ge i 27 with h|h
    ·exact h
    ·obtain rfl:i=27:=by omega
     exact absurd h4 hne
   clear hw h4
   generalize hn1:naF i=na at hna htb h2 ⊢
   generalize hf1:fsF i=fs at hfs htb h2 ⊢
   generalize ht1:tbF i=tb at htb h2 ⊢
   generalize hui:sgU i=u at hu h3 hna hfs htb hsp hs1 hi27
   generalize hsu:spU u=s at h3 hna hfs htb hsp hs1 hi27
   have hun:=u.toNat_lt
   have hu2:sg[(i:Int).toNat]! = u:=by
    rw [Int.toNat_natCast,List.getElem!_eq_getElem?_getD,hu];rfl
   repeat first|exact zE|refine wkA ?_|refine zB fun b=>?_|refine zC fun a' c' hc1 hc2=>?_|(apply GJ.a;exact rfl;intro hg)|(apply GJ.o;exact rfl;intro hg)
   try rw [hu2]
   repeat first|exact zE|refine wkA ?_|refine zB fun b=>?_|refine zC fun a' c' hc1 hc2=>?_|(apply GJ.a;exact rfl;intro hg)|(apply GJ.o;exact rfl;intro hg)
   refine OpOk.load rfl rfl (hS.ld (i:=u.toNat) (by omega) (by omega)) ?_
   rw [←hsp]
   by_cases hs0:s=0
   ·rw [if_pos hs0] at hna hfs htb
    repeat first|exact zE|refine wkA ?_|refine zB fun b=>?_|refine zC fun a' c' hc1 hc2=>?_|(apply GJ.a;exact rfl;intro hg)|(apply GJ.o;exact rfl;intro hg)
    rw [←htb]
    refine Wk.id ⟨i+1,⟨rfl,?_⟩,?_,Sub.z,Sup.z⟩
    all_goals try dsimp only
    ·omega
    ·omega
   ·rw [if_neg hs0] at hna hfs htb
    have hi:=hi27 hs0
    have h5:=h3 hi hs0
    have hu3:=hget (i+1) (by omega)
    have hsp3:spU (sgU (i+1))=spI (sgU (i+1)).toNat:=rfl
    generalize sgU (i+1)=u3 at h5 hu3 hsp3
    have hun3:=u3.toNat_lt
    have hu4:sg[((i:Int)+1).toNat]! = u3:=by
     rw [show ((i:Int)+1).toNat=i+1 by omega,List.getElem!_eq_getElem?_getD,hu3];rfl
    have hml:(List.map str tb).length=14:=by rw [List.length_map];exact h2.2.2
    have hset:(List.map str tb).set na (str (List.take ((i:Int).toNat-(fs:Int).toNat) (List.drop (fs:Int).toNat sg)))=List.map str (tbF (i+1)):=by
     rw [htb,List.map_set];rfl
    repeat first|exact zE|refine wkA ?_|refine zB fun b=>?_|refine zC fun a' c' hc1 hc2=>?_|(apply GJ.a;exact rfl;intro hg)|(apply GJ.o;exact rfl;intro hg)
    refine OpOk.storeSl (k:=na) rfl rfl rfl rfl (by omega) ?_
    rw [hset]
    repeat first|exact zE|refine wkA ?_|refine zB fun b=>?_|refine zC fun a' c' hc1 hc2=>?_|(apply GJ.a;exact rfl;intro hg)|(apply GJ.o;exact rfl;intro hg)
    refine LoopOk.at (ι:=Unit) Keep.z (fun _u=>[(12,.int .i64 ((i:Int)+1))]) (fun _u=>.sl (some ⟨b,0,none⟩) 14 14 9 1 (List.map str (tbF (i+1)))::own) (fun _u=>True) (fun _u=>0) () ?_ Sub.z Sup.z ?_
    ·trivial
    rintro _u -
    dsimp only [List.cons_append,List.nil_append]
    repeat first|exact zE|refine wkA ?_|refine zB fun b=>?_|refine zC fun a' c' hc1 hc2=>?_|(apply GJ.a;exact rfl;intro hg)|(apply GJ.o;exact rfl;intro hg)
    try rw [hu4]
    repeat first|exact zE|refine wkA ?_|refine zB fun b=>?_|refine zC fun a' c' hc1 hc2=>?_|(apply GJ.a;exact rfl;intro hg)|(apply GJ.o;exact rfl;intro hg)
    refine OpOk.load rfl rfl (hS.ld (i:=u3.toNat) (by omega) (by omega)) ?_
    rw [←hsp3,h5]
    repeat first|exact zE|refine wkA ?_|refine zB fun b=>?_|refine zC fun a' c' hc1 hc2=>?_|(apply GJ.a;exact rfl;intro hg)|(apply GJ.o;exact rfl;intro hg)
    refine Wk.id ⟨i+1,⟨rfl,?_⟩,?_,Sub.z,Sup.z⟩
    all_goals try dsimp only
    ·omega
    ·omega
  ·obtain rfl:i=28:=by omega
   obtain ⟨e1,e2,e3,_⟩:=sg_end
   rw [hsg] at e3
   rw [e1,e2]
   generalize tbF 28=tb at e3 h2 ⊢
   have hml:(List.map str tb).length=14:=by rw [List.length_map];exact h2.2.2
   have hset:(List.map str tb).set 13 (str (List.drop ((27:Nat):Int).toNat sg))=List.map str signsL:=by
    rw [←e3,List.map_set];rfl
   repeat first|exact zE|refine wkA ?_|refine zB fun b=>?_|refine zC fun a' c' hc1 hc2=>?_|(apply GJ.a;exact rfl;intro hg)|(apply GJ.o;exact rfl;intro hg)
   refine SeqOk.pass ?_
   repeat first|exact zE|refine wkA ?_|refine zB fun b=>?_|refine zC fun a' c' hc1 hc2=>?_|(apply GJ.a;exact rfl;intro hg)|(apply GJ.o;exact rfl;intro hg)
   refine OpOk.storeSl (k:=13) rfl rfl rfl rfl (by omega) ?_
   rw [hset]
   repeat first|exact zE|refine wkA ?_|refine zB fun b=>?_|refine zC fun a' c' hc1 hc2=>?_|(apply GJ.a;exact rfl;intro hg)|(apply GJ.o;exact rfl;intro hg)
   exact Wk.outS Sup.z (.refl _) (hk b)
end
end Go.Proofs.YtmaennnkaoollaaGreatDoor
end
