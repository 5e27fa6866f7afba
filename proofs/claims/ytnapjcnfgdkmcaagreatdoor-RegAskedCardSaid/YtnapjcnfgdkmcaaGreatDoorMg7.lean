/- Texts of a walk, one behind the other. -/
import Derived.HandedShaped
import Derived.Shelf.Vars
import Derived.Test.YtnapjcnfgdkmcaaGreatDoorMg4
import Derived.Test.YtnapjcnfgdkmcaaGreatDoorMg5
import Derived.Test.YtnapjcnfgdkmcaaGreatDoorMg6
set_option linter.unusedVariables false
set_option linter.unusedSimpArgs false
set_option linter.unusedSectionVars false
set_option maxRecDepth 10000
section
namespace Go.Proofs.YtnapjcnfgdkmcaaGreatDoor
open Go Go.E
section
variable {ro:Ro}{own q q1 q2:Chs}{K:Value→Ro→Chs→Prop}{l:List TokD}{s:PS}{a:zAp}{la:Option Addr}{lc r:Nat}{deep:Nat}{F:PS→Nat × PS}
theorem zH2 {n:Nat}{s:PS} (hc:s.code=0) (h:n=64):(zCF n s).code≠0:=by
 unfold zCF zAg
 rw [if_pos h,if_pos hc]
 exact (by decide:(2:Nat)≠0)
theorem rsUp {ro ro':Ro}{a:Option Addr}{n c k:Nat}{cs:List Value} (hl:Le ro ro') (hr:Rs ro a n c k cs):Rs ro' a n c k cs:=by
 haveI:Leq ro ro':=⟨hl.1⟩
 exact hr.up
set_option maxHeartbeats 8000000 in
theorem zEb {kd:Int} (hkd:kd=10∨kd=11) (hF:KOk la lc r l ((deep:Int)+1) F) (hst:∀ s,s.code≠0→(F s).2.code≠0) (hd:deep≤100) (hM:MaxOk ro) (hT:ToksOk ro la lc l) (h:RdOk ro l s a) (t1:Take own (rdC r la lc l s a) q1) (t2:Take q1 (ndC s a) q2) (t3:Take q2 (dfC s a) q)
  (hk:∀ ro' a',Le ro ro'→RdOk ro' l (zBP (zAa l) F kd s).2 a'→K (.int .i64 ((zBP (zAa l) F kd s).1:Int)) ro' (rdC r la lc l (zBP (zAa l) F kd s).2 a'::ndC (zBP (zAa l) F kd s).2 a'::dfC (zBP (zAa l) F kd s).2 a'::q)) :
  CallOk Tryz.prog 139 #[ptr' r,.int .i64 kd,.int .i64 (deep:Int)] ro own K:=by
 refine CallOk.perm (zB8 t1 t2 t3) ?_
 unfold zBP at hk
 refine CallOk.intro (args:=[_,_,_]) (rs:=[_]) T_ok Tryz.func139 Tryz.call139 rfl rfl (by kernel_rfl) rfl rfl ?_
 repeat first|exact zE|refine zP ?_|refine zB fun b=>?_|refine zC fun a' c' hc1 hc2=>?_|(apply GJ.a;exact rfl;intro hg)|(apply GJ.o;exact rfl;intro hg)
 obtain ⟨bN,hbN⟩:∃ z:Nat,z=b:=⟨_,rfl⟩
 subst hbN
 refine zAi (t:=[123]) hT h Take.auto Take.auto Take.auto (fun h1=>?_)
 generalize zAe (zAa l) [123] s=s1 at *
 obtain ⟨R,hR⟩:∃ R,R=zG5 (zAa l) F kd s1:=⟨_,rfl⟩
 rw [←hR] at hk
 unfold zG5 at hR
 repeat first|exact zE|refine zP ?_|refine zB fun b=>?_|refine zC fun a' c' hc1 hc2=>?_|(apply GJ.a;exact rfl;intro hg)|(apply GJ.o;exact rfl;intro hg)
 refine LoopOk.auto (ι:=Bool × List Int × List Bool × PS × zAp × Option Addr × Nat × Option Addr × Nat) Keep.z (fun (m,ks,ls,s,a,ka,kc,wa,wc)=>[(8,.bool m)]) (fun (m,ks,ls,s,a,ka,kc,wa,wc)=>rdC r la lc l s a::ndC s a::dfC s a::.sl ka ks.length kc 3 1 (zAs ks)::.sl wa ls.length wc 4 1 (zBf ls)::.blk bN 40 (zAl { zAb with kind:=kd,kids:=ks,last:=ls } { zAr with ka:=ka,kc:=kc,la:=wa,lc:=wc })::q) (fun (m,ks,ls,s,a,ka,kc,wa,wc) ro2=>RdOk ro2 l s a∧R=(if m=true∧s.code=0 then zCu (zAa l) F kd (70-ks.length) ks ls s else (ks,ls,s))∧(ks.length≤64∨(ks.length=65∧s.code≠0))∧ls.length≤ks.length∧ks.length≤kc∧kc≤maxLen∧ls.length≤wc∧wc≤maxLen) (fun (m,ks,ls,s,a,ka,kc,wa,wc)=>(70-ks.length)+(if m=true then 1 else 0)) (true,[],[],s1,a,none,0,none,0) ?_ Sub.z Sup.z ?_
 ·refine ⟨h1,?_,.inl (Nat.zero_le _),Nat.le_refl _,Nat.le_refl _,Nat.zero_le _,Nat.le_refl _,Nat.zero_le _⟩
  rw [hR]
  by_cases hc:s1.code=0
  ·rw [if_pos hc,if_pos ⟨rfl,hc⟩];rfl
  ·rw [if_neg hc,if_neg (fun h=>hc h.2)]
 clear h1 hR h
 rintro ⟨m,ks,ls,s,a,ka,kc,wa,wc⟩ ro2 hl2 ⟨i1,i2,i3,i4,i5,i6,i7,i8⟩
 dsimp only [List.cons_append,List.nil_append] at i1 i2 i3 i4 i5 i6 i7 i8 ⊢
 dsimp only [zAl,zAb,zAr]
 have hM2:=hM.le hl2
 have hT2:=hT.up hl2
 have hkl:(zAs ks).length=ks.length*1:=by simp [zAs]
 have hwl:(zBf ls).length=ls.length*1:=by simp [zBf]
 cases m with
 | false =>
   rw [if_neg (fun h=>by cases h.1)] at i2
   subst i2
   dsimp only at hk
   repeat first|exact zE|refine zP ?_|refine zB fun b=>?_|refine zC fun a' c' hc1 hc2=>?_|(apply GJ.a;exact rfl;intro hg)|(apply GJ.o;exact rfl;intro hg)
   refine zAi (t:=[125]) hT2 i1 Take.auto Take.auto Take.auto (fun g1=>?_)
   generalize zAe (zAa l) [125] s=z1 at *
   repeat first|exact zE|refine zP ?_|refine zB fun b=>?_|refine zC fun a' c' hc1 hc2=>?_|(apply GJ.a;exact rfl;intro hg)|(apply GJ.o;exact rfl;intro hg)
   refine CallOk.freeze (c:=.sl ka _ _ 3 _ _) Take.auto (fun ro8 hl8 hc8=>?_)
   refine CallOk.freeze (c:=.sl wa _ _ 4 _ _) Take.auto (fun ro9 hl9 hc9=>?_)
   refine zAk (d:={ zAb with kind:=kd,kids:=ks,last:=ls }) (x:={ zAr with ka:=ka,kc:=kc,la:=wa,lc:=wc }) (hT2.up (hl8.trans hl9)) (g1.up (hl8.trans hl9)) ⟨rsUp hl9 (Rs.last hc8),Rs.last hc9,Rs.nil _ 5,Rs.nil _ 2⟩ ⟨by dsimp only;omega,by dsimp only;omega,by simp [zAb],by simp [zAb]⟩ Take.auto Take.auto Take.auto (fun ro4 a4 hl4 h4=>?_)
   have hk2:=hk ro4 a4 (((hl2.trans hl8).trans hl9).trans hl4) h4
   repeat first|exact zE|refine zP ?_|refine zB fun b=>?_|refine zC fun a' c' hc1 hc2=>?_|(apply GJ.a;exact rfl;intro hg)|(apply GJ.o;exact rfl;intro hg)
   exact Wk.outS Sup.z (.refl _) hk2
 | true =>
   by_cases hc:s.code=0
   ·rw [if_pos ⟨rfl,hc⟩] at i2
    repeat first|exact zE|refine zP ?_|refine zB fun b=>?_|refine zC fun a' c' hc1 hc2=>?_|(apply GJ.a;exact rfl;intro hg)|(apply GJ.o;exact rfl;intro hg)
    refine zAX i1 Take.auto ?_
    rw [decide_eq_true hc]
    rw [show 70-ks.length=(69-ks.length)+1 by omega,zCu] at i2
    repeat first|exact zE|refine zP ?_|refine zB fun b=>?_|refine zC fun a' c' hc1 hc2=>?_|(apply GJ.a;exact rfl;intro hg)|(apply GJ.o;exact rfl;intro hg)
    by_cases h64:ks.length=64
    ·have hov:=zH2 hc h64
     rw [show zCF ks.length s=zAg 2 s from if_pos h64] at hov i2
     repeat first|exact zE|refine zP ?_|refine zB fun b=>?_|refine zC fun a' c' hc1 hc2=>?_|(apply GJ.a;exact rfl;intro hg)|(apply GJ.o;exact rfl;intro hg)
     refine zAF (e:=2) (by decide) (by decide) hT2 i1 Take.auto Take.auto Take.auto (fun h4=>?_)
     generalize zAg 2 s=s4 at *
     have hstf:(s4).code≠0→(zA3 (zAa l) [124] (F (zBV (zAa l) kd s4).2).2).2.code≠0:=fun hh=>by
      haveI:=zA2 l
      exact (InP.sign (E:=zAa l) (I:=fun s=>s.code≠0) ⟨hst _ (InP.last (E:=zAa l) (I:=fun s=>s.code≠0) ⟨hh⟩ kd).get⟩ [124]).get
     rcases hkd with rfl|rfl
     ·rw [show zBV (zAa l) 10 s4=(false,s4) from rfl,show zGf 10 ls false=ls from rfl] at i2
      rw [show zBV (zAa l) 10 s4=(false,s4) from rfl] at hstf
      dsimp only at i2 hstf
      repeat first|exact zE|refine wkG ?_|refine zB fun b=>?_|refine zC fun a' c' hc1 hc2=>?_|(show GJ _ _ _ _ _ _ _;first|(apply GJ.a;exact rfl;intro hg)|(apply GJ.o;exact rfl;intro hg)|refine GJ.t zO ?_|refine GJ.f zO ?_|refine GJ.ft zO ?_|refine GJ.ff zO ?_)
      try refine SeqOk.pass ?_
      repeat first|exact zE|refine wkG ?_|refine zB fun b=>?_|refine zC fun a' c' hc1 hc2=>?_|(show GJ _ _ _ _ _ _ _;first|(apply GJ.a;exact rfl;intro hg)|(apply GJ.o;exact rfl;intro hg)|refine GJ.t zO ?_|refine GJ.f zO ?_|refine GJ.ft zO ?_|refine GJ.ff zO ?_)
      refine Bs.mk ⟨[.blk bN 40 [.int .i64 10,.int .i64 0,.bool false,.bool false,.bool false,.int .u64 ((0:Nat):Int),.int .u64 ((0:Nat):Int),str [],str [],.int .u64 ((0:Nat):Int),.int .u64 ((0:Nat):Int),.slice ka ks.length kc,.slice wa (ls).length wc,.slice none 0 0,str [],.int .u64 ((0:Nat):Int),.slice none 0 0,.int .i64 0]],Sup.z,?_⟩
      repeat first|exact zE|refine wkG ?_|refine zB fun b=>?_|refine zC fun a' c' hc1 hc2=>?_|(show GJ _ _ _ _ _ _ _;first|(apply GJ.a;exact rfl;intro hg)|(apply GJ.o;exact rfl;intro hg)|refine GJ.t zO ?_|refine GJ.f zO ?_|refine GJ.ft zO ?_|refine GJ.ff zO ?_)
      refine hF.run hM2 hT2 h4 Take.auto Take.auto Take.auto (fun ro3 a3 hl3 h6=>?_)
      generalize F s4=y at *
      obtain ⟨kn,s6⟩:=y
      dsimp only at h6 i2 hstf ⊢
      refine wkS ?_
      refine zB (fun b2=>?_)
      refine wkS ?_
      repeat first|exact zE|refine wkG ?_|refine zB fun b=>?_|refine zC fun a' c' hc1 hc2=>?_|(show GJ _ _ _ _ _ _ _;first|(apply GJ.a;exact rfl;intro hg)|(apply GJ.o;exact rfl;intro hg)|refine GJ.t zO ?_|refine GJ.f zO ?_|refine GJ.ft zO ?_|refine GJ.ff zO ?_)
      have e2:zAs ks++[Value.int .i64 (kn:Int)]=zAs (ks++[(kn:Int)]):=by simp [zAs,flat,Value.cells]
      have e1:ks.length+1=(ks++[(kn:Int)]).length:=by simp
      rw [e2]
      rw [e1] at hc1 ⊢
      repeat first|exact zE|refine zP ?_|refine zB fun b=>?_|refine zC fun a' c' hc1 hc2=>?_|(apply GJ.a;exact rfl;intro hg)|(apply GJ.o;exact rfl;intro hg)
      refine zDr (t:=[124]) (hT2.up hl3) h6 Take.auto Take.auto Take.auto (fun h7=>?_)
      generalize zA3 (zAa l) [124] s6=z at *
      obtain ⟨gb,s7⟩:=z
      dsimp only at h7 i2 hstf ⊢
      repeat first|exact zE|refine zP ?_|refine zB fun b=>?_|refine zC fun a' c' hc1 hc2=>?_|(apply GJ.a;exact rfl;intro hg)|(apply GJ.o;exact rfl;intro hg)
      refine Wk.id ⟨(gb,ks++[(kn:Int)],ls,s7,a3,a',c',wa,wc),?_,?_,Sub.z,Sup.z⟩
      all_goals try dsimp only
      ·refine ⟨h7,?_,?_,?_,hc1,hc2,i7,i8⟩
       ·rw [←e1,show 70-(ks.length+1)=69-ks.length by omega];exact i2
       ·rw [←e1]
        exact .inr ⟨by omega,hstf hov⟩
       ·have h7:=i4
        rw [←e1];omega
      ·rw [←e1]
       have:(if gb=true then 1 else 0)≤1:=by split<;>omega
       simp only [↓reduceIte]
       omega
     ·rw [show zBV (zAa l) 11 s4=kwP (zAa l) [108,97,115,116] s4 from rfl] at i2 hstf
      repeat first|exact zE|refine wkG ?_|refine zB fun b=>?_|refine zC fun a' c' hc1 hc2=>?_|(show GJ _ _ _ _ _ _ _;first|(apply GJ.a;exact rfl;intro hg)|(apply GJ.o;exact rfl;intro hg)|refine GJ.t zO ?_|refine GJ.f zO ?_|refine GJ.ft zO ?_|refine GJ.ff zO ?_)
      try refine SeqOk.pass ?_
      repeat first|exact zE|refine wkG ?_|refine zB fun b=>?_|refine zC fun a' c' hc1 hc2=>?_|(show GJ _ _ _ _ _ _ _;first|(apply GJ.a;exact rfl;intro hg)|(apply GJ.o;exact rfl;intro hg)|refine GJ.t zO ?_|refine GJ.f zO ?_|refine GJ.ft zO ?_|refine GJ.ff zO ?_)
      refine Bs.mk ⟨[.blk bN 40 [.int .i64 11,.int .i64 0,.bool false,.bool false,.bool false,.int .u64 ((0:Nat):Int),.int .u64 ((0:Nat):Int),str [],str [],.int .u64 ((0:Nat):Int),.int .u64 ((0:Nat):Int),.slice ka ks.length kc,.slice wa ls.length wc,.slice none 0 0,str [],.int .u64 ((0:Nat):Int),.slice none 0 0,.int .i64 0]],Sup.z,?_⟩
      repeat first|exact zE|refine wkG ?_|refine zB fun b=>?_|refine zC fun a' c' hc1 hc2=>?_|(show GJ _ _ _ _ _ _ _;first|(apply GJ.a;exact rfl;intro hg)|(apply GJ.o;exact rfl;intro hg)|refine GJ.t zO ?_|refine GJ.f zO ?_|refine GJ.ft zO ?_|refine GJ.ff zO ?_)
      refine zAK (t:=[108,97,115,116]) hT2 h4 Take.auto Take.auto Take.auto (fun h5=>?_)
      generalize kwP (zAa l) [108,97,115,116] s4=x at *
      obtain ⟨wb,s5⟩:=x
      dsimp only at h5 i2 hstf ⊢
      refine wkS ?_
      refine zB (fun b2=>?_)
      refine wkS ?_
      repeat first|exact zE|refine wkG ?_|refine zB fun b=>?_|refine zC fun a' c' hc1 hc2=>?_|(show GJ _ _ _ _ _ _ _;first|(apply GJ.a;exact rfl;intro hg)|(apply GJ.o;exact rfl;intro hg)|refine GJ.t zO ?_|refine GJ.f zO ?_|refine GJ.ft zO ?_|refine GJ.ff zO ?_)
      have e3:zBf ls++[Value.bool wb]=zBf (ls++[wb]):=by simp [zBf,flat,Value.cells]
      have e4:ls.length+1=(ls++[wb]).length:=by simp
      rw [e3]
      rw [e4] at hc1 ⊢
      have hd1:=hc1
      have hd2:=hc2
      have hd3:(ls++[wb]).length≤ks.length+1:=by rw [←e4];omega
      obtain ⟨wa2,hwa2⟩:∃ z:Option Addr,z=a':=⟨_,rfl⟩
      subst hwa2
      obtain ⟨wc2,hwc2⟩:∃ z:Nat,z=c':=⟨_,rfl⟩
      subst hwc2
      repeat first|exact zE|refine wkG ?_|refine zB fun b=>?_|refine zC fun a' c' hc1 hc2=>?_|(show GJ _ _ _ _ _ _ _;first|(apply GJ.a;exact rfl;intro hg)|(apply GJ.o;exact rfl;intro hg)|refine GJ.t zO ?_|refine GJ.f zO ?_|refine GJ.ft zO ?_|refine GJ.ff zO ?_)
      refine Bs.mk ⟨[.blk bN 40 [.int .i64 11,.int .i64 0,.bool false,.bool false,.bool false,.int .u64 ((0:Nat):Int),.int .u64 ((0:Nat):Int),str [],str [],.int .u64 ((0:Nat):Int),.int .u64 ((0:Nat):Int),.slice ka ks.length kc,.slice wa2 ((ls++[wb])).length wc2,.slice none 0 0,str [],.int .u64 ((0:Nat):Int),.slice none 0 0,.int .i64 0]],Sup.z,?_⟩
      repeat first|exact zE|refine wkG ?_|refine zB fun b=>?_|refine zC fun a' c' hc1 hc2=>?_|(show GJ _ _ _ _ _ _ _;first|(apply GJ.a;exact rfl;intro hg)|(apply GJ.o;exact rfl;intro hg)|refine GJ.t zO ?_|refine GJ.f zO ?_|refine GJ.ft zO ?_|refine GJ.ff zO ?_)
      refine hF.run hM2 hT2 h5 Take.auto Take.auto Take.auto (fun ro3 a3 hl3 h6=>?_)
      generalize F s5=y at *
      obtain ⟨kn,s6⟩:=y
      dsimp only at h6 i2 hstf ⊢
      refine wkS ?_
      refine zB (fun b2=>?_)
      refine wkS ?_
      repeat first|exact zE|refine wkG ?_|refine zB fun b=>?_|refine zC fun a' c' hc1 hc2=>?_|(show GJ _ _ _ _ _ _ _;first|(apply GJ.a;exact rfl;intro hg)|(apply GJ.o;exact rfl;intro hg)|refine GJ.t zO ?_|refine GJ.f zO ?_|refine GJ.ft zO ?_|refine GJ.ff zO ?_)
      have e2:zAs ks++[Value.int .i64 (kn:Int)]=zAs (ks++[(kn:Int)]):=by simp [zAs,flat,Value.cells]
      have e1:ks.length+1=(ks++[(kn:Int)]).length:=by simp
      rw [e2]
      rw [e1] at hc1 ⊢
      repeat first|exact zE|refine zP ?_|refine zB fun b=>?_|refine zC fun a' c' hc1 hc2=>?_|(apply GJ.a;exact rfl;intro hg)|(apply GJ.o;exact rfl;intro hg)
      refine zDr (t:=[124]) (hT2.up hl3) h6 Take.auto Take.auto Take.auto (fun h7=>?_)
      generalize zA3 (zAa l) [124] s6=z at *
      obtain ⟨gb,s7⟩:=z
      dsimp only at h7 i2 hstf ⊢
      repeat first|exact zE|refine zP ?_|refine zB fun b=>?_|refine zC fun a' c' hc1 hc2=>?_|(apply GJ.a;exact rfl;intro hg)|(apply GJ.o;exact rfl;intro hg)
      refine Wk.id ⟨(gb,ks++[(kn:Int)],(ls++[wb]),s7,a3,a',c',wa2,wc2),?_,?_,Sub.z,Sup.z⟩
      all_goals try dsimp only
      ·refine ⟨h7,?_,?_,?_,hc1,hc2,hd1,hd2⟩
       ·rw [←e1,show 70-(ks.length+1)=69-ks.length by omega];exact i2
       ·rw [←e1]
        exact .inr ⟨by omega,hstf hov⟩
       ·have h7:=hd3
        rw [←e1];omega
      ·rw [←e1]
       have:(if gb=true then 1 else 0)≤1:=by split<;>omega
       simp only [↓reduceIte]
       omega
    ·rw [show zCF ks.length s=s from if_neg h64] at i2
     have hle:ks.length≤63:=by
      rcases i3 with h|⟨h,hh⟩
      ·omega
      ·exact absurd hc hh
     repeat first|exact zE|refine zP ?_|refine zB fun b=>?_|refine zC fun a' c' hc1 hc2=>?_|(apply GJ.a;exact rfl;intro hg)|(apply GJ.o;exact rfl;intro hg)
     have hstf:(s).code≠0→(zA3 (zAa l) [124] (F (zBV (zAa l) kd s).2).2).2.code≠0:=fun hh=>by
      haveI:=zA2 l
      exact (InP.sign (E:=zAa l) (I:=fun s=>s.code≠0) ⟨hst _ (InP.last (E:=zAa l) (I:=fun s=>s.code≠0) ⟨hh⟩ kd).get⟩ [124]).get
     rcases hkd with rfl|rfl
     ·rw [show zBV (zAa l) 10 s=(false,s) from rfl,show zGf 10 ls false=ls from rfl] at i2
      rw [show zBV (zAa l) 10 s=(false,s) from rfl] at hstf
      dsimp only at i2 hstf
      repeat first|exact zE|refine wkG ?_|refine zB fun b=>?_|refine zC fun a' c' hc1 hc2=>?_|(show GJ _ _ _ _ _ _ _;first|(apply GJ.a;exact rfl;intro hg)|(apply GJ.o;exact rfl;intro hg)|refine GJ.t zO ?_|refine GJ.f zO ?_|refine GJ.ft zO ?_|refine GJ.ff zO ?_)
      try refine SeqOk.pass ?_
      repeat first|exact zE|refine wkG ?_|refine zB fun b=>?_|refine zC fun a' c' hc1 hc2=>?_|(show GJ _ _ _ _ _ _ _;first|(apply GJ.a;exact rfl;intro hg)|(apply GJ.o;exact rfl;intro hg)|refine GJ.t zO ?_|refine GJ.f zO ?_|refine GJ.ft zO ?_|refine GJ.ff zO ?_)
      refine Bs.mk ⟨[.blk bN 40 [.int .i64 10,.int .i64 0,.bool false,.bool false,.bool false,.int .u64 ((0:Nat):Int),.int .u64 ((0:Nat):Int),str [],str [],.int .u64 ((0:Nat):Int),.int .u64 ((0:Nat):Int),.slice ka ks.length kc,.slice wa (ls).length wc,.slice none 0 0,str [],.int .u64 ((0:Nat):Int),.slice none 0 0,.int .i64 0]],Sup.z,?_⟩
      repeat first|exact zE|refine wkG ?_|refine zB fun b=>?_|refine zC fun a' c' hc1 hc2=>?_|(show GJ _ _ _ _ _ _ _;first|(apply GJ.a;exact rfl;intro hg)|(apply GJ.o;exact rfl;intro hg)|refine GJ.t zO ?_|refine GJ.f zO ?_|refine GJ.ft zO ?_|refine GJ.ff zO ?_)
      refine hF.run hM2 hT2 i1 Take.auto Take.auto Take.auto (fun ro3 a3 hl3 h6=>?_)
      generalize F s=y at *
      obtain ⟨kn,s6⟩:=y
      dsimp only at h6 i2 hstf ⊢
      refine wkS ?_
      refine zB (fun b2=>?_)
      refine wkS ?_
      repeat first|exact zE|refine wkG ?_|refine zB fun b=>?_|refine zC fun a' c' hc1 hc2=>?_|(show GJ _ _ _ _ _ _ _;first|(apply GJ.a;exact rfl;intro hg)|(apply GJ.o;exact rfl;intro hg)|refine GJ.t zO ?_|refine GJ.f zO ?_|refine GJ.ft zO ?_|refine GJ.ff zO ?_)
      have e2:zAs ks++[Value.int .i64 (kn:Int)]=zAs (ks++[(kn:Int)]):=by simp [zAs,flat,Value.cells]
      have e1:ks.length+1=(ks++[(kn:Int)]).length:=by simp
      rw [e2]
      rw [e1] at hc1 ⊢
      repeat first|exact zE|refine zP ?_|refine zB fun b=>?_|refine zC fun a' c' hc1 hc2=>?_|(apply GJ.a;exact rfl;intro hg)|(apply GJ.o;exact rfl;intro hg)
      refine zDr (t:=[124]) (hT2.up hl3) h6 Take.auto Take.auto Take.auto (fun h7=>?_)
      generalize zA3 (zAa l) [124] s6=z at *
      obtain ⟨gb,s7⟩:=z
      dsimp only at h7 i2 hstf ⊢
      repeat first|exact zE|refine zP ?_|refine zB fun b=>?_|refine zC fun a' c' hc1 hc2=>?_|(apply GJ.a;exact rfl;intro hg)|(apply GJ.o;exact rfl;intro hg)
      refine Wk.id ⟨(gb,ks++[(kn:Int)],ls,s7,a3,a',c',wa,wc),?_,?_,Sub.z,Sup.z⟩
      all_goals try dsimp only
      ·refine ⟨h7,?_,?_,?_,hc1,hc2,i7,i8⟩
       ·rw [←e1,show 70-(ks.length+1)=69-ks.length by omega];exact i2
       ·rw [←e1]
        exact .inl (by omega)
       ·have h7:=i4
        rw [←e1];omega
      ·rw [←e1]
       have:(if gb=true then 1 else 0)≤1:=by split<;>omega
       simp only [↓reduceIte]
       omega
     ·rw [show zBV (zAa l) 11 s=kwP (zAa l) [108,97,115,116] s from rfl] at i2 hstf
      repeat first|exact zE|refine wkG ?_|refine zB fun b=>?_|refine zC fun a' c' hc1 hc2=>?_|(show GJ _ _ _ _ _ _ _;first|(apply GJ.a;exact rfl;intro hg)|(apply GJ.o;exact rfl;intro hg)|refine GJ.t zO ?_|refine GJ.f zO ?_|refine GJ.ft zO ?_|refine GJ.ff zO ?_)
      try refine SeqOk.pass ?_
      repeat first|exact zE|refine wkG ?_|refine zB fun b=>?_|refine zC fun a' c' hc1 hc2=>?_|(show GJ _ _ _ _ _ _ _;first|(apply GJ.a;exact rfl;intro hg)|(apply GJ.o;exact rfl;intro hg)|refine GJ.t zO ?_|refine GJ.f zO ?_|refine GJ.ft zO ?_|refine GJ.ff zO ?_)
      refine Bs.mk ⟨[.blk bN 40 [.int .i64 11,.int .i64 0,.bool false,.bool false,.bool false,.int .u64 ((0:Nat):Int),.int .u64 ((0:Nat):Int),str [],str [],.int .u64 ((0:Nat):Int),.int .u64 ((0:Nat):Int),.slice ka ks.length kc,.slice wa ls.length wc,.slice none 0 0,str [],.int .u64 ((0:Nat):Int),.slice none 0 0,.int .i64 0]],Sup.z,?_⟩
      repeat first|exact zE|refine wkG ?_|refine zB fun b=>?_|refine zC fun a' c' hc1 hc2=>?_|(show GJ _ _ _ _ _ _ _;first|(apply GJ.a;exact rfl;intro hg)|(apply GJ.o;exact rfl;intro hg)|refine GJ.t zO ?_|refine GJ.f zO ?_|refine GJ.ft zO ?_|refine GJ.ff zO ?_)
      refine zAK (t:=[108,97,115,116]) hT2 i1 Take.auto Take.auto Take.auto (fun h5=>?_)
      generalize kwP (zAa l) [108,97,115,116] s=x at *
      obtain ⟨wb,s5⟩:=x
      dsimp only at h5 i2 hstf ⊢
      refine wkS ?_
      refine zB (fun b2=>?_)
      refine wkS ?_
      repeat first|exact zE|refine wkG ?_|refine zB fun b=>?_|refine zC fun a' c' hc1 hc2=>?_|(show GJ _ _ _ _ _ _ _;first|(apply GJ.a;exact rfl;intro hg)|(apply GJ.o;exact rfl;intro hg)|refine GJ.t zO ?_|refine GJ.f zO ?_|refine GJ.ft zO ?_|refine GJ.ff zO ?_)
      have e3:zBf ls++[Value.bool wb]=zBf (ls++[wb]):=by simp [zBf,flat,Value.cells]
      have e4:ls.length+1=(ls++[wb]).length:=by simp
      rw [e3]
      rw [e4] at hc1 ⊢
      have hd1:=hc1
      have hd2:=hc2
      have hd3:(ls++[wb]).length≤ks.length+1:=by rw [←e4];omega
      obtain ⟨wa2,hwa2⟩:∃ z:Option Addr,z=a':=⟨_,rfl⟩
      subst hwa2
      obtain ⟨wc2,hwc2⟩:∃ z:Nat,z=c':=⟨_,rfl⟩
      subst hwc2
      repeat first|exact zE|refine wkG ?_|refine zB fun b=>?_|refine zC fun a' c' hc1 hc2=>?_|(show GJ _ _ _ _ _ _ _;first|(apply GJ.a;exact rfl;intro hg)|(apply GJ.o;exact rfl;intro hg)|refine GJ.t zO ?_|refine GJ.f zO ?_|refine GJ.ft zO ?_|refine GJ.ff zO ?_)
      refine Bs.mk ⟨[.blk bN 40 [.int .i64 11,.int .i64 0,.bool false,.bool false,.bool false,.int .u64 ((0:Nat):Int),.int .u64 ((0:Nat):Int),str [],str [],.int .u64 ((0:Nat):Int),.int .u64 ((0:Nat):Int),.slice ka ks.length kc,.slice wa2 ((ls++[wb])).length wc2,.slice none 0 0,str [],.int .u64 ((0:Nat):Int),.slice none 0 0,.int .i64 0]],Sup.z,?_⟩
      repeat first|exact zE|refine wkG ?_|refine zB fun b=>?_|refine zC fun a' c' hc1 hc2=>?_|(show GJ _ _ _ _ _ _ _;first|(apply GJ.a;exact rfl;intro hg)|(apply GJ.o;exact rfl;intro hg)|refine GJ.t zO ?_|refine GJ.f zO ?_|refine GJ.ft zO ?_|refine GJ.ff zO ?_)
      refine hF.run hM2 hT2 h5 Take.auto Take.auto Take.auto (fun ro3 a3 hl3 h6=>?_)
      generalize F s5=y at *
      obtain ⟨kn,s6⟩:=y
      dsimp only at h6 i2 hstf ⊢
      refine wkS ?_
      refine zB (fun b2=>?_)
      refine wkS ?_
      repeat first|exact zE|refine wkG ?_|refine zB fun b=>?_|refine zC fun a' c' hc1 hc2=>?_|(show GJ _ _ _ _ _ _ _;first|(apply GJ.a;exact rfl;intro hg)|(apply GJ.o;exact rfl;intro hg)|refine GJ.t zO ?_|refine GJ.f zO ?_|refine GJ.ft zO ?_|refine GJ.ff zO ?_)
      have e2:zAs ks++[Value.int .i64 (kn:Int)]=zAs (ks++[(kn:Int)]):=by simp [zAs,flat,Value.cells]
      have e1:ks.length+1=(ks++[(kn:Int)]).length:=by simp
      rw [e2]
      rw [e1] at hc1 ⊢
      repeat first|exact zE|refine zP ?_|refine zB fun b=>?_|refine zC fun a' c' hc1 hc2=>?_|(apply GJ.a;exact rfl;intro hg)|(apply GJ.o;exact rfl;intro hg)
      refine zDr (t:=[124]) (hT2.up hl3) h6 Take.auto Take.auto Take.auto (fun h7=>?_)
      generalize zA3 (zAa l) [124] s6=z at *
      obtain ⟨gb,s7⟩:=z
      dsimp only at h7 i2 hstf ⊢
      repeat first|exact zE|refine zP ?_|refine zB fun b=>?_|refine zC fun a' c' hc1 hc2=>?_|(apply GJ.a;exact rfl;intro hg)|(apply GJ.o;exact rfl;intro hg)
      refine Wk.id ⟨(gb,ks++[(kn:Int)],(ls++[wb]),s7,a3,a',c',wa2,wc2),?_,?_,Sub.z,Sup.z⟩
      all_goals try dsimp only
      ·refine ⟨h7,?_,?_,?_,hc1,hc2,hd1,hd2⟩
       ·rw [←e1,show 70-(ks.length+1)=69-ks.length by omega];exact i2
       ·rw [←e1]
        exact .inl (by omega)
       ·have h7:=hd3
        rw [←e1];omega
      ·rw [←e1]
       have:(if gb=true then 1 else 0)≤1:=by split<;>omega
       simp only [↓reduceIte]
       omega
   ·rw [if_neg (fun h=>hc h.2)] at i2
    subst i2
    dsimp only at hk
    repeat first|exact zE|refine zP ?_|refine zB fun b=>?_|refine zC fun a' c' hc1 hc2=>?_|(apply GJ.a;exact rfl;intro hg)|(apply GJ.o;exact rfl;intro hg)
    refine zAX i1 Take.auto ?_
    rw [decide_eq_false hc]
    repeat first|exact zE|refine zP ?_|refine zB fun b=>?_|refine zC fun a' c' hc1 hc2=>?_|(apply GJ.a;exact rfl;intro hg)|(apply GJ.o;exact rfl;intro hg)
    refine zAi (t:=[125]) hT2 i1 Take.auto Take.auto Take.auto (fun g1=>?_)
    generalize zAe (zAa l) [125] s=z1 at *
    repeat first|exact zE|refine zP ?_|refine zB fun b=>?_|refine zC fun a' c' hc1 hc2=>?_|(apply GJ.a;exact rfl;intro hg)|(apply GJ.o;exact rfl;intro hg)
    refine CallOk.freeze (c:=.sl ka _ _ 3 _ _) Take.auto (fun ro8 hl8 hc8=>?_)
    refine CallOk.freeze (c:=.sl wa _ _ 4 _ _) Take.auto (fun ro9 hl9 hc9=>?_)
    refine zAk (d:={ zAb with kind:=kd,kids:=ks,last:=ls }) (x:={ zAr with ka:=ka,kc:=kc,la:=wa,lc:=wc }) (hT2.up (hl8.trans hl9)) (g1.up (hl8.trans hl9)) ⟨rsUp hl9 (Rs.last hc8),Rs.last hc9,Rs.nil _ 5,Rs.nil _ 2⟩ ⟨by dsimp only;omega,by dsimp only;omega,by simp [zAb],by simp [zAb]⟩ Take.auto Take.auto Take.auto (fun ro4 a4 hl4 h4=>?_)
    have hk2:=hk ro4 a4 (((hl2.trans hl8).trans hl9).trans hl4) h4
    repeat first|exact zE|refine zP ?_|refine zB fun b=>?_|refine zC fun a' c' hc1 hc2=>?_|(apply GJ.a;exact rfl;intro hg)|(apply GJ.o;exact rfl;intro hg)
    exact Wk.outS Sup.z (.refl _) hk2
end
section
variable {ro:Ro}{own q q1 q2:Chs}{K:Value→Ro→Chs→Prop}{l:List TokD}{s:PS}{a:zAp}{la:Option Addr}{lc r:Nat}{deep:Nat}{F:PS→Nat × PS}
set_option maxHeartbeats 8000000 in
theorem zHn (hF:KOk la lc r l ((deep:Int)+1) F) (hst:∀ s,s.code≠0→(F s).2.code≠0) (hd:deep≤100) (hM:MaxOk ro) (hT:ToksOk ro la lc l) (h:RdOk ro l s a) (t1:Take own (rdC r la lc l s a) q1) (t2:Take q1 (ndC s a) q2) (t3:Take q2 (dfC s a) q)
  (hk:∀ ro' a',Le ro ro'→RdOk ro' l (zCH numD (zAa l) F s).2 a'→K (.int .i64 ((zCH numD (zAa l) F s).1:Int)) ro' (rdC r la lc l (zCH numD (zAa l) F s).2 a'::ndC (zCH numD (zAa l) F s).2 a'::dfC (zCH numD (zAa l) F s).2 a'::q)) :
  CallOk Tryz.prog 115 #[ptr' r,.int .i64 (deep:Int)] ro own K:=by
 refine CallOk.perm (zB8 t1 t2 t3) ?_
 unfold zCH at hk
 refine CallOk.intro (args:=[_,_]) (rs:=[_]) T_ok Tryz.func115 Tryz.call115 rfl rfl (by kernel_rfl) rfl rfl ?_
 repeat first|exact zE|refine zP ?_|refine zB fun b=>?_|refine zC fun a' c' hc1 hc2=>?_|(apply GJ.a;exact rfl;intro hg)|(apply GJ.o;exact rfl;intro hg)
 refine zAK (t:=[118,97,114,105,110,116]) hT h Take.auto Take.auto Take.auto (fun h5=>?_)
 have hn1:=zCT (E:=zAa l) (t:=[118,97,114,105,110,116]) (s:=s)
 generalize kwP (zAa l) [118,97,114,105,110,116] s=w1 at *
 obtain ⟨b1,v1⟩:=w1
 dsimp only at h5 hn1 hk ⊢
 cases b1
 rotate_left
 ·simp only [↓reduceIte] at hk
  unfold lenP at hk
  repeat first|exact zE|refine zP ?_|refine zB fun b=>?_|refine zC fun a' c' hc1 hc2=>?_|(apply GJ.a;exact rfl;intro hg)|(apply GJ.o;exact rfl;intro hg)
  refine zAK (t:=[108,101,110,105,101,110,116]) hT h5 Take.auto Take.auto Take.auto (fun h6=>?_)
  generalize kwP (zAa l) [108,101,110,105,101,110,116] v1=w2 at *
  obtain ⟨lb,v2⟩:=w2
  dsimp only at h6 hk ⊢
  repeat first|exact zE|refine zP ?_|refine zB fun b=>?_|refine zC fun a' c' hc1 hc2=>?_|(apply GJ.a;exact rfl;intro hg)|(apply GJ.o;exact rfl;intro hg)
  refine zCO (d:={ zAb with kind:=2,lenient:=lb }) (x:=zAr) hT h6 ⟨Rs.nil _ 1,Rs.nil _ 1,Rs.nil _ 5,Rs.nil _ 2⟩ ⟨by simp [zAb],by simp [zAb],by simp [zAb],by simp [zAb]⟩ Take.auto Take.auto Take.auto (fun ro4 a4 hl4 h4=>?_)
  have hk2:=hk ro4 a4 hl4 h4
  repeat first|exact zE|refine zP ?_|refine zB fun b=>?_|refine zC fun a' c' hc1 hc2=>?_|(apply GJ.a;exact rfl;intro hg)|(apply GJ.o;exact rfl;intro hg)
  exact Wk.outS Sup.z (.refl _) hk2
 obtain rfl:=hn1 rfl
 clear h5
 simp only [Bool.false_eq_true,↓reduceIte] at hk
 repeat first|exact zE|refine zP ?_|refine zB fun b=>?_|refine zC fun a' c' hc1 hc2=>?_|(apply GJ.a;exact rfl;intro hg)|(apply GJ.o;exact rfl;intro hg)
 refine zAK (t:=[122,105,103,122,97,103]) hT h Take.auto Take.auto Take.auto (fun h5=>?_)
 have hn1:=zCT (E:=zAa l) (t:=[122,105,103,122,97,103]) (s:=s)
 generalize kwP (zAa l) [122,105,103,122,97,103] s=w1 at *
 obtain ⟨b1,v1⟩:=w1
 dsimp only at h5 hn1 hk ⊢
 cases b1
 rotate_left
 ·simp only [↓reduceIte] at hk
  unfold lenP at hk
  repeat first|exact zE|refine zP ?_|refine zB fun b=>?_|refine zC fun a' c' hc1 hc2=>?_|(apply GJ.a;exact rfl;intro hg)|(apply GJ.o;exact rfl;intro hg)
  refine zAK (t:=[108,101,110,105,101,110,116]) hT h5 Take.auto Take.auto Take.auto (fun h6=>?_)
  generalize kwP (zAa l) [108,101,110,105,101,110,116] v1=w2 at *
  obtain ⟨lb,v2⟩:=w2
  dsimp only at h6 hk ⊢
  repeat first|exact zE|refine zP ?_|refine zB fun b=>?_|refine zC fun a' c' hc1 hc2=>?_|(apply GJ.a;exact rfl;intro hg)|(apply GJ.o;exact rfl;intro hg)
  refine zCO (d:={ zAb with kind:=2,zig:=true,lenient:=lb }) (x:=zAr) hT h6 ⟨Rs.nil _ 1,Rs.nil _ 1,Rs.nil _ 5,Rs.nil _ 2⟩ ⟨by simp [zAb],by simp [zAb],by simp [zAb],by simp [zAb]⟩ Take.auto Take.auto Take.auto (fun ro4 a4 hl4 h4=>?_)
  have hk2:=hk ro4 a4 hl4 h4
  repeat first|exact zE|refine zP ?_|refine zB fun b=>?_|refine zC fun a' c' hc1 hc2=>?_|(apply GJ.a;exact rfl;intro hg)|(apply GJ.o;exact rfl;intro hg)
  exact Wk.outS Sup.z (.refl _) hk2
 obtain rfl:=hn1 rfl
 clear h5
 simp only [Bool.false_eq_true,↓reduceIte] at hk
 repeat first|exact zE|refine zP ?_|refine zB fun b=>?_|refine zC fun a' c' hc1 hc2=>?_|(apply GJ.a;exact rfl;intro hg)|(apply GJ.o;exact rfl;intro hg)
 refine zAK (t:=[98,121,116,101,115]) hT h Take.auto Take.auto Take.auto (fun h5=>?_)
 have hn1:=zCT (E:=zAa l) (t:=[98,121,116,101,115]) (s:=s)
 generalize kwP (zAa l) [98,121,116,101,115] s=w1 at *
 obtain ⟨b1,v1⟩:=w1
 dsimp only at h5 hn1 hk ⊢
 cases b1
 rotate_left
 ·simp only [↓reduceIte] at hk
  unfold blobP at hk
  repeat first|exact zE|refine zP ?_|refine zB fun b=>?_|refine zC fun a' c' hc1 hc2=>?_|(apply GJ.a;exact rfl;intro hg)|(apply GJ.o;exact rfl;intro hg)
  refine zFU hM hT h5 Take.auto Take.auto Take.auto (fun h6=>?_)
  generalize zC9 numD (zAa l) v1=x at *
  obtain ⟨⟨xr,xm,xa⟩,v2⟩:=x
  dsimp only [exprV] at h6 hk ⊢
  repeat first|exact zE|refine zP ?_|refine zB fun b=>?_|refine zC fun a' c' hc1 hc2=>?_|(apply GJ.a;exact rfl;intro hg)|(apply GJ.o;exact rfl;intro hg)
  refine zAk (d:={ zAb with kind:=4,ereg:=xr,emul:=xm,eadd:=xa }) (x:=zAr) hT h6 ⟨Rs.nil _ 1,Rs.nil _ 1,Rs.nil _ 5,Rs.nil _ 2⟩ ⟨by simp [zAb],by simp [zAb],by simp [zAb],by simp [zAb]⟩ Take.auto Take.auto Take.auto (fun ro4 a4 hl4 h4=>?_)
  have hk2:=hk ro4 a4 hl4 h4
  repeat first|exact zE|refine zP ?_|refine zB fun b=>?_|refine zC fun a' c' hc1 hc2=>?_|(apply GJ.a;exact rfl;intro hg)|(apply GJ.o;exact rfl;intro hg)
  exact Wk.outS Sup.z (.refl _) hk2
 obtain rfl:=hn1 rfl
 clear h5
 simp only [Bool.false_eq_true,↓reduceIte] at hk
 repeat first|exact zE|refine zP ?_|refine zB fun b=>?_|refine zC fun a' c' hc1 hc2=>?_|(apply GJ.a;exact rfl;intro hg)|(apply GJ.o;exact rfl;intro hg)
 refine zAK (t:=[116,105,109,101,115]) hT h Take.auto Take.auto Take.auto (fun h5=>?_)
 have hn1:=zCT (E:=zAa l) (t:=[116,105,109,101,115]) (s:=s)
 generalize kwP (zAa l) [116,105,109,101,115] s=w1 at *
 obtain ⟨b1,v1⟩:=w1
 dsimp only at h5 hn1 hk ⊢
 cases b1
 rotate_left
 ·simp only [↓reduceIte] at hk
  repeat first|exact zE|refine zP ?_|refine zB fun b=>?_|refine zC fun a' c' hc1 hc2=>?_|(apply GJ.a;exact rfl;intro hg)|(apply GJ.o;exact rfl;intro hg)
  refine zDv (kd:=6) hF hd hM hT h5 Take.auto Take.auto Take.auto (fun ro4 a4 hl4 h4=>?_)
  have hk2:=hk ro4 a4 hl4 h4
  repeat first|exact zE|refine zP ?_|refine zB fun b=>?_|refine zC fun a' c' hc1 hc2=>?_|(apply GJ.a;exact rfl;intro hg)|(apply GJ.o;exact rfl;intro hg)
  exact Wk.outS Sup.z (.refl _) hk2
 obtain rfl:=hn1 rfl
 clear h5
 simp only [Bool.false_eq_true,↓reduceIte] at hk
 repeat first|exact zE|refine zP ?_|refine zB fun b=>?_|refine zC fun a' c' hc1 hc2=>?_|(apply GJ.a;exact rfl;intro hg)|(apply GJ.o;exact rfl;intro hg)
 refine zAK (t:=[119,105,116,104,105,110]) hT h Take.auto Take.auto Take.auto (fun h5=>?_)
 have hn1:=zCT (E:=zAa l) (t:=[119,105,116,104,105,110]) (s:=s)
 generalize kwP (zAa l) [119,105,116,104,105,110] s=w1 at *
 obtain ⟨b1,v1⟩:=w1
 dsimp only at h5 hn1 hk ⊢
 cases b1
 rotate_left
 ·simp only [↓reduceIte] at hk
  repeat first|exact zE|refine zP ?_|refine zB fun b=>?_|refine zC fun a' c' hc1 hc2=>?_|(apply GJ.a;exact rfl;intro hg)|(apply GJ.o;exact rfl;intro hg)
  refine zDv (kd:=8) hF hd hM hT h5 Take.auto Take.auto Take.auto (fun ro4 a4 hl4 h4=>?_)
  have hk2:=hk ro4 a4 hl4 h4
  repeat first|exact zE|refine zP ?_|refine zB fun b=>?_|refine zC fun a' c' hc1 hc2=>?_|(apply GJ.a;exact rfl;intro hg)|(apply GJ.o;exact rfl;intro hg)
  exact Wk.outS Sup.z (.refl _) hk2
 obtain rfl:=hn1 rfl
 clear h5
 simp only [Bool.false_eq_true,↓reduceIte] at hk
 repeat first|exact zE|refine zP ?_|refine zB fun b=>?_|refine zC fun a' c' hc1 hc2=>?_|(apply GJ.a;exact rfl;intro hg)|(apply GJ.o;exact rfl;intro hg)
 refine zAK (t:=[109,97,110,121]) hT h Take.auto Take.auto Take.auto (fun h5=>?_)
 have hn1:=zCT (E:=zAa l) (t:=[109,97,110,121]) (s:=s)
 generalize kwP (zAa l) [109,97,110,121] s=w1 at *
 obtain ⟨b1,v1⟩:=w1
 dsimp only at h5 hn1 hk ⊢
 cases b1
 rotate_left
 ·simp only [↓reduceIte] at hk
  unfold manyP at hk
  repeat first|exact zE|refine zP ?_|refine zB fun b=>?_|refine zC fun a' c' hc1 hc2=>?_|(apply GJ.a;exact rfl;intro hg)|(apply GJ.o;exact rfl;intro hg)
  refine hF.run hM hT h5 Take.auto Take.auto Take.auto (fun ro2 a2 hl2 h6=>?_)
  generalize F v1=k at *
  obtain ⟨kn,s2⟩:=k
  dsimp only at h6 hk ⊢
  repeat (first|exact zE|refine zP ?_)
  refine OpOk.buildSliceF zAq zAq zAq zAq zAq (fun ro3 b3 hl3 hb3=>?_)
  repeat (first|exact zE|refine zP ?_)
  have h3:=h6.up hl3
  refine zAk (d:={ zAb with kind:=7,kids:=[(kn:Int)] }) (x:={ zAr with ka:=some ⟨b3,0,none⟩,kc:=1 }) ((hT.up hl2).up hl3) h3 ⟨hb3,Rs.nil _ 1,Rs.nil _ 5,Rs.nil _ 2⟩ ⟨by simp,by simp [zAb],by simp [zAb],by simp [zAb]⟩ Take.auto Take.auto Take.auto (fun ro4 a4 hl4 h4=>?_)
  have hl4:=(hl2.trans hl3).trans hl4
  have hk2:=hk ro4 a4 hl4 h4
  repeat first|exact zE|refine zP ?_|refine zB fun b=>?_|refine zC fun a' c' hc1 hc2=>?_|(apply GJ.a;exact rfl;intro hg)|(apply GJ.o;exact rfl;intro hg)
  exact Wk.outS Sup.z (.refl _) hk2
 obtain rfl:=hn1 rfl
 clear h5
 simp only [Bool.false_eq_true,↓reduceIte] at hk
 repeat first|exact zE|refine zP ?_|refine zB fun b=>?_|refine zC fun a' c' hc1 hc2=>?_|(apply GJ.a;exact rfl;intro hg)|(apply GJ.o;exact rfl;intro hg)
 refine zAK (t:=[115,119,105,116,99,104]) hT h Take.auto Take.auto Take.auto (fun h5=>?_)
 have hn1:=zCT (E:=zAa l) (t:=[115,119,105,116,99,104]) (s:=s)
 generalize kwP (zAa l) [115,119,105,116,99,104] s=w1 at *
 obtain ⟨b1,v1⟩:=w1
 dsimp only at h5 hn1 hk ⊢
 cases b1
 rotate_left
 ·simp only [↓reduceIte] at hk
  repeat first|exact zE|refine zP ?_|refine zB fun b=>?_|refine zC fun a' c' hc1 hc2=>?_|(apply GJ.a;exact rfl;intro hg)|(apply GJ.o;exact rfl;intro hg)
  refine zHv hF hst hd hM hT h5 Take.auto Take.auto Take.auto (fun ro4 a4 hl4 h4=>?_)
  have hk2:=hk ro4 a4 hl4 h4
  repeat first|exact zE|refine zP ?_|refine zB fun b=>?_|refine zC fun a' c' hc1 hc2=>?_|(apply GJ.a;exact rfl;intro hg)|(apply GJ.o;exact rfl;intro hg)
  exact Wk.outS Sup.z (.refl _) hk2
 obtain rfl:=hn1 rfl
 clear h5
 simp only [Bool.false_eq_true,↓reduceIte] at hk
 repeat first|exact zE|refine zP ?_|refine zB fun b=>?_|refine zC fun a' c' hc1 hc2=>?_|(apply GJ.a;exact rfl;intro hg)|(apply GJ.o;exact rfl;intro hg)
 refine zAK (t:=[111,110,101,111,102]) hT h Take.auto Take.auto Take.auto (fun h5=>?_)
 have hn1:=zCT (E:=zAa l) (t:=[111,110,101,111,102]) (s:=s)
 generalize kwP (zAa l) [111,110,101,111,102] s=w1 at *
 obtain ⟨b1,v1⟩:=w1
 dsimp only at h5 hn1 hk ⊢
 cases b1
 rotate_left
 ·simp only [↓reduceIte] at hk
  repeat first|exact zE|refine zP ?_|refine zB fun b=>?_|refine zC fun a' c' hc1 hc2=>?_|(apply GJ.a;exact rfl;intro hg)|(apply GJ.o;exact rfl;intro hg)
  refine zEb (.inl rfl) hF hst hd hM hT h5 Take.auto Take.auto Take.auto (fun ro4 a4 hl4 h4=>?_)
  have hk2:=hk ro4 a4 hl4 h4
  repeat first|exact zE|refine zP ?_|refine zB fun b=>?_|refine zC fun a' c' hc1 hc2=>?_|(apply GJ.a;exact rfl;intro hg)|(apply GJ.o;exact rfl;intro hg)
  exact Wk.outS Sup.z (.refl _) hk2
 obtain rfl:=hn1 rfl
 clear h5
 simp only [Bool.false_eq_true,↓reduceIte] at hk
 repeat first|exact zE|refine zP ?_|refine zB fun b=>?_|refine zC fun a' c' hc1 hc2=>?_|(apply GJ.a;exact rfl;intro hg)|(apply GJ.o;exact rfl;intro hg)
 refine zAK (t:=[99,104,97,105,110]) hT h Take.auto Take.auto Take.auto (fun h5=>?_)
 have hn1:=zCT (E:=zAa l) (t:=[99,104,97,105,110]) (s:=s)
 generalize kwP (zAa l) [99,104,97,105,110] s=w1 at *
 obtain ⟨b1,v1⟩:=w1
 dsimp only at h5 hn1 hk ⊢
 cases b1
 rotate_left
 ·simp only [↓reduceIte] at hk
  repeat first|exact zE|refine zP ?_|refine zB fun b=>?_|refine zC fun a' c' hc1 hc2=>?_|(apply GJ.a;exact rfl;intro hg)|(apply GJ.o;exact rfl;intro hg)
  refine zEb (.inr rfl) hF hst hd hM hT h5 Take.auto Take.auto Take.auto (fun ro4 a4 hl4 h4=>?_)
  have hk2:=hk ro4 a4 hl4 h4
  repeat first|exact zE|refine zP ?_|refine zB fun b=>?_|refine zC fun a' c' hc1 hc2=>?_|(apply GJ.a;exact rfl;intro hg)|(apply GJ.o;exact rfl;intro hg)
  exact Wk.outS Sup.z (.refl _) hk2
 obtain rfl:=hn1 rfl
 clear h5
 simp only [Bool.false_eq_true,↓reduceIte] at hk
 repeat first|exact zE|refine zP ?_|refine zB fun b=>?_|refine zC fun a' c' hc1 hc2=>?_|(apply GJ.a;exact rfl;intro hg)|(apply GJ.o;exact rfl;intro hg)
 refine zAK (t:=[101,109,112,116,121]) hT h Take.auto Take.auto Take.auto (fun h5=>?_)
 have hn1:=zCT (E:=zAa l) (t:=[101,109,112,116,121]) (s:=s)
 generalize kwP (zAa l) [101,109,112,116,121] s=w1 at *
 obtain ⟨b1,v1⟩:=w1
 dsimp only at h5 hn1 hk ⊢
 cases b1
 rotate_left
 ·simp only [↓reduceIte] at hk
  repeat first|exact zE|refine zP ?_|refine zB fun b=>?_|refine zC fun a' c' hc1 hc2=>?_|(apply GJ.a;exact rfl;intro hg)|(apply GJ.o;exact rfl;intro hg)
  refine zAk (d:={ zAb with kind:=12 }) (x:=zAr) hT h5 ⟨Rs.nil _ 1,Rs.nil _ 1,Rs.nil _ 5,Rs.nil _ 2⟩ ⟨by simp [zAb],by simp [zAb],by simp [zAb],by simp [zAb]⟩ Take.auto Take.auto Take.auto (fun ro4 a4 hl4 h4=>?_)
  have hk2:=hk ro4 a4 hl4 h4
  repeat first|exact zE|refine zP ?_|refine zB fun b=>?_|refine zC fun a' c' hc1 hc2=>?_|(apply GJ.a;exact rfl;intro hg)|(apply GJ.o;exact rfl;intro hg)
  exact Wk.outS Sup.z (.refl _) hk2
 obtain rfl:=hn1 rfl
 clear h5
 simp only [Bool.false_eq_true,↓reduceIte] at hk
 unfold useP at hk
 repeat first|exact zE|refine zP ?_|refine zB fun b=>?_|refine zC fun a' c' hc1 hc2=>?_|(apply GJ.a;exact rfl;intro hg)|(apply GJ.o;exact rfl;intro hg)
 refine zDj hM hT h Take.auto Take.auto Take.auto (fun h1=>?_)
 generalize zA6 (zAa l) s=x at *
 obtain ⟨xn,s1⟩:=x
 dsimp only at h1 hk ⊢
 repeat first|exact zE|refine zP ?_|refine zB fun b=>?_|refine zC fun a' c' hc1 hc2=>?_|(apply GJ.a;exact rfl;intro hg)|(apply GJ.o;exact rfl;intro hg)
 refine zAk (d:={ zAb with kind:=13,text:=xn }) (x:=zAr) hT h1 ⟨Rs.nil _ 1,Rs.nil _ 1,Rs.nil _ 5,Rs.nil _ 2⟩ ⟨by simp [zAb],by simp [zAb],by simp [zAb],by simp [zAb]⟩ Take.auto Take.auto Take.auto (fun ro4 a4 hl4 h4=>?_)
 have hk2:=hk ro4 a4 hl4 h4
 repeat first|exact zE|refine zP ?_|refine zB fun b=>?_|refine zC fun a' c' hc1 hc2=>?_|(apply GJ.a;exact rfl;intro hg)|(apply GJ.o;exact rfl;intro hg)
 exact Wk.outS Sup.z (.refl _) hk2
end
section
variable {ro:Ro}{own q q1 q2:Chs}{K:Value→Ro→Chs→Prop}{l:List TokD}{s:PS}{a:zAp}{la:Option Addr}{lc r:Nat}{deep:Nat}{F:PS→Nat × PS}
theorem RdOk.stepW (hT:ToksOk ro la lc l) (h:RdOk ro l s a) (hk:(zAy (zAa l) s).kind≠5):RdOk ro l (zC2 (zAg 5 s)) a:=by
 have h2:=h.step hT hk
 unfold zAg
 split
 ·exact ⟨h2.at',h.at',(by decide:5≤1000),h.build,h.sm,h.nn,h.nd⟩
 ·exact h2
theorem zE9 (d:Nat) (s:PS) (h:s.code≠0):(zCg numD (zAa l) d s).2.code≠0 :=
 (InP.kind (wideP:=numD) (C:=zA2 l) d s ⟨h⟩).get
set_option maxHeartbeats 8000000 in
theorem zHp:KOk la lc r l 25 (zCg numD (zAa l) 0):=by
 refine ⟨fun {ro own q q1 q2 K s a} hM hT h t1 t2 t3 hk=>?_⟩
 refine CallOk.perm (zB8 t1 t2 t3) ?_
 unfold zCg at hk
 dsimp only at hk
 refine CallOk.intro (args:=[_,_]) (rs:=[_]) T_ok Tryz.func87 Tryz.call87 rfl rfl (by kernel_rfl) rfl rfl ?_
 repeat first|exact zE|refine zP ?_|refine zB fun b=>?_|refine zC fun a' c' hc1 hc2=>?_|(apply GJ.a;exact rfl;intro hg)|(apply GJ.o;exact rfl;intro hg)
 refine zAF (e:=6) (by decide) (by decide) hT h Take.auto Take.auto Take.auto (fun h1=>?_)
 have hc:(zAg 6 s).code≠0:=by
  unfold zAg
  split
  ·exact (by decide:(6:Nat)≠0)
  ·assumption
 generalize zAg 6 s=s1 at *
 repeat first|exact zE|refine zP ?_|refine zB fun b=>?_|refine zC fun a' c' hc1 hc2=>?_|(apply GJ.a;exact rfl;intro hg)|(apply GJ.o;exact rfl;intro hg)
 refine zAX h1 Take.auto ?_
 rw [decide_eq_false hc]
 have hk2:=hk ro a (Le.refl _) h1
 repeat first|exact zE|refine zP ?_|refine zB fun b=>?_|refine zC fun a' c' hc1 hc2=>?_|(apply GJ.a;exact rfl;intro hg)|(apply GJ.o;exact rfl;intro hg)
 exact Wk.outS Sup.z (.refl _) hk2
set_option maxHeartbeats 8000000 in
theorem zHo {d:Nat} (hd:d≤24) (hF:KOk la lc r l (((24-d:Nat):Int)+1) (zCg numD (zAa l) d)):KOk la lc r l ((24-d:Nat):Int) (zCg numD (zAa l) (d+1)):=by
 refine ⟨fun {ro own q q1 q2 K s a} hM hT h t1 t2 t3 hk=>?_⟩
 refine CallOk.perm (zB8 t1 t2 t3) ?_
 have hst:=zE9 (l:=l) d
 unfold zCg at hk
 generalize zCg numD (zAa l) d=F at *
 obtain ⟨deep,hdeep⟩:∃ k,k=24-d:=⟨_,rfl⟩
 rw [←hdeep] at hF ⊢
 have hd24:deep≤24:=by omega
 clear hdeep
 refine CallOk.intro (args:=[_,_]) (rs:=[_]) T_ok Tryz.func87 Tryz.call87 rfl rfl (by kernel_rfl) rfl rfl ?_
 repeat first|exact zE|refine zP ?_|refine zB fun b=>?_|refine zC fun a' c' hc1 hc2=>?_|(apply GJ.a;exact rfl;intro hg)|(apply GJ.o;exact rfl;intro hg)
 rw [decide_eq_false (by omega:¬(deep:Int) > 24)]
 repeat first|exact zE|refine zP ?_|refine zB fun b=>?_|refine zC fun a' c' hc1 hc2=>?_|(apply GJ.a;exact rfl;intro hg)|(apply GJ.o;exact rfl;intro hg)
 refine zAX h Take.auto ?_
 by_cases hc:s.code=0
 ·rw [if_neg (fun h=>h hc)] at hk
  rw [decide_eq_true hc]
  repeat first|exact zE|refine zP ?_|refine zB fun b=>?_|refine zC fun a' c' hc1 hc2=>?_|(apply GJ.a;exact rfl;intro hg)|(apply GJ.o;exact rfl;intro hg)
  refine zAN hT h Take.auto ?_
  have htx:=hT.text _ (zD0 hT h)
  repeat first|exact zE|refine zP ?_|refine zB fun b=>?_|refine zC fun a' c' hc1 hc2=>?_|(apply GJ.a;exact rfl;intro hg)|(apply GJ.o;exact rfl;intro hg)
  by_cases h3:(zAy (zAa l) s).kind=3
  ·rw [if_pos h3] at hk
   have hl2':=hT.le
   by_cases ht:(zAy (zAa l) s).text=[]
   ·rw [if_pos ht] at hk
    repeat first|exact zE|refine zP ?_|refine zB fun b=>?_|refine zC fun a' c' hc1 hc2=>?_|(apply GJ.a;exact rfl;intro hg)|(apply GJ.o;exact rfl;intro hg)
    refine zAF (e:=5) (by decide) (by decide) hT h Take.auto Take.auto Take.auto (fun h1=>?_)
    have h2:=h.stepW hT (by omega)
    generalize zAg 5 s=s1 at *
    have hat:s1.at'+1<l.length:=h2.at'
    unfold rdC zBy
    repeat first|exact zE|refine zP ?_|refine zB fun b=>?_|refine zC fun a' c' hc1 hc2=>?_|(apply GJ.a;exact rfl;intro hg)|(apply GJ.o;exact rfl;intro hg)
    rw [←zGt]
    repeat first|exact zE|refine zP ?_|refine zB fun b=>?_|refine zC fun a' c' hc1 hc2=>?_|(apply GJ.a;exact rfl;intro hg)|(apply GJ.o;exact rfl;intro hg)
    refine zAk (d:={ zAb with kind:=3,text:=_ }) (x:=zAr) (s:=zC2 s1) hT h2 ⟨Rs.nil _ 1,Rs.nil _ 1,Rs.nil _ 5,Rs.nil _ 2⟩ ⟨by simp [zAb],by simp [zAb],by simp [zAb],by simp [zAb]⟩ Take.auto Take.auto Take.auto (fun ro4 a4 hl4 h4=>?_)
    have hk2:=hk ro4 a4 hl4 h4
    repeat first|exact zE|refine zP ?_|refine zB fun b=>?_|refine zC fun a' c' hc1 hc2=>?_|(apply GJ.a;exact rfl;intro hg)|(apply GJ.o;exact rfl;intro hg)
    exact Wk.outS Sup.z (.refl _) hk2
   ·rw [if_neg ht] at hk
    have h2:=h.step hT (by omega)
    have hat:s.at'+1<l.length:=h2.at'
    unfold rdC zBy
    repeat first|exact zE|refine zP ?_|refine zB fun b=>?_|refine zC fun a' c' hc1 hc2=>?_|(apply GJ.a;exact rfl;intro hg)|(apply GJ.o;exact rfl;intro hg)
    rw [←zGt]
    repeat first|exact zE|refine zP ?_|refine zB fun b=>?_|refine zC fun a' c' hc1 hc2=>?_|(apply GJ.a;exact rfl;intro hg)|(apply GJ.o;exact rfl;intro hg)
    refine zAk (d:={ zAb with kind:=3,text:=_ }) (x:=zAr) (s:=zC2 s) hT h2 ⟨Rs.nil _ 1,Rs.nil _ 1,Rs.nil _ 5,Rs.nil _ 2⟩ ⟨by simp [zAb],by simp [zAb],by simp [zAb],by simp [zAb]⟩ Take.auto Take.auto Take.auto (fun ro4 a4 hl4 h4=>?_)
    have hk2:=hk ro4 a4 hl4 h4
    repeat first|exact zE|refine zP ?_|refine zB fun b=>?_|refine zC fun a' c' hc1 hc2=>?_|(apply GJ.a;exact rfl;intro hg)|(apply GJ.o;exact rfl;intro hg)
    exact Wk.outS Sup.z (.refl _) hk2
  ·rw [if_neg h3] at hk
   repeat first|exact zE|refine zP ?_|refine zB fun b=>?_|refine zC fun a' c' hc1 hc2=>?_|(apply GJ.a;exact rfl;intro hg)|(apply GJ.o;exact rfl;intro hg)
   refine ris_ok (k:=4) (t:=[123]) hT h Take.auto ?_
   by_cases hi:isP (zAa l) 4 [123] s=true
   ·rw [if_pos hi] at hk
    rw [hi]
    repeat first|exact zE|refine zP ?_|refine zB fun b=>?_|refine zC fun a' c' hc1 hc2=>?_|(apply GJ.a;exact rfl;intro hg)|(apply GJ.o;exact rfl;intro hg)
    refine zGy hF hst (by omega) hM hT h Take.auto Take.auto Take.auto (fun ro4 a4 hl4 h4=>?_)
    have hk2:=hk ro4 a4 hl4 h4
    repeat first|exact zE|refine zP ?_|refine zB fun b=>?_|refine zC fun a' c' hc1 hc2=>?_|(apply GJ.a;exact rfl;intro hg)|(apply GJ.o;exact rfl;intro hg)
    exact Wk.outS Sup.z (.refl _) hk2
   ·rw [if_neg hi] at hk
    rw [Bool.eq_false_iff.2 hi]
    repeat first|exact zE|refine zP ?_|refine zB fun b=>?_|refine zC fun a' c' hc1 hc2=>?_|(apply GJ.a;exact rfl;intro hg)|(apply GJ.o;exact rfl;intro hg)
    by_cases h1:(zAy (zAa l) s).kind=1
    ·rw [if_neg (fun h=>h h1)] at hk
     repeat first|exact zE|refine zP ?_|refine zB fun b=>?_|refine zC fun a' c' hc1 hc2=>?_|(apply GJ.a;exact rfl;intro hg)|(apply GJ.o;exact rfl;intro hg)
     refine zEH htx ?_
     generalize hfx:zAG (zAy (zAa l) s).text=fx at *
     cases fx with
     | none =>
       dsimp only at hk
       dsimp only [fixV]
       repeat first|exact zE|refine zP ?_|refine zB fun b=>?_|refine zC fun a' c' hc1 hc2=>?_|(apply GJ.a;exact rfl;intro hg)|(apply GJ.o;exact rfl;intro hg)
       refine zHn hF hst (by omega) hM hT h Take.auto Take.auto Take.auto (fun ro4 a4 hl4 h4=>?_)
       have hk2:=hk ro4 a4 hl4 h4
       repeat first|exact zE|refine zP ?_|refine zB fun b=>?_|refine zC fun a' c' hc1 hc2=>?_|(apply GJ.a;exact rfl;intro hg)|(apply GJ.o;exact rfl;intro hg)
       exact Wk.outS Sup.z (.refl _) hk2
     | some x =>
       obtain ⟨fw,fb⟩:=x
       dsimp only at hk
       dsimp only [fixV]
       have hl2':=hT.le
       have h2:=h.step hT (by omega)
       have hat:s.at'+1<l.length:=h2.at'
       unfold rdC zBy
       repeat first|exact zE|refine zP ?_|refine zB fun b=>?_|refine zC fun a' c' hc1 hc2=>?_|(apply GJ.a;exact rfl;intro hg)|(apply GJ.o;exact rfl;intro hg)
       rw [←zGt]
       refine zCO (d:={ zAb with kind:=1,width:=(fw:Int),little:=fb }) (x:=zAr) (s:=zC2 s) hT h2 ⟨Rs.nil _ 1,Rs.nil _ 1,Rs.nil _ 5,Rs.nil _ 2⟩ ⟨by simp [zAb],by simp [zAb],by simp [zAb],by simp [zAb]⟩ Take.auto Take.auto Take.auto (fun ro4 a4 hl4 h4=>?_)
       have hk2:=hk ro4 a4 hl4 h4
       repeat first|exact zE|refine zP ?_|refine zB fun b=>?_|refine zC fun a' c' hc1 hc2=>?_|(apply GJ.a;exact rfl;intro hg)|(apply GJ.o;exact rfl;intro hg)
       exact Wk.outS Sup.z (.refl _) hk2
    ·rw [if_pos h1] at hk
     repeat first|exact zE|refine zP ?_|refine zB fun b=>?_|refine zC fun a' c' hc1 hc2=>?_|(apply GJ.a;exact rfl;intro hg)|(apply GJ.o;exact rfl;intro hg)
     refine zAF (e:=5) (by decide) (by decide) hT h Take.auto Take.auto Take.auto (fun h5=>?_)
     have hk2:=hk ro a (Le.refl _) h5
     repeat first|exact zE|refine zP ?_|refine zB fun b=>?_|refine zC fun a' c' hc1 hc2=>?_|(apply GJ.a;exact rfl;intro hg)|(apply GJ.o;exact rfl;intro hg)
     exact Wk.outS Sup.z (.refl _) hk2
 ·rw [if_pos hc] at hk
  rw [decide_eq_false hc]
  have hk2:=hk ro a (Le.refl _) h
  repeat first|exact zE|refine zP ?_|refine zB fun b=>?_|refine zC fun a' c' hc1 hc2=>?_|(apply GJ.a;exact rfl;intro hg)|(apply GJ.o;exact rfl;intro hg)
  exact Wk.outS Sup.z (.refl _) hk2
end
theorem zFT {la:Option Addr}{lc r:Nat}{l:List TokD}:∀ d:Nat,d≤25→KOk la lc r l ((25:Int)-(d:Int)) (zCg numD (zAa l) d)
 | 0,_=>zHp
 | d+1,h=>by
   have h2:=zFT (la:=la) (lc:=lc) (r:=r) (l:=l) d (by omega)
   have h3:=zHo (la:=la) (lc:=lc) (r:=r) (l:=l) (d:=d) (by omega) (by
    rw [show ((24-d:Nat):Int)+1=(25:Int)-(d:Int) by omega];exact h2)
   rw [show (25:Int)-((d+1:Nat):Int)=((24-d:Nat):Int) by omega]
   exact h3
theorem rkind25_ok {la:Option Addr}{lc r:Nat}{l:List TokD}:KOk la lc r l 0 (zCg numD (zAa l) 25):=zFT 25 (Nat.le_refl _)
section
variable {ro:Ro}{own q q1 q2:Chs}{K:Value→Ro→Chs→Prop}{l:List TokD}{s:PS}{a:zAp}{la:Option Addr}{lc r:Nat}
set_option maxHeartbeats 4000000 in
theorem zFp {nm:List UInt8}{t:Int} (hn:s.defs.length=64) (hk:K (.int .i64 2) ro (rdC r la lc l s a::q)) :
  CallOk Tryz.prog 88 #[.pointer (some ⟨r,0+2,none⟩),str nm,.int .i64 t] ro (rdC r la lc l s a::q) K:=by
 unfold rdC zBy at hk ⊢
 refine CallOk.intro (args:=[_,_,_]) (rs:=[_]) T_ok Tryz.func88 Tryz.call88 rfl rfl (by kernel_rfl) rfl rfl ?_
 repeat first|exact zE|refine zP ?_|refine zB fun b=>?_|refine zC fun a' c' hc1 hc2=>?_|(apply GJ.a;exact rfl;intro hg)|(apply GJ.o;exact rfl;intro hg)
 exact Wk.outS Sup.z (.refl _) hk
set_option maxHeartbeats 4000000 in
theorem zGQ {d:DefD} (h:RdOk ro l s a) (hn:s.defs.length<64)
  (hk:∀ a',RdOk ro l { s with defs:=s.defs++[d] } a'→K (.int .i64 0) ro (rdC r la lc l { s with defs:=s.defs++[d] } a'::ndC { s with defs:=s.defs++[d] } a'::dfC { s with defs:=s.defs++[d] } a'::q)) :
  CallOk Tryz.prog 88 #[.pointer (some ⟨r,0+2,none⟩),str d.name,.int .i64 d.type] ro (rdC r la lc l s a::ndC s a::dfC s a::q) K:=by
 have hb:=h.build
 have hdc:=hb.dc
 unfold rdC zBy
 refine CallOk.intro (args:=[_,_,_]) (rs:=[_]) T_ok Tryz.func88 Tryz.call88 rfl rfl (by kernel_rfl) rfl rfl ?_
 repeat first|exact zE|refine wkG ?_|refine zB fun b=>?_|refine zC fun a' c' hc1 hc2=>?_|(show GJ _ _ _ _ _ _ _;first|(apply GJ.a;exact rfl;intro hg)|(apply GJ.o;exact rfl;intro hg)|refine GJ.t zO ?_|refine GJ.f zO ?_|refine GJ.ft zO ?_|refine GJ.ff zO ?_)
 have e1:(s.defs++[d]).length=s.defs.length+1:=by simp
 have e2:zCL s.defs++flat [.agg #[str d.name,.int .i64 d.type]]=zCL (s.defs++[d]):=by simp [zCL,defV,flat,Value.cells]
 have hk2:=hk ⟨a.na,a.nc,a',c',a.xs⟩ ⟨h.at',h.fat,h.code,⟨hb.len,hb.each,hb.nc,⟨by dsimp only;rw [e1];exact hc1,hc2⟩⟩,h.sm,h.nn,by dsimp only;rw [e1];omega⟩
 unfold rdC zBy ndC dfC at hk2
 dsimp only at hk2
 rw [e1] at hk2
 rw [e2]
 exact Wk.outS Sup.z (.refl _) hk2
set_option maxHeartbeats 4000000 in
theorem rdef_ok (hM:MaxOk ro) (hT:ToksOk ro la lc l) (h:RdOk ro l s a) (t1:Take own (rdC r la lc l s a) q1) (t2:Take q1 (ndC s a) q2) (t3:Take q2 (dfC s a) q)
  (hk:∀ ro' a',Le ro ro'→RdOk ro' l (defP numD (zAa l) s) a'→K (.tuple #[]) ro' (rdC r la lc l (defP numD (zAa l) s) a'::ndC (defP numD (zAa l) s) a'::dfC (defP numD (zAa l) s) a'::q)) :
  CallOk Tryz.prog 59 #[ptr' r] ro own K:=by
 refine CallOk.perm (zB8 t1 t2 t3) ?_
 have hlim:(zAa l).limD=64:=rfl
 unfold defP at hk
 dsimp only at hk
 rw [hlim] at hk
 refine CallOk.intro (args:=[_]) (rs:=[]) T_ok Tryz.func59 Tryz.call59 rfl rfl (by kernel_rfl) rfl rfl ?_
 repeat first|exact zE|refine zP ?_|refine zB fun b=>?_|refine zC fun a' c' hc1 hc2=>?_|(apply GJ.a;exact rfl;intro hg)|(apply GJ.o;exact rfl;intro hg)
 refine zDj hM hT h Take.auto Take.auto Take.auto (fun h1=>?_)
 generalize zA6 (zAa l) s=x at *
 obtain ⟨xn,s1⟩:=x
 dsimp only at h1 hk ⊢
 repeat first|exact zE|refine zP ?_|refine zB fun b=>?_|refine zC fun a' c' hc1 hc2=>?_|(apply GJ.a;exact rfl;intro hg)|(apply GJ.o;exact rfl;intro hg)
 refine zAi (t:=[61]) hT h1 Take.auto Take.auto Take.auto (fun h2=>?_)
 generalize zAe (zAa l) [61] s1=s2 at *
 repeat first|exact zE|refine zP ?_|refine zB fun b=>?_|refine zC fun a' c' hc1 hc2=>?_|(apply GJ.a;exact rfl;intro hg)|(apply GJ.o;exact rfl;intro hg)
 refine rkind25_ok.run hM hT h2 Take.auto Take.auto Take.auto (fun ro2 a2 hl2 h3=>?_)
 generalize zCg numD (zAa l) 25 s2=k at *
 obtain ⟨kn,s3⟩:=k
 dsimp only at h3 hk ⊢
 have hM2:=hM.le hl2
 have hT2:=hT.up hl2
 repeat first|exact zE|refine zP ?_|refine zB fun b=>?_|refine zC fun a' c' hc1 hc2=>?_|(apply GJ.a;exact rfl;intro hg)|(apply GJ.o;exact rfl;intro hg)
 refine zAi (t:=[59]) hT2 h3 Take.auto Take.auto Take.auto (fun h4=>?_)
 generalize zAe (zAa l) [59] s3=s4 at *
 repeat first|exact zE|refine zP ?_|refine zB fun b=>?_|refine zC fun a' c' hc1 hc2=>?_|(apply GJ.a;exact rfl;intro hg)|(apply GJ.o;exact rfl;intro hg)
 refine zAX h4 Take.auto ?_
 by_cases hc:s4.code=0
 ·rw [if_neg (fun h=>h hc)] at hk
  rw [decide_eq_true hc]
  repeat first|exact zE|refine zP ?_|refine zB fun b=>?_|refine zC fun a' c' hc1 hc2=>?_|(apply GJ.a;exact rfl;intro hg)|(apply GJ.o;exact rfl;intro hg)
  by_cases hn:s4.defs.length=64
  ·rw [if_pos hn] at hk
   refine CallOk.perm (zB8 (c1:=rdC r la lc l s4 a2) (c2:=ndC s4 a2) (c3:=dfC s4 a2) Take.auto Take.auto Take.auto) ?_
   refine zFp hn ?_
   repeat first|exact zE|refine zP ?_|refine zB fun b=>?_|refine zC fun a' c' hc1 hc2=>?_|(apply GJ.a;exact rfl;intro hg)|(apply GJ.o;exact rfl;intro hg)
   refine zAF (e:=2) (by decide) (by decide) hT2 h4 Take.auto Take.auto Take.auto (fun h5=>?_)
   have hk2:=hk ro2 a2 hl2 h5
   repeat first|exact zE|refine zP ?_|refine zB fun b=>?_|refine zC fun a' c' hc1 hc2=>?_|(apply GJ.a;exact rfl;intro hg)|(apply GJ.o;exact rfl;intro hg)
   exact Wk.outS Sup.z (.refl _) hk2
  ·rw [if_neg hn] at hk
   have h64:=h4.nd
   refine CallOk.perm (zB8 (c1:=rdC r la lc l s4 a2) (c2:=ndC s4 a2) (c3:=dfC s4 a2) Take.auto Take.auto Take.auto) ?_
   refine zGQ (d:=⟨xn,(kn:Int)⟩) h4 (by omega) (fun a5 h5=>?_)
   have hk2:=hk ro2 a5 hl2 h5
   repeat first|exact zE|refine zP ?_|refine zB fun b=>?_|refine zC fun a' c' hc1 hc2=>?_|(apply GJ.a;exact rfl;intro hg)|(apply GJ.o;exact rfl;intro hg)
   exact Wk.outS Sup.z (.refl _) hk2
 ·rw [if_pos hc] at hk
  rw [decide_eq_false hc]
  have hk2:=hk ro2 a2 hl2 h4
  repeat first|exact zE|refine zP ?_|refine zB fun b=>?_|refine zC fun a' c' hc1 hc2=>?_|(apply GJ.a;exact rfl;intro hg)|(apply GJ.o;exact rfl;intro hg)
  exact Wk.outS Sup.z (.refl _) hk2
end
theorem zGF {l:List UInt8}{k:Nat}{w:List UInt8}{n:Nat} (h:zAE l=(k,w,n,0)):k≠5∧w.length≤l.length:=by
 have hf:=zFC h
 refine ⟨hf.five,?_⟩
 have h1:=congrArg List.length hf.app
 rw [List.length_append,←hf.len,List.length_drop] at h1
 have h2:w.length≤(zDM k w).length:=by
  unfold zDM
  split<;>simp<;>omega
 have:=hf.len
 omega
theorem zE6:∀ (ts:List TokD) (a:Nat) (l:List UInt8),zIt a l ts→(0<ts.length∧∀ (i:Nat) (t:TokD),ts[i]?=some t→(t.kind=5↔i+1=ts.length))∧(∀ t∈ts,t.text.length≤l.length)∧∀ t,ts.getLast?=some t→t.a=a+l.length
 | [],a,l,h=>h.elim
 | t::ts,a,l,⟨ha,h⟩=>by
   rcases h with ⟨h5,ht,rfl,hd⟩|⟨n,hd,hf,hw⟩
   ·have hg:l.length≤gapD false l:=by
     have:=congrArg List.length hd
     rw [List.length_drop,List.length_nil] at this
     omega
    refine ⟨⟨Nat.zero_lt_one,fun i u hu=>?_⟩,fun u hu=>?_,fun u hu=>?_⟩
    ·cases i with
     | zero=>simp at hu;subst hu;exact ⟨fun _=>rfl,fun _=>h5⟩
     | succ i=>simp at hu
    ·simp at hu;subst hu;rw [ht];exact Nat.zero_le _
    ·simp at hu;subst hu
     have:=zCU l false
     omega
   ·obtain ⟨⟨g1,g2⟩,g3,g4⟩:=zE6 ts _ _ hw
    obtain ⟨k5,kw⟩:=zGF hf
    have hF:=zFC hf
    have hn:n≤(l.drop (gapD false l)).length:=by
     have h1:=congrArg List.length hF.app
     rw [List.length_append,←hF.len,List.length_drop] at h1
     have:=hF.len
     omega
    have hgl:=zCU l false
    rw [List.length_drop] at hn kw
    have kw:t.text.length≤l.length-gapD false l:=kw
    refine ⟨⟨by simp,fun i u hu=>?_⟩,fun u hu=>?_,fun u hu=>?_⟩
    ·cases i with
     | zero=>simp at hu;subst hu;exact ⟨fun h=>absurd h k5,fun h=>by simp only [List.length_cons] at h;omega⟩
     | succ i =>
       simp at hu
       have:=g2 i u hu
       simp
       exact this
    ·rcases List.mem_cons.1 hu with rfl|hu
     ·omega
     ·have:=g3 u hu
      simp only [List.length_drop] at this
      omega
    ·have:ts≠[]:=by intro e;subst e;simp at g1
     rw [List.getLast?_cons] at hu
     obtain ⟨v,hv⟩:∃ v,ts.getLast?=some v:=by
      cases e:ts.getLast? with
      | none=>exact absurd (List.getLast?_eq_none_iff.1 e) this
      | some v=>exact ⟨v,rfl⟩
     rw [hv] at hu
     simp at hu
     subst hu
     have:=g4 v hv
     simp only [List.length_drop] at this
     omega
theorem scan_end {tx:List UInt8}{l:List TokD}{a:Nat} (h:zBW tx=(l,a,0)):EndL l∧(∀ t∈l,t.text.length≤tx.length)∧tx.length≤65536∧∀ t,l.getLast?=some t→t.a=tx.length:=by
 unfold zBW at h
 split at h
 ·cases h
 ·obtain ⟨ts,e,hw⟩:=zDW _ _ _ _ _ _ (Nat.lt_succ_self _) h
  rw [List.nil_append] at e
  subst e
  obtain ⟨g1,g2,g3⟩:=zE6 _ _ _ hw
  exact ⟨⟨g1.1,g1.2⟩,g2,by omega,fun t ht=>by rw [g3 t ht];omega⟩
def zBT (tx:List UInt8):zAd × Int × Nat :=
 if (zBW tx).2.2≠0 then (⟨[],[]⟩,((zBW tx).2.2:Int),(zBW tx).2.1) else
 ((zG2 numD (zBW tx).1).1,(zG2 numD (zBW tx).1).2.1,if (zG2 numD (zBW tx).1).2.1=0 then 0 else match (zG2 numD (zBW tx).1).2.2 with
   | some i=>((zBW tx).1[i]?.getD endT).a
   | none=>tx.length)
theorem def_code {l:List TokD}{s:PS} (h:(defP numD (zAa l) s).code=0):(defP numD (zAa l) s).defs.length=s.defs.length+1:=by
 have hkeep:(zAe (zAa l) [59] (zCg numD (zAa l) 25 (zAe (zAa l) [61] (zA6 (zAa l) s).2)).2).defs=s.defs:=by
  have C:Clo (zAa l) (fun z=>z.defs=s.defs):=⟨fun z e _ h=>by unfold zAg;split<;>exact h,fun z h _=>h,fun z e _ h=>by unfold zAg;split<;>exact h,fun z n h=>h⟩
  have h0:InP (fun z=>z.defs=s.defs) (zAa l) s:=⟨rfl⟩
  exact (InP.must (InP.kind (wideP:=numD) 25 _ (InP.must (InP.name h0) [61])) [59]).get
 unfold defP at h ⊢
 dsimp only at h ⊢
 generalize zAe (zAa l) [59] (zCg numD (zAa l) 25 (zAe (zAa l) [61] (zA6 (zAa l) s).2)).2=s1 at *
 split at h
 ·exact absurd h ‹_›
 rename_i h1
 rw [if_neg h1]
 split at h
 ·unfold zAg at h
  rw [if_pos (Decidable.of_not_not h1)] at h
  cases h
 ·rename_i h2
  rw [if_neg h2]
  simp [hkeep]
section
variable {ro:Ro}{own q q1 q2:Chs}{K:Value→Ro→Chs→Prop}{l:List TokD}{s:PS}{a:zAp}{la:Option Addr}{lc r:Nat}
theorem zHm {tx:List UInt8} (hS:SpOk ro) (hl:tx.length≤100000)
  (hk:∀ ro' l a code a' c',Le ro ro'→zBW tx=(l,a,code)→l.length≤8193→code≤1000→a≤tx.length→Rs ro' a' l.length c' 3 (zDh l)→K (.tuple #[.slice a' l.length c',zHW code a]) ro' own) :
  CallOk Tryz.prog 56 #[str tx] ro own K :=
 CallOk.lastly (Q:=fun v L=>∃ l a code a' c',zBW tx=(l,a,code)∧l.length≤8193∧code≤1000∧a≤tx.length∧v=.tuple #[.slice a' l.length c',zHW code a]∧L=[.sl a' l.length c' 111 3 (zDh l)])
  (scan_ok hS hl (fun l a code a' c' h1 h2 h3 h4 h5 h6=>⟨rfl,[_],rfl,l,a,code,a',c',h1,h2,h3,h4,rfl,rfl⟩)) (fun ro' v L hl hh ⟨l,a,code,a',c',h1,h2,h3,h4,hv,he⟩=>by
  subst hv;subst he
  exact hk ro' l a code a' c' hl h1 h2 h3 h4 (Rs.last (hh _ (List.mem_singleton.2 rfl))))
set_option maxHeartbeats 4000000 in
theorem zGP (ho:SpecOk ro ⟨s.nodes,s.defs⟩ a) (hn:s.nodes.length≤100000∧s.defs.length≤100000) (hs:∀ d∈s.nodes,zDg d)
  (h1:zAo ⟨s.nodes,s.defs⟩≠0→K (.tuple #[.agg #[.slice none 0 0,.slice none 0 0],.int .i64 (zAo ⟨s.nodes,s.defs⟩)]) ro (rdC r la lc l s a::q))
  (h2:zAo ⟨s.nodes,s.defs⟩=0→∀ ro' a',Le ro ro'→SpecOk ro' ⟨s.nodes,s.defs⟩ a'→K (.tuple #[.agg (zAf ⟨s.nodes,s.defs⟩ a').toArray,.int .i64 0]) ro' (rdC r la lc l s a::q)) :
  CallOk Tryz.prog 60 #[.pointer (some ⟨r,0+2,none⟩)] ro (rdC r la lc l s a::q) K:=by
 unfold rdC zBy at h1 h2 ⊢
 refine CallOk.intro (args:=[_]) (rs:=[_,_]) T_ok Tryz.func60 Tryz.call60 rfl rfl (by kernel_rfl) rfl rfl ?_
 repeat first|exact zE|refine zP ?_|refine zB fun b=>?_|refine zC fun a' c' hc1 hc2=>?_|(apply GJ.a;exact rfl;intro hg)|(apply GJ.o;exact rfl;intro hg)
 refine zGk ho ?_
 by_cases hc:zAo ⟨s.nodes,s.defs⟩=0
 ·rw [hc]
  repeat first|exact zE|refine zP ?_|refine zB fun b=>?_|refine zC fun a' c' hc1 hc2=>?_|(apply GJ.a;exact rfl;intro hg)|(apply GJ.o;exact rfl;intro hg)
  refine zF0 ho hn hs (fun ro' a' hl' h'=>?_)
  have hk2:=h2 hc ro' a' hl' h'
  repeat first|exact zE|refine zP ?_|refine zB fun b=>?_|refine zC fun a' c' hc1 hc2=>?_|(apply GJ.a;exact rfl;intro hg)|(apply GJ.o;exact rfl;intro hg)
  exact Wk.outS Sup.z (.refl _) hk2
 ·have hk2:=h1 hc
  generalize zAo ⟨s.nodes,s.defs⟩=z at *
  repeat first|exact zE|refine zP ?_|refine zB fun b=>?_|refine zC fun a' c' hc1 hc2=>?_|(apply GJ.a;exact rfl;intro hg)|(apply GJ.o;exact rfl;intro hg)
  exact Wk.outS Sup.z (.refl _) hk2
set_option maxHeartbeats 4000000 in
theorem zGc {tx:List UInt8} (hS:SpOk ro) (hM:MaxOk ro) (hl:tx.length≤100000)
  (hk:∀ ro' a,Le ro ro'→SpecOk ro' (zBT tx).1 a→K (.tuple #[.agg (zAf (zBT tx).1 a).toArray,.agg #[.int .i64 (zBT tx).2.1,.int .i64 ((zBT tx).2.2:Int)]]) ro' own) :
  CallOk Tryz.prog 27 #[str tx] ro own K:=by
 unfold zBT at hk
 refine CallOk.intro (args:=[_]) (rs:=[_,_]) T_ok Tryz.func27 Tryz.call27 rfl rfl (by kernel_rfl) rfl rfl ?_
 repeat first|exact zE|refine zP ?_|refine zB fun b=>?_|refine zC fun a' c' hc1 hc2=>?_|(apply GJ.a;exact rfl;intro hg)|(apply GJ.o;exact rfl;intro hg)
 rename_i b2
 obtain ⟨b3,hb3⟩:∃ z:Nat,z=b:=⟨_,rfl⟩
 subst hb3
 refine zHm hS hl (fun ro1 l a code a' c' hl1 hsc h1 h2 h3 h4=>?_)
 rw [hsc] at hk
 dsimp only at hk
 repeat first|exact zE|refine zP ?_|refine zB fun b=>?_|refine zC fun a' c' hc1 hc2=>?_|(apply GJ.a;exact rfl;intro hg)|(apply GJ.o;exact rfl;intro hg)
 by_cases hc:code=0
 ·rw [if_neg (fun h=>h hc)] at hk
  subst hc
  obtain ⟨e1,e2,e3,e4⟩:=scan_end hsc
  have hT:ToksOk ro1 a' c' l:=⟨h4,e1.pos,e1.last,h1,fun t ht=>by have:=e2 t ht;omega⟩
  repeat first|exact zE|refine zP ?_|refine zB fun b=>?_|refine zC fun a' c' hc1 hc2=>?_|(apply GJ.a;exact rfl;intro hg)|(apply GJ.o;exact rfl;intro hg)
  rename_i b5
  obtain ⟨r,hr⟩:∃ z:Nat,z=b:=⟨_,rfl⟩
  subst hr
  obtain ⟨R,hR⟩:∃ R,R=zG2 numD l:=⟨_,rfl⟩
  rw [←hR] at hk
  unfold zG2 at hR
  obtain ⟨S,hS2⟩:∃ S,S=zIe numD (zAa l) 70 zFP:=⟨_,rfl⟩
  rw [←hS2] at hR
  refine LoopOk.auto (ι:=Bool × PS × zAp) Keep.z (fun (m,s,a0)=>[(7,.bool m)]) (fun (m,s,a0)=>rdC r a' c' l s a0::ndC s a0::dfC s a0::.blk b2 25 [.slice none 0 0,.slice none 0 0]::.blk b3 58 [.int .i64 0,.int .i64 0]::own) (fun (m,s,a0) ro2=>RdOk ro2 l s a0∧S=(if m=true∧s.code=0 then zIe numD (zAa l) (70-s.defs.length) s else s)) (fun (m,s,a0)=>(if s.code=0 then 70-s.defs.length else 0)+(if m=true then 1 else 0)) (true,zFP,⟨none,0,none,0,[]⟩) ?_ Sub.z Sup.z ?_
  ·exact ⟨⟨e1.pos,e1.pos,Nat.zero_le _,⟨rfl,fun i d x h=>by simp [zFP] at h,⟨Nat.le_refl _,Nat.zero_le _⟩,⟨Nat.le_refl _,Nat.zero_le _⟩⟩,fun d hd=>(by cases hd),Nat.zero_le _,Nat.zero_le _⟩,by rw [hS2,if_pos ⟨rfl,rfl⟩];rfl⟩
  clear hS2 hsc
  rintro ⟨m,s,a0⟩ ro2 hl2 ⟨i1,i2⟩
  dsimp only [List.cons_append,List.nil_append] at i1 i2 ⊢
  have hM2:=(hM.le hl1).le hl2
  have hT2:=hT.up hl2
  cases m with
  | false =>
    rw [if_neg (fun h=>by cases h.1)] at i2
    subst i2
    repeat first|exact zE|refine zP ?_|refine zB fun b=>?_|refine zC fun a' c' hc1 hc2=>?_|(apply GJ.a;exact rfl;intro hg)|(apply GJ.o;exact rfl;intro hg)
    refine zAX i1 Take.auto ?_
    by_cases hc0:S.code=0
    ·rw [if_neg (fun h=>h hc0)] at hR
     rw [decide_eq_true hc0]
     repeat first|exact zE|refine zP ?_|refine zB fun b=>?_|refine zC fun a' c' hc1 hc2=>?_|(apply GJ.a;exact rfl;intro hg)|(apply GJ.o;exact rfl;intro hg)
     refine CallOk.freeze (c:=ndC S a0) Take.auto (fun ro8 hl8 hc8=>?_)
     refine CallOk.freeze (c:=dfC S a0) Take.auto (fun ro9 hl9 hc9=>?_)
     have hb:=(i1.up hl8).up hl9
     have hso:SpecOk ro9 ⟨S.nodes,S.defs⟩ a0:=⟨hb.build.len,rsUp hl9 (Rs.last hc8),hb.build.each,Rs.last hc9⟩
     have hnn:=i1.nn
     have hnd:=i1.nd
     refine CallOk.perm (Take.perm (c:=rdC r a' c' l S a0) Take.auto) ?_
     refine zGP hso ⟨by omega,by omega⟩ i1.sm (fun hck=>?_) (fun hck ro4 a4 hl4 h4=>?_)
     ·rw [if_pos hck] at hR
      subst hR
      dsimp only at hk
      rw [if_neg hck] at hk
      have hk2:=hk ro9 ⟨none,0,none,0,[]⟩ (((hl1.trans hl2).trans hl8).trans hl9) ⟨rfl,Rs.nil _ 18,fun i d x h=>by simp at h,Rs.nil _ 2⟩
      generalize zAo ⟨S.nodes,S.defs⟩=z at *
      repeat first|exact zE|refine zP ?_|refine zB fun b=>?_|refine zC fun a' c' hc1 hc2=>?_|(apply GJ.a;exact rfl;intro hg)|(apply GJ.o;exact rfl;intro hg)
      exact Wk.outS Sup.z (.refl _) hk2
     ·rw [if_neg (fun h=>h hck)] at hR
      subst hR
      dsimp only at hk
      rw [if_pos rfl] at hk
      have hk2:=hk ro4 a4 ((((hl1.trans hl2).trans hl8).trans hl9).trans hl4) h4
      repeat first|exact zE|refine zP ?_|refine zB fun b=>?_|refine zC fun a' c' hc1 hc2=>?_|(apply GJ.a;exact rfl;intro hg)|(apply GJ.o;exact rfl;intro hg)
      exact Wk.outS Sup.z (.refl _) hk2
    ·rw [if_pos hc0] at hR
     rw [decide_eq_false hc0]
     subst hR
     dsimp only at hk
     rw [if_neg (show ¬(S.code:Int)=0 by omega),show (l[S.fat]?.getD endT).a=fatV l S by unfold fatV;rw [if_neg hc0]] at hk
     have hk2:=hk ro2 ⟨none,0,none,0,[]⟩ (hl1.trans hl2) ⟨rfl,Rs.nil _ 18,fun i d x h=>by simp at h,Rs.nil _ 2⟩
     unfold rdC zBy
     repeat first|exact zE|refine zP ?_|refine zB fun b=>?_|refine zC fun a' c' hc1 hc2=>?_|(apply GJ.a;exact rfl;intro hg)|(apply GJ.o;exact rfl;intro hg)
     exact Wk.outS Sup.z (.refl _) hk2
  | true =>
    by_cases hc:s.code=0
    ·rw [if_pos ⟨rfl,hc⟩] at i2
     have h64:=i1.nd
     rw [show 70-s.defs.length=(69-s.defs.length)+1 by omega,zIe] at i2
     repeat first|exact zE|refine zP ?_|refine zB fun b=>?_|refine zC fun a' c' hc1 hc2=>?_|(apply GJ.a;exact rfl;intro hg)|(apply GJ.o;exact rfl;intro hg)
     refine zAX i1 Take.auto ?_
     rw [decide_eq_true hc]
     repeat first|exact zE|refine zP ?_|refine zB fun b=>?_|refine zC fun a' c' hc1 hc2=>?_|(apply GJ.a;exact rfl;intro hg)|(apply GJ.o;exact rfl;intro hg)
     refine rdef_ok hM2 hT2 i1 Take.auto Take.auto Take.auto (fun ro3 a3 hl3 h5=>?_)
     have hdc:=def_code (l:=l) (s:=s)
     generalize defP numD (zAa l) s=s3 at *
     repeat first|exact zE|refine zP ?_|refine zB fun b=>?_|refine zC fun a' c' hc1 hc2=>?_|(apply GJ.a;exact rfl;intro hg)|(apply GJ.o;exact rfl;intro hg)
     refine zAN (hT2.up hl3) h5 Take.auto ?_
     repeat first|exact zE|refine zP ?_|refine zB fun b=>?_|refine zC fun a' c' hc1 hc2=>?_|(apply GJ.a;exact rfl;intro hg)|(apply GJ.o;exact rfl;intro hg)
     refine Wk.id ⟨(decide (((zAy (zAa l) s3).kind:Int)≠5),s3,a3),?_,?_,Sub.z,Sup.z⟩
     all_goals try dsimp only
     ·refine ⟨h5,?_⟩
      rw [i2]
      have e5:(decide (((zAy (zAa l) s3).kind:Int)≠5)=true∧s3.code=0)↔(s3.code=0∧(zAy (zAa l) s3).kind≠5):=by
       rw [decide_eq_true_iff]
       omega
      by_cases hx:s3.code=0∧(zAy (zAa l) s3).kind≠5
      ·rw [if_pos hx,if_pos (e5.2 hx),hdc hx.1,show 70-(s.defs.length+1)=69-s.defs.length by omega]
      ·rw [if_neg hx,if_neg (fun h=>hx (e5.1 h))]
     ·rw [if_pos hc,if_pos rfl]
      have h1:(if decide (((zAy (zAa l) s3).kind:Int)≠5)=true then 1 else 0)≤1:=by split<;>omega
      split
      ·rename_i hx
       have:=hdc hx
       omega
      ·omega
    ·rw [if_neg (fun h=>hc h.2)] at i2
     subst i2
     repeat first|exact zE|refine zP ?_|refine zB fun b=>?_|refine zC fun a' c' hc1 hc2=>?_|(apply GJ.a;exact rfl;intro hg)|(apply GJ.o;exact rfl;intro hg)
     refine zAX i1 Take.auto ?_
     have hc0:=hc
     rw [decide_eq_false hc]
     repeat first|exact zE|refine zP ?_|refine zB fun b=>?_|refine zC fun a' c' hc1 hc2=>?_|(apply GJ.a;exact rfl;intro hg)|(apply GJ.o;exact rfl;intro hg)
     refine zAX i1 Take.auto ?_
     rw [if_pos hc0] at hR
     rw [decide_eq_false hc0]
     subst hR
     dsimp only at hk
     rw [if_neg (show ¬(S.code:Int)=0 by omega),show (l[S.fat]?.getD endT).a=fatV l S by unfold fatV;rw [if_neg hc0]] at hk
     have hk2:=hk ro2 ⟨none,0,none,0,[]⟩ (hl1.trans hl2) ⟨rfl,Rs.nil _ 18,fun i d x h=>by simp at h,Rs.nil _ 2⟩
     unfold rdC zBy
     repeat first|exact zE|refine zP ?_|refine zB fun b=>?_|refine zC fun a' c' hc1 hc2=>?_|(apply GJ.a;exact rfl;intro hg)|(apply GJ.o;exact rfl;intro hg)
     exact Wk.outS Sup.z (.refl _) hk2
 ·rw [if_pos hc] at hk
  have hk2:=hk ro1 ⟨none,0,none,0,[]⟩ hl1 ⟨rfl,Rs.nil _ 18,fun i d x h=>by simp at h,Rs.nil _ 2⟩
  repeat first|exact zE|refine zP ?_|refine zB fun b=>?_|refine zC fun a' c' hc1 hc2=>?_|(apply GJ.a;exact rfl;intro hg)|(apply GJ.o;exact rfl;intro hg)
  exact Wk.outS Sup.z (.refl _) hk2
end
theorem vOne.at {P:Program}{T:TT}{all:List Oper}{i:Nat}{k:Kt}{env:Env}{ro:Ro}{own:Chs}{d:Option Nat}{op:Op}{ty:TypeId}{pos:String}{af:Array Edge} (hi:all[i]?=some ⟨d,op,ty,pos,af,none⟩) (h:vOp P T op ty d k env ro own):vOne P T all i k env ro own:=by
 unfold vOne;rw [hi];exact h
theorem vFo.cons {P:Program}{T:TT}{all:List Oper}{B:Chs}{Φ:Kt}{i:Nat}{s b:Fo}{env:Env}{ro:Ro}{own:Chs} (h1:vOne P T all i (fun env' ro' own'=>Stop (Sup own' B∧vFo P T all B Φ s env' ro' own')) env ro own) (h2:vFo P T all B Φ b env ro own):vFo P T all B Φ (.cons i s b) env ro own:=⟨h1,h2⟩
theorem vFo.nil {P:Program}{T:TT}{all:List Oper}{B:Chs}{Φ:Kt}{env:Env}{ro:Ro}{own:Chs}:vFo P T all B Φ .nil env ro own:=trivial
theorem vFo.stop {own B:Chs}{p:Prop} (h1:Sup own B) (h2:p):Stop (Sup own B∧p):=⟨⟨h1,h2⟩⟩
def Ahead (s:zAd):Prop:=∀ (i:Nat) (d:zAh),s.nodes[i]?=some d→zB1 d=0∧∀ k∈zAc d,0≤k∧k<(i:Int)
theorem zBt {lim:Nat}:∀ {ks:List Int}{o o':List Bool},zAD lim ks o=.ok o'→∀ k∈ks,0≤k∧k<(lim:Int)
 | [],o,o',h,k,hk=>by cases hk
 | k0::ks,o,o',h,k,hk=>by
   unfold zAD at h
   split at h
   ·cases h
   ·split at h
    ·cases h
    ·rcases List.mem_cons.1 hk with rfl|hk
     ·omega
     ·exact zBt h k hk
theorem zDO:∀ (ds:List zAh) (n:Nat) (o o':List Bool),zAA n ds o=.ok o'→∀ (i:Nat) (d:zAh),ds[i]?=some d→zB1 d=0∧∀ k∈zAc d,0≤k∧k<((n+i:Nat):Int):=by
 intro ds
 induction ds with
 | nil=>intro n o o' _ i d h;simp at h
 | cons d0 ds ih =>
   intro n o o' h i d hd
   rw [zAA] at h
   split at h
   ·cases h
   ·rename_i hf
    cases ho:zAD n (zAc d0) o with
    | error e=>rw [ho] at h;cases h
    | ok o1 =>
      rw [ho] at h
      cases i with
      | zero =>
        simp at hd;subst hd
        exact ⟨by omega,fun k hk=>by have:=zBt ho k hk;omega⟩
      | succ i =>
        have:=ih (n+1) o1 o' h i d (by simpa using hd)
        refine ⟨this.1,fun k hk=>?_⟩
        have:=this.2 k hk
        omega
theorem zCR {lim:Nat}{e:Int}:∀ {ks:List Int}{o:List Bool},zAD lim ks o=.error e→e≠0
 | [],o,h=>by cases h
 | k0::ks,o,h=>by
   unfold zAD at h
   split at h
   ·cases h;decide
   ·split at h
    ·cases h;decide
    ·exact zCR h
theorem zDe {e:Int}:∀ {ds:List zAh}{n:Nat}{o:List Bool},zAA n ds o=.error e→e≠0
 | [],n,o,h=>by cases h
 | d::ds,n,o,h=>by
   rw [zAA] at h
   split at h
   ·rename_i hf;cases h;exact hf
   ·cases ho:zAD n (zAc d) o with
    | error e2=>rw [ho] at h;cases h;exact zCR ho
    | ok o1=>rw [ho] at h;exact zDe h
theorem zA8 {s:zAd} (h:zAo s=0):∃ o o',zAA 0 s.nodes (List.replicate s.nodes.length false)=.ok o∧zAD s.nodes.length (s.defs.map (·.type)) o=.ok o'∧s.nodes.length≤2048∧s.defs.length≤64∧s.defs≠[]∧false∉o':=by
 unfold zAo at h
 split at h
 ·cases h
 ·rename_i h0
  unfold zDG at h
  cases h1:zAA 0 s.nodes (List.replicate s.nodes.length false) with
  | error e=>rw [h1] at h;exact absurd h (zDe h1)
  | ok o =>
    rw [h1] at h
    simp only at h
    cases h2:zAD s.nodes.length (s.defs.map (·.type)) o with
    | error e=>rw [h2] at h;exact absurd h (zCR h2)
    | ok o' =>
      rw [h2] at h
      simp only at h
      refine ⟨o,o',rfl,h2,by omega,by omega,fun e=>by rw [e] at h0;simp at h0,fun hm=>?_⟩
      rw [if_pos hm] at h
      cases h
theorem Ahead.of {s:zAd} (h:zAo s=0):Ahead s:=by
 obtain ⟨o,o',h1,_⟩:=zA8 h
 intro i d hd
 have:=zDO _ _ _ _ h1 i d hd
 simpa using this
section
variable {ro:Ro}{own r:Chs}{K:Value→Ro→Chs→Prop}{g:Chunk→Chs}
end
end Go.Proofs.YtnapjcnfgdkmcaaGreatDoor
end
section
namespace Go.E
theorem vFo.leaf {P:Program}{T:TT}{all:List Oper}{B:Chs}{Φ:Kt}{env:Env}{ro:Ro}{own:Chs} (h:Φ env ro own):vFo P T all B Φ .leaf env ro own:=h
end Go.E
namespace Go.Proofs.YtnapjcnfgdkmcaaGreatDoor
open Go Go.E
theorem zCY {P:Program}{f:FuncId}{xs bs:Array Value}{ro:Ro}{own:Chs}{K:Value→Ro→Chs→Prop} (e:xs=bs) (h:CallOk P f bs ro own K):CallOk P f xs ro own K:=e▸h
section
variable {ro:Ro}{own:Chs}{K:Value→Ro→Chs→Prop}
end
variable {H:Type}{enc:TypeId × Value→H}
theorem zFV {a:Assume}{C:Checked}{os:Os}{f:FuncId}{fn:Func}{s:ChangeSpec}{conds:List PathCond}{apart zGH handsOn again:Bool}{X:World→Array Value→Prop}
  (hX:∀ (w w':World) (args:Array Value),w.heap=w'.heap→X w args→X w' args)
  (own:ownKnob C.prog.godebug=none) (started:os.Started) (noInit:C.prog.inits.idxOf? f=none) (hfn:C.prog.funcs[f]?=some fn)
  (witness:∃ (w:World) (tape:Tape) (i:Input),w.os=os∧(w.forCall tape i).Shaped C.prog∧i.vars=[]∧Input.okWide C.prog (w.forCall tape i) .any w.heap.size f i ∧
   ((s.pre enc C.prog fn conds apart (w.forCall tape i).memory i.args∧X (w.forCall tape i).memory i.args)∧sizedMet enc C.prog fn (OpenSpec.ofChange s) apart (w.forCall tape i).memory i.args)∧a.holds C.prog (lone (Frame.enter C.prog f i.args .normal) [] (w.forCall tape i)))
  (contract:∀ (W:World) (base:Nat) (args:Array Value) (ds gs:List (DataW H)) (before:List MemPlace),
   (∀ (j:Nat) t v,fn.params[j]?=some t→args[j]?=some v→Value.okWide C.prog W .any base t v) →
   DataW.Whole enc C.prog fn.params.toList s.vars apart W args.toList ds gs before →
   conds.all (PathCond.test C.prog ⟨fn.params.toList,ds,s.plain.varTypes C.prog,gs⟩)=true →
   (DataW.weightsEach C.prog (fn.params.toList++s.plain.varTypes C.prog) (ds++gs)).all (·≤reachBytes)=true→X W args→W.ShapedOpen C.prog →
   a.holds C.prog (lone (Frame.enter C.prog f args .normal) [] W) →
   Calls C.prog f args W fun e W'=>∃ v,e=.returned v∧s.post enc C.prog fn apart zGH handsOn again W args v W') :
  ReturnsInHanded a C os f .any (fun w args=>(s.pre enc C.prog fn conds apart w args∧X w args)∧sizedMet enc C.prog fn (OpenSpec.ofChange s) apart w args) (s.post enc C.prog fn apart zGH handsOn again):=by
 refine returnsInHanded_of_calls own started noInit witness (fun w tape i _ hshape _ hok hpre hh=>?_)
 obtain ⟨_,_,_,fn2,hfn2,_,_,_,_,hval⟩:=hok
 obtain rfl:fn2=fn:=Option.some.inj (hfn2.symm.trans hfn)
 obtain ⟨⟨⟨ds,gs,before,hw,hc⟩,hx⟩,hz⟩:=hpre
 refine (contract (w.forCall tape i) w.heap.size i.args ds gs before hval (DataW.Whole.of_heap (w':=w.forCall tape i) (by rfl) hw) hc (hz.weights hw) (hX _ _ _ (by rfl) hx) hshape hh).mono fun e W' ⟨v,he,hp⟩=>?_
 subst he
 exact ChangeSpec.post_blind hp
theorem MaxOk.ofShape {W:World} (h:W.ShapedOpen Tryz.prog):MaxOk (hm W.heap):=by
 obtain ⟨m,hc⟩:=Go.Proofs.cell_of_shapedOpen_int (g:=0) (t:=3) (k:=.i64) (zero:=#[.int .i64 0]) h (of_decide_eq_true (by kernel_rfl)) (by kernel_rfl) rfl (by kernel_rfl) (by kernel_rfl) Tryz.underlying3
 refine ⟨m,fun own hp hs=>?_⟩
 obtain ⟨cs,hh,hz,_⟩:=h.1 0 #[.int .i64 0] 3 (of_decide_eq_true (by kernel_rfl)) (by kernel_rfl)
 have h1:=hs.last 0 _ (show hm W.heap 0=some _ from hh)
 rw [zBI h1]
 simpa [World.cell?,hh] using hc
structure OwnRel (E:List Int) (o o':List Bool):Prop where
 len:o'.length=o.length
 nd:E.Nodup
 mem:∀ k∈E,0≤k∧k.toNat<o.length∧o[k.toNat]! = false
 own:∀ j:Nat,j<o.length→(o'[j]! = true↔o[j]! = true∨(j:Int)∈E)
theorem OwnRel.nil (o:List Bool):OwnRel [] o o:=⟨rfl,.nil,fun k h=>(by cases h),fun j _=>by simp⟩
theorem OwnRel.append {E F:List Int}{o o1 o2:List Bool} (h:OwnRel E o o1) (k:OwnRel F o1 o2):OwnRel (E++F) o o2:=by
 refine ⟨k.len.trans h.len,List.nodup_append.2 ⟨h.nd,k.nd,fun a ha b hb e=>?_⟩,fun a ha=>?_,fun j hj=>?_⟩
 ·subst e
  obtain ⟨h1,h2,h3⟩:=h.mem a ha
  obtain ⟨k1,k2,k3⟩:=k.mem a hb
  have:=(h.own a.toNat h2).2 (.inr (by rwa [Int.toNat_of_nonneg h1]))
  rw [this] at k3;cases k3
 ·rcases List.mem_append.1 ha with ha|ha
  ·exact h.mem a ha
  ·obtain ⟨k1,k2,k3⟩:=k.mem a ha
   have h2:a.toNat<o.length:=by rw [←h.len];exact k2
   refine ⟨k1,h2,?_⟩
   cases e:o[a.toNat]! with
   | false=>rfl
   | true=>have:=(h.own a.toNat h2).2 (.inl e);rw [this] at k3;cases k3
 ·rw [k.own j (by rw [h.len];exact hj),h.own j hj,List.mem_append,or_assoc]
theorem OwnRel.of {lim:Nat}:∀ {ks:List Int}{o o':List Bool},lim≤o.length→zAD lim ks o=.ok o'→OwnRel ks o o'
 | [],o,o',_,h=>by simp [zAD] at h;subst h;exact OwnRel.nil _
 | k::ks,o,o',hl,h=>by
   unfold zAD at h
   split at h
   ·cases h
   ·rename_i h1
    split at h
    ·cases h
    ·rename_i h2
     have hk:k.toNat<o.length:=by omega
     have ih:=OwnRel.of (by simpa using hl) h
     have one:OwnRel [k] o (o.set k.toNat true):=by
      refine ⟨by simp,by simp,fun a ha=>?_,fun j hj=>?_⟩
      ·simp only [List.mem_singleton] at ha;subst ha
       exact ⟨by omega,hk,by simpa using h2⟩
      ·by_cases e:j=k.toNat
       ·subst e
        have:((k.toNat:Nat):Int)=k:=Int.toNat_of_nonneg (by omega)
        simp [hj,this]
       ·have hne:¬((j:Int)=k):=fun h=>e (by omega)
        simp [hj,List.getElem_set_ne (Ne.symm e),hne]
     have:=one.append ih
     simpa using this
def rngI (n:Nat):List Int:=(List.range n).map fun (i:Nat)=>(i:Int)
theorem mem_rngI {n:Nat}{k:Int}:k∈rngI n↔0≤k∧k<n:=by
 unfold rngI
 simp only [List.mem_map,List.mem_range]
 refine ⟨fun ⟨i,h,e⟩=>by omega,fun h=>⟨k.toNat,by omega,by omega⟩⟩
theorem zGz (n:Nat):(rngI n).Nodup:=by
 unfold rngI
 rw [List.nodup_iff_pairwise_ne,List.pairwise_map]
 exact List.Pairwise.imp (fun h e=>h (by omega)) List.nodup_range
theorem zEF (n:Nat):rngI (n+1)=rngI n++[(n:Int)]:=by simp [rngI,List.range_succ]
theorem OwnRel.perm {E:List Int}{n:Nat}{o':List Bool} (h:OwnRel E (List.replicate n false) o') (ho:false∉o'):E.Perm (rngI n):=by
 rw [List.perm_ext_iff_of_nodup h.nd (zGz n)]
 intro k
 rw [mem_rngI]
 refine ⟨fun hk=>?_,fun hk=>?_⟩
 ·obtain ⟨h1,h2,_⟩:=h.mem k hk
  simp at h2;omega
 ·have hl:=h.len
  have h1:=(h.own k.toNat (by simp;omega)).1 (by
   have hlt:k.toNat<o'.length:=by rw [hl];simp;omega
   have:o'[k.toNat]! = o'[k.toNat]:=by simp [hlt]
   rw [this]
   cases e:o'[k.toNat] with
   | true=>rfl
   | false=>exact absurd (e▸List.getElem_mem hlt) ho)
  rcases h1 with h1|h1
  ·have hlt:k.toNat<n:=by omega
   simp [hlt] at h1
  ·rwa [Int.toNat_of_nonneg hk.1] at h1
def preI (kd:Nat→List Int):Nat→Int→List Int
 | 0,_=>[]
 | f+1,a=>a::(kd a.toNat).flatMap (preI kd f)
theorem zCy {α β:Type}{f g:α→List β}:∀ {l:List α},(∀ x∈l,f x=g x)→l.flatMap f=l.flatMap g
 | [],_=>rfl
 | x::l,h=>by rw [List.flatMap_cons,List.flatMap_cons,h x (by simp),zCy fun y hy=>h y (by simp [hy])]
theorem zDz {kd:Nat→List Int} (hk:∀ i k,k∈kd i→0≤k∧k<(i:Int)):∀ (f g:Nat) (a:Int),0≤a→a<f→a<g→preI kd f a=preI kd g a
 | 0,_,a,h0,h1,_=>by omega
 | _,0,a,h0,_,h1=>by omega
 | f+1,g+1,a,h0,h1,h2=>by
   unfold preI
   rw [zCy fun k hk'=>zDz hk f g k (hk _ _ hk').1 (by have:=(hk _ _ hk').2;omega) (by have:=(hk _ _ hk').2;omega)]
theorem zFZ {kd:Nat→List Int} (hk:∀ i k,k∈kd i→0≤k∧k<(i:Int)) {N:Nat}:∀ (m:Nat) (L:List Int),m≤N→(L++(List.range m).flatMap kd).Perm (rngI m)→(L.flatMap (preI kd N)).Perm (rngI m)
 | 0,L,_,h=>by
   have:L=[]:=by
    have:=h.length_eq
    simp [rngI] at this;exact this
   subst this;exact .refl _
 | m+1,L,hm,h=>by
   rw [List.range_succ,List.flatMap_append,zEF] at h
   have hmem:(m:Int)∈L:=by
    have:(m:Int)∈L++((List.range m).flatMap kd++[m].flatMap kd):=h.mem_iff.2 (by simp)
    rcases List.mem_append.1 this with h1|h1
    ·exact h1
    ·exfalso
     rcases List.mem_append.1 h1 with h1|h1
     ·obtain ⟨i,hi,h2⟩:=List.mem_flatMap.1 h1
      have:=(hk i _ h2).2;have:=List.mem_range.1 hi;omega
     ·obtain ⟨i,hi,h2⟩:=List.mem_flatMap.1 h1
      simp only [List.mem_singleton] at hi;subst hi
      have:=(hk _ _ h2).2;omega
   have hp:=List.perm_cons_erase hmem
   have ih:=zFZ hk (N:=N) m (L.erase (m:Int)++kd m) (by omega) (by
    have h1:((m:Int)::(L.erase (m:Int)++((List.range m).flatMap kd++[m].flatMap kd))).Perm ((m:Int)::rngI m):=by
     refine ((hp.symm.append_right _).trans h).trans ?_
     exact List.perm_append_comm
    have h2:=(List.perm_cons _).1 h1
    refine .trans ?_ h2
    rw [List.append_assoc]
    refine .append_left _ ?_
    rw [List.flatMap_singleton]
    exact List.perm_append_comm)
   have e:preI kd N (m:Int)=(m:Int)::(kd m).flatMap (preI kd N):=by
    rw [zDz hk N (N+1) m (by omega) (by omega) (by omega)]
    rfl
   refine (hp.flatMap_right _).trans ?_
   rw [List.flatMap_cons,e,zEF]
   rw [List.cons_append]
   refine .trans ?_ (List.perm_append_comm (l₁:=[(m:Int)]))
   refine .cons _ (.trans ?_ ih)
   rw [List.flatMap_append]
   exact List.perm_append_comm
theorem OwnRel.nodes:∀ (ds:List zAh) (n:Nat) (o o':List Bool),n+ds.length≤o.length→zAA n ds o=.ok o'→OwnRel (ds.flatMap zAc) o o'
 | [],n,o,o',_,h=>by simp [zAA] at h;subst h;exact OwnRel.nil _
 | d::ds,n,o,o',hl,h=>by
   rw [zAA] at h
   split at h
   ·cases h
   ·cases ho:zAD n (zAc d) o with
    | error e=>rw [ho] at h;cases h
    | ok o1 =>
      rw [ho] at h
      simp only [List.length_cons] at hl
      have h1:=OwnRel.of (by omega) ho
      rw [List.flatMap_cons]
      exact h1.append (OwnRel.nodes ds (n+1) o1 o' (by rw [h1.len];omega) h)
def kidsAt (s:zAd) (i:Nat):List Int:=match s.nodes[i]? with
 | some d=>zAc d
 | none=>[]
theorem zGD (s:zAd):(List.range s.nodes.length).flatMap (kidsAt s)=s.nodes.flatMap zAc:=by
 have key:∀ (l:List zAh) (f:Nat→List Int),(∀ i d,l[i]?=some d→f i=zAc d)→(List.range l.length).flatMap f=l.flatMap zAc:=by
  intro l
  induction l with
  | nil=>intro f _;rfl
  | cons d l ih =>
    intro f hf
    rw [List.length_cons,List.range_succ_eq_map,List.flatMap_cons,List.flatMap_cons,hf 0 d rfl,List.flatMap_map]
    congr 1
    exact ih (fun i=>f (i+1)) (fun i e h=>hf (i+1) e (by simpa using h))
 exact key s.nodes _ (fun i d h=>by unfold kidsAt;rw [h])
theorem Ahead.kidsAt {s:zAd} (h:Ahead s) (i:Nat) (k:Int) (hk:k∈kidsAt s i):0≤k∧k<(i:Int):=by
 unfold Go.Proofs.YtnapjcnfgdkmcaaGreatDoor.kidsAt at hk
 split at hk
 ·rename_i d hd;exact (h i d hd).2 k hk
 ·cases hk
def allT (s:zAd):List Int:=(s.defs.map (·.type)).flatMap (preI (kidsAt s) s.nodes.length)
theorem zDK {s:zAd} (h:zAo s=0):(allT s).Perm (rngI s.nodes.length):=by
 obtain ⟨o,o',h1,h2,_,_,_,h3⟩:=zA8 h
 have r1:=OwnRel.nodes s.nodes 0 _ o (by simp) h1
 have r2:=OwnRel.of (by rw [r1.len];simp) h2
 have hp:=(r1.append r2).perm h3
 refine zFZ (Ahead.of h).kidsAt _ _ (Nat.le_refl _) ?_
 rw [zGD]
 exact List.perm_append_comm.trans hp
theorem allT_len {s:zAd} (h:zAo s=0):(allT s).length=s.nodes.length:=by
 rw [(zDK h).length_eq];simp [rngI]
def runG (go:List Int→Bool):List Int→List Int→Bool × List Int
 | p,[]=>(true,p)
 | p,k::l=>if go (p++[k]) then runG go (p++[k]) l else (false,p++[k])
theorem zCB {go:List Int→Bool}:∀ {l p:List Int},(runG go p l).1=true→(runG go p l).2=p++l
 | [],p,_=>by simp [runG]
 | k::l,p,h=>by
   unfold runG at h ⊢
   split at h
   ·rename_i hg;rw [if_pos hg,zCB h];simp
   ·cases h
theorem zC3 {go:List Int→Bool}:∀ (l m p:List Int),runG go p (l++m)=if (runG go p l).1 then runG go (p++l) m else runG go p l
 | [],m,p=>by simp [runG]
 | k::l,m,p=>by
   rw [List.cons_append,runG]
   by_cases hg:go (p++[k])=true
   ·rw [if_pos hg,zC3 l m (p++[k])]
    conv=>rhs;rw [runG,if_pos hg]
    rw [show p++[k]++l=p++k::l by simp]
   ·rw [if_neg hg]
    conv=>rhs;rw [runG,if_neg hg]
    rfl
theorem zEs {go:List Int→Bool}:∀ {l p:List Int},(∀ q,go q=true)→runG go p l=(true,p++l)
 | [],p,_=>by simp [runG]
 | k::l,p,h=>by rw [runG,if_pos (h _),zEs h];simp
end Go.Proofs.YtnapjcnfgdkmcaaGreatDoor
end
section
namespace Go.E
open Go
theorem Repl.app (G:Chs) {l:Chs}{c x:Chunk}{l':Chs} (h:Repl l c x l'):Repl (G++l) c x (G++l'):=by
 induction G with
 | nil=>exact h
 | cons y G ih=>exact .miss y ih
instance HasBlk.app (G l:Chs) (b:Nat) (t:TypeId) (cs:List Value) (f:Chunk→Chs) [h:HasBlk l b t cs f]:HasBlk (G++l) b t cs (fun x=>G++f x):=⟨fun x=>(h.repl x).app G⟩
instance HasSl.app (G l:Chs) (a:Option Addr) (n c:Nat) (t:TypeId) (s:Nat) (cs:List Value) (f:Chunk→Chs) [h:HasSl l a n c t s cs f]:HasSl (G++l) a n c t s cs (fun x=>G++f x):=⟨fun x=>(h.repl x).app G⟩
end Go.E
namespace Go.Proofs.YtnapjcnfgdkmcaaGreatDoor
open Go Go.E
theorem zAL {kd:Nat→List Int} (hk:∀ i k,k∈kd i→0≤k∧k<(i:Int)) {N:Nat}{i:Nat} (hi:i<N):preI kd N (i:Int)=(i:Int)::(kd i).flatMap (preI kd N):=by
 rw [zDz hk N (N+1) i (by omega) (by omega) (by omega)]
 rfl
section
variable {ro:Ro}
set_option maxHeartbeats 2000000 in
theorem zHY {s:zAd}{a:zAp} (ho:SpecOk ro s a) (hv:Ahead s) {fy:FuncId}{cap:Array Value}{ω:Type}{go:List Int→Bool}{T:List Int} (O:List Int→ω→Chs) (W:List Int→ω→Prop)
  (hy:∀ p k r,T=p++k::r→∀ w,W p w→∀ (ro':Ro) (G:Chs) (K:Value→Ro→Chs→Prop) [Leq ro ro'],(∀ w',W (p++[k]) w'→K (.bool (go (p++[k]))) ro' (G++O (p++[k]) w'))→CallOk Tryz.prog fy (capA [.int .i64 k] cap) ro' (G++O p w) K) :
  ∀ (n i:Nat),i<n→i<s.nodes.length→∀ (p r:List Int),T=p++preI (kidsAt s) s.nodes.length i++r→∀ w,W p w→∀ (ro':Ro) (G:Chs) (K:Value→Ro→Chs→Prop) [Leq ro ro'],
   (∀ w',W (runG go p (preI (kidsAt s) s.nodes.length i)).2 w'→K (.bool (runG go p (preI (kidsAt s) s.nodes.length i)).1) ro' (G++O (runG go p (preI (kidsAt s) s.nodes.length i)).2 w')) →
   CallOk Tryz.prog 39 #[.agg (zAf s a).toArray,.int .i64 (i:Int),.func (.func fy) #[] cap] ro' (G++O p w) K:=by
 intro n
 induction n with
 | zero=>intro i h;omega
 | succ n ih =>
   intro i hin hi p r hT w hw ro' G K hle hk
   have hr1:Rs ro' a.na s.nodes.length a.nc 18 (zA4 s.nodes a.xs):=ho.nodes.up
   have hm:=hr1.max
   unfold maxLen at hm
   obtain ⟨d,hd⟩:∃ d,s.nodes[i]?=some d:=⟨_,List.getElem?_eq_getElem hi⟩
   obtain ⟨x,hx⟩:∃ x,a.xs[i]?=some x:=⟨_,List.getElem?_eq_getElem (by rw [ho.len];exact hi)⟩
   have hn1:=ho.each i d x hd hx
   have hN1:NodeOk ro' d x:=⟨hn1.kids.up,hn1.last.up,hn1.fields.up,hn1.cases.up⟩
   have hdr1:=zAj _ _ _ _ _ hd hx
   obtain ⟨hf,hks⟩:=hv i d hd
   have hsm:=zAI hf
   have hkd:kidsAt s i=zAc d:=by unfold kidsAt;rw [hd]
   rw [zAL hv.kidsAt hi,hkd] at hT hk
   refine CallOk.intro (args:=[_,_,_]) (rs:=[_]) T_ok Tryz.func39 Tryz.call39 rfl rfl (by kernel_rfl) rfl rfl ?_
   repeat first|exact zE|refine wkT ?_|refine zB fun b=>?_|refine zC fun a' c' hc1 hc2=>?_|(apply GJ.a;exact rfl;intro hg)|(apply GJ.o;exact rfl;intro hg)
   refine hy p (i:Int) ((zAc d).flatMap (preI (kidsAt s) s.nodes.length)++r) (by rw [hT];simp) w hw ro' (.blk b 25 (zAf s a)::G) _ (fun w1 hw1=>?_)
   cases hg:go (p++[(i:Int)]) with
   | false =>
     rw [runG,if_neg (by rw [hg];simp)] at hk
     repeat first|exact zE|refine wkT ?_|refine zB fun b=>?_|refine zC fun a' c' hc1 hc2=>?_|(apply GJ.a;exact rfl;intro hg)|(apply GJ.o;exact rfl;intro hg)
     exact Wk.own (G++O (p++[(i:Int)]) w1) (Sup.drop _ (Sup.all _)) (Wk.id (hk w1 hw1))
   | true =>
     rw [runG,if_pos hg] at hk
     rw [List.cons_append]
     repeat first|exact zE|refine wkT ?_|refine zB fun b=>?_|refine zC fun a' c' hc1 hc2=>?_|(apply GJ.a;exact rfl;intro hg)|(apply GJ.o;exact rfl;intro hg)
     rw [Int.toNat_natCast]
     refine OpOk.loadRow rfl rfl (LdN.at hr1 hdr1) rfl ?_
     repeat first|exact zE|refine wkT ?_|refine zB fun b=>?_|refine zC fun a' c' hc1 hc2=>?_|(apply GJ.a;exact rfl;intro hg)|(apply GJ.o;exact rfl;intro hg)
     refine zC6 hN1 (by omega) (fun a1 n1 c1 h1 h2 h3=>?_)
     subst h1
     have hkl:(zAc d).length≤1000:=by unfold zAc;split<;>simp<;>omega
     repeat first|exact zE|refine wkT ?_|refine zB fun b=>?_|refine zC fun a' c' hc1 hc2=>?_|(apply GJ.a;exact rfl;intro hg)|(apply GJ.o;exact rfl;intro hg)
     refine LoopOk.at (ι:=Nat × ω) Keep.z (fun (j,w)=>[(20,.int .i64 (j:Int))]) (fun (j,w)=>.sl a1 (zAc d).length c1 3 1 (zAs (zAc d))::.blk b 25 (zAf s a)::(G++O (p++[(i:Int)]++((zAc d).take j).flatMap (preI (kidsAt s) s.nodes.length)) w)) (fun (j,w)=>j≤(zAc d).length∧W (p++[(i:Int)]++((zAc d).take j).flatMap (preI (kidsAt s) s.nodes.length)) w∧(runG go (p++[(i:Int)]) (((zAc d).take j).flatMap (preI (kidsAt s) s.nodes.length))).1=true) (fun (j,w)=>(zAc d).length-j) (0,w1) ?_ Sub.z ?_ ?_
     ·exact ⟨by omega,by simpa using hw1,rfl⟩
     ·simp only [List.take_zero,List.flatMap_nil,List.append_nil]
      exact Sup.all _
     rintro ⟨j,w2⟩ ⟨i1,i2,i3⟩
     dsimp only [List.cons_append,List.nil_append] at i1 i2 i3 ⊢
     repeat first|exact zE|refine wkT ?_|refine zB fun b=>?_|refine zC fun a' c' hc1 hc2=>?_|(apply GJ.a;exact rfl;intro hg)|(apply GJ.o;exact rfl;intro hg)
     refine Br.cases (fun hlt=>?_) (fun hlt=>?_)
     ·have hj:j<(zAc d).length:=by omega
      have hsplit:(zAc d).take (j+1)=(zAc d).take j++[(zAc d)[j]]:=by rw [List.take_succ_eq_append_getElem hj]
      have hbang:(zAc d)[((j:Nat):Int).toNat]! = (zAc d)[j]:=by rw [Int.toNat_natCast];simp [hj]
      obtain ⟨q1,q2⟩:=hks _ (List.getElem_mem hj)
      obtain ⟨k,hk0⟩:=Int.eq_ofNat_of_zero_le q1
      have hdrop:(zAc d).drop (j+1)=(zAc d).drop (j+1):=rfl
      have hall:zAc d=(zAc d).take j++(zAc d)[j]::(zAc d).drop (j+1):=by
       conv=>lhs;rw [←List.take_append_drop j (zAc d)]
       rw [List.drop_eq_getElem_cons hj]
      repeat first|exact zE|refine wkT ?_|refine zB fun b=>?_|refine zC fun a' c' hc1 hc2=>?_|(apply GJ.a;exact rfl;intro hg)|(apply GJ.o;exact rfl;intro hg)
      rw [hbang,hk0]
      rw [hk0] at hsplit hall q2
      have hT2:T=p++[(i:Int)]++((zAc d).take j).flatMap (preI (kidsAt s) s.nodes.length)++preI (kidsAt s) s.nodes.length (k:Int)++(((zAc d).drop (j+1)).flatMap (preI (kidsAt s) s.nodes.length)++r):=by
       rw [hT]
       conv=>lhs;rw [hall]
       simp
      have hnext:runG go (p++[(i:Int)]) (((zAc d).take (j+1)).flatMap (preI (kidsAt s) s.nodes.length))=runG go (p++[(i:Int)]++((zAc d).take j).flatMap (preI (kidsAt s) s.nodes.length)) (preI (kidsAt s) s.nodes.length (k:Int)):=by
       rw [hsplit,List.flatMap_append,zC3,if_pos i3,List.flatMap_singleton]
      refine ih k (by omega) (by omega) (p++[(i:Int)]++((zAc d).take j).flatMap (preI (kidsAt s) s.nodes.length)) _ hT2 w2 i2 ro' (.sl a1 (zAc d).length c1 3 1 (zAs (zAc d))::.blk b 25 (zAf s a)::G) _ (fun w3 hw3=>?_)
      rw [←hnext] at hw3 ⊢
      rw [List.cons_append,List.cons_append]
      cases hb:(runG go (p++[(i:Int)]) (((zAc d).take (j+1)).flatMap (preI (kidsAt s) s.nodes.length))).1 with
      | true =>
        rw [zCB hb] at hw3 ⊢
        repeat first|exact zE|refine wkT ?_|refine zB fun b=>?_|refine zC fun a' c' hc1 hc2=>?_|(apply GJ.a;exact rfl;intro hg)|(apply GJ.o;exact rfl;intro hg)
        refine Wk.id ⟨(j+1,w3),⟨rfl,?_⟩,?_,Sub.z,Sup.all _⟩
        ·exact ⟨by omega,hw3,hb⟩
        ·dsimp only;omega
      | false =>
        have hfin:runG go (p++[(i:Int)]) ((zAc d).flatMap (preI (kidsAt s) s.nodes.length))=runG go (p++[(i:Int)]) (((zAc d).take (j+1)).flatMap (preI (kidsAt s) s.nodes.length)):=by
         conv=>lhs;rw [←List.take_append_drop (j+1) (zAc d)]
         rw [List.flatMap_append,zC3,if_neg (by rw [hb];simp)]
        have hk2:=hk w3 (by rw [hfin];exact hw3)
        rw [hfin,hb] at hk2
        repeat first|exact zE|refine wkT ?_|refine zB fun b=>?_|refine zC fun a' c' hc1 hc2=>?_|(apply GJ.a;exact rfl;intro hg)|(apply GJ.o;exact rfl;intro hg)
        exact Wk.own _ (Sup.drop _ (Sup.drop _ (Sup.all _))) (Wk.id hk2)
     ·obtain rfl:j=(zAc d).length:=by omega
      rw [List.take_length] at *
      have hk2:=hk w2 (by rw [zCB i3];exact i2)
      rw [zCB i3,i3] at hk2
      repeat first|exact zE|refine wkT ?_|refine zB fun b=>?_|refine zC fun a' c' hc1 hc2=>?_|(apply GJ.a;exact rfl;intro hg)|(apply GJ.o;exact rfl;intro hg)
      exact Wk.own _ (Sup.drop _ (Sup.drop _ (Sup.all _))) (Wk.id hk2)
end
def zEO (i c:Nat):Prop:=(97≤c∧c≤122∨65≤c∧c≤90∨c=95)∨(i≠0∧48≤c∧c≤57)
instance (i c:Nat):Decidable (zEO i c):=by unfold zEO;infer_instance
def zBp:Nat→List UInt8→Bool
 | _,[]=>true
 | i,c::l=>decide (zEO i c.toNat)&&zBp (i+1) l
def zAY (n:List UInt8):Bool:=zBp 0 n&&(decide (n≠[])&&decide (n.length≤24)&&!zGT n)
theorem zG4 {n:List UInt8} (h:zAY n=true):n≠[]∧n.length≤24:=by
 unfold zAY at h
 simp only [Bool.and_eq_true,decide_eq_true_eq] at h
 exact ⟨h.2.1.1,h.2.1.2⟩
def goS (K:Int→Int × Int):List Int→Int × Int
 | []=>(0,0)
 | k::ks=>if (K k).1≠0 then K k else goS K ks
def recS (K:Int→List (List UInt8)→Int × Int) (a:Int):List zAm→List (List UInt8)→Int × Int
 | [],_=>(0,0)
 | f::fs,ns=>if zAY f.name=false then (5,a) else if f.name∈ns then (4,a) else if (K f.type ns).1≠0 then K f.type ns else recS K a fs (ns++[f.name])
def zAT (s:zAd) (kn:List (List UInt8)):Nat→Int→List (List UInt8)→Int × Int
 | 0,_,_=>(0,0)
 | n+1,a,ns=>match s.nodes[a.toNat]? with
   | none=>(0,0)
   | some d=>if d.kind=13∧d.text∉kn then (140,a) else if d.kind=5 then recS (zAT s kn n) a d.fields ns else goS (fun k=>zAT s kn n k ns) (zAc d)
def zDF (s:zAd):List (List UInt8)→List DefD→Int × Int
 | _,[]=>(0,0)
 | kn,d::ds=>if zAY d.name=false then (5,d.type) else if d.name∈kn then (4,d.type) else if (zAT s kn s.nodes.length d.type []).1≠0 then zAT s kn s.nodes.length d.type [] else zDF s (kn++[d.name]) ds
def maxL:List Int→Int
 | []=>0
 | k::ks=>max k (maxL ks)
def depS (s:zAd):Nat→Int→Int
 | 0,_=>0
 | f+1,a=>match s.nodes[a.toNat]? with
   | none=>0
   | some d=>if d.kind=13 then depS s f (defD s.defs d.text) else maxL ((zAc d).map (depS s f))+(if d.kind=11 then 2 else 1)
def zFB (s:zAd):Nat:=(s.defs.length+1)*(s.nodes.length+1)
def depI (s:zAd) (a:Int):Int:=depS s (zFB s) a
def zBo (s:zAd):Int × Int :=
 if zAo s≠0 then (zAo s,0) else if (zDF s [] s.defs).1≠0 then zDF s [] s.defs else if 200<depI s (zDi s) then (6,zDi s) else (0,0)
structure RkOk (s:zAd) (rk:Nat→Nat):Prop where
 kids:∀ (i:Nat) (d:zAh),s.nodes[i]?=some d→∀ k∈zAc d,0≤k∧k<(s.nodes.length:Int)∧rk k.toNat<rk i
 use:∀ (i:Nat) (d:zAh),s.nodes[i]?=some d→d.kind=13→0≤defD s.defs d.text∧defD s.defs d.text<(s.nodes.length:Int)∧rk (defD s.defs d.text).toNat<rk i
 lt:∀ i:Nat,rk i<zFB s
theorem zF6 {α β:Type}{f g:α→β}{l:List α} (h:∀ x∈l,f x=g x):l.map f=l.map g:=List.map_congr_left h
theorem zCV {s:zAd}{rk:Nat→Nat} (R:RkOk s rk):∀ (f g:Nat) (i:Nat),i<s.nodes.length→rk i<f→rk i<g→depS s f i=depS s g i
 | 0,_,i,_,h,_=>by omega
 | _,0,i,_,_,h=>by omega
 | f+1,g+1,i,hi,h1,h2=>by
   obtain ⟨d,hd⟩:∃ d,s.nodes[i]?=some d:=⟨_,List.getElem?_eq_getElem hi⟩
   unfold depS
   rw [Int.toNat_natCast,hd]
   dsimp only
   split
   ·rename_i hk
    obtain ⟨u1,u2,u3⟩:=R.use i d hd hk
    obtain ⟨u,hu⟩:=Int.eq_ofNat_of_zero_le u1
    rw [hu] at u2 u3 ⊢
    rw [Int.toNat_natCast] at u3
    exact zCV R f g u (by omega) (by omega) (by omega)
   ·congr 2
    refine zF6 fun k hk=>?_
    obtain ⟨u1,u2,u3⟩:=R.kids i d hd k hk
    obtain ⟨u,rfl⟩:=Int.eq_ofNat_of_zero_le u1
    rw [Int.toNat_natCast] at u3
    exact zCV R f g u (by omega) (by omega) (by omega)
theorem dep_eq {s:zAd}{rk:Nat→Nat} (R:RkOk s rk) {i:Nat}{d:zAh} (hd:s.nodes[i]?=some d) :
  depI s i=if d.kind=13 then depI s (defD s.defs d.text) else maxL ((zAc d).map (depI s))+(if d.kind=11 then 2 else 1):=by
 have hi:=(List.getElem?_eq_some_iff.1 hd).1
 have hlt:=R.lt i
 have h0:depI s i=depS s (zFB s+1) i:=zCV R _ _ i hi hlt (by omega)
 rw [h0,depS,Int.toNat_natCast,hd]
 rfl
theorem zC4:∀ l:List Int,0≤maxL l
 | []=>Int.le_refl _
 | k::ks=>by unfold maxL;have:=zC4 ks;omega
theorem zHA {b:Int}:∀ l:List Int,0≤b→(∀ k∈l,k≤b)→maxL l≤b
 | [],h0,_=>h0
 | k::ks,h0,h=>by
   unfold maxL
   have:=zHA ks h0 (fun x hx=>h x (List.mem_cons_of_mem _ hx))
   have:=h k (List.mem_cons_self ..)
   omega
theorem zCW (s:zAd):∀ (f:Nat) (a:Int),0≤depS s f a∧depS s f a≤2*f
 | 0,a=>by unfold depS;omega
 | f+1,a=>by
   unfold depS
   split
   ·omega
   ·rename_i d _
    split
    ·have:=zCW s f (defD s.defs d.text)
     exact ⟨this.1,by have:=this.2;omega⟩
    ·
     have h1:=zC4 ((zAc d).map (depS s f))
     have h2:maxL ((zAc d).map (depS s f))≤2*f:=zHA _ (by omega) fun k hk=>by
      obtain ⟨x,_,rfl⟩:=List.mem_map.1 hk
      exact (zCW s f x).2
     split<;>omega
theorem zIa {s:zAd}{rk:Nat→Nat} (R:RkOk s rk):∀ (r i:Nat),rk i<r→i<s.nodes.length→1≤depI s i
 | 0,i,h,_=>by omega
 | r+1,i,h,hi=>by
   obtain ⟨d,hd⟩:∃ d,s.nodes[i]?=some d:=⟨_,List.getElem?_eq_getElem hi⟩
   rw [dep_eq R hd]
   split
   ·rename_i hk
    obtain ⟨u1,u2,u3⟩:=R.use i d hd hk
    obtain ⟨u,hu⟩:=Int.eq_ofNat_of_zero_le u1
    rw [hu] at u2 u3 ⊢
    rw [Int.toNat_natCast] at u3
    exact zIa R r u (by omega) (by omega)
   ·have:=zC4 ((zAc d).map (depI s))
    split<;>omega
theorem zHN {K:Int→Int × Int}:∀ {l:List Int},(goS K l).1=0→∀ k∈l,(K k).1=0
 | [],_,k,hk=>by cases hk
 | x::l,h,k,hk=>by
   unfold goS at h
   split at h
   ·rename_i hx;exact absurd h hx
   ·rename_i hx
    rcases List.mem_cons.1 hk with rfl|hk
    ·exact Decidable.of_not_not hx
    ·exact zHN h k hk
theorem zHr {K:Int→List (List UInt8)→Int × Int}{a:Int}:∀ {fs:List zAm}{ns:List (List UInt8)},(recS K a fs ns).1=0→∀ f∈fs,∃ ms,(K f.type ms).1=0
 | [],_,_,f,hf=>by cases hf
 | x::fs,ns,h,f,hf=>by
   unfold recS at h
   split at h
   ·cases h
   split at h
   ·cases h
   split at h
   ·rename_i hx;exact absurd h hx
   ·rename_i hx
    rcases List.mem_cons.1 hf with rfl|hf
    ·exact ⟨ns,Decidable.of_not_not hx⟩
    ·exact zHr h f hf
theorem zAz {d:zAh} (hf:zB1 d=0) (h5:d.kind=5):zAc d=d.fields.map (·.type):=by
 have h0:d.kids.length=0∧d.cases.length=0:=by
  unfold zB1 at hf
  split at hf
  ·cases hf
  split at hf
  ·cases hf
  split at hf
  ·cases hf
  split at hf
  ·cases hf
  omega
 have h1:d.kids=[]∧d.cases=[]:=⟨List.eq_nil_of_length_eq_zero h0.1,List.eq_nil_of_length_eq_zero h0.2⟩
 unfold zAc
 rw [h1.1,h1.2,if_neg (fun h=>by have:=h.1;omega)]
 simp
theorem zEZ {s:zAd} (hv:Ahead s) {kn:List (List UInt8)}:∀ (n i:Nat) (ns:List (List UInt8)),i<n→i<s.nodes.length→(zAT s kn n i ns).1=0→∀ k∈preI (kidsAt s) s.nodes.length i,∀ d,s.nodes[k.toNat]?=some d→d.kind=13→d.text∈kn
 | 0,i,_,h,_,_=>by omega
 | n+1,i,ns,hin,hi,h=>by
   obtain ⟨d,hd⟩:∃ d,s.nodes[i]?=some d:=⟨_,List.getElem?_eq_getElem hi⟩
   obtain ⟨hf,hks⟩:=hv i d hd
   have hkd:kidsAt s i=zAc d:=by unfold kidsAt;rw [hd]
   unfold zAT at h
   rw [Int.toNat_natCast,hd] at h
   dsimp only at h
   rw [zAL hv.kidsAt hi,hkd]
   by_cases hu:d.kind=13∧d.text∉kn
   ·rw [if_pos hu] at h;cases h
   rw [if_neg hu] at h
   have hall:∀ k∈zAc d,∃ ms,(zAT s kn n k ms).1=0:=by
    by_cases h5:d.kind=5
    ·rw [if_pos h5] at h
     rw [zAz hf h5]
     intro k hk
     obtain ⟨f,hf,rfl⟩:=List.mem_map.1 hk
     exact zHr h f hf
    ·rw [if_neg h5] at h
     exact fun k hk=>⟨ns,zHN h k hk⟩
   intro k hk e he hk13
   rcases List.mem_cons.1 hk with rfl|hk
   ·rw [Int.toNat_natCast,hd] at he
    cases he
    exact Classical.byContradiction fun hn=>hu ⟨hk13,hn⟩
   ·obtain ⟨x,hx,hkx⟩:=List.mem_flatMap.1 hk
    obtain ⟨q1,q2⟩:=hks x hx
    obtain ⟨y,rfl⟩:=Int.eq_ofNat_of_zero_le q1
    obtain ⟨ms,hm⟩:=hall _ hx
    exact zEZ hv n y ms (by omega) (by omega) hm k hkx e he hk13
theorem zFH {s:zAd}:∀ {ds:List DefD}{kn:List (List UInt8)},(zDF s kn ds).1=0→kn.Nodup→(kn++ds.map (·.name)).Nodup∧(∀ d∈ds,zAY d.name=true)∧∀ (j:Nat) (d:DefD),ds[j]?=some d→(zAT s (kn++(ds.take j).map (·.name)) s.nodes.length d.type []).1=0
 | [],kn,_,hn=>⟨by simpa using hn,fun d hd=>(by cases hd),fun j d hd=>by simp at hd⟩
 | x::ds,kn,h,hn=>by
   unfold zDF at h
   split at h
   ·cases h
   rename_i h1
   split at h
   ·cases h
   rename_i h2
   split at h
   ·rename_i hx;exact absurd h hx
   rename_i hx
   obtain ⟨g1,g2,g3⟩:=zFH h (by
    rw [List.nodup_append]
    exact ⟨hn,by simp,fun a ha b hb e=>by rw [List.mem_singleton] at hb;subst hb;subst e;exact h2 ha⟩)
   refine ⟨by simpa using g1,fun d hd=>?_,fun j d hd=>?_⟩
   ·rcases List.mem_cons.1 hd with rfl|hd
    ·simpa using h1
    ·exact g2 d hd
   ·cases j with
    | zero =>
      simp at hd;subst hd
      simpa using Decidable.of_not_not hx
    | succ j =>
      have:=g3 j d (by simpa using hd)
      simpa using this
theorem zCQ {s:zAd} (hv:Ahead s):∀ (n a:Nat),a<n→a<s.nodes.length→∀ i∈preI (kidsAt s) s.nodes.length a,∀ k∈kidsAt s i.toNat,k∈preI (kidsAt s) s.nodes.length a
 | 0,a,h,_=>by omega
 | n+1,a,hn,ha=>by
   intro i hi k hk
   rw [zAL hv.kidsAt ha] at hi ⊢
   rcases List.mem_cons.1 hi with rfl|hi
   ·rw [Int.toNat_natCast] at hk
    have:=hv.kidsAt a k hk
    obtain ⟨y,rfl⟩:=Int.eq_ofNat_of_zero_le this.1
    refine List.mem_cons_of_mem _ (List.mem_flatMap.2 ⟨_,hk,?_⟩)
    rw [zAL hv.kidsAt (by omega)]
    exact List.mem_cons_self ..
   ·obtain ⟨x,hx,hix⟩:=List.mem_flatMap.1 hi
    have:=hv.kidsAt a x hx
    obtain ⟨y,rfl⟩:=Int.eq_ofNat_of_zero_le this.1
    exact List.mem_cons_of_mem _ (List.mem_flatMap.2 ⟨_,hx,zCQ hv n y (by omega) (by omega) i hix k hk⟩)
def ownI (s:zAd) (i:Nat):Nat:=s.defs.findIdx (fun d=>decide ((i:Int)∈preI (kidsAt s) s.nodes.length d.type))
theorem own_lt {s:zAd} (hc:zAo s=0) {i:Nat} (hi:i<s.nodes.length):ownI s i<s.defs.length:=by
 unfold ownI
 rw [List.findIdx_lt_length]
 have:(i:Int)∈allT s:=(zDK hc).mem_iff.2 (mem_rngI.2 ⟨by omega,by omega⟩)
 unfold allT at this
 obtain ⟨t,ht,hit⟩:=List.mem_flatMap.1 this
 obtain ⟨d,hd,rfl⟩:=List.mem_map.1 ht
 exact ⟨d,hd,decide_eq_true hit⟩
theorem zD1 {s:zAd} (hc:zAo s=0) {i:Nat} (hi:i<s.nodes.length):∃ d,s.defs[ownI s i]?=some d∧(i:Int)∈preI (kidsAt s) s.nodes.length d.type:=by
 have hl:=own_lt hc hi
 refine ⟨s.defs[ownI s i],List.getElem?_eq_getElem hl,?_⟩
 have:=List.findIdx_getElem (p:=fun d:DefD=>decide ((i:Int)∈preI (kidsAt s) s.nodes.length d.type)) (xs:=s.defs) (w:=hl)
 exact of_decide_eq_true this
theorem own_le {s:zAd}{i j:Nat}{d:DefD} (hd:s.defs[j]?=some d) (hm:(i:Int)∈preI (kidsAt s) s.nodes.length d.type):ownI s i≤j:=by
 refine Nat.le_of_not_lt fun h=>?_
 obtain ⟨hj,e⟩:=List.getElem?_eq_some_iff.1 hd
 have:=List.not_of_lt_findIdx (p:=fun d:DefD=>decide ((i:Int)∈preI (kidsAt s) s.nodes.length d.type)) h
 rw [e] at this
 rw [decide_eq_true hm] at this
 cases this
theorem zFk:∀ {ds:List DefD}{n:List UInt8}{j:Nat}{d:DefD},ds[j]?=some d→d.name=n→∃ (j0:Nat) (d0:DefD),j0≤j∧ds[j0]?=some d0∧d0.name=n∧defD ds n=d0.type
 | [],n,j,d,h,_=>by simp at h
 | x::ds,n,j,d,h,hn=>by
   by_cases hx:x.name=n
   ·exact ⟨0,x,Nat.zero_le _,rfl,hx,by unfold defD;rw [if_pos hx]⟩
   ·cases j with
    | zero=>simp at h;subst h;exact absurd hn hx
    | succ j =>
      obtain ⟨j0,d0,h1,h2,h3,h4⟩:=zFk (ds:=ds) (by simpa using h) hn
      exact ⟨j0+1,d0,by omega,by simpa using h2,h3,by unfold defD;rw [if_neg hx];exact h4⟩
def rkI (s:zAd) (i:Nat):Nat:=if i<s.nodes.length then ownI s i*(s.nodes.length+1)+i else 0
theorem rank_ok {s:zAd} (hc:zAo s=0) (hd:(zDF s [] s.defs).1=0):RkOk s (rkI s):=by
 have hv:=Ahead.of hc
 obtain ⟨g1,g2,g3⟩:=zFH hd List.nodup_nil
 have hty:∀ d∈s.defs,0≤d.type∧d.type<(s.nodes.length:Int):=fun d hd=>by
  obtain ⟨o,o',_,h2,_⟩:=zA8 hc
  exact zBt h2 d.type (List.mem_map.2 ⟨d,hd,rfl⟩)
 refine ⟨fun i d hdi k hk=>?_,fun i d hdi hk=>?_,fun i=>?_⟩
 ·have hi:=(List.getElem?_eq_some_iff.1 hdi).1
  obtain ⟨hf,hks⟩:=hv i d hdi
  obtain ⟨q1,q2⟩:=hks k hk
  refine ⟨q1,by omega,?_⟩
  obtain ⟨y,rfl⟩:=Int.eq_ofNat_of_zero_le q1
  rw [Int.toNat_natCast]
  have hy:y<s.nodes.length:=by omega
  obtain ⟨e,he,hm⟩:=zD1 hc hi
  obtain ⟨p1,p2⟩:=hty e (List.mem_of_getElem? he)
  obtain ⟨z,hz⟩:=Int.eq_ofNat_of_zero_le p1
  have hle:ownI s y≤ownI s i:=own_le he (by
   rw [hz] at hm ⊢
   refine zCQ hv (z+1) z (by omega) (by omega) _ hm _ ?_
   rw [Int.toNat_natCast];unfold kidsAt;rw [hdi];exact hk)
  unfold rkI
  rw [if_pos hi,if_pos hy]
  have:=Nat.mul_le_mul_right (s.nodes.length+1) hle
  omega
 ·have hi:=(List.getElem?_eq_some_iff.1 hdi).1
  obtain ⟨e,he,hm⟩:=zD1 hc hi
  obtain ⟨p1,p2⟩:=hty e (List.mem_of_getElem? he)
  obtain ⟨z,hz⟩:=Int.eq_ofNat_of_zero_le p1
  have hk2:=g3 _ e he
  rw [hz] at hm hk2
  have htx:=zEZ hv s.nodes.length z [] (by omega) (by omega) hk2 _ hm d (by rw [Int.toNat_natCast];exact hdi) hk
  rw [List.nil_append] at htx
  obtain ⟨x,hx,hxn⟩:=List.mem_map.1 htx
  obtain ⟨j,hj⟩:=List.getElem?_of_mem hx
  have hjl:j<ownI s i:=by
   have:=(List.getElem?_eq_some_iff.1 hj).1
   rw [List.length_take] at this
   omega
  rw [List.getElem?_take,if_pos hjl] at hj
  obtain ⟨j0,d0,h1,h2,h3,h4⟩:=zFk hj hxn
  obtain ⟨r1,r2⟩:=hty d0 (List.mem_of_getElem? h2)
  obtain ⟨y,hy⟩:=Int.eq_ofNat_of_zero_le r1
  rw [h4]
  refine ⟨r1,r2,?_⟩
  have hy2:y<s.nodes.length:=by omega
  have hle:ownI s y≤j0:=own_le h2 (by
   rw [hy,zAL hv.kidsAt hy2]
   exact List.mem_cons_self ..)
  rw [hy,Int.toNat_natCast]
  unfold rkI
  rw [if_pos hi,if_pos hy2]
  have:(ownI s y+1)*(s.nodes.length+1)≤ownI s i*(s.nodes.length+1):=Nat.mul_le_mul_right _ (by omega)
  rw [Nat.add_mul] at this
  omega
 ·unfold rkI zFB
  split
  ·rename_i hi
   have:=own_lt hc hi
   have:(ownI s i+1)*(s.nodes.length+1)≤s.defs.length*(s.nodes.length+1):=Nat.mul_le_mul_right _ (by omega)
   rw [Nat.add_mul] at this ⊢
   omega
  ·exact Nat.mul_pos (by omega) (by omega)
structure AskD where
 name:List UInt8
 record:Nat
 field:Nat
 number:Bool
deriving DecidableEq
abbrev Lk:=Nat→Option (Nat × Nat)
def noLk:Lk:=fun _=>none
def zEM (lk:Lk) (x r f:Nat):Lk:=fun y=>if y=x then some (r,f) else lk y
def zAO (seen:List AskD) (name:List UInt8):Option AskD:=seen.find? (fun q=>decide (q.name=name))
def zBA (d:zAh):Bool:=decide (d.kind=1∨d.kind=2)
def zBl:List zAm→List UInt8→Nat→Int
 | [],_,_=>-1
 | f::fs,name,i=>if f.name=name then (i:Int) else zBl fs name (i+1)
def zAt (d:zAh) (name:List UInt8):Int:=zBl d.fields name 0
def oneR (at':Nat) (seen:List AskD) (name:List UInt8) (lk:Lk):Option Lk :=
 if name=[] then some lk else match zAO seen name with
 | some q=>if q.number=true then some (zEM lk at' q.record q.field) else none
 | none=>none
def zBN (s:zAd) (t:Int):Bool:=match s.nodes[t.toNat]? with
 | some d=>zBA d
 | none=>false
def zB3 (s:zAd) (r f:Nat):Bool:=match s.nodes[r]? with
 | none=>false
 | some d=>match d.fields[f]? with
   | none=>false
   | some g=>decide (g.derive=1)&&decide (0≤zAt d g.of)&&(match d.fields[(zAt d g.of).toNat]? with
     | none=>false
     | some h=>match s.nodes[h.type.toNat]? with
       | none=>false
       | some e=>decide (e.kind=8))
def zGn (s:zAd) (lk:Lk) (a:Int):Bool:=(preI (kidsAt s) s.nodes.length a).all (fun k=>match lk k.toNat with
 | none=>true
 | some (r,f)=>decide (((r:Nat):Int)∈preI (kidsAt s) s.nodes.length a)||!zB3 s r f)
def zBg (f:zAm) (x:zAh):Bool:=decide (x.ereg=f.name)&&(decide (x.emul=1)&&decide (x.eadd=0))
def zAZ (s:zAd) (lk:Lk) (d:zAh) (i:Nat):Bool:=match d.fields[i]? with
 | none=>false
 | some f=>match s.nodes[f.type.toNat]? with
   | none=>false
   | some own =>
     if f.derive=0 then decide (f.of=[])&&decide (f.to=[])
     else if f.derive=1∨f.derive=2 then
      if zBA own=false∨own.zig=true∨zAt d f.of≤(i:Int)∨f.to≠[] then false else
      match d.fields[(zAt d f.of).toNat]? with
      | none=>false
      | some g=>match s.nodes[g.type.toNat]? with
        | none=>false
        | some x=>if f.derive=2 then zBg f x&&decide (x.kind=6) else zBg f x&&(decide (x.kind=4)||(decide (x.kind=8)&&zGn s lk (x.kids[0]?.getD 0)))
     else if f.derive=3 then (decide (own.kind=1)&&decide (own.width=4)&&decide (own.min=0)&&decide (own.max=zCc own))&&(decide (0≤zAt d f.of)&&decide (zAt d f.of≤zAt d f.to)&&decide (zAt d f.to<(i:Int)))
     else false
def goR (K:Int→Lk→Except (Int × Int) Lk):List Int→Lk→Except (Int × Int) Lk
 | [],lk=>.ok lk
 | k::ks,lk=>match K k lk with
   | .error e=>.error e
   | .ok lk1=>goR K ks lk1
def recR (s:zAd) (K:Int→List AskD→Lk→Except (Int × Int) Lk) (a:Nat):Nat→List zAm→List AskD→Lk→Except (Int × Int) Lk
 | _,[],_,lk=>.ok lk
 | i,f::fs,seen,lk=>match K f.type seen lk with
   | .error e=>.error e
   | .ok lk1=>recR s K a (i+1) fs (seen++[⟨f.name,a,i,zBN s f.type&&decide (f.derive≠3)⟩]) lk1
def zBK (s:zAd) (lk:Lk) (d:zAh):Bool:=(List.range d.fields.length).all (fun i=>zAZ s lk d i)
def zAC (s:zAd):Nat→Int→List AskD→Lk→Except (Int × Int) Lk
 | 0,_,_,lk=>.ok lk
 | n+1,a,seen,lk=>match s.nodes[a.toNat]? with
   | none=>.ok lk
   | some d=>match (oneR a.toNat seen d.reg lk).bind (oneR a.toNat seen d.ereg) with
     | none=>.error (150,a)
     | some lk1=>if d.kind=5 then
       (match recR s (zAC s n) a.toNat 0 d.fields seen lk1 with
       | .error e=>.error e
       | .ok lk2=>if zBK s lk2 d=true then .ok lk2 else .error (151,a))
       else goR (fun k=>zAC s n k seen) (zAc d) lk1
def zCX (s:zAd):List DefD→Lk→Except (Int × Int) Lk
 | [],lk=>.ok lk
 | d::ds,lk=>match zAC s s.nodes.length d.type [] lk with
   | .error e=>.error e
   | .ok lk1=>zCX s ds lk1
def zAM (s:zAd):Except (Int × Int) Lk:=if (zBo s).1≠0 then .error (zBo s) else zCX s s.defs noLk
def errR:Except (Int × Int) Lk→Int × Int
 | .ok _=>(0,0)
 | .error e=>e
end Go.Proofs.YtnapjcnfgdkmcaaGreatDoor
end
