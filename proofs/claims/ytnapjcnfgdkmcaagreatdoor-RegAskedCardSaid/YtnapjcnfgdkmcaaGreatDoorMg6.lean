/- Texts of a walk, one behind the other. -/
import Derived.Test.YtnapjcnfgdkmcaaGreatDoorMg5
set_option linter.unusedVariables false
set_option linter.unusedSimpArgs false
set_option linter.unusedSectionVars false
set_option maxRecDepth 10000
section
namespace Go.Proofs.YtnapjcnfgdkmcaaGreatDoor
open Go Go.E
theorem zBQ (l:List zB2):(zAu l).length=l.length*2:=by
 unfold zAu
 induction l with
 | nil=>rfl
 | cons x l ih=>rw [List.flatMap_cons,List.length_append,ih];simp only [zCA,List.length_cons,List.length_nil];omega
section
variable {ro:Ro}{own q q1 q2:Chs}{K:Value→Ro→Chs→Prop}{l:List TokD}{s:PS}{a:zAp}{la:Option Addr}{lc r:Nat}{deep:Nat}{F:PS→Nat × PS}
set_option maxHeartbeats 8000000 in
theorem zHv (hF:KOk la lc r l ((deep:Int)+1) F) (hst:∀ s,s.code≠0→(F s).2.code≠0) (hd:deep≤100) (hM:MaxOk ro) (hT:ToksOk ro la lc l) (h:RdOk ro l s a) (t1:Take own (rdC r la lc l s a) q1) (t2:Take q1 (ndC s a) q2) (t3:Take q2 (dfC s a) q)
  (hk:∀ ro' a',Le ro ro'→RdOk ro' l (zBL numD (zAa l) F s).2 a'→K (.int .i64 ((zBL numD (zAa l) F s).1:Int)) ro' (rdC r la lc l (zBL numD (zAa l) F s).2 a'::ndC (zBL numD (zAa l) F s).2 a'::dfC (zBL numD (zAa l) F s).2 a'::q)) :
  CallOk Tryz.prog 138 #[ptr' r,.int .i64 (deep:Int)] ro own K:=by
 refine CallOk.perm (zB8 t1 t2 t3) ?_
 unfold zBL at hk
 dsimp only at hk
 refine CallOk.intro (args:=[_,_]) (rs:=[_]) T_ok Tryz.func138 Tryz.call138 rfl rfl (by kernel_rfl) rfl rfl ?_
 repeat first|exact zE|refine zP ?_|refine zB fun b=>?_|refine zC fun a' c' hc1 hc2=>?_|(apply GJ.a;exact rfl;intro hg)|(apply GJ.o;exact rfl;intro hg)
 refine zDj hM hT h Take.auto Take.auto Take.auto (fun h1=>?_)
 generalize zA6 (zAa l) s=x at *
 obtain ⟨xn,s1⟩:=x
 dsimp only at h1 hk ⊢
 repeat first|exact zE|refine zP ?_|refine zB fun b=>?_|refine zC fun a' c' hc1 hc2=>?_|(apply GJ.a;exact rfl;intro hg)|(apply GJ.o;exact rfl;intro hg)
 obtain ⟨bN,hbN⟩:∃ z:Nat,z=b:=⟨_,rfl⟩
 subst hbN
 refine zDr (t:=[37]) hT h1 Take.auto Take.auto Take.auto (fun h2=>?_)
 generalize zA3 (zAa l) [37] s1=m at *
 obtain ⟨mb,s2⟩:=m
 dsimp only at h2 hk ⊢
 cases mb with
 | false =>
   simp only [Bool.false_eq_true,↓reduceIte,false_and] at hk
   repeat first|exact zE|refine zP ?_|refine zB fun b=>?_|refine zC fun a' c' hc1 hc2=>?_|(apply GJ.a;exact rfl;intro hg)|(apply GJ.o;exact rfl;intro hg)
   refine zAi (t:=[123]) hT h2 Take.auto Take.auto Take.auto (fun h4=>?_)
   generalize zAe (zAa l) [123] s2=sM at *
   obtain ⟨R,hR⟩:∃ R,R=zBm numD (zAa l) F 70 [] sM:=⟨_,rfl⟩
   rw [←hR] at hk
   repeat first|exact zE|refine zP ?_|refine zB fun b=>?_|refine zC fun a' c' hc1 hc2=>?_|(apply GJ.a;exact rfl;intro hg)|(apply GJ.o;exact rfl;intro hg)
   refine LoopOk.auto (ι:=List zB2 × PS × zAp × Option Addr × Nat) Keep.z (fun (cs,s,a,ca,cc)=>[]) (fun (cs,s,a,ca,cc)=>rdC r la lc l s a::ndC s a::dfC s a::.sl ca cs.length cc 97 2 (zAu cs)::.blk bN 40 (zAl { zAb with kind:=9,reg:=xn,mod:=0,cases:=cs,els:=-1 } { zAr with ca:=ca,cc:=cc })::q) (fun (cs,s,a,ca,cc) ro2=>RdOk ro2 l s a∧zBm numD (zAa l) F (70-cs.length) cs s=R∧(cs.length≤64∨(cs.length=65∧s.code≠0))∧cs.length≤cc∧cc≤maxLen) (fun (cs,s,a,ca,cc)=>70-cs.length) ([],sM,a,none,0) ?_ Sub.z Sup.z ?_
   ·exact ⟨h4,hR.symm,.inl (Nat.zero_le _),Nat.le_refl _,Nat.zero_le _⟩
   clear h4 hR h h1 h2
   rintro ⟨cs,s,a,ca,cc⟩ ro2 hl2 ⟨i1,i2,i3,i4,i5⟩
   dsimp only [List.cons_append,List.nil_append] at i1 i2 i3 i4 i5 ⊢
   dsimp only [zAl,zAb,zAr]
   have hM2:=hM.le hl2
   have hT2:=hT.up hl2
   have hfl:=zBQ cs
   rw [show 70-cs.length=(69-cs.length)+1 by omega,zBm] at i2
   repeat first|exact zE|refine zP ?_|refine zB fun b=>?_|refine zC fun a' c' hc1 hc2=>?_|(apply GJ.a;exact rfl;intro hg)|(apply GJ.o;exact rfl;intro hg)
   refine zAX i1 Take.auto ?_
   by_cases hc:s.code=0
   ·rw [decide_eq_true hc]
    repeat first|exact zE|refine zP ?_|refine zB fun b=>?_|refine zC fun a' c' hc1 hc2=>?_|(apply GJ.a;exact rfl;intro hg)|(apply GJ.o;exact rfl;intro hg)
    refine zAN hT2 i1 Take.auto ?_
    repeat first|exact zE|refine zP ?_|refine zB fun b=>?_|refine zC fun a' c' hc1 hc2=>?_|(apply GJ.a;exact rfl;intro hg)|(apply GJ.o;exact rfl;intro hg)
    by_cases hk2:(zAy (zAa l) s).kind=2
    ·rw [if_neg (by rintro (h|h);exact h hc;exact h hk2)] at i2
     rw [hk2]
     repeat first|exact zE|refine zP ?_|refine zB fun b=>?_|refine zC fun a' c' hc1 hc2=>?_|(apply GJ.a;exact rfl;intro hg)|(apply GJ.o;exact rfl;intro hg)
     by_cases h64:cs.length=64
     ·rw [if_pos h64] at i2
      repeat first|exact zE|refine zP ?_|refine zB fun b=>?_|refine zC fun a' c' hc1 hc2=>?_|(apply GJ.a;exact rfl;intro hg)|(apply GJ.o;exact rfl;intro hg)
      refine zAF (e:=2) (by decide) (by decide) hT2 i1 Take.auto Take.auto Take.auto (fun h4=>?_)
      have hcode:(zAg 2 s).code≠0:=by
       unfold zAg
       rw [if_pos hc]
       exact (by decide:(2:Nat)≠0)
      generalize zAg 2 s=s4 at *
      repeat first|exact zE|refine zP ?_|refine zB fun b=>?_|refine zC fun a' c' hc1 hc2=>?_|(apply GJ.a;exact rfl;intro hg)|(apply GJ.o;exact rfl;intro hg)
      have hstf:(s4).code≠0→(zAe (zAa l) [59] (F (zAe (zAa l) [58] (numP numD (zAa l) s4).2)).2).code≠0:=fun hh=>by
       haveI:=zA2 l
       exact (InP.must (E:=zAa l) (I:=fun s=>s.code≠0) ⟨hst _ (InP.must (E:=zAa l) (I:=fun s=>s.code≠0) (InP.num (wideP:=numD) ⟨hh⟩) [58]).get⟩ [59]).get
      dsimp only at i2
      refine num3 hT2 h4 Take.auto Take.auto Take.auto (fun h5=>?_)
      generalize numP numD (zAa l) s4=v at *
      obtain ⟨vn,s5⟩:=v
      dsimp only at h5 i2 hstf ⊢
      repeat first|exact zE|refine zP ?_|refine zB fun b=>?_|refine zC fun a' c' hc1 hc2=>?_|(apply GJ.a;exact rfl;intro hg)|(apply GJ.o;exact rfl;intro hg)
      obtain ⟨bC,hbC⟩:∃ z:Nat,z=b:=⟨_,rfl⟩
      subst hbC
      refine zAi (t:=[58]) hT2 h5 Take.auto Take.auto Take.auto (fun h6=>?_)
      generalize zAe (zAa l) [58] s5=s6 at *
      repeat first|exact zE|refine zP ?_|refine zB fun b=>?_|refine zC fun a' c' hc1 hc2=>?_|(apply GJ.a;exact rfl;intro hg)|(apply GJ.o;exact rfl;intro hg)
      refine hF.run hM2 hT2 h6 Take.auto Take.auto Take.auto (fun ro3 a3 hl3 h7=>?_)
      generalize F s6=kx at *
      obtain ⟨kn,s7⟩:=kx
      dsimp only at h7 i2 hstf ⊢
      repeat first|exact zE|refine zP ?_|refine zB fun b=>?_|refine zC fun a' c' hc1 hc2=>?_|(apply GJ.a;exact rfl;intro hg)|(apply GJ.o;exact rfl;intro hg)
      refine zAi (t:=[59]) (hT2.up hl3) h7 Take.auto Take.auto Take.auto (fun h8=>?_)
      generalize zAe (zAa l) [59] s7=s8 at *
      repeat first|exact zE|refine zP ?_|refine zB fun b=>?_|refine zC fun a' c' hc1 hc2=>?_|(apply GJ.a;exact rfl;intro hg)|(apply GJ.o;exact rfl;intro hg)
      have e2:zAu cs++flat [Value.agg #[.int .u64 (vn:Int),.int .i64 (kn:Int)]]=zAu (cs++[⟨vn,kn⟩]):=by simp [zAu,flat,zCA,Value.cells]
      have e1:cs.length+1=(cs++[(⟨vn,kn⟩:zB2)]).length:=by simp
      rw [e2]
      rw [e1] at hc1 ⊢
      repeat first|exact zE|refine zP ?_|refine zB fun b=>?_|refine zC fun a' c' hc1 hc2=>?_|(apply GJ.a;exact rfl;intro hg)|(apply GJ.o;exact rfl;intro hg)
      refine Wk.id ⟨(cs++[⟨vn,kn⟩],s8,a3,a',c'),?_,?_,Sub.z,Sup.z⟩
      all_goals try dsimp only
      ·refine ⟨h8,by rw [←e1,show 70-(cs.length+1)=69-cs.length by omega];exact i2,?_,hc1,hc2⟩
       rw [←e1]
       exact .inr ⟨by omega,hstf hcode⟩
      ·rw [←e1];omega
     ·rw [if_neg h64] at i2
      have hle:cs.length≤63:=by
       rcases i3 with h|⟨h,hh⟩
       ·omega
       ·exact absurd hc hh
      repeat first|exact zE|refine zP ?_|refine zB fun b=>?_|refine zC fun a' c' hc1 hc2=>?_|(apply GJ.a;exact rfl;intro hg)|(apply GJ.o;exact rfl;intro hg)
      repeat first|exact zE|refine zP ?_|refine zB fun b=>?_|refine zC fun a' c' hc1 hc2=>?_|(apply GJ.a;exact rfl;intro hg)|(apply GJ.o;exact rfl;intro hg)
      have hstf:(s).code≠0→(zAe (zAa l) [59] (F (zAe (zAa l) [58] (numP numD (zAa l) s).2)).2).code≠0:=fun hh=>by
       haveI:=zA2 l
       exact (InP.must (E:=zAa l) (I:=fun s=>s.code≠0) ⟨hst _ (InP.must (E:=zAa l) (I:=fun s=>s.code≠0) (InP.num (wideP:=numD) ⟨hh⟩) [58]).get⟩ [59]).get
      dsimp only at i2
      refine num3 hT2 i1 Take.auto Take.auto Take.auto (fun h5=>?_)
      generalize numP numD (zAa l) s=v at *
      obtain ⟨vn,s5⟩:=v
      dsimp only at h5 i2 hstf ⊢
      repeat first|exact zE|refine zP ?_|refine zB fun b=>?_|refine zC fun a' c' hc1 hc2=>?_|(apply GJ.a;exact rfl;intro hg)|(apply GJ.o;exact rfl;intro hg)
      obtain ⟨bC,hbC⟩:∃ z:Nat,z=b:=⟨_,rfl⟩
      subst hbC
      refine zAi (t:=[58]) hT2 h5 Take.auto Take.auto Take.auto (fun h6=>?_)
      generalize zAe (zAa l) [58] s5=s6 at *
      repeat first|exact zE|refine zP ?_|refine zB fun b=>?_|refine zC fun a' c' hc1 hc2=>?_|(apply GJ.a;exact rfl;intro hg)|(apply GJ.o;exact rfl;intro hg)
      refine hF.run hM2 hT2 h6 Take.auto Take.auto Take.auto (fun ro3 a3 hl3 h7=>?_)
      generalize F s6=kx at *
      obtain ⟨kn,s7⟩:=kx
      dsimp only at h7 i2 hstf ⊢
      repeat first|exact zE|refine zP ?_|refine zB fun b=>?_|refine zC fun a' c' hc1 hc2=>?_|(apply GJ.a;exact rfl;intro hg)|(apply GJ.o;exact rfl;intro hg)
      refine zAi (t:=[59]) (hT2.up hl3) h7 Take.auto Take.auto Take.auto (fun h8=>?_)
      generalize zAe (zAa l) [59] s7=s8 at *
      repeat first|exact zE|refine zP ?_|refine zB fun b=>?_|refine zC fun a' c' hc1 hc2=>?_|(apply GJ.a;exact rfl;intro hg)|(apply GJ.o;exact rfl;intro hg)
      have e2:zAu cs++flat [Value.agg #[.int .u64 (vn:Int),.int .i64 (kn:Int)]]=zAu (cs++[⟨vn,kn⟩]):=by simp [zAu,flat,zCA,Value.cells]
      have e1:cs.length+1=(cs++[(⟨vn,kn⟩:zB2)]).length:=by simp
      rw [e2]
      rw [e1] at hc1 ⊢
      repeat first|exact zE|refine zP ?_|refine zB fun b=>?_|refine zC fun a' c' hc1 hc2=>?_|(apply GJ.a;exact rfl;intro hg)|(apply GJ.o;exact rfl;intro hg)
      refine Wk.id ⟨(cs++[⟨vn,kn⟩],s8,a3,a',c'),?_,?_,Sub.z,Sup.z⟩
      all_goals try dsimp only
      ·refine ⟨h8,by rw [←e1,show 70-(cs.length+1)=69-cs.length by omega];exact i2,?_,hc1,hc2⟩
       rw [←e1]
       exact .inl (by omega)
      ·rw [←e1];omega
    ·rw [if_pos (.inr hk2)] at i2
     subst i2
     dsimp only at hk
     repeat first|exact zE|refine zP ?_|refine zB fun b=>?_|refine zC fun a' c' hc1 hc2=>?_|(apply GJ.a;exact rfl;intro hg)|(apply GJ.o;exact rfl;intro hg)
     by_cases h0:cs.length=0
     ·rw [if_pos h0] at hk
      repeat first|exact zE|refine zP ?_|refine zB fun b=>?_|refine zC fun a' c' hc1 hc2=>?_|(apply GJ.a;exact rfl;intro hg)|(apply GJ.o;exact rfl;intro hg)
      refine zAF (e:=5) (by decide) (by decide) hT2 i1 Take.auto Take.auto Take.auto (fun h6=>?_)
      generalize zAg 5 s=s6 at *
      repeat first|exact zE|refine zP ?_|refine zB fun b=>?_|refine zC fun a' c' hc1 hc2=>?_|(apply GJ.a;exact rfl;intro hg)|(apply GJ.o;exact rfl;intro hg)
      refine zAK (t:=[101,108,115,101]) hT2 h6 Take.auto Take.auto Take.auto (fun g5=>?_)
      generalize kwP (zAa l) [101,108,115,101] s6=e at *
      obtain ⟨eb,s7⟩:=e
      dsimp only at g5 hk ⊢
      cases eb with
      | false =>
        simp only [Bool.false_eq_true,↓reduceIte] at hk
        repeat first|exact zE|refine zP ?_|refine zB fun b=>?_|refine zC fun a' c' hc1 hc2=>?_|(apply GJ.a;exact rfl;intro hg)|(apply GJ.o;exact rfl;intro hg)
        refine zAi (t:=[125]) (hT2) g5 Take.auto Take.auto Take.auto (fun g1=>?_)
        generalize zAe (zAa l) [125] s7=z1 at *
        repeat first|exact zE|refine zP ?_|refine zB fun b=>?_|refine zC fun a' c' hc1 hc2=>?_|(apply GJ.a;exact rfl;intro hg)|(apply GJ.o;exact rfl;intro hg)
        refine CallOk.freeze (c:=.sl ca _ _ _ _ _) Take.auto (fun ro9 hl9 hc9=>?_)
        refine zAk (d:={ zAb with kind:=9,reg:=xn,mod:=0,cases:=cs,els:=-1 }) (x:={ zAr with ca:=ca,cc:=cc }) ((hT2).up hl9) (g1.up hl9) ⟨Rs.nil _ 1,Rs.nil _ 1,Rs.nil _ 5,Rs.last hc9⟩ ⟨by simp [zAb],by simp [zAb],by simp [zAb],by dsimp only;omega⟩ Take.auto Take.auto Take.auto (fun ro4 a4 hl4 h4=>?_)
        have hk2:=hk ro4 a4 (((hl2).trans hl9).trans hl4) h4
        repeat first|exact zE|refine zP ?_|refine zB fun b=>?_|refine zC fun a' c' hc1 hc2=>?_|(apply GJ.a;exact rfl;intro hg)|(apply GJ.o;exact rfl;intro hg)
        exact Wk.outS Sup.z (.refl _) hk2
      | true =>
        simp only [↓reduceIte] at hk
        repeat first|exact zE|refine zP ?_|refine zB fun b=>?_|refine zC fun a' c' hc1 hc2=>?_|(apply GJ.a;exact rfl;intro hg)|(apply GJ.o;exact rfl;intro hg)
        refine zAi (t:=[58]) hT2 g5 Take.auto Take.auto Take.auto (fun g6=>?_)
        generalize zAe (zAa l) [58] s7=s8 at *
        repeat first|exact zE|refine zP ?_|refine zB fun b=>?_|refine zC fun a' c' hc1 hc2=>?_|(apply GJ.a;exact rfl;intro hg)|(apply GJ.o;exact rfl;intro hg)
        refine hF.run hM2 hT2 g6 Take.auto Take.auto Take.auto (fun ro5 a5 hl5 g7=>?_)
        generalize F s8=kx at *
        obtain ⟨kn,s9⟩:=kx
        dsimp only at g7 hk ⊢
        repeat first|exact zE|refine zP ?_|refine zB fun b=>?_|refine zC fun a' c' hc1 hc2=>?_|(apply GJ.a;exact rfl;intro hg)|(apply GJ.o;exact rfl;intro hg)
        refine zAi (t:=[59]) (hT2.up hl5) g7 Take.auto Take.auto Take.auto (fun g8=>?_)
        generalize zAe (zAa l) [59] s9=sA at *
        repeat first|exact zE|refine zP ?_|refine zB fun b=>?_|refine zC fun a' c' hc1 hc2=>?_|(apply GJ.a;exact rfl;intro hg)|(apply GJ.o;exact rfl;intro hg)
        refine zAi (t:=[125]) (hT2.up hl5) g8 Take.auto Take.auto Take.auto (fun g1=>?_)
        generalize zAe (zAa l) [125] sA=z1 at *
        repeat first|exact zE|refine zP ?_|refine zB fun b=>?_|refine zC fun a' c' hc1 hc2=>?_|(apply GJ.a;exact rfl;intro hg)|(apply GJ.o;exact rfl;intro hg)
        refine CallOk.freeze (c:=.sl ca _ _ _ _ _) Take.auto (fun ro9 hl9 hc9=>?_)
        refine zAk (d:={ zAb with kind:=9,reg:=xn,mod:=0,cases:=cs,els:=(kn:Int) }) (x:={ zAr with ca:=ca,cc:=cc }) ((hT2.up hl5).up hl9) (g1.up hl9) ⟨Rs.nil _ 1,Rs.nil _ 1,Rs.nil _ 5,Rs.last hc9⟩ ⟨by simp [zAb],by simp [zAb],by simp [zAb],by dsimp only;omega⟩ Take.auto Take.auto Take.auto (fun ro4 a4 hl4 h4=>?_)
        have hk2:=hk ro4 a4 (((hl2.trans hl5).trans hl9).trans hl4) h4
        repeat first|exact zE|refine zP ?_|refine zB fun b=>?_|refine zC fun a' c' hc1 hc2=>?_|(apply GJ.a;exact rfl;intro hg)|(apply GJ.o;exact rfl;intro hg)
        exact Wk.outS Sup.z (.refl _) hk2
     ·rw [if_neg h0] at hk
      repeat first|exact zE|refine zP ?_|refine zB fun b=>?_|refine zC fun a' c' hc1 hc2=>?_|(apply GJ.a;exact rfl;intro hg)|(apply GJ.o;exact rfl;intro hg)
      refine zAK (t:=[101,108,115,101]) hT2 i1 Take.auto Take.auto Take.auto (fun g5=>?_)
      generalize kwP (zAa l) [101,108,115,101] s=e at *
      obtain ⟨eb,s7⟩:=e
      dsimp only at g5 hk ⊢
      cases eb with
      | false =>
        simp only [Bool.false_eq_true,↓reduceIte] at hk
        repeat first|exact zE|refine zP ?_|refine zB fun b=>?_|refine zC fun a' c' hc1 hc2=>?_|(apply GJ.a;exact rfl;intro hg)|(apply GJ.o;exact rfl;intro hg)
        refine zAi (t:=[125]) (hT2) g5 Take.auto Take.auto Take.auto (fun g1=>?_)
        generalize zAe (zAa l) [125] s7=z1 at *
        repeat first|exact zE|refine zP ?_|refine zB fun b=>?_|refine zC fun a' c' hc1 hc2=>?_|(apply GJ.a;exact rfl;intro hg)|(apply GJ.o;exact rfl;intro hg)
        refine CallOk.freeze (c:=.sl ca _ _ _ _ _) Take.auto (fun ro9 hl9 hc9=>?_)
        refine zAk (d:={ zAb with kind:=9,reg:=xn,mod:=0,cases:=cs,els:=-1 }) (x:={ zAr with ca:=ca,cc:=cc }) ((hT2).up hl9) (g1.up hl9) ⟨Rs.nil _ 1,Rs.nil _ 1,Rs.nil _ 5,Rs.last hc9⟩ ⟨by simp [zAb],by simp [zAb],by simp [zAb],by dsimp only;omega⟩ Take.auto Take.auto Take.auto (fun ro4 a4 hl4 h4=>?_)
        have hk2:=hk ro4 a4 (((hl2).trans hl9).trans hl4) h4
        repeat first|exact zE|refine zP ?_|refine zB fun b=>?_|refine zC fun a' c' hc1 hc2=>?_|(apply GJ.a;exact rfl;intro hg)|(apply GJ.o;exact rfl;intro hg)
        exact Wk.outS Sup.z (.refl _) hk2
      | true =>
        simp only [↓reduceIte] at hk
        repeat first|exact zE|refine zP ?_|refine zB fun b=>?_|refine zC fun a' c' hc1 hc2=>?_|(apply GJ.a;exact rfl;intro hg)|(apply GJ.o;exact rfl;intro hg)
        refine zAi (t:=[58]) hT2 g5 Take.auto Take.auto Take.auto (fun g6=>?_)
        generalize zAe (zAa l) [58] s7=s8 at *
        repeat first|exact zE|refine zP ?_|refine zB fun b=>?_|refine zC fun a' c' hc1 hc2=>?_|(apply GJ.a;exact rfl;intro hg)|(apply GJ.o;exact rfl;intro hg)
        refine hF.run hM2 hT2 g6 Take.auto Take.auto Take.auto (fun ro5 a5 hl5 g7=>?_)
        generalize F s8=kx at *
        obtain ⟨kn,s9⟩:=kx
        dsimp only at g7 hk ⊢
        repeat first|exact zE|refine zP ?_|refine zB fun b=>?_|refine zC fun a' c' hc1 hc2=>?_|(apply GJ.a;exact rfl;intro hg)|(apply GJ.o;exact rfl;intro hg)
        refine zAi (t:=[59]) (hT2.up hl5) g7 Take.auto Take.auto Take.auto (fun g8=>?_)
        generalize zAe (zAa l) [59] s9=sA at *
        repeat first|exact zE|refine zP ?_|refine zB fun b=>?_|refine zC fun a' c' hc1 hc2=>?_|(apply GJ.a;exact rfl;intro hg)|(apply GJ.o;exact rfl;intro hg)
        refine zAi (t:=[125]) (hT2.up hl5) g8 Take.auto Take.auto Take.auto (fun g1=>?_)
        generalize zAe (zAa l) [125] sA=z1 at *
        repeat first|exact zE|refine zP ?_|refine zB fun b=>?_|refine zC fun a' c' hc1 hc2=>?_|(apply GJ.a;exact rfl;intro hg)|(apply GJ.o;exact rfl;intro hg)
        refine CallOk.freeze (c:=.sl ca _ _ _ _ _) Take.auto (fun ro9 hl9 hc9=>?_)
        refine zAk (d:={ zAb with kind:=9,reg:=xn,mod:=0,cases:=cs,els:=(kn:Int) }) (x:={ zAr with ca:=ca,cc:=cc }) ((hT2.up hl5).up hl9) (g1.up hl9) ⟨Rs.nil _ 1,Rs.nil _ 1,Rs.nil _ 5,Rs.last hc9⟩ ⟨by simp [zAb],by simp [zAb],by simp [zAb],by dsimp only;omega⟩ Take.auto Take.auto Take.auto (fun ro4 a4 hl4 h4=>?_)
        have hk2:=hk ro4 a4 (((hl2.trans hl5).trans hl9).trans hl4) h4
        repeat first|exact zE|refine zP ?_|refine zB fun b=>?_|refine zC fun a' c' hc1 hc2=>?_|(apply GJ.a;exact rfl;intro hg)|(apply GJ.o;exact rfl;intro hg)
        exact Wk.outS Sup.z (.refl _) hk2
   ·rw [if_pos (.inl hc)] at i2
    subst i2
    dsimp only at hk
    rw [decide_eq_false hc]
    repeat first|exact zE|refine zP ?_|refine zB fun b=>?_|refine zC fun a' c' hc1 hc2=>?_|(apply GJ.a;exact rfl;intro hg)|(apply GJ.o;exact rfl;intro hg)
    by_cases h0:cs.length=0
    ·rw [if_pos h0] at hk
     repeat first|exact zE|refine zP ?_|refine zB fun b=>?_|refine zC fun a' c' hc1 hc2=>?_|(apply GJ.a;exact rfl;intro hg)|(apply GJ.o;exact rfl;intro hg)
     refine zAF (e:=5) (by decide) (by decide) hT2 i1 Take.auto Take.auto Take.auto (fun h6=>?_)
     generalize zAg 5 s=s6 at *
     repeat first|exact zE|refine zP ?_|refine zB fun b=>?_|refine zC fun a' c' hc1 hc2=>?_|(apply GJ.a;exact rfl;intro hg)|(apply GJ.o;exact rfl;intro hg)
     refine zAK (t:=[101,108,115,101]) hT2 h6 Take.auto Take.auto Take.auto (fun g5=>?_)
     generalize kwP (zAa l) [101,108,115,101] s6=e at *
     obtain ⟨eb,s7⟩:=e
     dsimp only at g5 hk ⊢
     cases eb with
     | false =>
       simp only [Bool.false_eq_true,↓reduceIte] at hk
       repeat first|exact zE|refine zP ?_|refine zB fun b=>?_|refine zC fun a' c' hc1 hc2=>?_|(apply GJ.a;exact rfl;intro hg)|(apply GJ.o;exact rfl;intro hg)
       refine zAi (t:=[125]) (hT2) g5 Take.auto Take.auto Take.auto (fun g1=>?_)
       generalize zAe (zAa l) [125] s7=z1 at *
       repeat first|exact zE|refine zP ?_|refine zB fun b=>?_|refine zC fun a' c' hc1 hc2=>?_|(apply GJ.a;exact rfl;intro hg)|(apply GJ.o;exact rfl;intro hg)
       refine CallOk.freeze (c:=.sl ca _ _ _ _ _) Take.auto (fun ro9 hl9 hc9=>?_)
       refine zAk (d:={ zAb with kind:=9,reg:=xn,mod:=0,cases:=cs,els:=-1 }) (x:={ zAr with ca:=ca,cc:=cc }) ((hT2).up hl9) (g1.up hl9) ⟨Rs.nil _ 1,Rs.nil _ 1,Rs.nil _ 5,Rs.last hc9⟩ ⟨by simp [zAb],by simp [zAb],by simp [zAb],by dsimp only;omega⟩ Take.auto Take.auto Take.auto (fun ro4 a4 hl4 h4=>?_)
       have hk2:=hk ro4 a4 (((hl2).trans hl9).trans hl4) h4
       repeat first|exact zE|refine zP ?_|refine zB fun b=>?_|refine zC fun a' c' hc1 hc2=>?_|(apply GJ.a;exact rfl;intro hg)|(apply GJ.o;exact rfl;intro hg)
       exact Wk.outS Sup.z (.refl _) hk2
     | true =>
       simp only [↓reduceIte] at hk
       repeat first|exact zE|refine zP ?_|refine zB fun b=>?_|refine zC fun a' c' hc1 hc2=>?_|(apply GJ.a;exact rfl;intro hg)|(apply GJ.o;exact rfl;intro hg)
       refine zAi (t:=[58]) hT2 g5 Take.auto Take.auto Take.auto (fun g6=>?_)
       generalize zAe (zAa l) [58] s7=s8 at *
       repeat first|exact zE|refine zP ?_|refine zB fun b=>?_|refine zC fun a' c' hc1 hc2=>?_|(apply GJ.a;exact rfl;intro hg)|(apply GJ.o;exact rfl;intro hg)
       refine hF.run hM2 hT2 g6 Take.auto Take.auto Take.auto (fun ro5 a5 hl5 g7=>?_)
       generalize F s8=kx at *
       obtain ⟨kn,s9⟩:=kx
       dsimp only at g7 hk ⊢
       repeat first|exact zE|refine zP ?_|refine zB fun b=>?_|refine zC fun a' c' hc1 hc2=>?_|(apply GJ.a;exact rfl;intro hg)|(apply GJ.o;exact rfl;intro hg)
       refine zAi (t:=[59]) (hT2.up hl5) g7 Take.auto Take.auto Take.auto (fun g8=>?_)
       generalize zAe (zAa l) [59] s9=sA at *
       repeat first|exact zE|refine zP ?_|refine zB fun b=>?_|refine zC fun a' c' hc1 hc2=>?_|(apply GJ.a;exact rfl;intro hg)|(apply GJ.o;exact rfl;intro hg)
       refine zAi (t:=[125]) (hT2.up hl5) g8 Take.auto Take.auto Take.auto (fun g1=>?_)
       generalize zAe (zAa l) [125] sA=z1 at *
       repeat first|exact zE|refine zP ?_|refine zB fun b=>?_|refine zC fun a' c' hc1 hc2=>?_|(apply GJ.a;exact rfl;intro hg)|(apply GJ.o;exact rfl;intro hg)
       refine CallOk.freeze (c:=.sl ca _ _ _ _ _) Take.auto (fun ro9 hl9 hc9=>?_)
       refine zAk (d:={ zAb with kind:=9,reg:=xn,mod:=0,cases:=cs,els:=(kn:Int) }) (x:={ zAr with ca:=ca,cc:=cc }) ((hT2.up hl5).up hl9) (g1.up hl9) ⟨Rs.nil _ 1,Rs.nil _ 1,Rs.nil _ 5,Rs.last hc9⟩ ⟨by simp [zAb],by simp [zAb],by simp [zAb],by dsimp only;omega⟩ Take.auto Take.auto Take.auto (fun ro4 a4 hl4 h4=>?_)
       have hk2:=hk ro4 a4 (((hl2.trans hl5).trans hl9).trans hl4) h4
       repeat first|exact zE|refine zP ?_|refine zB fun b=>?_|refine zC fun a' c' hc1 hc2=>?_|(apply GJ.a;exact rfl;intro hg)|(apply GJ.o;exact rfl;intro hg)
       exact Wk.outS Sup.z (.refl _) hk2
    ·rw [if_neg h0] at hk
     repeat first|exact zE|refine zP ?_|refine zB fun b=>?_|refine zC fun a' c' hc1 hc2=>?_|(apply GJ.a;exact rfl;intro hg)|(apply GJ.o;exact rfl;intro hg)
     refine zAK (t:=[101,108,115,101]) hT2 i1 Take.auto Take.auto Take.auto (fun g5=>?_)
     generalize kwP (zAa l) [101,108,115,101] s=e at *
     obtain ⟨eb,s7⟩:=e
     dsimp only at g5 hk ⊢
     cases eb with
     | false =>
       simp only [Bool.false_eq_true,↓reduceIte] at hk
       repeat first|exact zE|refine zP ?_|refine zB fun b=>?_|refine zC fun a' c' hc1 hc2=>?_|(apply GJ.a;exact rfl;intro hg)|(apply GJ.o;exact rfl;intro hg)
       refine zAi (t:=[125]) (hT2) g5 Take.auto Take.auto Take.auto (fun g1=>?_)
       generalize zAe (zAa l) [125] s7=z1 at *
       repeat first|exact zE|refine zP ?_|refine zB fun b=>?_|refine zC fun a' c' hc1 hc2=>?_|(apply GJ.a;exact rfl;intro hg)|(apply GJ.o;exact rfl;intro hg)
       refine CallOk.freeze (c:=.sl ca _ _ _ _ _) Take.auto (fun ro9 hl9 hc9=>?_)
       refine zAk (d:={ zAb with kind:=9,reg:=xn,mod:=0,cases:=cs,els:=-1 }) (x:={ zAr with ca:=ca,cc:=cc }) ((hT2).up hl9) (g1.up hl9) ⟨Rs.nil _ 1,Rs.nil _ 1,Rs.nil _ 5,Rs.last hc9⟩ ⟨by simp [zAb],by simp [zAb],by simp [zAb],by dsimp only;omega⟩ Take.auto Take.auto Take.auto (fun ro4 a4 hl4 h4=>?_)
       have hk2:=hk ro4 a4 (((hl2).trans hl9).trans hl4) h4
       repeat first|exact zE|refine zP ?_|refine zB fun b=>?_|refine zC fun a' c' hc1 hc2=>?_|(apply GJ.a;exact rfl;intro hg)|(apply GJ.o;exact rfl;intro hg)
       exact Wk.outS Sup.z (.refl _) hk2
     | true =>
       simp only [↓reduceIte] at hk
       repeat first|exact zE|refine zP ?_|refine zB fun b=>?_|refine zC fun a' c' hc1 hc2=>?_|(apply GJ.a;exact rfl;intro hg)|(apply GJ.o;exact rfl;intro hg)
       refine zAi (t:=[58]) hT2 g5 Take.auto Take.auto Take.auto (fun g6=>?_)
       generalize zAe (zAa l) [58] s7=s8 at *
       repeat first|exact zE|refine zP ?_|refine zB fun b=>?_|refine zC fun a' c' hc1 hc2=>?_|(apply GJ.a;exact rfl;intro hg)|(apply GJ.o;exact rfl;intro hg)
       refine hF.run hM2 hT2 g6 Take.auto Take.auto Take.auto (fun ro5 a5 hl5 g7=>?_)
       generalize F s8=kx at *
       obtain ⟨kn,s9⟩:=kx
       dsimp only at g7 hk ⊢
       repeat first|exact zE|refine zP ?_|refine zB fun b=>?_|refine zC fun a' c' hc1 hc2=>?_|(apply GJ.a;exact rfl;intro hg)|(apply GJ.o;exact rfl;intro hg)
       refine zAi (t:=[59]) (hT2.up hl5) g7 Take.auto Take.auto Take.auto (fun g8=>?_)
       generalize zAe (zAa l) [59] s9=sA at *
       repeat first|exact zE|refine zP ?_|refine zB fun b=>?_|refine zC fun a' c' hc1 hc2=>?_|(apply GJ.a;exact rfl;intro hg)|(apply GJ.o;exact rfl;intro hg)
       refine zAi (t:=[125]) (hT2.up hl5) g8 Take.auto Take.auto Take.auto (fun g1=>?_)
       generalize zAe (zAa l) [125] sA=z1 at *
       repeat first|exact zE|refine zP ?_|refine zB fun b=>?_|refine zC fun a' c' hc1 hc2=>?_|(apply GJ.a;exact rfl;intro hg)|(apply GJ.o;exact rfl;intro hg)
       refine CallOk.freeze (c:=.sl ca _ _ _ _ _) Take.auto (fun ro9 hl9 hc9=>?_)
       refine zAk (d:={ zAb with kind:=9,reg:=xn,mod:=0,cases:=cs,els:=(kn:Int) }) (x:={ zAr with ca:=ca,cc:=cc }) ((hT2.up hl5).up hl9) (g1.up hl9) ⟨Rs.nil _ 1,Rs.nil _ 1,Rs.nil _ 5,Rs.last hc9⟩ ⟨by simp [zAb],by simp [zAb],by simp [zAb],by dsimp only;omega⟩ Take.auto Take.auto Take.auto (fun ro4 a4 hl4 h4=>?_)
       have hk2:=hk ro4 a4 (((hl2.trans hl5).trans hl9).trans hl4) h4
       repeat first|exact zE|refine zP ?_|refine zB fun b=>?_|refine zC fun a' c' hc1 hc2=>?_|(apply GJ.a;exact rfl;intro hg)|(apply GJ.o;exact rfl;intro hg)
       exact Wk.outS Sup.z (.refl _) hk2
   done
 | true =>
   simp only [↓reduceIte,true_and] at hk
   repeat first|exact zE|refine zP ?_|refine zB fun b=>?_|refine zC fun a' c' hc1 hc2=>?_|(apply GJ.a;exact rfl;intro hg)|(apply GJ.o;exact rfl;intro hg)
   refine num3 hT h2 Take.auto Take.auto Take.auto (fun h3=>?_)
   have hpos:(numP numD (zAa l) s2).2.code=0→1≤(numP numD (zAa l) s2).2.at':=zH7
   generalize numP numD (zAa l) s2=v at *
   obtain ⟨vm,s3⟩:=v
   dsimp only at h3 hk hpos ⊢
   generalize hS:(if s3.code=0∧vm=0 then zAg 1 (zCv s3) else s3)=S at hk
   repeat first|exact zE|refine zP ?_|refine zB fun b=>?_|refine zC fun a' c' hc1 hc2=>?_|(apply GJ.a;exact rfl;intro hg)|(apply GJ.o;exact rfl;intro hg)
   refine zAX h3 Take.auto ?_
   by_cases hc3:s3.code=0
   ·rw [decide_eq_true hc3]
    by_cases hb:vm=0
    ·rw [if_pos ⟨hc3,hb⟩] at hS
     subst hS
     have hpos:=hpos hc3
     have hat:=h3.at'
     have hl2':=hT.le
     unfold rdC zBy
     repeat first|exact zE|refine zP ?_|refine zB fun b=>?_|refine zC fun a' c' hc1 hc2=>?_|(apply GJ.a;exact rfl;intro hg)|(apply GJ.o;exact rfl;intro hg)
     rw [←backC hpos]
     refine zAF (e:=1) (s:=zCv s3) (by decide) (by decide) hT h3.back Take.auto Take.auto Take.auto (fun h5=>?_)
     generalize zAg 1 (zCv s3)=s4 at *
     repeat first|exact zE|refine zP ?_|refine zB fun b=>?_|refine zC fun a' c' hc1 hc2=>?_|(apply GJ.a;exact rfl;intro hg)|(apply GJ.o;exact rfl;intro hg)
     refine zAi (t:=[123]) hT h5 Take.auto Take.auto Take.auto (fun h4=>?_)
     generalize zAe (zAa l) [123] s4=sM at *
     obtain ⟨R,hR⟩:∃ R,R=zBm numD (zAa l) F 70 [] sM:=⟨_,rfl⟩
     rw [←hR] at hk
     repeat first|exact zE|refine zP ?_|refine zB fun b=>?_|refine zC fun a' c' hc1 hc2=>?_|(apply GJ.a;exact rfl;intro hg)|(apply GJ.o;exact rfl;intro hg)
     refine LoopOk.auto (ι:=List zB2 × PS × zAp × Option Addr × Nat) Keep.z (fun (cs,s,a,ca,cc)=>[]) (fun (cs,s,a,ca,cc)=>rdC r la lc l s a::ndC s a::dfC s a::.sl ca cs.length cc 97 2 (zAu cs)::.blk bN 40 (zAl { zAb with kind:=9,reg:=xn,mod:=vm,cases:=cs,els:=-1 } { zAr with ca:=ca,cc:=cc })::q) (fun (cs,s,a,ca,cc) ro2=>RdOk ro2 l s a∧zBm numD (zAa l) F (70-cs.length) cs s=R∧(cs.length≤64∨(cs.length=65∧s.code≠0))∧cs.length≤cc∧cc≤maxLen) (fun (cs,s,a,ca,cc)=>70-cs.length) ([],sM,a,none,0) ?_ Sub.z Sup.z ?_
     ·exact ⟨h4,hR.symm,.inl (Nat.zero_le _),Nat.le_refl _,Nat.zero_le _⟩
     clear h4 hR h h1 h2
     rintro ⟨cs,s,a,ca,cc⟩ ro2 hl2 ⟨i1,i2,i3,i4,i5⟩
     dsimp only [List.cons_append,List.nil_append] at i1 i2 i3 i4 i5 ⊢
     dsimp only [zAl,zAb,zAr]
     have hM2:=hM.le hl2
     have hT2:=hT.up hl2
     have hfl:=zBQ cs
     rw [show 70-cs.length=(69-cs.length)+1 by omega,zBm] at i2
     repeat first|exact zE|refine zP ?_|refine zB fun b=>?_|refine zC fun a' c' hc1 hc2=>?_|(apply GJ.a;exact rfl;intro hg)|(apply GJ.o;exact rfl;intro hg)
     refine zAX i1 Take.auto ?_
     by_cases hc:s.code=0
     ·rw [decide_eq_true hc]
      repeat first|exact zE|refine zP ?_|refine zB fun b=>?_|refine zC fun a' c' hc1 hc2=>?_|(apply GJ.a;exact rfl;intro hg)|(apply GJ.o;exact rfl;intro hg)
      refine zAN hT2 i1 Take.auto ?_
      repeat first|exact zE|refine zP ?_|refine zB fun b=>?_|refine zC fun a' c' hc1 hc2=>?_|(apply GJ.a;exact rfl;intro hg)|(apply GJ.o;exact rfl;intro hg)
      by_cases hk2:(zAy (zAa l) s).kind=2
      ·rw [if_neg (by rintro (h|h);exact h hc;exact h hk2)] at i2
       rw [hk2]
       repeat first|exact zE|refine zP ?_|refine zB fun b=>?_|refine zC fun a' c' hc1 hc2=>?_|(apply GJ.a;exact rfl;intro hg)|(apply GJ.o;exact rfl;intro hg)
       by_cases h64:cs.length=64
       ·rw [if_pos h64] at i2
        repeat first|exact zE|refine zP ?_|refine zB fun b=>?_|refine zC fun a' c' hc1 hc2=>?_|(apply GJ.a;exact rfl;intro hg)|(apply GJ.o;exact rfl;intro hg)
        refine zAF (e:=2) (by decide) (by decide) hT2 i1 Take.auto Take.auto Take.auto (fun h4=>?_)
        have hcode:(zAg 2 s).code≠0:=by
         unfold zAg
         rw [if_pos hc]
         exact (by decide:(2:Nat)≠0)
        generalize zAg 2 s=s4 at *
        repeat first|exact zE|refine zP ?_|refine zB fun b=>?_|refine zC fun a' c' hc1 hc2=>?_|(apply GJ.a;exact rfl;intro hg)|(apply GJ.o;exact rfl;intro hg)
        have hstf:(s4).code≠0→(zAe (zAa l) [59] (F (zAe (zAa l) [58] (numP numD (zAa l) s4).2)).2).code≠0:=fun hh=>by
         haveI:=zA2 l
         exact (InP.must (E:=zAa l) (I:=fun s=>s.code≠0) ⟨hst _ (InP.must (E:=zAa l) (I:=fun s=>s.code≠0) (InP.num (wideP:=numD) ⟨hh⟩) [58]).get⟩ [59]).get
        dsimp only at i2
        refine num3 hT2 h4 Take.auto Take.auto Take.auto (fun h5=>?_)
        generalize numP numD (zAa l) s4=v at *
        obtain ⟨vn,s5⟩:=v
        dsimp only at h5 i2 hstf ⊢
        repeat first|exact zE|refine zP ?_|refine zB fun b=>?_|refine zC fun a' c' hc1 hc2=>?_|(apply GJ.a;exact rfl;intro hg)|(apply GJ.o;exact rfl;intro hg)
        obtain ⟨bC,hbC⟩:∃ z:Nat,z=b:=⟨_,rfl⟩
        subst hbC
        refine zAi (t:=[58]) hT2 h5 Take.auto Take.auto Take.auto (fun h6=>?_)
        generalize zAe (zAa l) [58] s5=s6 at *
        repeat first|exact zE|refine zP ?_|refine zB fun b=>?_|refine zC fun a' c' hc1 hc2=>?_|(apply GJ.a;exact rfl;intro hg)|(apply GJ.o;exact rfl;intro hg)
        refine hF.run hM2 hT2 h6 Take.auto Take.auto Take.auto (fun ro3 a3 hl3 h7=>?_)
        generalize F s6=kx at *
        obtain ⟨kn,s7⟩:=kx
        dsimp only at h7 i2 hstf ⊢
        repeat first|exact zE|refine zP ?_|refine zB fun b=>?_|refine zC fun a' c' hc1 hc2=>?_|(apply GJ.a;exact rfl;intro hg)|(apply GJ.o;exact rfl;intro hg)
        refine zAi (t:=[59]) (hT2.up hl3) h7 Take.auto Take.auto Take.auto (fun h8=>?_)
        generalize zAe (zAa l) [59] s7=s8 at *
        repeat first|exact zE|refine zP ?_|refine zB fun b=>?_|refine zC fun a' c' hc1 hc2=>?_|(apply GJ.a;exact rfl;intro hg)|(apply GJ.o;exact rfl;intro hg)
        have e2:zAu cs++flat [Value.agg #[.int .u64 (vn:Int),.int .i64 (kn:Int)]]=zAu (cs++[⟨vn,kn⟩]):=by simp [zAu,flat,zCA,Value.cells]
        have e1:cs.length+1=(cs++[(⟨vn,kn⟩:zB2)]).length:=by simp
        rw [e2]
        rw [e1] at hc1 ⊢
        repeat first|exact zE|refine zP ?_|refine zB fun b=>?_|refine zC fun a' c' hc1 hc2=>?_|(apply GJ.a;exact rfl;intro hg)|(apply GJ.o;exact rfl;intro hg)
        refine Wk.id ⟨(cs++[⟨vn,kn⟩],s8,a3,a',c'),?_,?_,Sub.z,Sup.z⟩
        all_goals try dsimp only
        ·refine ⟨h8,by rw [←e1,show 70-(cs.length+1)=69-cs.length by omega];exact i2,?_,hc1,hc2⟩
         rw [←e1]
         exact .inr ⟨by omega,hstf hcode⟩
        ·rw [←e1];omega
       ·rw [if_neg h64] at i2
        have hle:cs.length≤63:=by
         rcases i3 with h|⟨h,hh⟩
         ·omega
         ·exact absurd hc hh
        repeat first|exact zE|refine zP ?_|refine zB fun b=>?_|refine zC fun a' c' hc1 hc2=>?_|(apply GJ.a;exact rfl;intro hg)|(apply GJ.o;exact rfl;intro hg)
        repeat first|exact zE|refine zP ?_|refine zB fun b=>?_|refine zC fun a' c' hc1 hc2=>?_|(apply GJ.a;exact rfl;intro hg)|(apply GJ.o;exact rfl;intro hg)
        have hstf:(s).code≠0→(zAe (zAa l) [59] (F (zAe (zAa l) [58] (numP numD (zAa l) s).2)).2).code≠0:=fun hh=>by
         haveI:=zA2 l
         exact (InP.must (E:=zAa l) (I:=fun s=>s.code≠0) ⟨hst _ (InP.must (E:=zAa l) (I:=fun s=>s.code≠0) (InP.num (wideP:=numD) ⟨hh⟩) [58]).get⟩ [59]).get
        dsimp only at i2
        refine num3 hT2 i1 Take.auto Take.auto Take.auto (fun h5=>?_)
        generalize numP numD (zAa l) s=v at *
        obtain ⟨vn,s5⟩:=v
        dsimp only at h5 i2 hstf ⊢
        repeat first|exact zE|refine zP ?_|refine zB fun b=>?_|refine zC fun a' c' hc1 hc2=>?_|(apply GJ.a;exact rfl;intro hg)|(apply GJ.o;exact rfl;intro hg)
        obtain ⟨bC,hbC⟩:∃ z:Nat,z=b:=⟨_,rfl⟩
        subst hbC
        refine zAi (t:=[58]) hT2 h5 Take.auto Take.auto Take.auto (fun h6=>?_)
        generalize zAe (zAa l) [58] s5=s6 at *
        repeat first|exact zE|refine zP ?_|refine zB fun b=>?_|refine zC fun a' c' hc1 hc2=>?_|(apply GJ.a;exact rfl;intro hg)|(apply GJ.o;exact rfl;intro hg)
        refine hF.run hM2 hT2 h6 Take.auto Take.auto Take.auto (fun ro3 a3 hl3 h7=>?_)
        generalize F s6=kx at *
        obtain ⟨kn,s7⟩:=kx
        dsimp only at h7 i2 hstf ⊢
        repeat first|exact zE|refine zP ?_|refine zB fun b=>?_|refine zC fun a' c' hc1 hc2=>?_|(apply GJ.a;exact rfl;intro hg)|(apply GJ.o;exact rfl;intro hg)
        refine zAi (t:=[59]) (hT2.up hl3) h7 Take.auto Take.auto Take.auto (fun h8=>?_)
        generalize zAe (zAa l) [59] s7=s8 at *
        repeat first|exact zE|refine zP ?_|refine zB fun b=>?_|refine zC fun a' c' hc1 hc2=>?_|(apply GJ.a;exact rfl;intro hg)|(apply GJ.o;exact rfl;intro hg)
        have e2:zAu cs++flat [Value.agg #[.int .u64 (vn:Int),.int .i64 (kn:Int)]]=zAu (cs++[⟨vn,kn⟩]):=by simp [zAu,flat,zCA,Value.cells]
        have e1:cs.length+1=(cs++[(⟨vn,kn⟩:zB2)]).length:=by simp
        rw [e2]
        rw [e1] at hc1 ⊢
        repeat first|exact zE|refine zP ?_|refine zB fun b=>?_|refine zC fun a' c' hc1 hc2=>?_|(apply GJ.a;exact rfl;intro hg)|(apply GJ.o;exact rfl;intro hg)
        refine Wk.id ⟨(cs++[⟨vn,kn⟩],s8,a3,a',c'),?_,?_,Sub.z,Sup.z⟩
        all_goals try dsimp only
        ·refine ⟨h8,by rw [←e1,show 70-(cs.length+1)=69-cs.length by omega];exact i2,?_,hc1,hc2⟩
         rw [←e1]
         exact .inl (by omega)
        ·rw [←e1];omega
      ·rw [if_pos (.inr hk2)] at i2
       subst i2
       dsimp only at hk
       repeat first|exact zE|refine zP ?_|refine zB fun b=>?_|refine zC fun a' c' hc1 hc2=>?_|(apply GJ.a;exact rfl;intro hg)|(apply GJ.o;exact rfl;intro hg)
       by_cases h0:cs.length=0
       ·rw [if_pos h0] at hk
        repeat first|exact zE|refine zP ?_|refine zB fun b=>?_|refine zC fun a' c' hc1 hc2=>?_|(apply GJ.a;exact rfl;intro hg)|(apply GJ.o;exact rfl;intro hg)
        refine zAF (e:=5) (by decide) (by decide) hT2 i1 Take.auto Take.auto Take.auto (fun h6=>?_)
        generalize zAg 5 s=s6 at *
        repeat first|exact zE|refine zP ?_|refine zB fun b=>?_|refine zC fun a' c' hc1 hc2=>?_|(apply GJ.a;exact rfl;intro hg)|(apply GJ.o;exact rfl;intro hg)
        refine zAK (t:=[101,108,115,101]) hT2 h6 Take.auto Take.auto Take.auto (fun g5=>?_)
        generalize kwP (zAa l) [101,108,115,101] s6=e at *
        obtain ⟨eb,s7⟩:=e
        dsimp only at g5 hk ⊢
        cases eb with
        | false =>
          simp only [Bool.false_eq_true,↓reduceIte] at hk
          repeat first|exact zE|refine zP ?_|refine zB fun b=>?_|refine zC fun a' c' hc1 hc2=>?_|(apply GJ.a;exact rfl;intro hg)|(apply GJ.o;exact rfl;intro hg)
          refine zAi (t:=[125]) (hT2) g5 Take.auto Take.auto Take.auto (fun g1=>?_)
          generalize zAe (zAa l) [125] s7=z1 at *
          repeat first|exact zE|refine zP ?_|refine zB fun b=>?_|refine zC fun a' c' hc1 hc2=>?_|(apply GJ.a;exact rfl;intro hg)|(apply GJ.o;exact rfl;intro hg)
          refine CallOk.freeze (c:=.sl ca _ _ _ _ _) Take.auto (fun ro9 hl9 hc9=>?_)
          refine zAk (d:={ zAb with kind:=9,reg:=xn,mod:=vm,cases:=cs,els:=-1 }) (x:={ zAr with ca:=ca,cc:=cc }) ((hT2).up hl9) (g1.up hl9) ⟨Rs.nil _ 1,Rs.nil _ 1,Rs.nil _ 5,Rs.last hc9⟩ ⟨by simp [zAb],by simp [zAb],by simp [zAb],by dsimp only;omega⟩ Take.auto Take.auto Take.auto (fun ro4 a4 hl4 h4=>?_)
          have hk2:=hk ro4 a4 (((hl2).trans hl9).trans hl4) h4
          repeat first|exact zE|refine zP ?_|refine zB fun b=>?_|refine zC fun a' c' hc1 hc2=>?_|(apply GJ.a;exact rfl;intro hg)|(apply GJ.o;exact rfl;intro hg)
          exact Wk.outS Sup.z (.refl _) hk2
        | true =>
          simp only [↓reduceIte] at hk
          repeat first|exact zE|refine zP ?_|refine zB fun b=>?_|refine zC fun a' c' hc1 hc2=>?_|(apply GJ.a;exact rfl;intro hg)|(apply GJ.o;exact rfl;intro hg)
          refine zAi (t:=[58]) hT2 g5 Take.auto Take.auto Take.auto (fun g6=>?_)
          generalize zAe (zAa l) [58] s7=s8 at *
          repeat first|exact zE|refine zP ?_|refine zB fun b=>?_|refine zC fun a' c' hc1 hc2=>?_|(apply GJ.a;exact rfl;intro hg)|(apply GJ.o;exact rfl;intro hg)
          refine hF.run hM2 hT2 g6 Take.auto Take.auto Take.auto (fun ro5 a5 hl5 g7=>?_)
          generalize F s8=kx at *
          obtain ⟨kn,s9⟩:=kx
          dsimp only at g7 hk ⊢
          repeat first|exact zE|refine zP ?_|refine zB fun b=>?_|refine zC fun a' c' hc1 hc2=>?_|(apply GJ.a;exact rfl;intro hg)|(apply GJ.o;exact rfl;intro hg)
          refine zAi (t:=[59]) (hT2.up hl5) g7 Take.auto Take.auto Take.auto (fun g8=>?_)
          generalize zAe (zAa l) [59] s9=sA at *
          repeat first|exact zE|refine zP ?_|refine zB fun b=>?_|refine zC fun a' c' hc1 hc2=>?_|(apply GJ.a;exact rfl;intro hg)|(apply GJ.o;exact rfl;intro hg)
          refine zAi (t:=[125]) (hT2.up hl5) g8 Take.auto Take.auto Take.auto (fun g1=>?_)
          generalize zAe (zAa l) [125] sA=z1 at *
          repeat first|exact zE|refine zP ?_|refine zB fun b=>?_|refine zC fun a' c' hc1 hc2=>?_|(apply GJ.a;exact rfl;intro hg)|(apply GJ.o;exact rfl;intro hg)
          refine CallOk.freeze (c:=.sl ca _ _ _ _ _) Take.auto (fun ro9 hl9 hc9=>?_)
          refine zAk (d:={ zAb with kind:=9,reg:=xn,mod:=vm,cases:=cs,els:=(kn:Int) }) (x:={ zAr with ca:=ca,cc:=cc }) ((hT2.up hl5).up hl9) (g1.up hl9) ⟨Rs.nil _ 1,Rs.nil _ 1,Rs.nil _ 5,Rs.last hc9⟩ ⟨by simp [zAb],by simp [zAb],by simp [zAb],by dsimp only;omega⟩ Take.auto Take.auto Take.auto (fun ro4 a4 hl4 h4=>?_)
          have hk2:=hk ro4 a4 (((hl2.trans hl5).trans hl9).trans hl4) h4
          repeat first|exact zE|refine zP ?_|refine zB fun b=>?_|refine zC fun a' c' hc1 hc2=>?_|(apply GJ.a;exact rfl;intro hg)|(apply GJ.o;exact rfl;intro hg)
          exact Wk.outS Sup.z (.refl _) hk2
       ·rw [if_neg h0] at hk
        repeat first|exact zE|refine zP ?_|refine zB fun b=>?_|refine zC fun a' c' hc1 hc2=>?_|(apply GJ.a;exact rfl;intro hg)|(apply GJ.o;exact rfl;intro hg)
        refine zAK (t:=[101,108,115,101]) hT2 i1 Take.auto Take.auto Take.auto (fun g5=>?_)
        generalize kwP (zAa l) [101,108,115,101] s=e at *
        obtain ⟨eb,s7⟩:=e
        dsimp only at g5 hk ⊢
        cases eb with
        | false =>
          simp only [Bool.false_eq_true,↓reduceIte] at hk
          repeat first|exact zE|refine zP ?_|refine zB fun b=>?_|refine zC fun a' c' hc1 hc2=>?_|(apply GJ.a;exact rfl;intro hg)|(apply GJ.o;exact rfl;intro hg)
          refine zAi (t:=[125]) (hT2) g5 Take.auto Take.auto Take.auto (fun g1=>?_)
          generalize zAe (zAa l) [125] s7=z1 at *
          repeat first|exact zE|refine zP ?_|refine zB fun b=>?_|refine zC fun a' c' hc1 hc2=>?_|(apply GJ.a;exact rfl;intro hg)|(apply GJ.o;exact rfl;intro hg)
          refine CallOk.freeze (c:=.sl ca _ _ _ _ _) Take.auto (fun ro9 hl9 hc9=>?_)
          refine zAk (d:={ zAb with kind:=9,reg:=xn,mod:=vm,cases:=cs,els:=-1 }) (x:={ zAr with ca:=ca,cc:=cc }) ((hT2).up hl9) (g1.up hl9) ⟨Rs.nil _ 1,Rs.nil _ 1,Rs.nil _ 5,Rs.last hc9⟩ ⟨by simp [zAb],by simp [zAb],by simp [zAb],by dsimp only;omega⟩ Take.auto Take.auto Take.auto (fun ro4 a4 hl4 h4=>?_)
          have hk2:=hk ro4 a4 (((hl2).trans hl9).trans hl4) h4
          repeat first|exact zE|refine zP ?_|refine zB fun b=>?_|refine zC fun a' c' hc1 hc2=>?_|(apply GJ.a;exact rfl;intro hg)|(apply GJ.o;exact rfl;intro hg)
          exact Wk.outS Sup.z (.refl _) hk2
        | true =>
          simp only [↓reduceIte] at hk
          repeat first|exact zE|refine zP ?_|refine zB fun b=>?_|refine zC fun a' c' hc1 hc2=>?_|(apply GJ.a;exact rfl;intro hg)|(apply GJ.o;exact rfl;intro hg)
          refine zAi (t:=[58]) hT2 g5 Take.auto Take.auto Take.auto (fun g6=>?_)
          generalize zAe (zAa l) [58] s7=s8 at *
          repeat first|exact zE|refine zP ?_|refine zB fun b=>?_|refine zC fun a' c' hc1 hc2=>?_|(apply GJ.a;exact rfl;intro hg)|(apply GJ.o;exact rfl;intro hg)
          refine hF.run hM2 hT2 g6 Take.auto Take.auto Take.auto (fun ro5 a5 hl5 g7=>?_)
          generalize F s8=kx at *
          obtain ⟨kn,s9⟩:=kx
          dsimp only at g7 hk ⊢
          repeat first|exact zE|refine zP ?_|refine zB fun b=>?_|refine zC fun a' c' hc1 hc2=>?_|(apply GJ.a;exact rfl;intro hg)|(apply GJ.o;exact rfl;intro hg)
          refine zAi (t:=[59]) (hT2.up hl5) g7 Take.auto Take.auto Take.auto (fun g8=>?_)
          generalize zAe (zAa l) [59] s9=sA at *
          repeat first|exact zE|refine zP ?_|refine zB fun b=>?_|refine zC fun a' c' hc1 hc2=>?_|(apply GJ.a;exact rfl;intro hg)|(apply GJ.o;exact rfl;intro hg)
          refine zAi (t:=[125]) (hT2.up hl5) g8 Take.auto Take.auto Take.auto (fun g1=>?_)
          generalize zAe (zAa l) [125] sA=z1 at *
          repeat first|exact zE|refine zP ?_|refine zB fun b=>?_|refine zC fun a' c' hc1 hc2=>?_|(apply GJ.a;exact rfl;intro hg)|(apply GJ.o;exact rfl;intro hg)
          refine CallOk.freeze (c:=.sl ca _ _ _ _ _) Take.auto (fun ro9 hl9 hc9=>?_)
          refine zAk (d:={ zAb with kind:=9,reg:=xn,mod:=vm,cases:=cs,els:=(kn:Int) }) (x:={ zAr with ca:=ca,cc:=cc }) ((hT2.up hl5).up hl9) (g1.up hl9) ⟨Rs.nil _ 1,Rs.nil _ 1,Rs.nil _ 5,Rs.last hc9⟩ ⟨by simp [zAb],by simp [zAb],by simp [zAb],by dsimp only;omega⟩ Take.auto Take.auto Take.auto (fun ro4 a4 hl4 h4=>?_)
          have hk2:=hk ro4 a4 (((hl2.trans hl5).trans hl9).trans hl4) h4
          repeat first|exact zE|refine zP ?_|refine zB fun b=>?_|refine zC fun a' c' hc1 hc2=>?_|(apply GJ.a;exact rfl;intro hg)|(apply GJ.o;exact rfl;intro hg)
          exact Wk.outS Sup.z (.refl _) hk2
     ·rw [if_pos (.inl hc)] at i2
      subst i2
      dsimp only at hk
      rw [decide_eq_false hc]
      repeat first|exact zE|refine zP ?_|refine zB fun b=>?_|refine zC fun a' c' hc1 hc2=>?_|(apply GJ.a;exact rfl;intro hg)|(apply GJ.o;exact rfl;intro hg)
      by_cases h0:cs.length=0
      ·rw [if_pos h0] at hk
       repeat first|exact zE|refine zP ?_|refine zB fun b=>?_|refine zC fun a' c' hc1 hc2=>?_|(apply GJ.a;exact rfl;intro hg)|(apply GJ.o;exact rfl;intro hg)
       refine zAF (e:=5) (by decide) (by decide) hT2 i1 Take.auto Take.auto Take.auto (fun h6=>?_)
       generalize zAg 5 s=s6 at *
       repeat first|exact zE|refine zP ?_|refine zB fun b=>?_|refine zC fun a' c' hc1 hc2=>?_|(apply GJ.a;exact rfl;intro hg)|(apply GJ.o;exact rfl;intro hg)
       refine zAK (t:=[101,108,115,101]) hT2 h6 Take.auto Take.auto Take.auto (fun g5=>?_)
       generalize kwP (zAa l) [101,108,115,101] s6=e at *
       obtain ⟨eb,s7⟩:=e
       dsimp only at g5 hk ⊢
       cases eb with
       | false =>
         simp only [Bool.false_eq_true,↓reduceIte] at hk
         repeat first|exact zE|refine zP ?_|refine zB fun b=>?_|refine zC fun a' c' hc1 hc2=>?_|(apply GJ.a;exact rfl;intro hg)|(apply GJ.o;exact rfl;intro hg)
         refine zAi (t:=[125]) (hT2) g5 Take.auto Take.auto Take.auto (fun g1=>?_)
         generalize zAe (zAa l) [125] s7=z1 at *
         repeat first|exact zE|refine zP ?_|refine zB fun b=>?_|refine zC fun a' c' hc1 hc2=>?_|(apply GJ.a;exact rfl;intro hg)|(apply GJ.o;exact rfl;intro hg)
         refine CallOk.freeze (c:=.sl ca _ _ _ _ _) Take.auto (fun ro9 hl9 hc9=>?_)
         refine zAk (d:={ zAb with kind:=9,reg:=xn,mod:=vm,cases:=cs,els:=-1 }) (x:={ zAr with ca:=ca,cc:=cc }) ((hT2).up hl9) (g1.up hl9) ⟨Rs.nil _ 1,Rs.nil _ 1,Rs.nil _ 5,Rs.last hc9⟩ ⟨by simp [zAb],by simp [zAb],by simp [zAb],by dsimp only;omega⟩ Take.auto Take.auto Take.auto (fun ro4 a4 hl4 h4=>?_)
         have hk2:=hk ro4 a4 (((hl2).trans hl9).trans hl4) h4
         repeat first|exact zE|refine zP ?_|refine zB fun b=>?_|refine zC fun a' c' hc1 hc2=>?_|(apply GJ.a;exact rfl;intro hg)|(apply GJ.o;exact rfl;intro hg)
         exact Wk.outS Sup.z (.refl _) hk2
       | true =>
         simp only [↓reduceIte] at hk
         repeat first|exact zE|refine zP ?_|refine zB fun b=>?_|refine zC fun a' c' hc1 hc2=>?_|(apply GJ.a;exact rfl;intro hg)|(apply GJ.o;exact rfl;intro hg)
         refine zAi (t:=[58]) hT2 g5 Take.auto Take.auto Take.auto (fun g6=>?_)
         generalize zAe (zAa l) [58] s7=s8 at *
         repeat first|exact zE|refine zP ?_|refine zB fun b=>?_|refine zC fun a' c' hc1 hc2=>?_|(apply GJ.a;exact rfl;intro hg)|(apply GJ.o;exact rfl;intro hg)
         refine hF.run hM2 hT2 g6 Take.auto Take.auto Take.auto (fun ro5 a5 hl5 g7=>?_)
         generalize F s8=kx at *
         obtain ⟨kn,s9⟩:=kx
         dsimp only at g7 hk ⊢
         repeat first|exact zE|refine zP ?_|refine zB fun b=>?_|refine zC fun a' c' hc1 hc2=>?_|(apply GJ.a;exact rfl;intro hg)|(apply GJ.o;exact rfl;intro hg)
         refine zAi (t:=[59]) (hT2.up hl5) g7 Take.auto Take.auto Take.auto (fun g8=>?_)
         generalize zAe (zAa l) [59] s9=sA at *
         repeat first|exact zE|refine zP ?_|refine zB fun b=>?_|refine zC fun a' c' hc1 hc2=>?_|(apply GJ.a;exact rfl;intro hg)|(apply GJ.o;exact rfl;intro hg)
         refine zAi (t:=[125]) (hT2.up hl5) g8 Take.auto Take.auto Take.auto (fun g1=>?_)
         generalize zAe (zAa l) [125] sA=z1 at *
         repeat first|exact zE|refine zP ?_|refine zB fun b=>?_|refine zC fun a' c' hc1 hc2=>?_|(apply GJ.a;exact rfl;intro hg)|(apply GJ.o;exact rfl;intro hg)
         refine CallOk.freeze (c:=.sl ca _ _ _ _ _) Take.auto (fun ro9 hl9 hc9=>?_)
         refine zAk (d:={ zAb with kind:=9,reg:=xn,mod:=vm,cases:=cs,els:=(kn:Int) }) (x:={ zAr with ca:=ca,cc:=cc }) ((hT2.up hl5).up hl9) (g1.up hl9) ⟨Rs.nil _ 1,Rs.nil _ 1,Rs.nil _ 5,Rs.last hc9⟩ ⟨by simp [zAb],by simp [zAb],by simp [zAb],by dsimp only;omega⟩ Take.auto Take.auto Take.auto (fun ro4 a4 hl4 h4=>?_)
         have hk2:=hk ro4 a4 (((hl2.trans hl5).trans hl9).trans hl4) h4
         repeat first|exact zE|refine zP ?_|refine zB fun b=>?_|refine zC fun a' c' hc1 hc2=>?_|(apply GJ.a;exact rfl;intro hg)|(apply GJ.o;exact rfl;intro hg)
         exact Wk.outS Sup.z (.refl _) hk2
      ·rw [if_neg h0] at hk
       repeat first|exact zE|refine zP ?_|refine zB fun b=>?_|refine zC fun a' c' hc1 hc2=>?_|(apply GJ.a;exact rfl;intro hg)|(apply GJ.o;exact rfl;intro hg)
       refine zAK (t:=[101,108,115,101]) hT2 i1 Take.auto Take.auto Take.auto (fun g5=>?_)
       generalize kwP (zAa l) [101,108,115,101] s=e at *
       obtain ⟨eb,s7⟩:=e
       dsimp only at g5 hk ⊢
       cases eb with
       | false =>
         simp only [Bool.false_eq_true,↓reduceIte] at hk
         repeat first|exact zE|refine zP ?_|refine zB fun b=>?_|refine zC fun a' c' hc1 hc2=>?_|(apply GJ.a;exact rfl;intro hg)|(apply GJ.o;exact rfl;intro hg)
         refine zAi (t:=[125]) (hT2) g5 Take.auto Take.auto Take.auto (fun g1=>?_)
         generalize zAe (zAa l) [125] s7=z1 at *
         repeat first|exact zE|refine zP ?_|refine zB fun b=>?_|refine zC fun a' c' hc1 hc2=>?_|(apply GJ.a;exact rfl;intro hg)|(apply GJ.o;exact rfl;intro hg)
         refine CallOk.freeze (c:=.sl ca _ _ _ _ _) Take.auto (fun ro9 hl9 hc9=>?_)
         refine zAk (d:={ zAb with kind:=9,reg:=xn,mod:=vm,cases:=cs,els:=-1 }) (x:={ zAr with ca:=ca,cc:=cc }) ((hT2).up hl9) (g1.up hl9) ⟨Rs.nil _ 1,Rs.nil _ 1,Rs.nil _ 5,Rs.last hc9⟩ ⟨by simp [zAb],by simp [zAb],by simp [zAb],by dsimp only;omega⟩ Take.auto Take.auto Take.auto (fun ro4 a4 hl4 h4=>?_)
         have hk2:=hk ro4 a4 (((hl2).trans hl9).trans hl4) h4
         repeat first|exact zE|refine zP ?_|refine zB fun b=>?_|refine zC fun a' c' hc1 hc2=>?_|(apply GJ.a;exact rfl;intro hg)|(apply GJ.o;exact rfl;intro hg)
         exact Wk.outS Sup.z (.refl _) hk2
       | true =>
         simp only [↓reduceIte] at hk
         repeat first|exact zE|refine zP ?_|refine zB fun b=>?_|refine zC fun a' c' hc1 hc2=>?_|(apply GJ.a;exact rfl;intro hg)|(apply GJ.o;exact rfl;intro hg)
         refine zAi (t:=[58]) hT2 g5 Take.auto Take.auto Take.auto (fun g6=>?_)
         generalize zAe (zAa l) [58] s7=s8 at *
         repeat first|exact zE|refine zP ?_|refine zB fun b=>?_|refine zC fun a' c' hc1 hc2=>?_|(apply GJ.a;exact rfl;intro hg)|(apply GJ.o;exact rfl;intro hg)
         refine hF.run hM2 hT2 g6 Take.auto Take.auto Take.auto (fun ro5 a5 hl5 g7=>?_)
         generalize F s8=kx at *
         obtain ⟨kn,s9⟩:=kx
         dsimp only at g7 hk ⊢
         repeat first|exact zE|refine zP ?_|refine zB fun b=>?_|refine zC fun a' c' hc1 hc2=>?_|(apply GJ.a;exact rfl;intro hg)|(apply GJ.o;exact rfl;intro hg)
         refine zAi (t:=[59]) (hT2.up hl5) g7 Take.auto Take.auto Take.auto (fun g8=>?_)
         generalize zAe (zAa l) [59] s9=sA at *
         repeat first|exact zE|refine zP ?_|refine zB fun b=>?_|refine zC fun a' c' hc1 hc2=>?_|(apply GJ.a;exact rfl;intro hg)|(apply GJ.o;exact rfl;intro hg)
         refine zAi (t:=[125]) (hT2.up hl5) g8 Take.auto Take.auto Take.auto (fun g1=>?_)
         generalize zAe (zAa l) [125] sA=z1 at *
         repeat first|exact zE|refine zP ?_|refine zB fun b=>?_|refine zC fun a' c' hc1 hc2=>?_|(apply GJ.a;exact rfl;intro hg)|(apply GJ.o;exact rfl;intro hg)
         refine CallOk.freeze (c:=.sl ca _ _ _ _ _) Take.auto (fun ro9 hl9 hc9=>?_)
         refine zAk (d:={ zAb with kind:=9,reg:=xn,mod:=vm,cases:=cs,els:=(kn:Int) }) (x:={ zAr with ca:=ca,cc:=cc }) ((hT2.up hl5).up hl9) (g1.up hl9) ⟨Rs.nil _ 1,Rs.nil _ 1,Rs.nil _ 5,Rs.last hc9⟩ ⟨by simp [zAb],by simp [zAb],by simp [zAb],by dsimp only;omega⟩ Take.auto Take.auto Take.auto (fun ro4 a4 hl4 h4=>?_)
         have hk2:=hk ro4 a4 (((hl2.trans hl5).trans hl9).trans hl4) h4
         repeat first|exact zE|refine zP ?_|refine zB fun b=>?_|refine zC fun a' c' hc1 hc2=>?_|(apply GJ.a;exact rfl;intro hg)|(apply GJ.o;exact rfl;intro hg)
         exact Wk.outS Sup.z (.refl _) hk2
    ·rw [if_neg (fun h=>hb h.2)] at hS
     subst hS
     repeat first|exact zE|refine zP ?_|refine zB fun b=>?_|refine zC fun a' c' hc1 hc2=>?_|(apply GJ.a;exact rfl;intro hg)|(apply GJ.o;exact rfl;intro hg)
     refine zAi (t:=[123]) hT h3 Take.auto Take.auto Take.auto (fun h4=>?_)
     generalize zAe (zAa l) [123] s3=sM at *
     obtain ⟨R,hR⟩:∃ R,R=zBm numD (zAa l) F 70 [] sM:=⟨_,rfl⟩
     rw [←hR] at hk
     repeat first|exact zE|refine zP ?_|refine zB fun b=>?_|refine zC fun a' c' hc1 hc2=>?_|(apply GJ.a;exact rfl;intro hg)|(apply GJ.o;exact rfl;intro hg)
     refine LoopOk.auto (ι:=List zB2 × PS × zAp × Option Addr × Nat) Keep.z (fun (cs,s,a,ca,cc)=>[]) (fun (cs,s,a,ca,cc)=>rdC r la lc l s a::ndC s a::dfC s a::.sl ca cs.length cc 97 2 (zAu cs)::.blk bN 40 (zAl { zAb with kind:=9,reg:=xn,mod:=vm,cases:=cs,els:=-1 } { zAr with ca:=ca,cc:=cc })::q) (fun (cs,s,a,ca,cc) ro2=>RdOk ro2 l s a∧zBm numD (zAa l) F (70-cs.length) cs s=R∧(cs.length≤64∨(cs.length=65∧s.code≠0))∧cs.length≤cc∧cc≤maxLen) (fun (cs,s,a,ca,cc)=>70-cs.length) ([],sM,a,none,0) ?_ Sub.z Sup.z ?_
     ·exact ⟨h4,hR.symm,.inl (Nat.zero_le _),Nat.le_refl _,Nat.zero_le _⟩
     clear h4 hR h h1 h2
     rintro ⟨cs,s,a,ca,cc⟩ ro2 hl2 ⟨i1,i2,i3,i4,i5⟩
     dsimp only [List.cons_append,List.nil_append] at i1 i2 i3 i4 i5 ⊢
     dsimp only [zAl,zAb,zAr]
     have hM2:=hM.le hl2
     have hT2:=hT.up hl2
     have hfl:=zBQ cs
     rw [show 70-cs.length=(69-cs.length)+1 by omega,zBm] at i2
     repeat first|exact zE|refine zP ?_|refine zB fun b=>?_|refine zC fun a' c' hc1 hc2=>?_|(apply GJ.a;exact rfl;intro hg)|(apply GJ.o;exact rfl;intro hg)
     refine zAX i1 Take.auto ?_
     by_cases hc:s.code=0
     ·rw [decide_eq_true hc]
      repeat first|exact zE|refine zP ?_|refine zB fun b=>?_|refine zC fun a' c' hc1 hc2=>?_|(apply GJ.a;exact rfl;intro hg)|(apply GJ.o;exact rfl;intro hg)
      refine zAN hT2 i1 Take.auto ?_
      repeat first|exact zE|refine zP ?_|refine zB fun b=>?_|refine zC fun a' c' hc1 hc2=>?_|(apply GJ.a;exact rfl;intro hg)|(apply GJ.o;exact rfl;intro hg)
      by_cases hk2:(zAy (zAa l) s).kind=2
      ·rw [if_neg (by rintro (h|h);exact h hc;exact h hk2)] at i2
       rw [hk2]
       repeat first|exact zE|refine zP ?_|refine zB fun b=>?_|refine zC fun a' c' hc1 hc2=>?_|(apply GJ.a;exact rfl;intro hg)|(apply GJ.o;exact rfl;intro hg)
       by_cases h64:cs.length=64
       ·rw [if_pos h64] at i2
        repeat first|exact zE|refine zP ?_|refine zB fun b=>?_|refine zC fun a' c' hc1 hc2=>?_|(apply GJ.a;exact rfl;intro hg)|(apply GJ.o;exact rfl;intro hg)
        refine zAF (e:=2) (by decide) (by decide) hT2 i1 Take.auto Take.auto Take.auto (fun h4=>?_)
        have hcode:(zAg 2 s).code≠0:=by
         unfold zAg
         rw [if_pos hc]
         exact (by decide:(2:Nat)≠0)
        generalize zAg 2 s=s4 at *
        repeat first|exact zE|refine zP ?_|refine zB fun b=>?_|refine zC fun a' c' hc1 hc2=>?_|(apply GJ.a;exact rfl;intro hg)|(apply GJ.o;exact rfl;intro hg)
        have hstf:(s4).code≠0→(zAe (zAa l) [59] (F (zAe (zAa l) [58] (numP numD (zAa l) s4).2)).2).code≠0:=fun hh=>by
         haveI:=zA2 l
         exact (InP.must (E:=zAa l) (I:=fun s=>s.code≠0) ⟨hst _ (InP.must (E:=zAa l) (I:=fun s=>s.code≠0) (InP.num (wideP:=numD) ⟨hh⟩) [58]).get⟩ [59]).get
        dsimp only at i2
        refine num3 hT2 h4 Take.auto Take.auto Take.auto (fun h5=>?_)
        generalize numP numD (zAa l) s4=v at *
        obtain ⟨vn,s5⟩:=v
        dsimp only at h5 i2 hstf ⊢
        repeat first|exact zE|refine zP ?_|refine zB fun b=>?_|refine zC fun a' c' hc1 hc2=>?_|(apply GJ.a;exact rfl;intro hg)|(apply GJ.o;exact rfl;intro hg)
        obtain ⟨bC,hbC⟩:∃ z:Nat,z=b:=⟨_,rfl⟩
        subst hbC
        refine zAi (t:=[58]) hT2 h5 Take.auto Take.auto Take.auto (fun h6=>?_)
        generalize zAe (zAa l) [58] s5=s6 at *
        repeat first|exact zE|refine zP ?_|refine zB fun b=>?_|refine zC fun a' c' hc1 hc2=>?_|(apply GJ.a;exact rfl;intro hg)|(apply GJ.o;exact rfl;intro hg)
        refine hF.run hM2 hT2 h6 Take.auto Take.auto Take.auto (fun ro3 a3 hl3 h7=>?_)
        generalize F s6=kx at *
        obtain ⟨kn,s7⟩:=kx
        dsimp only at h7 i2 hstf ⊢
        repeat first|exact zE|refine zP ?_|refine zB fun b=>?_|refine zC fun a' c' hc1 hc2=>?_|(apply GJ.a;exact rfl;intro hg)|(apply GJ.o;exact rfl;intro hg)
        refine zAi (t:=[59]) (hT2.up hl3) h7 Take.auto Take.auto Take.auto (fun h8=>?_)
        generalize zAe (zAa l) [59] s7=s8 at *
        repeat first|exact zE|refine zP ?_|refine zB fun b=>?_|refine zC fun a' c' hc1 hc2=>?_|(apply GJ.a;exact rfl;intro hg)|(apply GJ.o;exact rfl;intro hg)
        have e2:zAu cs++flat [Value.agg #[.int .u64 (vn:Int),.int .i64 (kn:Int)]]=zAu (cs++[⟨vn,kn⟩]):=by simp [zAu,flat,zCA,Value.cells]
        have e1:cs.length+1=(cs++[(⟨vn,kn⟩:zB2)]).length:=by simp
        rw [e2]
        rw [e1] at hc1 ⊢
        repeat first|exact zE|refine zP ?_|refine zB fun b=>?_|refine zC fun a' c' hc1 hc2=>?_|(apply GJ.a;exact rfl;intro hg)|(apply GJ.o;exact rfl;intro hg)
        refine Wk.id ⟨(cs++[⟨vn,kn⟩],s8,a3,a',c'),?_,?_,Sub.z,Sup.z⟩
        all_goals try dsimp only
        ·refine ⟨h8,by rw [←e1,show 70-(cs.length+1)=69-cs.length by omega];exact i2,?_,hc1,hc2⟩
         rw [←e1]
         exact .inr ⟨by omega,hstf hcode⟩
        ·rw [←e1];omega
       ·rw [if_neg h64] at i2
        have hle:cs.length≤63:=by
         rcases i3 with h|⟨h,hh⟩
         ·omega
         ·exact absurd hc hh
        repeat first|exact zE|refine zP ?_|refine zB fun b=>?_|refine zC fun a' c' hc1 hc2=>?_|(apply GJ.a;exact rfl;intro hg)|(apply GJ.o;exact rfl;intro hg)
        repeat first|exact zE|refine zP ?_|refine zB fun b=>?_|refine zC fun a' c' hc1 hc2=>?_|(apply GJ.a;exact rfl;intro hg)|(apply GJ.o;exact rfl;intro hg)
        have hstf:(s).code≠0→(zAe (zAa l) [59] (F (zAe (zAa l) [58] (numP numD (zAa l) s).2)).2).code≠0:=fun hh=>by
         haveI:=zA2 l
         exact (InP.must (E:=zAa l) (I:=fun s=>s.code≠0) ⟨hst _ (InP.must (E:=zAa l) (I:=fun s=>s.code≠0) (InP.num (wideP:=numD) ⟨hh⟩) [58]).get⟩ [59]).get
        dsimp only at i2
        refine num3 hT2 i1 Take.auto Take.auto Take.auto (fun h5=>?_)
        generalize numP numD (zAa l) s=v at *
        obtain ⟨vn,s5⟩:=v
        dsimp only at h5 i2 hstf ⊢
        repeat first|exact zE|refine zP ?_|refine zB fun b=>?_|refine zC fun a' c' hc1 hc2=>?_|(apply GJ.a;exact rfl;intro hg)|(apply GJ.o;exact rfl;intro hg)
        obtain ⟨bC,hbC⟩:∃ z:Nat,z=b:=⟨_,rfl⟩
        subst hbC
        refine zAi (t:=[58]) hT2 h5 Take.auto Take.auto Take.auto (fun h6=>?_)
        generalize zAe (zAa l) [58] s5=s6 at *
        repeat first|exact zE|refine zP ?_|refine zB fun b=>?_|refine zC fun a' c' hc1 hc2=>?_|(apply GJ.a;exact rfl;intro hg)|(apply GJ.o;exact rfl;intro hg)
        refine hF.run hM2 hT2 h6 Take.auto Take.auto Take.auto (fun ro3 a3 hl3 h7=>?_)
        generalize F s6=kx at *
        obtain ⟨kn,s7⟩:=kx
        dsimp only at h7 i2 hstf ⊢
        repeat first|exact zE|refine zP ?_|refine zB fun b=>?_|refine zC fun a' c' hc1 hc2=>?_|(apply GJ.a;exact rfl;intro hg)|(apply GJ.o;exact rfl;intro hg)
        refine zAi (t:=[59]) (hT2.up hl3) h7 Take.auto Take.auto Take.auto (fun h8=>?_)
        generalize zAe (zAa l) [59] s7=s8 at *
        repeat first|exact zE|refine zP ?_|refine zB fun b=>?_|refine zC fun a' c' hc1 hc2=>?_|(apply GJ.a;exact rfl;intro hg)|(apply GJ.o;exact rfl;intro hg)
        have e2:zAu cs++flat [Value.agg #[.int .u64 (vn:Int),.int .i64 (kn:Int)]]=zAu (cs++[⟨vn,kn⟩]):=by simp [zAu,flat,zCA,Value.cells]
        have e1:cs.length+1=(cs++[(⟨vn,kn⟩:zB2)]).length:=by simp
        rw [e2]
        rw [e1] at hc1 ⊢
        repeat first|exact zE|refine zP ?_|refine zB fun b=>?_|refine zC fun a' c' hc1 hc2=>?_|(apply GJ.a;exact rfl;intro hg)|(apply GJ.o;exact rfl;intro hg)
        refine Wk.id ⟨(cs++[⟨vn,kn⟩],s8,a3,a',c'),?_,?_,Sub.z,Sup.z⟩
        all_goals try dsimp only
        ·refine ⟨h8,by rw [←e1,show 70-(cs.length+1)=69-cs.length by omega];exact i2,?_,hc1,hc2⟩
         rw [←e1]
         exact .inl (by omega)
        ·rw [←e1];omega
      ·rw [if_pos (.inr hk2)] at i2
       subst i2
       dsimp only at hk
       repeat first|exact zE|refine zP ?_|refine zB fun b=>?_|refine zC fun a' c' hc1 hc2=>?_|(apply GJ.a;exact rfl;intro hg)|(apply GJ.o;exact rfl;intro hg)
       by_cases h0:cs.length=0
       ·rw [if_pos h0] at hk
        repeat first|exact zE|refine zP ?_|refine zB fun b=>?_|refine zC fun a' c' hc1 hc2=>?_|(apply GJ.a;exact rfl;intro hg)|(apply GJ.o;exact rfl;intro hg)
        refine zAF (e:=5) (by decide) (by decide) hT2 i1 Take.auto Take.auto Take.auto (fun h6=>?_)
        generalize zAg 5 s=s6 at *
        repeat first|exact zE|refine zP ?_|refine zB fun b=>?_|refine zC fun a' c' hc1 hc2=>?_|(apply GJ.a;exact rfl;intro hg)|(apply GJ.o;exact rfl;intro hg)
        refine zAK (t:=[101,108,115,101]) hT2 h6 Take.auto Take.auto Take.auto (fun g5=>?_)
        generalize kwP (zAa l) [101,108,115,101] s6=e at *
        obtain ⟨eb,s7⟩:=e
        dsimp only at g5 hk ⊢
        cases eb with
        | false =>
          simp only [Bool.false_eq_true,↓reduceIte] at hk
          repeat first|exact zE|refine zP ?_|refine zB fun b=>?_|refine zC fun a' c' hc1 hc2=>?_|(apply GJ.a;exact rfl;intro hg)|(apply GJ.o;exact rfl;intro hg)
          refine zAi (t:=[125]) (hT2) g5 Take.auto Take.auto Take.auto (fun g1=>?_)
          generalize zAe (zAa l) [125] s7=z1 at *
          repeat first|exact zE|refine zP ?_|refine zB fun b=>?_|refine zC fun a' c' hc1 hc2=>?_|(apply GJ.a;exact rfl;intro hg)|(apply GJ.o;exact rfl;intro hg)
          refine CallOk.freeze (c:=.sl ca _ _ _ _ _) Take.auto (fun ro9 hl9 hc9=>?_)
          refine zAk (d:={ zAb with kind:=9,reg:=xn,mod:=vm,cases:=cs,els:=-1 }) (x:={ zAr with ca:=ca,cc:=cc }) ((hT2).up hl9) (g1.up hl9) ⟨Rs.nil _ 1,Rs.nil _ 1,Rs.nil _ 5,Rs.last hc9⟩ ⟨by simp [zAb],by simp [zAb],by simp [zAb],by dsimp only;omega⟩ Take.auto Take.auto Take.auto (fun ro4 a4 hl4 h4=>?_)
          have hk2:=hk ro4 a4 (((hl2).trans hl9).trans hl4) h4
          repeat first|exact zE|refine zP ?_|refine zB fun b=>?_|refine zC fun a' c' hc1 hc2=>?_|(apply GJ.a;exact rfl;intro hg)|(apply GJ.o;exact rfl;intro hg)
          exact Wk.outS Sup.z (.refl _) hk2
        | true =>
          simp only [↓reduceIte] at hk
          repeat first|exact zE|refine zP ?_|refine zB fun b=>?_|refine zC fun a' c' hc1 hc2=>?_|(apply GJ.a;exact rfl;intro hg)|(apply GJ.o;exact rfl;intro hg)
          refine zAi (t:=[58]) hT2 g5 Take.auto Take.auto Take.auto (fun g6=>?_)
          generalize zAe (zAa l) [58] s7=s8 at *
          repeat first|exact zE|refine zP ?_|refine zB fun b=>?_|refine zC fun a' c' hc1 hc2=>?_|(apply GJ.a;exact rfl;intro hg)|(apply GJ.o;exact rfl;intro hg)
          refine hF.run hM2 hT2 g6 Take.auto Take.auto Take.auto (fun ro5 a5 hl5 g7=>?_)
          generalize F s8=kx at *
          obtain ⟨kn,s9⟩:=kx
          dsimp only at g7 hk ⊢
          repeat first|exact zE|refine zP ?_|refine zB fun b=>?_|refine zC fun a' c' hc1 hc2=>?_|(apply GJ.a;exact rfl;intro hg)|(apply GJ.o;exact rfl;intro hg)
          refine zAi (t:=[59]) (hT2.up hl5) g7 Take.auto Take.auto Take.auto (fun g8=>?_)
          generalize zAe (zAa l) [59] s9=sA at *
          repeat first|exact zE|refine zP ?_|refine zB fun b=>?_|refine zC fun a' c' hc1 hc2=>?_|(apply GJ.a;exact rfl;intro hg)|(apply GJ.o;exact rfl;intro hg)
          refine zAi (t:=[125]) (hT2.up hl5) g8 Take.auto Take.auto Take.auto (fun g1=>?_)
          generalize zAe (zAa l) [125] sA=z1 at *
          repeat first|exact zE|refine zP ?_|refine zB fun b=>?_|refine zC fun a' c' hc1 hc2=>?_|(apply GJ.a;exact rfl;intro hg)|(apply GJ.o;exact rfl;intro hg)
          refine CallOk.freeze (c:=.sl ca _ _ _ _ _) Take.auto (fun ro9 hl9 hc9=>?_)
          refine zAk (d:={ zAb with kind:=9,reg:=xn,mod:=vm,cases:=cs,els:=(kn:Int) }) (x:={ zAr with ca:=ca,cc:=cc }) ((hT2.up hl5).up hl9) (g1.up hl9) ⟨Rs.nil _ 1,Rs.nil _ 1,Rs.nil _ 5,Rs.last hc9⟩ ⟨by simp [zAb],by simp [zAb],by simp [zAb],by dsimp only;omega⟩ Take.auto Take.auto Take.auto (fun ro4 a4 hl4 h4=>?_)
          have hk2:=hk ro4 a4 (((hl2.trans hl5).trans hl9).trans hl4) h4
          repeat first|exact zE|refine zP ?_|refine zB fun b=>?_|refine zC fun a' c' hc1 hc2=>?_|(apply GJ.a;exact rfl;intro hg)|(apply GJ.o;exact rfl;intro hg)
          exact Wk.outS Sup.z (.refl _) hk2
       ·rw [if_neg h0] at hk
        repeat first|exact zE|refine zP ?_|refine zB fun b=>?_|refine zC fun a' c' hc1 hc2=>?_|(apply GJ.a;exact rfl;intro hg)|(apply GJ.o;exact rfl;intro hg)
        refine zAK (t:=[101,108,115,101]) hT2 i1 Take.auto Take.auto Take.auto (fun g5=>?_)
        generalize kwP (zAa l) [101,108,115,101] s=e at *
        obtain ⟨eb,s7⟩:=e
        dsimp only at g5 hk ⊢
        cases eb with
        | false =>
          simp only [Bool.false_eq_true,↓reduceIte] at hk
          repeat first|exact zE|refine zP ?_|refine zB fun b=>?_|refine zC fun a' c' hc1 hc2=>?_|(apply GJ.a;exact rfl;intro hg)|(apply GJ.o;exact rfl;intro hg)
          refine zAi (t:=[125]) (hT2) g5 Take.auto Take.auto Take.auto (fun g1=>?_)
          generalize zAe (zAa l) [125] s7=z1 at *
          repeat first|exact zE|refine zP ?_|refine zB fun b=>?_|refine zC fun a' c' hc1 hc2=>?_|(apply GJ.a;exact rfl;intro hg)|(apply GJ.o;exact rfl;intro hg)
          refine CallOk.freeze (c:=.sl ca _ _ _ _ _) Take.auto (fun ro9 hl9 hc9=>?_)
          refine zAk (d:={ zAb with kind:=9,reg:=xn,mod:=vm,cases:=cs,els:=-1 }) (x:={ zAr with ca:=ca,cc:=cc }) ((hT2).up hl9) (g1.up hl9) ⟨Rs.nil _ 1,Rs.nil _ 1,Rs.nil _ 5,Rs.last hc9⟩ ⟨by simp [zAb],by simp [zAb],by simp [zAb],by dsimp only;omega⟩ Take.auto Take.auto Take.auto (fun ro4 a4 hl4 h4=>?_)
          have hk2:=hk ro4 a4 (((hl2).trans hl9).trans hl4) h4
          repeat first|exact zE|refine zP ?_|refine zB fun b=>?_|refine zC fun a' c' hc1 hc2=>?_|(apply GJ.a;exact rfl;intro hg)|(apply GJ.o;exact rfl;intro hg)
          exact Wk.outS Sup.z (.refl _) hk2
        | true =>
          simp only [↓reduceIte] at hk
          repeat first|exact zE|refine zP ?_|refine zB fun b=>?_|refine zC fun a' c' hc1 hc2=>?_|(apply GJ.a;exact rfl;intro hg)|(apply GJ.o;exact rfl;intro hg)
          refine zAi (t:=[58]) hT2 g5 Take.auto Take.auto Take.auto (fun g6=>?_)
          generalize zAe (zAa l) [58] s7=s8 at *
          repeat first|exact zE|refine zP ?_|refine zB fun b=>?_|refine zC fun a' c' hc1 hc2=>?_|(apply GJ.a;exact rfl;intro hg)|(apply GJ.o;exact rfl;intro hg)
          refine hF.run hM2 hT2 g6 Take.auto Take.auto Take.auto (fun ro5 a5 hl5 g7=>?_)
          generalize F s8=kx at *
          obtain ⟨kn,s9⟩:=kx
          dsimp only at g7 hk ⊢
          repeat first|exact zE|refine zP ?_|refine zB fun b=>?_|refine zC fun a' c' hc1 hc2=>?_|(apply GJ.a;exact rfl;intro hg)|(apply GJ.o;exact rfl;intro hg)
          refine zAi (t:=[59]) (hT2.up hl5) g7 Take.auto Take.auto Take.auto (fun g8=>?_)
          generalize zAe (zAa l) [59] s9=sA at *
          repeat first|exact zE|refine zP ?_|refine zB fun b=>?_|refine zC fun a' c' hc1 hc2=>?_|(apply GJ.a;exact rfl;intro hg)|(apply GJ.o;exact rfl;intro hg)
          refine zAi (t:=[125]) (hT2.up hl5) g8 Take.auto Take.auto Take.auto (fun g1=>?_)
          generalize zAe (zAa l) [125] sA=z1 at *
          repeat first|exact zE|refine zP ?_|refine zB fun b=>?_|refine zC fun a' c' hc1 hc2=>?_|(apply GJ.a;exact rfl;intro hg)|(apply GJ.o;exact rfl;intro hg)
          refine CallOk.freeze (c:=.sl ca _ _ _ _ _) Take.auto (fun ro9 hl9 hc9=>?_)
          refine zAk (d:={ zAb with kind:=9,reg:=xn,mod:=vm,cases:=cs,els:=(kn:Int) }) (x:={ zAr with ca:=ca,cc:=cc }) ((hT2.up hl5).up hl9) (g1.up hl9) ⟨Rs.nil _ 1,Rs.nil _ 1,Rs.nil _ 5,Rs.last hc9⟩ ⟨by simp [zAb],by simp [zAb],by simp [zAb],by dsimp only;omega⟩ Take.auto Take.auto Take.auto (fun ro4 a4 hl4 h4=>?_)
          have hk2:=hk ro4 a4 (((hl2.trans hl5).trans hl9).trans hl4) h4
          repeat first|exact zE|refine zP ?_|refine zB fun b=>?_|refine zC fun a' c' hc1 hc2=>?_|(apply GJ.a;exact rfl;intro hg)|(apply GJ.o;exact rfl;intro hg)
          exact Wk.outS Sup.z (.refl _) hk2
     ·rw [if_pos (.inl hc)] at i2
      subst i2
      dsimp only at hk
      rw [decide_eq_false hc]
      repeat first|exact zE|refine zP ?_|refine zB fun b=>?_|refine zC fun a' c' hc1 hc2=>?_|(apply GJ.a;exact rfl;intro hg)|(apply GJ.o;exact rfl;intro hg)
      by_cases h0:cs.length=0
      ·rw [if_pos h0] at hk
       repeat first|exact zE|refine zP ?_|refine zB fun b=>?_|refine zC fun a' c' hc1 hc2=>?_|(apply GJ.a;exact rfl;intro hg)|(apply GJ.o;exact rfl;intro hg)
       refine zAF (e:=5) (by decide) (by decide) hT2 i1 Take.auto Take.auto Take.auto (fun h6=>?_)
       generalize zAg 5 s=s6 at *
       repeat first|exact zE|refine zP ?_|refine zB fun b=>?_|refine zC fun a' c' hc1 hc2=>?_|(apply GJ.a;exact rfl;intro hg)|(apply GJ.o;exact rfl;intro hg)
       refine zAK (t:=[101,108,115,101]) hT2 h6 Take.auto Take.auto Take.auto (fun g5=>?_)
       generalize kwP (zAa l) [101,108,115,101] s6=e at *
       obtain ⟨eb,s7⟩:=e
       dsimp only at g5 hk ⊢
       cases eb with
       | false =>
         simp only [Bool.false_eq_true,↓reduceIte] at hk
         repeat first|exact zE|refine zP ?_|refine zB fun b=>?_|refine zC fun a' c' hc1 hc2=>?_|(apply GJ.a;exact rfl;intro hg)|(apply GJ.o;exact rfl;intro hg)
         refine zAi (t:=[125]) (hT2) g5 Take.auto Take.auto Take.auto (fun g1=>?_)
         generalize zAe (zAa l) [125] s7=z1 at *
         repeat first|exact zE|refine zP ?_|refine zB fun b=>?_|refine zC fun a' c' hc1 hc2=>?_|(apply GJ.a;exact rfl;intro hg)|(apply GJ.o;exact rfl;intro hg)
         refine CallOk.freeze (c:=.sl ca _ _ _ _ _) Take.auto (fun ro9 hl9 hc9=>?_)
         refine zAk (d:={ zAb with kind:=9,reg:=xn,mod:=vm,cases:=cs,els:=-1 }) (x:={ zAr with ca:=ca,cc:=cc }) ((hT2).up hl9) (g1.up hl9) ⟨Rs.nil _ 1,Rs.nil _ 1,Rs.nil _ 5,Rs.last hc9⟩ ⟨by simp [zAb],by simp [zAb],by simp [zAb],by dsimp only;omega⟩ Take.auto Take.auto Take.auto (fun ro4 a4 hl4 h4=>?_)
         have hk2:=hk ro4 a4 (((hl2).trans hl9).trans hl4) h4
         repeat first|exact zE|refine zP ?_|refine zB fun b=>?_|refine zC fun a' c' hc1 hc2=>?_|(apply GJ.a;exact rfl;intro hg)|(apply GJ.o;exact rfl;intro hg)
         exact Wk.outS Sup.z (.refl _) hk2
       | true =>
         simp only [↓reduceIte] at hk
         repeat first|exact zE|refine zP ?_|refine zB fun b=>?_|refine zC fun a' c' hc1 hc2=>?_|(apply GJ.a;exact rfl;intro hg)|(apply GJ.o;exact rfl;intro hg)
         refine zAi (t:=[58]) hT2 g5 Take.auto Take.auto Take.auto (fun g6=>?_)
         generalize zAe (zAa l) [58] s7=s8 at *
         repeat first|exact zE|refine zP ?_|refine zB fun b=>?_|refine zC fun a' c' hc1 hc2=>?_|(apply GJ.a;exact rfl;intro hg)|(apply GJ.o;exact rfl;intro hg)
         refine hF.run hM2 hT2 g6 Take.auto Take.auto Take.auto (fun ro5 a5 hl5 g7=>?_)
         generalize F s8=kx at *
         obtain ⟨kn,s9⟩:=kx
         dsimp only at g7 hk ⊢
         repeat first|exact zE|refine zP ?_|refine zB fun b=>?_|refine zC fun a' c' hc1 hc2=>?_|(apply GJ.a;exact rfl;intro hg)|(apply GJ.o;exact rfl;intro hg)
         refine zAi (t:=[59]) (hT2.up hl5) g7 Take.auto Take.auto Take.auto (fun g8=>?_)
         generalize zAe (zAa l) [59] s9=sA at *
         repeat first|exact zE|refine zP ?_|refine zB fun b=>?_|refine zC fun a' c' hc1 hc2=>?_|(apply GJ.a;exact rfl;intro hg)|(apply GJ.o;exact rfl;intro hg)
         refine zAi (t:=[125]) (hT2.up hl5) g8 Take.auto Take.auto Take.auto (fun g1=>?_)
         generalize zAe (zAa l) [125] sA=z1 at *
         repeat first|exact zE|refine zP ?_|refine zB fun b=>?_|refine zC fun a' c' hc1 hc2=>?_|(apply GJ.a;exact rfl;intro hg)|(apply GJ.o;exact rfl;intro hg)
         refine CallOk.freeze (c:=.sl ca _ _ _ _ _) Take.auto (fun ro9 hl9 hc9=>?_)
         refine zAk (d:={ zAb with kind:=9,reg:=xn,mod:=vm,cases:=cs,els:=(kn:Int) }) (x:={ zAr with ca:=ca,cc:=cc }) ((hT2.up hl5).up hl9) (g1.up hl9) ⟨Rs.nil _ 1,Rs.nil _ 1,Rs.nil _ 5,Rs.last hc9⟩ ⟨by simp [zAb],by simp [zAb],by simp [zAb],by dsimp only;omega⟩ Take.auto Take.auto Take.auto (fun ro4 a4 hl4 h4=>?_)
         have hk2:=hk ro4 a4 (((hl2.trans hl5).trans hl9).trans hl4) h4
         repeat first|exact zE|refine zP ?_|refine zB fun b=>?_|refine zC fun a' c' hc1 hc2=>?_|(apply GJ.a;exact rfl;intro hg)|(apply GJ.o;exact rfl;intro hg)
         exact Wk.outS Sup.z (.refl _) hk2
      ·rw [if_neg h0] at hk
       repeat first|exact zE|refine zP ?_|refine zB fun b=>?_|refine zC fun a' c' hc1 hc2=>?_|(apply GJ.a;exact rfl;intro hg)|(apply GJ.o;exact rfl;intro hg)
       refine zAK (t:=[101,108,115,101]) hT2 i1 Take.auto Take.auto Take.auto (fun g5=>?_)
       generalize kwP (zAa l) [101,108,115,101] s=e at *
       obtain ⟨eb,s7⟩:=e
       dsimp only at g5 hk ⊢
       cases eb with
       | false =>
         simp only [Bool.false_eq_true,↓reduceIte] at hk
         repeat first|exact zE|refine zP ?_|refine zB fun b=>?_|refine zC fun a' c' hc1 hc2=>?_|(apply GJ.a;exact rfl;intro hg)|(apply GJ.o;exact rfl;intro hg)
         refine zAi (t:=[125]) (hT2) g5 Take.auto Take.auto Take.auto (fun g1=>?_)
         generalize zAe (zAa l) [125] s7=z1 at *
         repeat first|exact zE|refine zP ?_|refine zB fun b=>?_|refine zC fun a' c' hc1 hc2=>?_|(apply GJ.a;exact rfl;intro hg)|(apply GJ.o;exact rfl;intro hg)
         refine CallOk.freeze (c:=.sl ca _ _ _ _ _) Take.auto (fun ro9 hl9 hc9=>?_)
         refine zAk (d:={ zAb with kind:=9,reg:=xn,mod:=vm,cases:=cs,els:=-1 }) (x:={ zAr with ca:=ca,cc:=cc }) ((hT2).up hl9) (g1.up hl9) ⟨Rs.nil _ 1,Rs.nil _ 1,Rs.nil _ 5,Rs.last hc9⟩ ⟨by simp [zAb],by simp [zAb],by simp [zAb],by dsimp only;omega⟩ Take.auto Take.auto Take.auto (fun ro4 a4 hl4 h4=>?_)
         have hk2:=hk ro4 a4 (((hl2).trans hl9).trans hl4) h4
         repeat first|exact zE|refine zP ?_|refine zB fun b=>?_|refine zC fun a' c' hc1 hc2=>?_|(apply GJ.a;exact rfl;intro hg)|(apply GJ.o;exact rfl;intro hg)
         exact Wk.outS Sup.z (.refl _) hk2
       | true =>
         simp only [↓reduceIte] at hk
         repeat first|exact zE|refine zP ?_|refine zB fun b=>?_|refine zC fun a' c' hc1 hc2=>?_|(apply GJ.a;exact rfl;intro hg)|(apply GJ.o;exact rfl;intro hg)
         refine zAi (t:=[58]) hT2 g5 Take.auto Take.auto Take.auto (fun g6=>?_)
         generalize zAe (zAa l) [58] s7=s8 at *
         repeat first|exact zE|refine zP ?_|refine zB fun b=>?_|refine zC fun a' c' hc1 hc2=>?_|(apply GJ.a;exact rfl;intro hg)|(apply GJ.o;exact rfl;intro hg)
         refine hF.run hM2 hT2 g6 Take.auto Take.auto Take.auto (fun ro5 a5 hl5 g7=>?_)
         generalize F s8=kx at *
         obtain ⟨kn,s9⟩:=kx
         dsimp only at g7 hk ⊢
         repeat first|exact zE|refine zP ?_|refine zB fun b=>?_|refine zC fun a' c' hc1 hc2=>?_|(apply GJ.a;exact rfl;intro hg)|(apply GJ.o;exact rfl;intro hg)
         refine zAi (t:=[59]) (hT2.up hl5) g7 Take.auto Take.auto Take.auto (fun g8=>?_)
         generalize zAe (zAa l) [59] s9=sA at *
         repeat first|exact zE|refine zP ?_|refine zB fun b=>?_|refine zC fun a' c' hc1 hc2=>?_|(apply GJ.a;exact rfl;intro hg)|(apply GJ.o;exact rfl;intro hg)
         refine zAi (t:=[125]) (hT2.up hl5) g8 Take.auto Take.auto Take.auto (fun g1=>?_)
         generalize zAe (zAa l) [125] sA=z1 at *
         repeat first|exact zE|refine zP ?_|refine zB fun b=>?_|refine zC fun a' c' hc1 hc2=>?_|(apply GJ.a;exact rfl;intro hg)|(apply GJ.o;exact rfl;intro hg)
         refine CallOk.freeze (c:=.sl ca _ _ _ _ _) Take.auto (fun ro9 hl9 hc9=>?_)
         refine zAk (d:={ zAb with kind:=9,reg:=xn,mod:=vm,cases:=cs,els:=(kn:Int) }) (x:={ zAr with ca:=ca,cc:=cc }) ((hT2.up hl5).up hl9) (g1.up hl9) ⟨Rs.nil _ 1,Rs.nil _ 1,Rs.nil _ 5,Rs.last hc9⟩ ⟨by simp [zAb],by simp [zAb],by simp [zAb],by dsimp only;omega⟩ Take.auto Take.auto Take.auto (fun ro4 a4 hl4 h4=>?_)
         have hk2:=hk ro4 a4 (((hl2.trans hl5).trans hl9).trans hl4) h4
         repeat first|exact zE|refine zP ?_|refine zB fun b=>?_|refine zC fun a' c' hc1 hc2=>?_|(apply GJ.a;exact rfl;intro hg)|(apply GJ.o;exact rfl;intro hg)
         exact Wk.outS Sup.z (.refl _) hk2
   ·rw [if_neg (fun h=>hc3 h.1)] at hS
    subst hS
    rw [decide_eq_false hc3]
    repeat first|exact zE|refine zP ?_|refine zB fun b=>?_|refine zC fun a' c' hc1 hc2=>?_|(apply GJ.a;exact rfl;intro hg)|(apply GJ.o;exact rfl;intro hg)
    refine zAi (t:=[123]) hT h3 Take.auto Take.auto Take.auto (fun h4=>?_)
    generalize zAe (zAa l) [123] s3=sM at *
    obtain ⟨R,hR⟩:∃ R,R=zBm numD (zAa l) F 70 [] sM:=⟨_,rfl⟩
    rw [←hR] at hk
    repeat first|exact zE|refine zP ?_|refine zB fun b=>?_|refine zC fun a' c' hc1 hc2=>?_|(apply GJ.a;exact rfl;intro hg)|(apply GJ.o;exact rfl;intro hg)
    refine LoopOk.auto (ι:=List zB2 × PS × zAp × Option Addr × Nat) Keep.z (fun (cs,s,a,ca,cc)=>[]) (fun (cs,s,a,ca,cc)=>rdC r la lc l s a::ndC s a::dfC s a::.sl ca cs.length cc 97 2 (zAu cs)::.blk bN 40 (zAl { zAb with kind:=9,reg:=xn,mod:=vm,cases:=cs,els:=-1 } { zAr with ca:=ca,cc:=cc })::q) (fun (cs,s,a,ca,cc) ro2=>RdOk ro2 l s a∧zBm numD (zAa l) F (70-cs.length) cs s=R∧(cs.length≤64∨(cs.length=65∧s.code≠0))∧cs.length≤cc∧cc≤maxLen) (fun (cs,s,a,ca,cc)=>70-cs.length) ([],sM,a,none,0) ?_ Sub.z Sup.z ?_
    ·exact ⟨h4,hR.symm,.inl (Nat.zero_le _),Nat.le_refl _,Nat.zero_le _⟩
    clear h4 hR h h1 h2
    rintro ⟨cs,s,a,ca,cc⟩ ro2 hl2 ⟨i1,i2,i3,i4,i5⟩
    dsimp only [List.cons_append,List.nil_append] at i1 i2 i3 i4 i5 ⊢
    dsimp only [zAl,zAb,zAr]
    have hM2:=hM.le hl2
    have hT2:=hT.up hl2
    have hfl:=zBQ cs
    rw [show 70-cs.length=(69-cs.length)+1 by omega,zBm] at i2
    repeat first|exact zE|refine zP ?_|refine zB fun b=>?_|refine zC fun a' c' hc1 hc2=>?_|(apply GJ.a;exact rfl;intro hg)|(apply GJ.o;exact rfl;intro hg)
    refine zAX i1 Take.auto ?_
    by_cases hc:s.code=0
    ·rw [decide_eq_true hc]
     repeat first|exact zE|refine zP ?_|refine zB fun b=>?_|refine zC fun a' c' hc1 hc2=>?_|(apply GJ.a;exact rfl;intro hg)|(apply GJ.o;exact rfl;intro hg)
     refine zAN hT2 i1 Take.auto ?_
     repeat first|exact zE|refine zP ?_|refine zB fun b=>?_|refine zC fun a' c' hc1 hc2=>?_|(apply GJ.a;exact rfl;intro hg)|(apply GJ.o;exact rfl;intro hg)
     by_cases hk2:(zAy (zAa l) s).kind=2
     ·rw [if_neg (by rintro (h|h);exact h hc;exact h hk2)] at i2
      rw [hk2]
      repeat first|exact zE|refine zP ?_|refine zB fun b=>?_|refine zC fun a' c' hc1 hc2=>?_|(apply GJ.a;exact rfl;intro hg)|(apply GJ.o;exact rfl;intro hg)
      by_cases h64:cs.length=64
      ·rw [if_pos h64] at i2
       repeat first|exact zE|refine zP ?_|refine zB fun b=>?_|refine zC fun a' c' hc1 hc2=>?_|(apply GJ.a;exact rfl;intro hg)|(apply GJ.o;exact rfl;intro hg)
       refine zAF (e:=2) (by decide) (by decide) hT2 i1 Take.auto Take.auto Take.auto (fun h4=>?_)
       have hcode:(zAg 2 s).code≠0:=by
        unfold zAg
        rw [if_pos hc]
        exact (by decide:(2:Nat)≠0)
       generalize zAg 2 s=s4 at *
       repeat first|exact zE|refine zP ?_|refine zB fun b=>?_|refine zC fun a' c' hc1 hc2=>?_|(apply GJ.a;exact rfl;intro hg)|(apply GJ.o;exact rfl;intro hg)
       have hstf:(s4).code≠0→(zAe (zAa l) [59] (F (zAe (zAa l) [58] (numP numD (zAa l) s4).2)).2).code≠0:=fun hh=>by
        haveI:=zA2 l
        exact (InP.must (E:=zAa l) (I:=fun s=>s.code≠0) ⟨hst _ (InP.must (E:=zAa l) (I:=fun s=>s.code≠0) (InP.num (wideP:=numD) ⟨hh⟩) [58]).get⟩ [59]).get
       dsimp only at i2
       refine num3 hT2 h4 Take.auto Take.auto Take.auto (fun h5=>?_)
       generalize numP numD (zAa l) s4=v at *
       obtain ⟨vn,s5⟩:=v
       dsimp only at h5 i2 hstf ⊢
       repeat first|exact zE|refine zP ?_|refine zB fun b=>?_|refine zC fun a' c' hc1 hc2=>?_|(apply GJ.a;exact rfl;intro hg)|(apply GJ.o;exact rfl;intro hg)
       obtain ⟨bC,hbC⟩:∃ z:Nat,z=b:=⟨_,rfl⟩
       subst hbC
       refine zAi (t:=[58]) hT2 h5 Take.auto Take.auto Take.auto (fun h6=>?_)
       generalize zAe (zAa l) [58] s5=s6 at *
       repeat first|exact zE|refine zP ?_|refine zB fun b=>?_|refine zC fun a' c' hc1 hc2=>?_|(apply GJ.a;exact rfl;intro hg)|(apply GJ.o;exact rfl;intro hg)
       refine hF.run hM2 hT2 h6 Take.auto Take.auto Take.auto (fun ro3 a3 hl3 h7=>?_)
       generalize F s6=kx at *
       obtain ⟨kn,s7⟩:=kx
       dsimp only at h7 i2 hstf ⊢
       repeat first|exact zE|refine zP ?_|refine zB fun b=>?_|refine zC fun a' c' hc1 hc2=>?_|(apply GJ.a;exact rfl;intro hg)|(apply GJ.o;exact rfl;intro hg)
       refine zAi (t:=[59]) (hT2.up hl3) h7 Take.auto Take.auto Take.auto (fun h8=>?_)
       generalize zAe (zAa l) [59] s7=s8 at *
       repeat first|exact zE|refine zP ?_|refine zB fun b=>?_|refine zC fun a' c' hc1 hc2=>?_|(apply GJ.a;exact rfl;intro hg)|(apply GJ.o;exact rfl;intro hg)
       have e2:zAu cs++flat [Value.agg #[.int .u64 (vn:Int),.int .i64 (kn:Int)]]=zAu (cs++[⟨vn,kn⟩]):=by simp [zAu,flat,zCA,Value.cells]
       have e1:cs.length+1=(cs++[(⟨vn,kn⟩:zB2)]).length:=by simp
       rw [e2]
       rw [e1] at hc1 ⊢
       repeat first|exact zE|refine zP ?_|refine zB fun b=>?_|refine zC fun a' c' hc1 hc2=>?_|(apply GJ.a;exact rfl;intro hg)|(apply GJ.o;exact rfl;intro hg)
       refine Wk.id ⟨(cs++[⟨vn,kn⟩],s8,a3,a',c'),?_,?_,Sub.z,Sup.z⟩
       all_goals try dsimp only
       ·refine ⟨h8,by rw [←e1,show 70-(cs.length+1)=69-cs.length by omega];exact i2,?_,hc1,hc2⟩
        rw [←e1]
        exact .inr ⟨by omega,hstf hcode⟩
       ·rw [←e1];omega
      ·rw [if_neg h64] at i2
       have hle:cs.length≤63:=by
        rcases i3 with h|⟨h,hh⟩
        ·omega
        ·exact absurd hc hh
       repeat first|exact zE|refine zP ?_|refine zB fun b=>?_|refine zC fun a' c' hc1 hc2=>?_|(apply GJ.a;exact rfl;intro hg)|(apply GJ.o;exact rfl;intro hg)
       repeat first|exact zE|refine zP ?_|refine zB fun b=>?_|refine zC fun a' c' hc1 hc2=>?_|(apply GJ.a;exact rfl;intro hg)|(apply GJ.o;exact rfl;intro hg)
       have hstf:(s).code≠0→(zAe (zAa l) [59] (F (zAe (zAa l) [58] (numP numD (zAa l) s).2)).2).code≠0:=fun hh=>by
        haveI:=zA2 l
        exact (InP.must (E:=zAa l) (I:=fun s=>s.code≠0) ⟨hst _ (InP.must (E:=zAa l) (I:=fun s=>s.code≠0) (InP.num (wideP:=numD) ⟨hh⟩) [58]).get⟩ [59]).get
       dsimp only at i2
       refine num3 hT2 i1 Take.auto Take.auto Take.auto (fun h5=>?_)
       generalize numP numD (zAa l) s=v at *
       obtain ⟨vn,s5⟩:=v
       dsimp only at h5 i2 hstf ⊢
       repeat first|exact zE|refine zP ?_|refine zB fun b=>?_|refine zC fun a' c' hc1 hc2=>?_|(apply GJ.a;exact rfl;intro hg)|(apply GJ.o;exact rfl;intro hg)
       obtain ⟨bC,hbC⟩:∃ z:Nat,z=b:=⟨_,rfl⟩
       subst hbC
       refine zAi (t:=[58]) hT2 h5 Take.auto Take.auto Take.auto (fun h6=>?_)
       generalize zAe (zAa l) [58] s5=s6 at *
       repeat first|exact zE|refine zP ?_|refine zB fun b=>?_|refine zC fun a' c' hc1 hc2=>?_|(apply GJ.a;exact rfl;intro hg)|(apply GJ.o;exact rfl;intro hg)
       refine hF.run hM2 hT2 h6 Take.auto Take.auto Take.auto (fun ro3 a3 hl3 h7=>?_)
       generalize F s6=kx at *
       obtain ⟨kn,s7⟩:=kx
       dsimp only at h7 i2 hstf ⊢
       repeat first|exact zE|refine zP ?_|refine zB fun b=>?_|refine zC fun a' c' hc1 hc2=>?_|(apply GJ.a;exact rfl;intro hg)|(apply GJ.o;exact rfl;intro hg)
       refine zAi (t:=[59]) (hT2.up hl3) h7 Take.auto Take.auto Take.auto (fun h8=>?_)
       generalize zAe (zAa l) [59] s7=s8 at *
       repeat first|exact zE|refine zP ?_|refine zB fun b=>?_|refine zC fun a' c' hc1 hc2=>?_|(apply GJ.a;exact rfl;intro hg)|(apply GJ.o;exact rfl;intro hg)
       have e2:zAu cs++flat [Value.agg #[.int .u64 (vn:Int),.int .i64 (kn:Int)]]=zAu (cs++[⟨vn,kn⟩]):=by simp [zAu,flat,zCA,Value.cells]
       have e1:cs.length+1=(cs++[(⟨vn,kn⟩:zB2)]).length:=by simp
       rw [e2]
       rw [e1] at hc1 ⊢
       repeat first|exact zE|refine zP ?_|refine zB fun b=>?_|refine zC fun a' c' hc1 hc2=>?_|(apply GJ.a;exact rfl;intro hg)|(apply GJ.o;exact rfl;intro hg)
       refine Wk.id ⟨(cs++[⟨vn,kn⟩],s8,a3,a',c'),?_,?_,Sub.z,Sup.z⟩
       all_goals try dsimp only
       ·refine ⟨h8,by rw [←e1,show 70-(cs.length+1)=69-cs.length by omega];exact i2,?_,hc1,hc2⟩
        rw [←e1]
        exact .inl (by omega)
       ·rw [←e1];omega
     ·rw [if_pos (.inr hk2)] at i2
      subst i2
      dsimp only at hk
      repeat first|exact zE|refine zP ?_|refine zB fun b=>?_|refine zC fun a' c' hc1 hc2=>?_|(apply GJ.a;exact rfl;intro hg)|(apply GJ.o;exact rfl;intro hg)
      by_cases h0:cs.length=0
      ·rw [if_pos h0] at hk
       repeat first|exact zE|refine zP ?_|refine zB fun b=>?_|refine zC fun a' c' hc1 hc2=>?_|(apply GJ.a;exact rfl;intro hg)|(apply GJ.o;exact rfl;intro hg)
       refine zAF (e:=5) (by decide) (by decide) hT2 i1 Take.auto Take.auto Take.auto (fun h6=>?_)
       generalize zAg 5 s=s6 at *
       repeat first|exact zE|refine zP ?_|refine zB fun b=>?_|refine zC fun a' c' hc1 hc2=>?_|(apply GJ.a;exact rfl;intro hg)|(apply GJ.o;exact rfl;intro hg)
       refine zAK (t:=[101,108,115,101]) hT2 h6 Take.auto Take.auto Take.auto (fun g5=>?_)
       generalize kwP (zAa l) [101,108,115,101] s6=e at *
       obtain ⟨eb,s7⟩:=e
       dsimp only at g5 hk ⊢
       cases eb with
       | false =>
         simp only [Bool.false_eq_true,↓reduceIte] at hk
         repeat first|exact zE|refine zP ?_|refine zB fun b=>?_|refine zC fun a' c' hc1 hc2=>?_|(apply GJ.a;exact rfl;intro hg)|(apply GJ.o;exact rfl;intro hg)
         refine zAi (t:=[125]) (hT2) g5 Take.auto Take.auto Take.auto (fun g1=>?_)
         generalize zAe (zAa l) [125] s7=z1 at *
         repeat first|exact zE|refine zP ?_|refine zB fun b=>?_|refine zC fun a' c' hc1 hc2=>?_|(apply GJ.a;exact rfl;intro hg)|(apply GJ.o;exact rfl;intro hg)
         refine CallOk.freeze (c:=.sl ca _ _ _ _ _) Take.auto (fun ro9 hl9 hc9=>?_)
         refine zAk (d:={ zAb with kind:=9,reg:=xn,mod:=vm,cases:=cs,els:=-1 }) (x:={ zAr with ca:=ca,cc:=cc }) ((hT2).up hl9) (g1.up hl9) ⟨Rs.nil _ 1,Rs.nil _ 1,Rs.nil _ 5,Rs.last hc9⟩ ⟨by simp [zAb],by simp [zAb],by simp [zAb],by dsimp only;omega⟩ Take.auto Take.auto Take.auto (fun ro4 a4 hl4 h4=>?_)
         have hk2:=hk ro4 a4 (((hl2).trans hl9).trans hl4) h4
         repeat first|exact zE|refine zP ?_|refine zB fun b=>?_|refine zC fun a' c' hc1 hc2=>?_|(apply GJ.a;exact rfl;intro hg)|(apply GJ.o;exact rfl;intro hg)
         exact Wk.outS Sup.z (.refl _) hk2
       | true =>
         simp only [↓reduceIte] at hk
         repeat first|exact zE|refine zP ?_|refine zB fun b=>?_|refine zC fun a' c' hc1 hc2=>?_|(apply GJ.a;exact rfl;intro hg)|(apply GJ.o;exact rfl;intro hg)
         refine zAi (t:=[58]) hT2 g5 Take.auto Take.auto Take.auto (fun g6=>?_)
         generalize zAe (zAa l) [58] s7=s8 at *
         repeat first|exact zE|refine zP ?_|refine zB fun b=>?_|refine zC fun a' c' hc1 hc2=>?_|(apply GJ.a;exact rfl;intro hg)|(apply GJ.o;exact rfl;intro hg)
         refine hF.run hM2 hT2 g6 Take.auto Take.auto Take.auto (fun ro5 a5 hl5 g7=>?_)
         generalize F s8=kx at *
         obtain ⟨kn,s9⟩:=kx
         dsimp only at g7 hk ⊢
         repeat first|exact zE|refine zP ?_|refine zB fun b=>?_|refine zC fun a' c' hc1 hc2=>?_|(apply GJ.a;exact rfl;intro hg)|(apply GJ.o;exact rfl;intro hg)
         refine zAi (t:=[59]) (hT2.up hl5) g7 Take.auto Take.auto Take.auto (fun g8=>?_)
         generalize zAe (zAa l) [59] s9=sA at *
         repeat first|exact zE|refine zP ?_|refine zB fun b=>?_|refine zC fun a' c' hc1 hc2=>?_|(apply GJ.a;exact rfl;intro hg)|(apply GJ.o;exact rfl;intro hg)
         refine zAi (t:=[125]) (hT2.up hl5) g8 Take.auto Take.auto Take.auto (fun g1=>?_)
         generalize zAe (zAa l) [125] sA=z1 at *
         repeat first|exact zE|refine zP ?_|refine zB fun b=>?_|refine zC fun a' c' hc1 hc2=>?_|(apply GJ.a;exact rfl;intro hg)|(apply GJ.o;exact rfl;intro hg)
         refine CallOk.freeze (c:=.sl ca _ _ _ _ _) Take.auto (fun ro9 hl9 hc9=>?_)
         refine zAk (d:={ zAb with kind:=9,reg:=xn,mod:=vm,cases:=cs,els:=(kn:Int) }) (x:={ zAr with ca:=ca,cc:=cc }) ((hT2.up hl5).up hl9) (g1.up hl9) ⟨Rs.nil _ 1,Rs.nil _ 1,Rs.nil _ 5,Rs.last hc9⟩ ⟨by simp [zAb],by simp [zAb],by simp [zAb],by dsimp only;omega⟩ Take.auto Take.auto Take.auto (fun ro4 a4 hl4 h4=>?_)
         have hk2:=hk ro4 a4 (((hl2.trans hl5).trans hl9).trans hl4) h4
         repeat first|exact zE|refine zP ?_|refine zB fun b=>?_|refine zC fun a' c' hc1 hc2=>?_|(apply GJ.a;exact rfl;intro hg)|(apply GJ.o;exact rfl;intro hg)
         exact Wk.outS Sup.z (.refl _) hk2
      ·rw [if_neg h0] at hk
       repeat first|exact zE|refine zP ?_|refine zB fun b=>?_|refine zC fun a' c' hc1 hc2=>?_|(apply GJ.a;exact rfl;intro hg)|(apply GJ.o;exact rfl;intro hg)
       refine zAK (t:=[101,108,115,101]) hT2 i1 Take.auto Take.auto Take.auto (fun g5=>?_)
       generalize kwP (zAa l) [101,108,115,101] s=e at *
       obtain ⟨eb,s7⟩:=e
       dsimp only at g5 hk ⊢
       cases eb with
       | false =>
         simp only [Bool.false_eq_true,↓reduceIte] at hk
         repeat first|exact zE|refine zP ?_|refine zB fun b=>?_|refine zC fun a' c' hc1 hc2=>?_|(apply GJ.a;exact rfl;intro hg)|(apply GJ.o;exact rfl;intro hg)
         refine zAi (t:=[125]) (hT2) g5 Take.auto Take.auto Take.auto (fun g1=>?_)
         generalize zAe (zAa l) [125] s7=z1 at *
         repeat first|exact zE|refine zP ?_|refine zB fun b=>?_|refine zC fun a' c' hc1 hc2=>?_|(apply GJ.a;exact rfl;intro hg)|(apply GJ.o;exact rfl;intro hg)
         refine CallOk.freeze (c:=.sl ca _ _ _ _ _) Take.auto (fun ro9 hl9 hc9=>?_)
         refine zAk (d:={ zAb with kind:=9,reg:=xn,mod:=vm,cases:=cs,els:=-1 }) (x:={ zAr with ca:=ca,cc:=cc }) ((hT2).up hl9) (g1.up hl9) ⟨Rs.nil _ 1,Rs.nil _ 1,Rs.nil _ 5,Rs.last hc9⟩ ⟨by simp [zAb],by simp [zAb],by simp [zAb],by dsimp only;omega⟩ Take.auto Take.auto Take.auto (fun ro4 a4 hl4 h4=>?_)
         have hk2:=hk ro4 a4 (((hl2).trans hl9).trans hl4) h4
         repeat first|exact zE|refine zP ?_|refine zB fun b=>?_|refine zC fun a' c' hc1 hc2=>?_|(apply GJ.a;exact rfl;intro hg)|(apply GJ.o;exact rfl;intro hg)
         exact Wk.outS Sup.z (.refl _) hk2
       | true =>
         simp only [↓reduceIte] at hk
         repeat first|exact zE|refine zP ?_|refine zB fun b=>?_|refine zC fun a' c' hc1 hc2=>?_|(apply GJ.a;exact rfl;intro hg)|(apply GJ.o;exact rfl;intro hg)
         refine zAi (t:=[58]) hT2 g5 Take.auto Take.auto Take.auto (fun g6=>?_)
         generalize zAe (zAa l) [58] s7=s8 at *
         repeat first|exact zE|refine zP ?_|refine zB fun b=>?_|refine zC fun a' c' hc1 hc2=>?_|(apply GJ.a;exact rfl;intro hg)|(apply GJ.o;exact rfl;intro hg)
         refine hF.run hM2 hT2 g6 Take.auto Take.auto Take.auto (fun ro5 a5 hl5 g7=>?_)
         generalize F s8=kx at *
         obtain ⟨kn,s9⟩:=kx
         dsimp only at g7 hk ⊢
         repeat first|exact zE|refine zP ?_|refine zB fun b=>?_|refine zC fun a' c' hc1 hc2=>?_|(apply GJ.a;exact rfl;intro hg)|(apply GJ.o;exact rfl;intro hg)
         refine zAi (t:=[59]) (hT2.up hl5) g7 Take.auto Take.auto Take.auto (fun g8=>?_)
         generalize zAe (zAa l) [59] s9=sA at *
         repeat first|exact zE|refine zP ?_|refine zB fun b=>?_|refine zC fun a' c' hc1 hc2=>?_|(apply GJ.a;exact rfl;intro hg)|(apply GJ.o;exact rfl;intro hg)
         refine zAi (t:=[125]) (hT2.up hl5) g8 Take.auto Take.auto Take.auto (fun g1=>?_)
         generalize zAe (zAa l) [125] sA=z1 at *
         repeat first|exact zE|refine zP ?_|refine zB fun b=>?_|refine zC fun a' c' hc1 hc2=>?_|(apply GJ.a;exact rfl;intro hg)|(apply GJ.o;exact rfl;intro hg)
         refine CallOk.freeze (c:=.sl ca _ _ _ _ _) Take.auto (fun ro9 hl9 hc9=>?_)
         refine zAk (d:={ zAb with kind:=9,reg:=xn,mod:=vm,cases:=cs,els:=(kn:Int) }) (x:={ zAr with ca:=ca,cc:=cc }) ((hT2.up hl5).up hl9) (g1.up hl9) ⟨Rs.nil _ 1,Rs.nil _ 1,Rs.nil _ 5,Rs.last hc9⟩ ⟨by simp [zAb],by simp [zAb],by simp [zAb],by dsimp only;omega⟩ Take.auto Take.auto Take.auto (fun ro4 a4 hl4 h4=>?_)
         have hk2:=hk ro4 a4 (((hl2.trans hl5).trans hl9).trans hl4) h4
         repeat first|exact zE|refine zP ?_|refine zB fun b=>?_|refine zC fun a' c' hc1 hc2=>?_|(apply GJ.a;exact rfl;intro hg)|(apply GJ.o;exact rfl;intro hg)
         exact Wk.outS Sup.z (.refl _) hk2
    ·rw [if_pos (.inl hc)] at i2
     subst i2
     dsimp only at hk
     rw [decide_eq_false hc]
     repeat first|exact zE|refine zP ?_|refine zB fun b=>?_|refine zC fun a' c' hc1 hc2=>?_|(apply GJ.a;exact rfl;intro hg)|(apply GJ.o;exact rfl;intro hg)
     by_cases h0:cs.length=0
     ·rw [if_pos h0] at hk
      repeat first|exact zE|refine zP ?_|refine zB fun b=>?_|refine zC fun a' c' hc1 hc2=>?_|(apply GJ.a;exact rfl;intro hg)|(apply GJ.o;exact rfl;intro hg)
      refine zAF (e:=5) (by decide) (by decide) hT2 i1 Take.auto Take.auto Take.auto (fun h6=>?_)
      generalize zAg 5 s=s6 at *
      repeat first|exact zE|refine zP ?_|refine zB fun b=>?_|refine zC fun a' c' hc1 hc2=>?_|(apply GJ.a;exact rfl;intro hg)|(apply GJ.o;exact rfl;intro hg)
      refine zAK (t:=[101,108,115,101]) hT2 h6 Take.auto Take.auto Take.auto (fun g5=>?_)
      generalize kwP (zAa l) [101,108,115,101] s6=e at *
      obtain ⟨eb,s7⟩:=e
      dsimp only at g5 hk ⊢
      cases eb with
      | false =>
        simp only [Bool.false_eq_true,↓reduceIte] at hk
        repeat first|exact zE|refine zP ?_|refine zB fun b=>?_|refine zC fun a' c' hc1 hc2=>?_|(apply GJ.a;exact rfl;intro hg)|(apply GJ.o;exact rfl;intro hg)
        refine zAi (t:=[125]) (hT2) g5 Take.auto Take.auto Take.auto (fun g1=>?_)
        generalize zAe (zAa l) [125] s7=z1 at *
        repeat first|exact zE|refine zP ?_|refine zB fun b=>?_|refine zC fun a' c' hc1 hc2=>?_|(apply GJ.a;exact rfl;intro hg)|(apply GJ.o;exact rfl;intro hg)
        refine CallOk.freeze (c:=.sl ca _ _ _ _ _) Take.auto (fun ro9 hl9 hc9=>?_)
        refine zAk (d:={ zAb with kind:=9,reg:=xn,mod:=vm,cases:=cs,els:=-1 }) (x:={ zAr with ca:=ca,cc:=cc }) ((hT2).up hl9) (g1.up hl9) ⟨Rs.nil _ 1,Rs.nil _ 1,Rs.nil _ 5,Rs.last hc9⟩ ⟨by simp [zAb],by simp [zAb],by simp [zAb],by dsimp only;omega⟩ Take.auto Take.auto Take.auto (fun ro4 a4 hl4 h4=>?_)
        have hk2:=hk ro4 a4 (((hl2).trans hl9).trans hl4) h4
        repeat first|exact zE|refine zP ?_|refine zB fun b=>?_|refine zC fun a' c' hc1 hc2=>?_|(apply GJ.a;exact rfl;intro hg)|(apply GJ.o;exact rfl;intro hg)
        exact Wk.outS Sup.z (.refl _) hk2
      | true =>
        simp only [↓reduceIte] at hk
        repeat first|exact zE|refine zP ?_|refine zB fun b=>?_|refine zC fun a' c' hc1 hc2=>?_|(apply GJ.a;exact rfl;intro hg)|(apply GJ.o;exact rfl;intro hg)
        refine zAi (t:=[58]) hT2 g5 Take.auto Take.auto Take.auto (fun g6=>?_)
        generalize zAe (zAa l) [58] s7=s8 at *
        repeat first|exact zE|refine zP ?_|refine zB fun b=>?_|refine zC fun a' c' hc1 hc2=>?_|(apply GJ.a;exact rfl;intro hg)|(apply GJ.o;exact rfl;intro hg)
        refine hF.run hM2 hT2 g6 Take.auto Take.auto Take.auto (fun ro5 a5 hl5 g7=>?_)
        generalize F s8=kx at *
        obtain ⟨kn,s9⟩:=kx
        dsimp only at g7 hk ⊢
        repeat first|exact zE|refine zP ?_|refine zB fun b=>?_|refine zC fun a' c' hc1 hc2=>?_|(apply GJ.a;exact rfl;intro hg)|(apply GJ.o;exact rfl;intro hg)
        refine zAi (t:=[59]) (hT2.up hl5) g7 Take.auto Take.auto Take.auto (fun g8=>?_)
        generalize zAe (zAa l) [59] s9=sA at *
        repeat first|exact zE|refine zP ?_|refine zB fun b=>?_|refine zC fun a' c' hc1 hc2=>?_|(apply GJ.a;exact rfl;intro hg)|(apply GJ.o;exact rfl;intro hg)
        refine zAi (t:=[125]) (hT2.up hl5) g8 Take.auto Take.auto Take.auto (fun g1=>?_)
        generalize zAe (zAa l) [125] sA=z1 at *
        repeat first|exact zE|refine zP ?_|refine zB fun b=>?_|refine zC fun a' c' hc1 hc2=>?_|(apply GJ.a;exact rfl;intro hg)|(apply GJ.o;exact rfl;intro hg)
        refine CallOk.freeze (c:=.sl ca _ _ _ _ _) Take.auto (fun ro9 hl9 hc9=>?_)
        refine zAk (d:={ zAb with kind:=9,reg:=xn,mod:=vm,cases:=cs,els:=(kn:Int) }) (x:={ zAr with ca:=ca,cc:=cc }) ((hT2.up hl5).up hl9) (g1.up hl9) ⟨Rs.nil _ 1,Rs.nil _ 1,Rs.nil _ 5,Rs.last hc9⟩ ⟨by simp [zAb],by simp [zAb],by simp [zAb],by dsimp only;omega⟩ Take.auto Take.auto Take.auto (fun ro4 a4 hl4 h4=>?_)
        have hk2:=hk ro4 a4 (((hl2.trans hl5).trans hl9).trans hl4) h4
        repeat first|exact zE|refine zP ?_|refine zB fun b=>?_|refine zC fun a' c' hc1 hc2=>?_|(apply GJ.a;exact rfl;intro hg)|(apply GJ.o;exact rfl;intro hg)
        exact Wk.outS Sup.z (.refl _) hk2
     ·rw [if_neg h0] at hk
      repeat first|exact zE|refine zP ?_|refine zB fun b=>?_|refine zC fun a' c' hc1 hc2=>?_|(apply GJ.a;exact rfl;intro hg)|(apply GJ.o;exact rfl;intro hg)
      refine zAK (t:=[101,108,115,101]) hT2 i1 Take.auto Take.auto Take.auto (fun g5=>?_)
      generalize kwP (zAa l) [101,108,115,101] s=e at *
      obtain ⟨eb,s7⟩:=e
      dsimp only at g5 hk ⊢
      cases eb with
      | false =>
        simp only [Bool.false_eq_true,↓reduceIte] at hk
        repeat first|exact zE|refine zP ?_|refine zB fun b=>?_|refine zC fun a' c' hc1 hc2=>?_|(apply GJ.a;exact rfl;intro hg)|(apply GJ.o;exact rfl;intro hg)
        refine zAi (t:=[125]) (hT2) g5 Take.auto Take.auto Take.auto (fun g1=>?_)
        generalize zAe (zAa l) [125] s7=z1 at *
        repeat first|exact zE|refine zP ?_|refine zB fun b=>?_|refine zC fun a' c' hc1 hc2=>?_|(apply GJ.a;exact rfl;intro hg)|(apply GJ.o;exact rfl;intro hg)
        refine CallOk.freeze (c:=.sl ca _ _ _ _ _) Take.auto (fun ro9 hl9 hc9=>?_)
        refine zAk (d:={ zAb with kind:=9,reg:=xn,mod:=vm,cases:=cs,els:=-1 }) (x:={ zAr with ca:=ca,cc:=cc }) ((hT2).up hl9) (g1.up hl9) ⟨Rs.nil _ 1,Rs.nil _ 1,Rs.nil _ 5,Rs.last hc9⟩ ⟨by simp [zAb],by simp [zAb],by simp [zAb],by dsimp only;omega⟩ Take.auto Take.auto Take.auto (fun ro4 a4 hl4 h4=>?_)
        have hk2:=hk ro4 a4 (((hl2).trans hl9).trans hl4) h4
        repeat first|exact zE|refine zP ?_|refine zB fun b=>?_|refine zC fun a' c' hc1 hc2=>?_|(apply GJ.a;exact rfl;intro hg)|(apply GJ.o;exact rfl;intro hg)
        exact Wk.outS Sup.z (.refl _) hk2
      | true =>
        simp only [↓reduceIte] at hk
        repeat first|exact zE|refine zP ?_|refine zB fun b=>?_|refine zC fun a' c' hc1 hc2=>?_|(apply GJ.a;exact rfl;intro hg)|(apply GJ.o;exact rfl;intro hg)
        refine zAi (t:=[58]) hT2 g5 Take.auto Take.auto Take.auto (fun g6=>?_)
        generalize zAe (zAa l) [58] s7=s8 at *
        repeat first|exact zE|refine zP ?_|refine zB fun b=>?_|refine zC fun a' c' hc1 hc2=>?_|(apply GJ.a;exact rfl;intro hg)|(apply GJ.o;exact rfl;intro hg)
        refine hF.run hM2 hT2 g6 Take.auto Take.auto Take.auto (fun ro5 a5 hl5 g7=>?_)
        generalize F s8=kx at *
        obtain ⟨kn,s9⟩:=kx
        dsimp only at g7 hk ⊢
        repeat first|exact zE|refine zP ?_|refine zB fun b=>?_|refine zC fun a' c' hc1 hc2=>?_|(apply GJ.a;exact rfl;intro hg)|(apply GJ.o;exact rfl;intro hg)
        refine zAi (t:=[59]) (hT2.up hl5) g7 Take.auto Take.auto Take.auto (fun g8=>?_)
        generalize zAe (zAa l) [59] s9=sA at *
        repeat first|exact zE|refine zP ?_|refine zB fun b=>?_|refine zC fun a' c' hc1 hc2=>?_|(apply GJ.a;exact rfl;intro hg)|(apply GJ.o;exact rfl;intro hg)
        refine zAi (t:=[125]) (hT2.up hl5) g8 Take.auto Take.auto Take.auto (fun g1=>?_)
        generalize zAe (zAa l) [125] sA=z1 at *
        repeat first|exact zE|refine zP ?_|refine zB fun b=>?_|refine zC fun a' c' hc1 hc2=>?_|(apply GJ.a;exact rfl;intro hg)|(apply GJ.o;exact rfl;intro hg)
        refine CallOk.freeze (c:=.sl ca _ _ _ _ _) Take.auto (fun ro9 hl9 hc9=>?_)
        refine zAk (d:={ zAb with kind:=9,reg:=xn,mod:=vm,cases:=cs,els:=(kn:Int) }) (x:={ zAr with ca:=ca,cc:=cc }) ((hT2.up hl5).up hl9) (g1.up hl9) ⟨Rs.nil _ 1,Rs.nil _ 1,Rs.nil _ 5,Rs.last hc9⟩ ⟨by simp [zAb],by simp [zAb],by simp [zAb],by dsimp only;omega⟩ Take.auto Take.auto Take.auto (fun ro4 a4 hl4 h4=>?_)
        have hk2:=hk ro4 a4 (((hl2.trans hl5).trans hl9).trans hl4) h4
        repeat first|exact zE|refine zP ?_|refine zB fun b=>?_|refine zC fun a' c' hc1 hc2=>?_|(apply GJ.a;exact rfl;intro hg)|(apply GJ.o;exact rfl;intro hg)
        exact Wk.outS Sup.z (.refl _) hk2
end
end Go.Proofs.YtnapjcnfgdkmcaaGreatDoor
end
