/- Texts of a walk, one behind the other. -/
import Derived.Test.YtmaennnkaoollaaGreatDoorMg3
set_option linter.unusedVariables false
set_option linter.unusedSimpArgs false
set_option linter.unusedSectionVars false
set_option maxRecDepth 10000
section
namespace Go.Proofs.YtmaennnkaoollaaGreatDoor
open Go Go.E
def zB3 (l:List SetD):List Value:=l.flatMap setV
theorem zDr (l:List SetD):(zB3 l).length=l.length*4:=by
 induction l with
 | nil=>rfl
 | cons s l ih=>simp [zB3,setV] at ih ⊢;omega
theorem zCA:∀ (l:List SetD) (i:Nat) (s:SetD),l[i]?=some s→((zB3 l).drop (i*4)).take 4=setV s
 | [],i,s,h=>by simp at h
 | x::l,0,s,h=>by simp at h;subst h;rfl
 | x::l,i+1,s,h=>by
   rw [show (i+1)*4=4+i*4 by omega]
   show List.take 4 (List.drop (4+i*4) (setV x++zB3 l))=_
   rw [←List.drop_drop,List.drop_left' (by rfl)]
   exact zCA l i s (by simpa using h)
theorem zEA (l:List SetD) (s:SetD):zB3 (l++[s])=zB3 l++setV s:=by simp [zB3]
theorem zKz (s:SetD):flat [.agg (setV s).toArray]=setV s:=rfl
def SetD.firstIs (s:SetD) (c:Nat):Bool:=(List.range 256).find? s.has == some c
def zFc (l:List SetD):List SetD:=(List.range 256).flatMap fun c=>l.filter fun s=>s.firstIs c
theorem zI0 {c:Nat}:SetD.firstIs ⟨0,0,0,0⟩ c=false:=by
 have:(List.range 256).find? (SetD.has ⟨0,0,0,0⟩)=none:=by
  rw [List.find?_eq_none];intro x _;rw [SetD.has_zero];simp
 unfold SetD.firstIs;rw [this];rfl
theorem zIz {s:SetD}{c d:Nat} (hc:c<256) (h1:s.has c=true) (h2:∀ j,j<c→s.has j=false):s.firstIs d=decide (c=d):=by
 have:(List.range 256).find? s.has=some c:=by
  rw [List.find?_range_eq_some]
  exact ⟨h1,List.mem_range.2 hc,fun j hj=>by rw [h2 j hj];rfl⟩
 unfold SetD.firstIs;rw [this]
 by_cases h:c=d<;>simp [h]
section
variable {ro:Ro}{own r:Chs}{K:Value→Ro→Chs→Prop}{g:Chunk→Chs}
set_option maxHeartbeats 1000000 in
theorem zLR {l:List SetD}{a:Option Addr}{cap:Nat} (ht:TabOk ro) (hs:∀ s∈l,SetIn s) (hl:l.length≤1000) (hr:Rds ro own a l.length cap 4 (zB3 l))
  (hk:∀ a' c',(zFc l).length≤c'→c'≤maxLen→K (.slice a' (zFc l).length c') ro (.sl a' (zFc l).length c' 113 4 (zB3 (zFc l))::own)):CallOk Tryz.prog 91 #[.slice a l.length cap] ro own K:=by
 refine CallOk.intro (args:=[_]) (rs:=[_]) T_ok Tryz.func91 Tryz.call91 rfl rfl (by kernel_rfl) rfl rfl ?_
 repeat first|exact zE|refine wkT ?_|refine zB fun b=>?_|refine zC fun a' c' hc1 hc2=>?_|(apply GJ.a;exact rfl;intro hg)|(apply GJ.o;exact rfl;intro hg)
 refine LoopOk.at (ι:=Nat × List SetD × Option Addr × Nat) Keep.z (fun (c,o,a1,c1)=>[(9,.int .i64 (c:Int)),(3,.slice a1 o.length c1)]) (fun (c,o,a1,c1)=>.sl a1 o.length c1 113 4 (zB3 o)::own) (fun (c,o,a1,c1)=>c≤256∧o.length≤1000*c∧o.length≤c1∧c1≤maxLen∧o=(List.range c).flatMap fun c=>l.filter fun s=>s.firstIs c) (fun (c,o,a1,c1)=>256-c) (0,[],none,0) ?_ Sub.z Sup.z ?_
 ·exact ⟨by omega,by simp,by simp,Nat.zero_le _,rfl⟩
 rintro ⟨c,o,a1,c1⟩ ⟨i1,i2,i3,i4,i5⟩
 dsimp only [List.cons_append,List.nil_append] at i1 i2 i3 i4 i5 ⊢
 repeat first|exact zE|refine wkT ?_|refine zB fun b=>?_|refine zC fun a' c' hc1 hc2=>?_|(apply GJ.a;exact rfl;intro hg)|(apply GJ.o;exact rfl;intro hg)
 refine Br.cases (fun hg=>?_) (fun hg=>?_)
 ·repeat first|exact zE|refine wkT ?_|refine zB fun b=>?_|refine zC fun a' c' hc1 hc2=>?_|(apply GJ.a;exact rfl;intro hg)|(apply GJ.o;exact rfl;intro hg)
  refine LoopOk.at (ι:=Nat × List SetD × Option Addr × Nat) Keep.z (fun (j,o,a1,c1)=>[(14,.int .i64 (j:Int)),(3,.slice a1 o.length c1)]) (fun (j,o,a1,c1)=>.sl a1 o.length c1 113 4 (zB3 o)::own) (fun (j,o2,a1,c1)=>j≤l.length∧o2.length≤1000*c+j∧o2.length≤c1∧c1≤maxLen∧o2=o++(l.take j).filter fun s=>s.firstIs c) (fun (j,o,a1,c1)=>l.length-j) (0,o,a1,c1) ?_ Sub.z Sup.z ?_
  ·exact ⟨by omega,by omega,i3,i4,by simp⟩
  rintro ⟨j,o2,a1,c1⟩ ⟨j1,j2,j3,j4,j5⟩
  dsimp only [List.cons_append,List.nil_append] at j1 j2 j3 j4 j5 ⊢
  repeat first|exact zE|refine wkT ?_|refine zB fun b=>?_|refine zC fun a' c' hc1 hc2=>?_|(apply GJ.a;exact rfl;intro hg)|(apply GJ.o;exact rfl;intro hg)
  refine Br.cases (fun hg2=>?_) (fun hg2=>?_)
  ·obtain ⟨s,hsj⟩:∃ s,l[j]?=some s:=⟨_,List.getElem?_eq_getElem (by omega)⟩
   have hsi:=hs s (List.mem_of_getElem? hsj)
   have htk:l.take (j+1)=l.take j++[s]:=by rw [List.take_add_one,hsj];rfl
   repeat first|exact zE|refine wkT ?_|refine zB fun b=>?_|refine zC fun a' c' hc1 hc2=>?_|(apply GJ.a;exact rfl;intro hg)|(apply GJ.o;exact rfl;intro hg)
   refine SeqOk.pass ?_
   repeat first|exact zE|refine wkT ?_|refine zB fun b=>?_|refine zC fun a' c' hc1 hc2=>?_|(apply GJ.a;exact rfl;intro hg)|(apply GJ.o;exact rfl;intro hg)
   refine OpOk.loadRow rfl rfl (LdN.atR hr (zCA _ _ _ hsj) (by omega)) rfl ?_
   repeat first|exact zE|refine wkT ?_|refine zB fun b=>?_|refine zC fun a' c' hc1 hc2=>?_|(apply GJ.a;exact rfl;intro hg)|(apply GJ.o;exact rfl;intro hg)
   refine zHm ht hsi (fun h0=>?_) (fun d hd h1 h2=>?_)
   ·have hf:s.firstIs c=false:=by subst h0;exact zI0
    repeat first|exact zE|refine wkT ?_|refine zB fun b=>?_|refine zC fun a' c' hc1 hc2=>?_|(apply GJ.a;exact rfl;intro hg)|(apply GJ.o;exact rfl;intro hg)
    refine Wk.id ⟨(j+1,o2,a1,c1),⟨rfl,?_⟩,?_,Sub.z,Sup.z⟩
    all_goals try dsimp only
    ·refine ⟨by omega,by omega,j3,j4,?_⟩
     rw [j5,htk,List.filter_append];simp [hf]
    ·omega
   ·have hf:=zIz (d:=c) hd h1 h2
    by_cases hdc:d=c
    ·subst hdc
     rw [decide_eq_true rfl] at hf
     repeat first|exact zE|refine wkT ?_|refine zB fun b=>?_|refine zC fun a' c' hc1 hc2=>?_|(apply GJ.a;exact rfl;intro hg)|(apply GJ.o;exact rfl;intro hg)
     rw [show o2.length+1=(o2++[s]).length by simp] at hc1 ⊢
     rw [zKz,←zEA]
     repeat first|exact zE|refine wkT ?_|refine zB fun b=>?_|refine zC fun a' c' hc1 hc2=>?_|(apply GJ.a;exact rfl;intro hg)|(apply GJ.o;exact rfl;intro hg)
     refine Wk.id ⟨(j+1,o2++[s],a',c'),⟨rfl,?_⟩,?_,Sub.z,Sup.z⟩
     all_goals try dsimp only
     ·refine ⟨by omega,by simp;omega,hc1,hc2,?_⟩
      rw [j5,htk,List.filter_append];simp [hf]
     ·omega
    ·rw [decide_eq_false hdc] at hf
     repeat first|exact zE|refine wkT ?_|refine zB fun b=>?_|refine zC fun a' c' hc1 hc2=>?_|(apply GJ.a;exact rfl;intro hg)|(apply GJ.o;exact rfl;intro hg)
     refine Wk.id ⟨(j+1,o2,a1,c1),⟨rfl,?_⟩,?_,Sub.z,Sup.z⟩
     all_goals try dsimp only
     ·refine ⟨by omega,by omega,j3,j4,?_⟩
      rw [j5,htk,List.filter_append];simp [hf]
     ·omega
  ·obtain rfl:j=l.length:=by omega
   rw [List.take_length] at j5
   repeat first|exact zE|refine wkT ?_|refine zB fun b=>?_|refine zC fun a' c' hc1 hc2=>?_|(apply GJ.a;exact rfl;intro hg)|(apply GJ.o;exact rfl;intro hg)
   refine Wk.id ⟨(c+1,o2,a1,c1),⟨rfl,?_⟩,?_,Sub.z,Sup.z⟩
   all_goals try dsimp only
   ·refine ⟨by omega,by omega,j3,j4,?_⟩
    rw [j5,i5,List.range_succ,List.flatMap_append]
    simp
   ·omega
 ·obtain rfl:c=256:=by omega
  have e:o=zFc l:=i5
  subst e
  repeat first|exact zE|refine wkT ?_|refine zB fun b=>?_|refine zC fun a' c' hc1 hc2=>?_|(apply GJ.a;exact rfl;intro hg)|(apply GJ.o;exact rfl;intro hg)
  exact Wk.outS Sup.z (.refl _) (hk _ _ i3 i4)
def cutD (s p:SetD):List SetD:=[p.and s,p.and s.not].filter fun q=>q != ⟨0,0,0,0⟩
def zEd (l:List SetD):List SetD:=zFc (l.foldl (fun o s=>o.flatMap (cutD s)) [allD])
end
theorem SetD.has_and (s t:SetD) (c:Nat):(s.and t).has c=(s.has c&&t.has c):=by
 unfold SetD.has;rw [SetD.w_and,Nat.testBit_and]
theorem SetD.has_or (s t:SetD) (c:Nat):(s.or t).has c=(s.has c||t.has c):=by
 unfold SetD.has;rw [SetD.w_or,Nat.testBit_or]
theorem SetD.has_not {s:SetD} (hs:SetIn s) (c:Nat):s.not.has c=!s.has c:=by
 unfold SetD.has
 rw [SetD.w_not,show (18446744073709551615:Nat)-s.w (c / 64)=2 ^ 64-(s.w (c / 64)+1) by omega,Nat.testBit_two_pow_sub_succ (hs _)]
 have:c % 64<64:=by omega
 simp [this]
theorem SetIn.and {s t:SetD} (hs:SetIn s):SetIn (s.and t):=fun k=>by
 rw [SetD.w_and];exact Nat.lt_of_le_of_lt Nat.and_le_left (hs k)
theorem SetIn.or {s t:SetD} (hs:SetIn s) (ht:SetIn t):SetIn (s.or t):=fun k=>by
 rw [SetD.w_or];exact Nat.or_lt_two_pow (n:=64) (hs k) (ht k)
theorem SetIn.not (s:SetD):SetIn s.not:=fun k=>by rw [SetD.w_not];omega
theorem SetIn.all:SetIn allD:=fun k=>by unfold SetD.w allD;dsimp only;split;decide;split;decide;split<;>decide
theorem SetD.has_all (c:Nat):allD.has c=true:=by
 have:allD=SetD.not ⟨0,0,0,0⟩:=rfl
 rw [this,SetD.has_not SetIn.zero,SetD.has_zero];rfl
theorem SetD.ext {s t:SetD} (hs:SetIn s) (ht:SetIn t) (h:∀ c,c<256→s.has c=t.has c):s=t:=by
 refine SetD.ext4 fun k hk=>?_
 apply Nat.eq_of_testBit_eq
 intro i
 rcases Nat.lt_or_ge i 64 with hi|hi
 ·have:=h (64*k+i) (by omega)
  unfold SetD.has at this
  rwa [show (64*k+i) / 64=k by omega,show (64*k+i) % 64=i by omega] at this
 ·have e:∀ w:Nat,w<18446744073709551616→w.testBit i=false:=fun w hw=>Nat.testBit_lt_two_pow (Nat.lt_of_lt_of_le hw (show 2 ^ 64≤2 ^ i from Nat.pow_le_pow_right (by decide) hi))
  rw [e _ (hs k),e _ (ht k)]
theorem zKd:∀ (n x:Nat),pc n x=(List.range n).countP x.testBit
 | 0,x=>rfl
 | n+1,x=>by
   rw [List.range_succ_eq_map,List.countP_cons,List.countP_map,pc,zKd n (x / 2)]
   have e:(x.testBit ∘ Nat.succ)=(x / 2).testBit:=by
    funext i;exact Nat.testBit_succ x i
   rw [e,Nat.testBit_zero]
   by_cases h:x % 2=1
   ·simp [h];omega
   ·have h0:x % 2=0:=by omega
    simp [h0]
theorem range256:List.range 256=List.range 64++((List.range 64).map (64+·)++((List.range 64).map (128+·)++(List.range 64).map (192+·))):=by decide +kernel
theorem SetD.len_count (s:SetD):s.len=(List.range 256).countP s.has:=by
 have k:∀ (b:Nat) (w:Nat),(∀ i,i<64→s.has (b+i)=w.testBit i)→((List.range 64).map (b+·)).countP s.has=pc 64 w:=fun b w h=>by
  rw [List.countP_map,zKd]
  exact List.countP_congr fun i hi=>by
   have:=h i (List.mem_range.1 hi)
   simp only [Function.comp_apply]
   rw [this]
 rw [range256,List.countP_append,List.countP_append,List.countP_append]
 have k0:=k 0 s.a (fun i hi=>by unfold SetD.has;rw [show (0+i) / 64=0 by omega,show (0+i) % 64=i by omega];rfl)
 have k1:=k 64 s.b (fun i hi=>by unfold SetD.has;rw [show (64+i) / 64=1 by omega,show (64+i) % 64=i by omega];rfl)
 have k2:=k 128 s.c (fun i hi=>by unfold SetD.has;rw [show (128+i) / 64=2 by omega,show (128+i) % 64=i by omega];rfl)
 have k3:=k 192 s.d (fun i hi=>by unfold SetD.has;rw [show (192+i) / 64=3 by omega,show (192+i) % 64=i by omega];rfl)
 have e0:(List.range 64).map (0+·)=List.range 64:=by simp
 rw [e0] at k0
 rw [k0,k1,k2,k3,SetD.len]
 omega
theorem zI5 {α:Type} (a b:α→Bool) (l:List α):l.countP (fun x=>a x&&b x)+l.countP (fun x=>a x&&!b x)=l.countP a:=by
 induction l with
 | nil=>rfl
 | cons x l ih =>
   rw [List.countP_cons,List.countP_cons,List.countP_cons,←ih]
   cases a x<;>cases b x<;>simp<;>omega
theorem len_cut {s p:SetD} (hs:SetIn s):(p.and s).len+(p.and s.not).len=p.len:=by
 rw [SetD.len_count,SetD.len_count,SetD.len_count,←zI5 p.has s.has]
 congr 1
 ·exact List.countP_congr fun c _=>by rw [SetD.has_and]
 ·exact List.countP_congr fun c _=>by rw [SetD.has_and,SetD.has_not hs]
theorem len_zero {s:SetD} (hs:SetIn s) (h:s.len=0):s=⟨0,0,0,0⟩:=by
 refine SetD.ext hs SetIn.zero fun c hc=>?_
 rw [SetD.has_zero]
 rw [SetD.len_count,List.countP_eq_zero] at h
 have:=h c (List.mem_range.2 hc)
 simpa using this
def sumL (l:List SetD):Nat:=(l.map SetD.len).sum
theorem zIQ (a b:List SetD):sumL (a++b)=sumL a+sumL b:=by simp [sumL]
theorem cutD_sum {s p:SetD} (hs:SetIn s) (hp:SetIn p):sumL (cutD s p)=p.len:=by
 have h:=len_cut (p:=p) hs
 unfold cutD
 have z:SetD.len ⟨0,0,0,0⟩=0:=by decide +kernel
 by_cases h1:p.and s=⟨0,0,0,0⟩<;>by_cases h2:p.and s.not=⟨0,0,0,0⟩<;>simp [h1,h2,sumL]<;>(try rw [h1,z] at h)<;>(try rw [h2,z] at h)<;>omega
theorem zNE {s p:SetD} (hp:SetIn p):∀ q∈cutD s p,SetIn q∧q≠⟨0,0,0,0⟩:=fun q hq=>by
 unfold cutD at hq
 obtain ⟨h1,h2⟩:=List.mem_filter.1 hq
 refine ⟨?_,by simpa using h2⟩
 simp at h1
 rcases h1 with rfl|rfl<;>exact hp.and
theorem sumL_ge {l:List SetD} (h:∀ q∈l,SetIn q∧q≠⟨0,0,0,0⟩):l.length≤sumL l:=by
 induction l with
 | nil=>simp
 | cons q l ih =>
   have:=ih fun x hx=>h x (by simp [hx])
   have h1:q.len≠0:=fun e=>(h q (by simp)).2 (len_zero (h q (by simp)).1 e)
   simp [sumL] at this ⊢
   omega
def zGg (o:List SetD) (s:SetD):List SetD:=o.flatMap (cutD s)
theorem zHD (l:List SetD):zEd l=zFc (l.foldl zGg [allD]):=rfl
structure Pieces (o:List SetD):Prop where
 each:∀ q∈o,SetIn q∧q≠⟨0,0,0,0⟩
 sum:sumL o=256
theorem Pieces.len {o:List SetD} (h:Pieces o):o.length≤256:=by have:=sumL_ge h.each;have:=h.sum;omega
theorem Pieces.one:Pieces [allD]:=⟨fun q hq=>by simp at hq;subst hq;exact ⟨SetIn.all,by decide⟩,by decide +kernel⟩
theorem zH9 {s:SetD} (hs:SetIn s):∀ {o:List SetD},(∀ q∈o,SetIn q)→sumL (o.flatMap (cutD s))=sumL o
 | [],_=>rfl
 | p::o,h=>by
   rw [List.flatMap_cons,zIQ,zH9 hs (fun q hq=>h q (by simp [hq])),cutD_sum hs (h p (by simp))]
   simp [sumL]
theorem Pieces.step {o:List SetD}{s:SetD} (h:Pieces o) (hs:SetIn s):Pieces (zGg o s):=⟨fun q hq=>by
 obtain ⟨p,hp,hq⟩:=List.mem_flatMap.1 hq
 exact zNE (h.each p hp).1 q hq,by rw [zGg,zH9 hs (fun q hq=>(h.each q hq).1)];exact h.sum⟩
theorem Pieces.part {o:List SetD}{s:SetD}{j:Nat} (h:Pieces o) (hs:SetIn s):((o.take j).flatMap (cutD s)).length≤256:=by
 have h1:=(h.step hs).len
 have h2:zGg o s=(o.take j).flatMap (cutD s)++(o.drop j).flatMap (cutD s):=by rw [zGg,←List.flatMap_append,List.take_append_drop]
 rw [h2,List.length_append] at h1
 omega
section
variable {ro:Ro}{own r:Chs}{K:Value→Ro→Chs→Prop}{g:Chunk→Chs}
set_option maxHeartbeats 2000000 in
theorem split_ok {l:List SetD}{a:Option Addr}{cap:Nat} (ht:TabOk ro) (hs:∀ s∈l,SetIn s) (hl:l.length≤1000) (hr:Rds ro own a l.length cap 4 (zB3 l))
  (hk:∀ a' c',(zEd l).length≤c'→c'≤maxLen→K (.slice a' (zEd l).length c') ro (.sl a' (zEd l).length c' 113 4 (zB3 (zEd l))::own)):CallOk Tryz.prog 58 #[.slice a l.length cap] ro own K:=by
 refine CallOk.intro (args:=[_]) (rs:=[_]) T_ok Tryz.func58 Tryz.call58 rfl rfl (by kernel_rfl) rfl rfl ?_
 repeat first|exact zE|refine wkT ?_|refine zB fun b=>?_|refine zC fun a' c' hc1 hc2=>?_|(apply GJ.a;exact rfl;intro hg)|(apply GJ.o;exact rfl;intro hg)
 refine zOb ?_
 repeat first|exact zE|refine wkT ?_|refine zB fun b=>?_|refine zC fun a' c' hc1 hc2=>?_|(apply GJ.a;exact rfl;intro hg)|(apply GJ.o;exact rfl;intro hg)
 refine LoopOk.at (ι:=Nat × List SetD × Option Addr × Nat) Keep.z (fun (i,o,a1,c1)=>[(15,.int .i64 (i:Int)),(3,.slice a1 o.length c1)]) (fun (i,o,a1,c1)=>.sl a1 o.length c1 113 4 (zB3 o)::own) (fun (i,o,a1,c1)=>i≤l.length∧Pieces o∧o.length≤c1∧c1≤maxLen∧o=(l.take i).foldl zGg [allD]) (fun (i,o,a1,c1)=>l.length-i) (0,[allD],some ⟨b,0,none⟩,1) ?_ Sub.z Sup.z ?_
 ·exact ⟨by omega,Pieces.one,by simp,by decide,rfl⟩
 rintro ⟨i,o,a1,c1⟩ ⟨i1,i2,i3,i4,i5⟩
 dsimp only [List.cons_append,List.nil_append] at i1 i2 i3 i4 i5 ⊢
 have hol:=i2.len
 repeat first|exact zE|refine wkT ?_|refine zB fun b=>?_|refine zC fun a' c' hc1 hc2=>?_|(apply GJ.a;exact rfl;intro hg)|(apply GJ.o;exact rfl;intro hg)
 refine Br.cases (fun hg=>?_) (fun hg=>?_)
 ·obtain ⟨s,hsj⟩:∃ s,l[i]?=some s:=⟨_,List.getElem?_eq_getElem (by omega)⟩
  have hsi:=hs s (List.mem_of_getElem? hsj)
  have htk:l.take (i+1)=l.take i++[s]:=by rw [List.take_add_one,hsj];rfl
  repeat first|exact zE|refine wkT ?_|refine zB fun b=>?_|refine zC fun a' c' hc1 hc2=>?_|(apply GJ.a;exact rfl;intro hg)|(apply GJ.o;exact rfl;intro hg)
  refine OpOk.loadRow rfl rfl (LdN.atR hr (zCA _ _ _ hsj) (by omega)) rfl ?_
  repeat first|exact zE|refine wkT ?_|refine zB fun b=>?_|refine zC fun a' c' hc1 hc2=>?_|(apply GJ.a;exact rfl;intro hg)|(apply GJ.o;exact rfl;intro hg)
  obtain ⟨q,hq⟩:∃ q,q=b:=⟨_,rfl⟩
  subst hq
  refine LoopOk.at (ι:=Nat × List SetD × Option Addr × Nat) Keep.z (fun (j,nx,a2,c2)=>[(21,.int .i64 (j:Int)),(6,.slice a2 nx.length c2)]) (fun (j,nx,a2,c2)=>.sl a2 nx.length c2 113 4 (zB3 nx)::.blk q 113 (setV s)::.sl a1 o.length c1 113 4 (zB3 o)::own) (fun (j,nx,a2,c2)=>j≤o.length∧nx.length≤c2∧c2≤maxLen∧nx=(o.take j).flatMap (cutD s)) (fun (j,nx,a2,c2)=>o.length-j) (0,[],none,0) ?_ Sub.z Sup.z ?_
  ·exact ⟨by omega,by simp,Nat.zero_le _,rfl⟩
  rintro ⟨j,nx,a2,c2⟩ ⟨j1,j2,j3,j4⟩
  dsimp only [List.cons_append,List.nil_append] at j1 j2 j3 j4 ⊢
  have hnl:=i2.part (j:=j) hsi
  rw [←j4] at hnl
  repeat first|exact zE|refine wkT ?_|refine zB fun b=>?_|refine zC fun a' c' hc1 hc2=>?_|(apply GJ.a;exact rfl;intro hg)|(apply GJ.o;exact rfl;intro hg)
  refine Br.cases (fun hg2=>?_) (fun hg2=>?_)
  ·obtain ⟨p,hpj⟩:∃ p,o[j]?=some p:=⟨_,List.getElem?_eq_getElem (by omega)⟩
   have hpi:=(i2.each p (List.mem_of_getElem? hpj)).1
   have htk2:o.take (j+1)=o.take j++[p]:=by rw [List.take_add_one,hpj];rfl
   have hro:Rds ro (.sl a2 nx.length c2 113 4 (zB3 nx)::.blk q 113 (setV s)::.sl a1 o.length c1 113 4 (zB3 o)::own) a1 o.length c1 4 (zB3 o):=Rds.hasSl i3 i4 (zDr _)
   repeat first|exact zE|refine wkT ?_|refine zB fun b=>?_|refine zC fun a' c' hc1 hc2=>?_|(apply GJ.a;exact rfl;intro hg)|(apply GJ.o;exact rfl;intro hg)
   refine OpOk.loadRow rfl rfl (LdN.atR hro (zCA _ _ _ hpj) (by omega)) rfl ?_
   repeat first|exact zE|refine wkT ?_|refine zB fun b=>?_|refine zC fun a' c' hc1 hc2=>?_|(apply GJ.a;exact rfl;intro hg)|(apply GJ.o;exact rfl;intro hg)
   refine Bs.all ?_
   repeat first|exact zE|refine wkT ?_|refine zB fun b=>?_|refine zC fun a' c' hc1 hc2=>?_|(apply GJ.a;exact rfl;intro hg)|(apply GJ.o;exact rfl;intro hg)
   refine and_ok hpi hsi ?_
   repeat first|exact zE|refine wkT ?_|refine zB fun b=>?_|refine zC fun a' c' hc1 hc2=>?_|(apply GJ.a;exact rfl;intro hg)|(apply GJ.o;exact rfl;intro hg)
   refine zIb hsi ?_
   repeat first|exact zE|refine wkT ?_|refine zB fun b=>?_|refine zC fun a' c' hc1 hc2=>?_|(apply GJ.a;exact rfl;intro hg)|(apply GJ.o;exact rfl;intro hg)
   refine and_ok hpi (SetIn.not s) ?_
   repeat first|exact zE|refine wkT ?_|refine zB fun b=>?_|refine zC fun a' c' hc1 hc2=>?_|(apply GJ.a;exact rfl;intro hg)|(apply GJ.o;exact rfl;intro hg)
   refine QOk.buildK (ps:=[(0,.tmp 27),(1,.tmp 31)]) (setV (p.and s)++setV (p.and s.not)) rfl (by kernel_rfl) ?_
   repeat first|exact zE|refine wkT ?_|refine zB fun b=>?_|refine zC fun a' c' hc1 hc2=>?_|(apply GJ.a;exact rfl;intro hg)|(apply GJ.o;exact rfl;intro hg)
   refine LoopOk.at (ι:=Nat × List SetD × Option Addr × Nat) Keep.z (fun (k,nx,a2,c2)=>[(33,.int .i64 (k:Int)),(6,.slice a2 nx.length c2)]) (fun (k,nx,a2,c2)=>.sl a2 nx.length c2 113 4 (zB3 nx)::.blk q 113 (setV s)::.sl a1 o.length c1 113 4 (zB3 o)::own) (fun (k,nx2,a2,c2)=>k≤2∧nx2.length≤256+k∧nx2.length≤c2∧c2≤maxLen∧nx2=nx++([p.and s,p.and s.not].take k).filter fun z=>z != ⟨0,0,0,0⟩) (fun (k,nx,a2,c2)=>2-k) (0,nx,a2,c2) ?_ Sub.z Sup.z ?_
   ·exact ⟨by omega,by omega,j2,j3,by simp⟩
   rintro ⟨k,nx2,a3,c3⟩ ⟨k1,k2,k3,k4,k5⟩
   dsimp only [List.cons_append,List.nil_append] at k1 k2 k3 k4 k5 ⊢
   repeat first|exact zE|refine wkT ?_|refine zB fun b=>?_|refine zC fun a' c' hc1 hc2=>?_|(apply GJ.a;exact rfl;intro hg)|(apply GJ.o;exact rfl;intro hg)
   refine Br.cases (fun hg3=>?_) (fun hg3=>?_)
   ·obtain ⟨z,hz,hdz,htz⟩:∃ z,SetIn z∧((setV (p.and s)++setV (p.and s.not)).drop (k*4)).take 4=setV z∧[p.and s,p.and s.not].take (k+1)=[p.and s,p.and s.not].take k++[z]:=by
     have:k=0∨k=1:=by omega
     rcases this with rfl|rfl
     ·exact ⟨p.and s,hpi.and,rfl,rfl⟩
     ·exact ⟨p.and s.not,hpi.and,rfl,rfl⟩
    repeat first|exact zE|refine wkT ?_|refine zB fun b=>?_|refine zC fun a' c' hc1 hc2=>?_|(apply GJ.a;exact rfl;intro hg)|(apply GJ.o;exact rfl;intro hg)
    refine SeqOk.pass ?_
    repeat first|exact zE|refine wkT ?_|refine zB fun b=>?_|refine zC fun a' c' hc1 hc2=>?_|(apply GJ.a;exact rfl;intro hg)|(apply GJ.o;exact rfl;intro hg)
    refine OpOk.indexRow (k:=k) (e:=113) (n:=2) (z:=4) rfl rfl (by kernel_rfl) (.inr ⟨4,22,by kernel_rfl⟩) (by kernel_rfl) rfl (by omega) hdz ?_
    repeat first|exact zE|refine wkT ?_|refine zB fun b=>?_|refine zC fun a' c' hc1 hc2=>?_|(apply GJ.a;exact rfl;intro hg)|(apply GJ.o;exact rfl;intro hg)
    refine zK4 ?_
    repeat first|exact zE|refine wkT ?_|refine zB fun b=>?_|refine zC fun a' c' hc1 hc2=>?_|(apply GJ.a;exact rfl;intro hg)|(apply GJ.o;exact rfl;intro hg)
    refine Br.cases (fun he=>?_) (fun he=>?_)
    ·repeat first|exact zE|refine wkT ?_|refine zB fun b=>?_|refine zC fun a' c' hc1 hc2=>?_|(apply GJ.a;exact rfl;intro hg)|(apply GJ.o;exact rfl;intro hg)
     rw [show nx2.length+1=(nx2++[z]).length by simp] at hc1 ⊢
     rw [zKz,←zEA]
     repeat first|exact zE|refine wkT ?_|refine zB fun b=>?_|refine zC fun a' c' hc1 hc2=>?_|(apply GJ.a;exact rfl;intro hg)|(apply GJ.o;exact rfl;intro hg)
     refine Wk.id ⟨(k+1,nx2++[z],a',c'),⟨rfl,?_⟩,?_,Sub.z,Sup.z⟩
     all_goals try dsimp only
     ·refine ⟨by omega,by simp;omega,hc1,hc2,?_⟩
      have hf:[z].filter (fun z=>z != ⟨0,0,0,0⟩)=[z]:=by
       by_cases hzz:z=⟨0,0,0,0⟩
       ·exact absurd hzz (by first|exact he|simpa using he)
       ·simp [hzz]
      rw [k5,htz,List.filter_append,hf,List.append_assoc]
     ·omega
    ·repeat first|exact zE|refine wkT ?_|refine zB fun b=>?_|refine zC fun a' c' hc1 hc2=>?_|(apply GJ.a;exact rfl;intro hg)|(apply GJ.o;exact rfl;intro hg)
     refine Wk.id ⟨(k+1,nx2,a3,c3),⟨rfl,?_⟩,?_,Sub.z,Sup.z⟩
     all_goals try dsimp only
     ·refine ⟨by omega,by omega,k3,k4,?_⟩
      have hf:[z].filter (fun z=>z != ⟨0,0,0,0⟩)=[]:=by
       by_cases hzz:z=⟨0,0,0,0⟩
       ·simp [hzz]
       ·exact absurd hzz (by first|exact he|simpa using he)
      rw [k5,htz,List.filter_append,hf,List.append_nil]
     ·omega
   ·obtain rfl:k=2:=by omega
    have e:nx2=nx++cutD s p:=k5
    repeat first|exact zE|refine wkT ?_|refine zB fun b=>?_|refine zC fun a' c' hc1 hc2=>?_|(apply GJ.a;exact rfl;intro hg)|(apply GJ.o;exact rfl;intro hg)
    refine Wk.id ⟨(j+1,nx2,a3,c3),⟨rfl,?_⟩,?_,Sub.z,Sup.z⟩
    all_goals try dsimp only
    ·refine ⟨by omega,k3,k4,?_⟩
     rw [e,j4,htk2,List.flatMap_append]
     simp
    ·omega
  ·obtain rfl:j=o.length:=by omega
   rw [List.take_length] at j4
   repeat first|exact zE|refine wkT ?_|refine zB fun b=>?_|refine zC fun a' c' hc1 hc2=>?_|(apply GJ.a;exact rfl;intro hg)|(apply GJ.o;exact rfl;intro hg)
   refine Wk.id ⟨(i+1,nx,a2,c2),⟨rfl,?_⟩,?_,Sub.z,Sup.z⟩
   all_goals try dsimp only
   ·exact ⟨by omega,by rw [j4];exact i2.step hsi,j2,j3,by rw [htk,List.foldl_append,←i5,j4];rfl⟩
   ·omega
 ·obtain rfl:i=l.length:=by omega
  rw [List.take_length] at i5
  repeat first|exact zE|refine wkT ?_|refine zB fun b=>?_|refine zC fun a' c' hc1 hc2=>?_|(apply GJ.a;exact rfl;intro hg)|(apply GJ.o;exact rfl;intro hg)
  refine zLR (l:=o) ht (fun q hq=>(i2.each q hq).1) (by omega) (Rds.hasSl i3 i4 (zDr _)) (fun a2 c2 h1 h2=>?_)
  have e:zFc o=zEd l:=by rw [zHD,←i5]
  rw [e] at h1 ⊢
  repeat first|exact zE|refine wkT ?_|refine zB fun b=>?_|refine zC fun a' c' hc1 hc2=>?_|(apply GJ.a;exact rfl;intro hg)|(apply GJ.o;exact rfl;intro hg)
  exact Wk.outS Sup.z (.refl _) (hk _ _ h1 h2)
end
theorem zLV:∀ c:Nat,c<256→zEm c=true→UInt8.ofNat c≠93∧UInt8.ofNat c≠92∧UInt8.ofNat c≠45∧UInt8.ofNat c≠91∧UInt8.ofNat c≠46∧(UInt8.ofNat c).toNat=c:=by decide +kernel
theorem zK3 (s:SetD):∀ (n t j:Nat),t<j→j≤endF s n t→s.has j=true
 | 0,t,j,h1,h2=>by rw [endF] at h2;omega
 | n+1,t,j,h1,h2=>by
   rw [endF] at h2
   split at h2
   ·rename_i h
    by_cases e:j=t+1
    ·rw [e];exact h.2
    ·exact zK3 s n (t+1) j (by omega) h2
   ·omega
theorem zLn {c:Nat} (hc:c<256):∃ x r,zAW c=x::r∧x≠45∧x≠91∧x≠93:=by
 unfold zAW
 by_cases h:zEm c=true
 ·rw [if_pos h]
  have:=zLV c hc h
  exact ⟨_,_,rfl,this.2.2.1,this.2.2.2.1,this.1⟩
 ·rw [if_neg h]
  exact ⟨_,_,rfl,by decide,by decide,by decide⟩
theorem zFx (s:SetD):∀ (n c:Nat),(zBV s n c).length≤9*n
 | 0,c=>by simp [zBV]
 | n+1,c=>by
   rw [zBV]
   split
   ·simp
   ·split
    ·have h1:=zFx s n (endF s 256 c+1)
     have h2:=(zCe c).2
     have h3:=(zCe (endF s 256 c)).2
     rw [List.length_append,List.length_append]
     split
     ·rw [List.length_cons];omega
     ·rw [List.length_nil];omega
    ·have:=zFx s n (c+1);omega
theorem one_has {s:SetD} (h:s.len=1):∃ c,c<256∧(List.range 256).find? s.has=some c∧∀ d,d<256→(s.has d=true↔d=c):=by
 rw [SetD.len_count,List.countP_eq_length_filter] at h
 obtain ⟨x,hx⟩:=List.length_eq_one_iff.1 h
 have hm:∀ d,d<256→(s.has d=true↔d=x):=fun d hd=>by
  have:d∈(List.range 256).filter s.has↔_:=List.mem_filter
  rw [hx] at this
  simp only [List.mem_singleton,List.mem_range] at this
  exact ⟨fun h=>this.2 ⟨hd,h⟩,fun h=>(this.1 h).2⟩
 have hxm:x∈(List.range 256).filter s.has:=by rw [hx];simp
 obtain ⟨h1,h2⟩:=List.mem_filter.1 hxm
 have hx2:=List.mem_range.1 h1
 refine ⟨x,hx2,?_,hm⟩
 rw [List.find?_range_eq_some]
 refine ⟨h2,h1,fun j hj=>?_⟩
 have:=hm j (by omega)
 cases e:s.has j with
 | false=>rfl
 | true=>have:=this.1 e;omega
theorem zDK (s:SetD):(s=allD∧zBC s=[46])∨(∃ c,c<256∧s.len=1∧s≠allD∧(List.range 256).find? s.has=some c∧(∀ d,d<256→(s.has d=true↔d=c))∧zBC s=zAW c)∨(s≠allD∧s.len≠1∧zBC s=91::(zBV s 256 0++[93])):=by
 by_cases h:s=allD
 ·exact .inl ⟨h,by rw [zBC,if_pos h]⟩
 ·by_cases h1:s.len=1
  ·obtain ⟨c,hc,hf,hm⟩:=one_has h1
   exact .inr (.inl ⟨c,hc,h1,h,hf,hm,by rw [zBC,if_neg h,if_pos h1,hf]⟩)
  ·exact .inr (.inr ⟨h,h1,by rw [zBC,if_neg h,if_neg h1]⟩)
inductive RgD where
 | mk (kind:Int) (set:SetD) (kids:List RgD) (min max:Int)
def zeroS:SetD:=⟨0,0,0,0⟩
def RgD.kind:RgD→Int|.mk k _ _ _ _=>k
def RgD.set:RgD→SetD|.mk _ s _ _ _=>s
def RgD.kids:RgD→List RgD|.mk _ _ l _ _=>l
def RgD.min:RgD→Int|.mk _ _ _ a _=>a
def RgD.max:RgD→Int|.mk _ _ _ _ b=>b
def noneD:RgD:=.mk 0 zeroS [] 0 0
def zFS:RgD:=.mk 1 zeroS [] 0 0
def oneD (s:SetD):RgD:=.mk 2 s [] 0 0
def zIC (l:List RgD):RgD:=.mk 3 zeroS l 0 0
def zIH (l:List RgD):RgD:=.mk 4 zeroS l 0 0
def repD (n:RgD) (a b:Int):RgD:=.mk 5 zeroS [n] a b
structure RS where
 p:Nat
 n:Nat
 e:Nat
 f:Nat
deriving DecidableEq
def RS.wrong (s:RS) (e f:Nat):RS:=if s.e=0 then { s with e:=e,f:=f } else s
def RS.adv (s:RS):RS:={ s with p:=s.p+1 }
def zA3 (s:RS):RS:=if 512<s.n+1 then RS.wrong { s with n:=s.n+1 } 2 s.p else { s with n:=s.n+1 }
def zAe (t:List UInt8) (s:RS):Nat:=if s.p<t.length∧s.e=0 then (t[s.p]!).toNat else 0
def eatS (t:List UInt8) (c:Nat) (s:RS):RS:=if zAe t s=c then s.adv else s
def zBc (t:List UInt8) (c:Nat) (s:RS):RS:=if zAe t s=c then s.adv else s.wrong 5 s.p
def zAS (c:Nat):Bool:=decide (48≤c)&&decide (c≤57)
def zAA (t:List UInt8) (a:Nat) (s:RS):Nat × RS :=
 if zAS (zAe t s) then (zAe t s-48,s.adv) else if 97≤zAe t s∧zAe t s≤102 then (zAe t s-87,s.adv) else (0,s.adv.wrong 5 a)
def zFa (c:Nat):Bool:=decide (c≤32)||decide (126<c)||zAS c||(decide (97≤c)&&decide (c≤122))||(decide (65≤c)&&decide (c≤90))
def escD (t:List UInt8) (a:Nat) (s:RS):Nat × RS :=
 if zAe t s=110 then (10,s.adv) else if zAe t s=114 then (13,s.adv) else if zAe t s=116 then (9,s.adv) else if zAe t s=48 then (0,s.adv)
 else if zAe t s=120 then (16*(zAA t a s.adv).1+(zAA t a (zAA t a s.adv).2).1,(zAA t a (zAA t a s.adv).2).2)
 else (zAe t s,if zFa (zAe t s) then s.adv.wrong 5 a else s.adv)
def signsR:List UInt8:=[47,91,93,40,41,123,125,124,42,43,63,94,34,35,45]
def badB (c:Nat):Bool:=decide (c<32)||decide (126<c)||(signsR.map (·.toNat)).contains c
def zAw (t:List UInt8) (s:RS):Nat × RS :=
 if zAe t s=92 then escD t s.p s.adv else if badB (zAe t s) then (0,s.wrong 5 s.p) else (zAe t s,s.adv)
def zDi (x y:Nat):SetD:=(List.range 256).foldl (fun s c=>if x≤c∧c≤y then s.add c else s) zeroS
def zAZ (t:List UInt8) (s:RS):(Nat × Nat) × RS :=
 if zAe t (zAw t s).2=45 then (((zAw t s).1,(zAw t (zAw t s).2.adv).1),(zAw t (zAw t s).2.adv).2) else (((zAw t s).1,(zAw t s).1),(zAw t s).2)
def setL (t:List UInt8) (a:Nat):Nat→SetD→RS→SetD × RS
 | 0,z,s=>(z,s)
 | k+1,z,s=>if s.e=0∧zAe t s≠93 then (if zAe t s=0 then (z,s.wrong 5 s.p) else
   setL t a k (z.or (zDi (zAZ t s).1.1 (zAZ t s).1.2)) (if (zAZ t s).1.2<(zAZ t s).1.1 then (zAZ t s).2.wrong 1 a else (zAZ t s).2)) else (z,s)
def zDm (b:Bool) (z:SetD):SetD:=if b then z.not else z
def setD (t:List UInt8) (a:Nat) (s:RS):SetD × RS :=
 let l:=setL t a (t.length+1) zeroS (eatS t 94 s)
 let z:=zDm (decide (zAe t s=94)) l.1
 (z,if (zBc t 93 l.2).e=0∧z=zeroS then (zBc t 93 l.2).wrong 160 a else zBc t 93 l.2)
def zBx (l:List UInt8):List UInt8:=l.takeWhile fun c=>zAS c.toNat
def zBT (l:List UInt8):Nat:=l.foldl (fun v c=>10*v+(c.toNat-48)) 0
def zDH (l:List UInt8):Bool:=l.isEmpty||(decide (1<l.length)&&decide (l.headD 0=48))
def zAg (t:List UInt8) (s:RS):Nat × RS :=
 let l:=zBx (t.drop s.p)
 let s1:RS:={ s with p:=s.p+l.length }
 if zDH l then (0,s1.wrong 5 s.p) else if 256<zBT l then (0,s1.wrong 1 s.p) else (zBT l,s1)
def zAs (t:List UInt8) (s:RS):(Nat × Int) × RS :=
 let c:=zAg t s
 let h:Int × RS:=if zAe t c.2=44 then (if zAe t c.2.adv=125 then (-1,c.2.adv) else (((zAg t c.2.adv).1:Int),(zAg t c.2.adv).2)) else ((c.1:Int),c.2)
 ((c.1,h.1),if 0≤h.1∧h.1<(c.1:Int) then (zBc t 125 h.2).wrong 1 s.p else zBc t 125 h.2)
def repL (t:List UInt8):Nat→RgD→RS→RgD × RS
 | 0,n,s=>(n,s)
 | k+1,n,s=>if zAe t s=42 then repL t k (repD n 0 (-1)) (zA3 s.adv) else if zAe t s=43 then repL t k (repD n 1 (-1)) (zA3 s.adv)
   else if zAe t s=63 then repL t k (repD n 0 1) (zA3 s.adv)
   else if zAe t s=123 then repL t k (repD n (zAs t s.adv).1.1 (zAs t s.adv).1.2) (zA3 (zAs t s.adv).2) else (n,s)
def ofD (c:Nat):SetD:=zeroS.add c
def zBE (t:List UInt8) (alt:RS→RgD × RS) (s:RS):RgD × RS :=
 if zAe t s=40 then ((alt s.adv).1,zBc t 41 (alt s.adv).2) else if zAe t s=46 then (oneD allD,zA3 s.adv)
 else if zAe t s=91 then (oneD (setD t s.p s.adv).1,zA3 (setD t s.p s.adv).2) else (oneD (ofD (zAw t s).1),zA3 (zAw t s).2)
def zBr (t:List UInt8) (alt:RS→RgD × RS) (s:RS):RgD × RS:=repL t (t.length+1) (zBE t alt s).1 (zBE t alt s).2
def catL (t:List UInt8) (alt:RS→RgD × RS):Nat→List RgD→RS→List RgD × RS
 | 0,l,s=>(l,s)
 | k+1,l,s=>if zAe t s≠0∧zAe t s≠124∧zAe t s≠41 then catL t alt k (l++[(zBr t alt s).1]) (zBr t alt s).2 else (l,s)
def zJz:List RgD × RS→RgD × RS
 | ([],s)=>(zFS,zA3 s)
 | ([x],s)=>(x,s)
 | (l,s)=>(zIC l,zA3 s)
def catD (t:List UInt8) (alt:RS→RgD × RS) (s:RS):RgD × RS:=zJz (catL t alt (t.length+1) [] s)
def altL (t:List UInt8) (alt:RS→RgD × RS):Nat→List RgD→RS→List RgD × RS
 | 0,l,s=>(l,s)
 | k+1,l,s=>if zAe t s=124 then altL t alt k (l++[(catD t alt s.adv).1]) (catD t alt s.adv).2 else (l,s)
def zJ6:List RgD × RS→RgD × RS
 | ([x],s)=>(x,s)
 | (l,s)=>(zIH l,zA3 s)
def altD (t:List UInt8):Nat→RS→RgD × RS
 | 0,s=>(noneD,s.wrong 6 s.p)
 | d+1,s=>zJ6 (altL t (altD t d) (t.length+1) [(catD t (altD t d) s).1] (catD t (altD t d) s).2)
def endS (t:List UInt8) (s:RS):RS:=if s.e=0∧s.p<t.length then s.wrong 5 s.p else s
def zDG (t:List UInt8):RgD × (Nat × Nat) :=
 if 512<t.length then (noneD,(2,0)) else
  if (endS t (altD t 33 ⟨0,0,0,0⟩).2).e=0 then ((altD t 33 ⟨0,0,0,0⟩).1,(0,0)) else (noneD,((endS t (altD t 33 ⟨0,0,0,0⟩).2).e,(endS t (altD t 33 ⟨0,0,0,0⟩).2).f))
def decD:Nat→Nat→List UInt8
 | 0,_=>[]
 | k+1,n=>if n<10 then [UInt8.ofNat (48+n)] else decD k (n / 10)++[UInt8.ofNat (48+n % 10)]
def zDo (n:Nat):List UInt8:=decD 20 n
def zBd (a b:Int):List UInt8 :=
 if a=0∧b<0 then [42] else if a=1∧b<0 then [43] else if a=0∧b=1 then [63] else if b<0 then 123::(zDo a.toNat++[44,125])
 else if a=b then 123::(zDo a.toNat++[125]) else 123::(zDo a.toNat++44::(zDo b.toNat++[125]))
mutual
def zAc:RgD→Bool→List UInt8
 | .mk k s l a b,w =>
   (if w=true∧k≠2∧k≠5 then [40] else [])++((if k=2 then zBC s else if k=3 then zAo l else if k=4 then zAi l true else if k=5 then zDe l++zBd a b else [])
    ++ (if w=true∧k≠2∧k≠5 then [41] else []))
def zAo:List RgD→List UInt8
 | []=>[]
 | x::r=>zAc x true++zAo r
def zAi:List RgD→Bool→List UInt8
 | [],_=>[]
 | x::r,first=>(if first then [] else [124])++(zAc x (decide (x.kind=4))++zAi r false)
def zDe:List RgD→List UInt8
 | []=>[]
 | x::_=>zAc x true
end
def zFb (n:RgD):List UInt8:=zAc n false
def zEL (n:RgD):Nat:=if n.kind=1∨n.kind=2 then (if n.kids≠[] then 5 else if n.kind=2∧n.set=zeroS then 160 else 0) else if n.kind=3∨n.kind=4 then (if n.kids.length<2 then 5 else 0)
 else if n.kind=5 then (if n.kids.length≠1 then 5 else if n.min<0∨256<n.min∨256<n.max∨(0≤n.max∧n.max<n.min) then 1 else 0) else 5
mutual
def zAL:RgD→Int→Nat × Int
 | .mk k s l a b,left=>if left-1<0 then (2,left-1) else if zEL (.mk k s l a b)≠0 then (zEL (.mk k s l a b),left-1) else if k=1∨k=2 then (0,left-1) else zAK l (left-1)
def zAK:List RgD→Int→Nat × Int
 | [],left=>(0,left)
 | x::r,left=>if (zAL x left).1≠0 then zAL x left else zAK r (zAL x left).2
end
mutual
def zAJ:RgD→Nat
 | .mk k s l a b=>if zEL (.mk k s l a b)≠0 then zEL (.mk k s l a b) else zBp l
def zBp:List RgD→Nat
 | []=>0
 | x::r=>if zAJ x≠0 then zAJ x else zBp r
end
end Go.Proofs.YtmaennnkaoollaaGreatDoor
namespace Go.Proofs.YtmaennnkaoollaaGreatDoor
open Go Go.E
end Go.Proofs.YtmaennnkaoollaaGreatDoor
namespace Go.Proofs.YtmaennnkaoollaaGreatDoor
open Go Go.E
mutual
def zAn:RgD→Nat
 | .mk _ _ l _ _=>zAr l+1
def zAr:List RgD→Nat
 | []=>0
 | x::r=>zAn x+zAr r
end
theorem zHE:∀ (n:RgD),1≤zAn n
 | .mk _ _ l _ _=>by rw [zAn];omega
def hexN (c:Nat):Option Nat:=if zAS c then some (c-48) else if 97≤c∧c≤102 then some (c-87) else none
def escN (c:Nat):Option Nat:=if c=110 then some 10 else if c=114 then some 13 else if c=116 then some 9 else if c=48 then some 0 else none
inductive DByte:List UInt8→Nat→Prop where
 | plain {c:UInt8} (h1:c.toNat≠92) (h2:badB c.toNat=false):DByte [c] c.toNat
 | esc {x:UInt8}{v:Nat} (h:escN x.toNat=some v):DByte [92,x] v
 | hex {h l:UInt8}{a b:Nat} (h1:hexN h.toNat=some a) (h2:hexN l.toNat=some b):DByte [92,120,h,l] (16*a+b)
 | sign {x:UInt8} (h:zFa x.toNat=false):DByte [92,x] x.toNat
inductive DPair:List UInt8→Nat→Nat→Prop where
 | one {l:List UInt8}{c:Nat} (h:DByte l c):DPair l c c
 | two {l m:List UInt8}{c d:Nat} (h1:DByte l c) (h2:DByte m d) (h:c≤d):DPair (l++45::m) c d
inductive DItems:List UInt8→SetD→SetD→Prop where
 | nil (z:SetD):DItems [] z z
 | cons {l m:List UInt8}{c d:Nat}{z w:SetD} (h1:DPair l c d) (h2:DItems m (z.or (zDi c d)) w):DItems (l++m) z w
inductive DSet:List UInt8→SetD→Prop where
 | pos {l:List UInt8}{z:SetD} (h:DItems l zeroS z) (h0:z≠zeroS):DSet (l++[93]) z
 | neg {l:List UInt8}{z:SetD} (h:DItems l zeroS z) (h0:z.not≠zeroS):DSet (94::(l++[93])) z.not
structure DNum (l:List UInt8) (n:Nat):Prop where
 digs:∀ c∈l,zAS c.toNat=true
 good:zDH l=false
 val:zBT l=n
 le:n≤256
inductive DCount:List UInt8→Int→Int→Prop where
 | just {l:List UInt8}{n:Nat} (h:DNum l n):DCount (l++[125]) n n
 | up {l:List UInt8}{n:Nat} (h:DNum l n):DCount (l++[44,125]) n (-1)
 | both {l m:List UInt8}{n k:Nat} (h:DNum l n) (h2:DNum m k) (hle:n≤k):DCount (l++44::(m++[125])) n k
inductive DRep:List UInt8→Int→Int→Prop where
 | star:DRep [42] 0 (-1)
 | plus:DRep [43] 1 (-1)
 | opt:DRep [63] 0 1
 | count {l:List UInt8}{a b:Int} (h:DCount l a b):DRep (123::l) a b
section
variable (A:List UInt8→RgD→Prop)
inductive DAtom:List UInt8→RgD→Prop where
 | paren {l:List UInt8}{n:RgD} (h:A l n):DAtom (40::(l++[41])) n
 | any:DAtom [46] (oneD allD)
 | set {l:List UInt8}{z:SetD} (h:DSet l z):DAtom (91::l) (oneD z)
 | byte {l:List UInt8}{c:Nat} (h:DByte l c) (h2:l≠[46]):DAtom l (oneD (ofD c))
inductive DPiece:List UInt8→RgD→Prop where
 | atom {l:List UInt8}{n:RgD} (h:DAtom A l n):DPiece l n
 | rep {l m:List UInt8}{n:RgD}{a b:Int} (h:DPiece l n) (h2:DRep m a b):DPiece (l++m) (repD n a b)
inductive DPieces:List UInt8→List RgD→Prop where
 | nil:DPieces [] []
 | cons {l m:List UInt8}{n:RgD}{r:List RgD} (h1:DPiece A l n) (h2:DPieces m r):DPieces (l++m) (n::r)
def catN':List RgD→RgD
 | []=>zFS
 | [x]=>x
 | l=>zIC l
def altN':List RgD→RgD
 | [x]=>x
 | l=>zIH l
def DCat (l:List UInt8) (n:RgD):Prop:=∃ ns,DPieces A l ns∧n=catN' ns
inductive DCats:List UInt8→List RgD→Prop where
 | one {l:List UInt8}{n:RgD} (h:DCat A l n):DCats l [n]
 | cons {l m:List UInt8}{n:RgD}{r:List RgD} (h1:DCat A l n) (h2:DCats m r):DCats (l++124::m) (n::r)
end
def DAlt:Nat→List UInt8→RgD→Prop
 | 0=>fun _ _=>False
 | k+1=>fun l n=>∃ ns,DCats (DAlt k) l ns∧n=altN' ns
theorem zC1 {s:RS}{e f:Nat} (h:s.e≠0):(s.wrong e f).e=s.e:=by unfold RS.wrong;rw [if_neg h]
theorem zCE {s:RS} (h:s.e≠0):(zA3 s).e=s.e:=by
 unfold zA3
 split
 ·exact zC1 (s:={ s with n:=s.n+1 }) h
 ·rfl
theorem zEo {t:List UInt8}{s:RS} (h:s.e≠0):zAe t s=0:=by unfold zAe;rw [if_neg (fun x=>h x.2)]
theorem zCH {t:List UInt8}{s:RS}{c:Nat} (h:s.e≠0):(zBc t c s).e=s.e:=by
 unfold zBc
 split
 ·rfl
 ·exact zC1 h
theorem zLy {t:List UInt8}{s:RS}{a:Nat} (h:s.e≠0):(zAA t a s).2.e=s.e:=by
 unfold zAA;rw [zEo h];exact zC1 (s:=s.adv) h
theorem zGc {t:List UInt8}{s:RS} (h:s.e≠0):(zAw t s).2.e=s.e:=by
 unfold zAw;rw [zEo h];exact zC1 h
theorem zD3 {s:RS}{e f:Nat} (he:e≠0):(s.wrong e f).e≠0:=by
 unfold RS.wrong
 split
 ·exact he
 ·assumption
theorem eat_keep {t:List UInt8}{s:RS}{c:Nat}:(eatS t c s).e=s.e:=by unfold eatS;split<;>rfl
theorem zHG {t:List UInt8}{a:Nat}:∀ {k:Nat}{z:SetD}{s:RS},s.e≠0→(setL t a k z s).2.e=s.e
 | 0,z,s,h=>rfl
 | k+1,z,s,h=>by rw [setL,if_neg (fun x=>h x.1)]
theorem zBu {t:List UInt8}{k:Nat}{n:RgD}{s:RS} (h:s.e≠0):repL t k n s=(n,s):=by
 cases k with
 | zero=>rfl
 | succ k=>rw [repL,zEo h];rfl
theorem zE2 {t:List UInt8}{alt:RS→RgD × RS}{k:Nat}{l:List RgD}{s:RS} (h:s.e≠0):catL t alt k l s=(l,s):=by
 cases k with
 | zero=>rfl
 | succ k=>rw [catL,zEo h];rfl
theorem zCM {t:List UInt8}{alt:RS→RgD × RS}{k:Nat}{l:List RgD}{s:RS} (h:s.e≠0):altL t alt k l s=(l,s):=by
 cases k with
 | zero=>rfl
 | succ k=>rw [altL,zEo h];rfl
theorem zEP {l:List RgD}{s:RS} (h:s.e≠0):(zJz (l,s)).2.e=s.e:=by
 unfold zJz
 split
 ·rename_i e;cases e;exact zCE h
 ·rename_i e;cases e;rfl
 ·rename_i e;cases e;exact zCE h
theorem zEQ {l:List RgD}{s:RS} (h:s.e≠0):(zJ6 (l,s)).2.e=s.e:=by
 unfold zJ6
 split
 ·rename_i e;cases e;rfl
 ·rename_i e;cases e;exact zCE h
theorem zHp {t:List UInt8}{s:RS} (h:s.e≠0):endS t s=s:=by unfold endS;rw [if_neg (fun x=>h x.1)]
theorem zAl {t r:List UInt8}{s:RS}{c:UInt8} (h0:s.e=0) (h:t.drop s.p=c::r):zAe t s=c.toNat:=by
 have hl:s.p<t.length:=by
  rcases Nat.lt_or_ge s.p t.length with h2|h2
  ·exact h2
  ·rw [List.drop_eq_nil_of_le h2] at h;cases h
 have hg:t[s.p]?=some c:=by rw [←List.head?_drop,h];rfl
 unfold zAe
 rw [if_pos ⟨hl,h0⟩,List.getElem!_eq_getElem?_getD,hg];rfl
theorem zEn {t:List UInt8}{s:RS} (h:t.drop s.p=[]):zAe t s=0:=by
 unfold zAe;rw [if_neg (fun x=>by have:=List.drop_eq_nil_iff.1 h;omega)]
theorem zAU {t r:List UInt8}{p:Nat}{c:UInt8} (h:t.drop p=c::r):t.drop (p+1)=r:=by
 rw [←List.drop_drop,h];rfl
theorem zAQ {t l r:List UInt8}{p:Nat} (h:t.drop p=l++r):t.drop (p+l.length)=r:=by
 rw [←List.drop_drop,h];simp
theorem zDV {t l r:List UInt8}{p:Nat} (h:t.drop p=l++r) (hp:l≠[]∨p≤t.length):p+l.length≤t.length:=by
 have:=congrArg List.length h
 rw [List.length_drop,List.length_append] at this
 rcases hp with hp|hp
 ·have:0<l.length:=List.length_pos_iff.2 hp
  omega
 ·omega
def RS.at' (s:RS) (k n:Nat):RS:=⟨s.p+k,s.n+n,0,s.f⟩
theorem zBS {s:RS} (h:s.e=0):s.adv=s.at' 1 0:=by unfold RS.adv RS.at';rw [h];rfl
theorem zDc (s:RS) (a b c d:Nat):(s.at' a b).at' c d=s.at' (a+c) (b+d):=by simp only [RS.at',Nat.add_assoc]
theorem zJ5 {s:RS} (h:s.e=0):s.at' 0 0=s:=by obtain ⟨p,n,e,f⟩:=s;cases h;rfl
end Go.Proofs.YtmaennnkaoollaaGreatDoor
namespace Go.Proofs.YtmaennnkaoollaaGreatDoor
open Go Go.E
theorem at_p (s:RS) (k n:Nat):(s.at' k n).p=s.p+k:=rfl
theorem at_n (s:RS) (k n:Nat):(s.at' k n).n=s.n+n:=rfl
theorem zE5 (s:RS) (k n:Nat):(s.at' k n).adv=s.at' (k+1) n:=by rw [zBS rfl,zDc];rfl
theorem esc_bad {c:Nat} (h:zFa c=false):¬c=110∧¬c=114∧¬c=116∧¬c=48∧¬c=120:=by
 simp [zFa,zAS] at h;omega
theorem zK7 {t r:List UInt8}{s:RS}{c:UInt8}{a v:Nat} (h0:s.e=0) (h:t.drop s.p=c::r) (hv:hexN c.toNat=some v):zAA t a s=(v,s.at' 1 0):=by
 unfold zAA
 rw [zAl h0 h,←zBS h0]
 unfold hexN at hv
 split at hv
 ·rename_i h1;cases hv;rw [if_pos h1]
 ·rename_i h1
  split at hv
  ·rename_i h2;cases hv;rw [if_neg h1,if_pos h2]
  ·cases hv
theorem zHz {t r l:List UInt8}{s:RS}{c:Nat} (hb:DByte l c) (h0:s.e=0) (h:t.drop s.p=l++r):zAw t s=(c,s.at' l.length 0):=by
 cases hb with
 | @plain c h1 h2 =>
   unfold zAw
   rw [zAl h0 h,if_neg h1,h2,zBS h0];rfl
 | @esc x v hv =>
   have h1:t.drop s.adv.p=x::r:=zAU h
   unfold zAw
   rw [zAl h0 h,if_pos (by decide)]
   unfold escD
   rw [zAl (s:=s.adv) h0 h1]
   have e2:s.adv.adv=s.at' 2 0:=by rw [zBS h0,zE5]
   rw [e2]
   unfold escN at hv
   split at hv
   ·rename_i e;cases hv;rw [if_pos e];rfl
   ·rename_i e
    rw [if_neg e]
    split at hv
    ·rename_i e;cases hv;rw [if_pos e];rfl
    ·rename_i e
     rw [if_neg e]
     split at hv
     ·rename_i e;cases hv;rw [if_pos e];rfl
     ·rename_i e
      rw [if_neg e]
      split at hv
      ·rename_i e;cases hv;rw [if_pos e];rfl
      ·cases hv
 | @hex x y a b hx hy =>
   have h1:t.drop s.adv.p=120::(x::y::r):=zAU h
   have h2:t.drop s.adv.adv.p=x::(y::r):=zAU (p:=s.adv.p) h1
   have h3:t.drop (s.adv.adv.at' 1 0).p=y::r:=zAU (p:=s.adv.adv.p) h2
   unfold zAw
   rw [zAl h0 h,if_pos (by decide)]
   unfold escD
   rw [zAl (s:=s.adv) h0 h1,if_neg (by decide),if_neg (by decide),if_neg (by decide),if_neg (by decide),if_pos (by decide),zK7 (s:=s.adv.adv) h0 h2 hx,zK7 rfl h3 hy,zDc,zBS h0,zE5,zDc]
   rfl
 | @sign x hx =>
   have h1:t.drop s.adv.p=x::r:=zAU h
   obtain ⟨e1,e2,e3,e4,e5⟩:=esc_bad hx
   unfold zAw
   rw [zAl h0 h,if_pos (by decide)]
   unfold escD
   rw [zAl (s:=s.adv) h0 h1,if_neg e1,if_neg e2,if_neg e3,if_neg e4,if_neg e5,hx,zBS h0,zE5];rfl
def zLr (c:Nat):Bool:=decide (c=92)||!badB c
def zJK (c:Nat):Bool:=decide (c=40)||decide (c=46)||decide (c=91)||zLr c
theorem zFo:∀ c:Nat,c<256→zLr c=true→c≠0∧c≠45∧c≠93∧c≠94∧c≠40∧c≠91:=by decide +kernel
theorem zHC:∀ c:Nat,c<256→zJK c=true→c≠0∧c≠124∧c≠41∧c≠42∧c≠43∧c≠63∧c≠123:=by decide +kernel
theorem DByte.head {l:List UInt8}{c:Nat} (h:DByte l c):∃ x m,l=x::m∧zLr x.toNat=true:=by
 cases h with
 | plain h1 h2=>exact ⟨_,_,rfl,by simp [zLr,h2]⟩
 | esc h=>exact ⟨_,_,rfl,by decide⟩
 | hex h1 h2=>exact ⟨_,_,rfl,by decide⟩
 | sign h=>exact ⟨_,_,rfl,by decide⟩
theorem DPair.head {l:List UInt8}{c d:Nat} (h:DPair l c d):∃ x m,l=x::m∧zLr x.toNat=true:=by
 cases h with
 | one h=>exact h.head
 | two h1 h2 h=>obtain ⟨x,m,rfl,hx⟩:=h1.head;exact ⟨x,_,rfl,hx⟩
theorem DItems.head {l:List UInt8}{z w:SetD} (h:DItems l z w):l=[]∧z=w∨∃ x m,l=x::m∧zLr x.toNat=true:=by
 cases h with
 | nil=>exact .inl ⟨rfl,rfl⟩
 | cons h1 h2=>obtain ⟨x,m,rfl,hx⟩:=h1.head;exact .inr ⟨x,_,rfl,hx⟩
theorem pair_at {t r l:List UInt8}{s:RS}{c d:Nat} (hb:DPair l c d) (h0:s.e=0) (h:t.drop s.p=l++r) (hr:∀ x q,r=x::q→x.toNat≠45):zAZ t s=((c,d),s.at' l.length 0)∧c≤d:=by
 cases hb with
 | one hb =>
   refine ⟨?_,Nat.le_refl _⟩
   unfold zAZ
   rw [zHz hb h0 h]
   have h1:t.drop (s.at' l.length 0).p=r:=zAQ h
   dsimp only
   cases r with
   | nil=>rw [zEn h1];rfl
   | cons x q=>rw [zAl rfl h1,if_neg (hr x q rfl)]
 | @two l m _ _ hb hb2 hle =>
   refine ⟨?_,hle⟩
   rw [List.append_assoc] at h
   have h1:t.drop (s.at' l.length 0).p=45::(m++r):=zAQ h
   have h2:t.drop (s.at' l.length 0).adv.p=m++r:=zAU h1
   unfold zAZ
   rw [zHz hb h0 h]
   dsimp only
   rw [zAl rfl h1,if_pos (by decide),zHz hb2 rfl h2]
   dsimp only
   rw [zE5,zDc]
   simp only [List.length_append,List.length_cons,Nat.add_assoc,Nat.add_comm 1]
theorem lenPos {x:UInt8}{l m:List UInt8} (h:l=x::m):1≤l.length:=by subst h;simp
theorem zMd {t:List UInt8}{a:Nat}{l:List UInt8}{z w:SetD} (hi:DItems l z w):∀ {k:Nat}{s:RS}{r:List UInt8},l.length+1≤k→s.e=0→t.drop s.p=l++93::r→setL t a k z s=(w,s.at' l.length 0):=by
 induction hi with
 | nil z =>
   intro k s r hk h0 h
   obtain ⟨k,rfl⟩:∃ j,k=j+1:=⟨k-1,by omega⟩
   rw [setL,zAl h0 h,if_neg (fun x=>x.2 (by decide)),List.length_nil,zJ5 h0]
 | @cons l m c d z w hp hi ih =>
   intro k s r hk h0 h
   obtain ⟨k,rfl⟩:∃ j,k=j+1:=⟨k-1,by omega⟩
   obtain ⟨x,q,hx,hh⟩:=hp.head
   have hs:=zFo _ x.toNat_lt hh
   rw [List.append_assoc] at h
   have hpk:zAe t s=x.toNat:=by subst hx;exact zAl h0 h
   obtain ⟨e1,e2⟩:=pair_at hp h0 h (fun y q2 e=>by
    rcases hi.head with ⟨rfl,_⟩|⟨y2,m2,rfl,hy⟩
    ·simp at e;rw [←e.1];decide
    ·simp at e;rw [←e.1];exact (zFo _ y2.toNat_lt hy).2.1)
   rw [setL,hpk,if_pos ⟨h0,hs.2.2.1⟩,if_neg hs.1,e1]
   dsimp only
   rw [if_neg (by omega),ih (by rw [List.length_append] at hk;have:=lenPos hx;omega) rfl (zAQ h),zDc,List.length_append]
theorem set_at {t:List UInt8}{a:Nat}{l r:List UInt8}{z:SetD}{s:RS} (hz:DSet l z) (h0:s.e=0) (h:t.drop s.p=l++r):setD t a s=(z,s.at' l.length 0):=by
 cases hz with
 | @pos l z hi hn =>
   have hlen:=zDV h (.inl (by simp))
   rw [List.append_assoc] at h
   have hpk:zAe t s≠94:=by
    rcases hi.head with ⟨rfl,_⟩|⟨x,m,rfl,hx⟩
    ·rw [zAl h0 h];decide
    ·rw [zAl h0 h];exact (zFo _ x.toNat_lt hx).2.2.2.1
   have he:eatS t 94 s=s:=by unfold eatS;rw [if_neg hpk]
   have hL:=zMd (a:=a) hi (k:=t.length+1) (by rw [List.length_append] at hlen;omega) h0 h
   have hm:zBc t 93 (s.at' l.length 0)=s.at' (l++[93]).length 0:=by
    have h1:t.drop (s.at' l.length 0).p=93::r:=zAQ h
    unfold zBc
    rw [zAl rfl h1,if_pos (by decide),zE5,List.length_append];rfl
   unfold setD
   dsimp only
   rw [he,hL]
   dsimp only
   rw [hm,decide_eq_false hpk]
   show (z,if (s.at' (l++[93]).length 0).e=0∧z=zeroS then (s.at' (l++[93]).length 0).wrong 160 a else s.at' (l++[93]).length 0)=_
   rw [if_neg (fun x=>hn x.2)]
 | @neg l z hi hn =>
   have hlen:=zDV h (.inl (by simp))
   have h1:t.drop s.adv.p=l++93::r:=by rw [show l++93::r=l++[93]++r by simp];exact zAU h
   have hpk:zAe t s=94:=zAl h0 h
   have he:eatS t 94 s=s.at' 1 0:=by unfold eatS;rw [if_pos hpk,zBS h0]
   have hL:=zMd (a:=a) hi (k:=t.length+1) (s:=s.at' 1 0) (by rw [List.length_cons,List.length_append] at hlen;omega) rfl h1
   have hm:zBc t 93 (s.at' (1+l.length) 0)=s.at' (94::(l++[93])).length 0:=by
    have h2:t.drop (s.at' (1+l.length) 0).p=93::r:=by rw [at_p,←Nat.add_assoc];exact zAQ (p:=s.p+1) h1
    unfold zBc
    rw [zAl rfl h2,if_pos (by decide),zE5]
    congr 1
    simp;omega
   unfold setD
   dsimp only
   rw [he,hL]
   dsimp only
   rw [zDc,hm,decide_eq_true hpk]
   show (z.not,if (s.at' (94::(l++[93])).length 0).e=0∧z.not=zeroS then (s.at' (94::(l++[93])).length 0).wrong 160 a else s.at' (94::(l++[93])).length 0)=_
   rw [if_neg (fun x=>hn x.2)]
theorem zJI:∀ {l r:List UInt8},(∀ c∈l,zAS c.toNat=true)→(∀ x q,r=x::q→zAS x.toNat=false)→zBx (l++r)=l
 | [],[],_,_=>rfl
 | [],x::q,_,h=>by unfold zBx;rw [List.nil_append,List.takeWhile_cons,h x q rfl];rfl
 | c::l,r,h,h2=>by
   have:=zJI (l:=l) (r:=r) (fun x hx=>h x (by simp [hx])) h2
   unfold zBx at this ⊢
   rw [List.cons_append,List.takeWhile_cons,h c (by simp),if_pos rfl,this]
theorem zFs {t l r:List UInt8}{n:Nat}{s:RS} (hn:DNum l n) (h0:s.e=0) (h:t.drop s.p=l++r) (hr:∀ x q,r=x::q→zAS x.toNat=false):zAg t s=(n,s.at' l.length 0):=by
 unfold zAg
 dsimp only
 rw [h,zJI hn.digs hr,hn.good,hn.val,if_neg (by decide),if_neg (by have:=hn.le;omega)]
 obtain ⟨p,n,e,f⟩:=s
 cases h0;rfl
theorem zHd {t r:List UInt8}{s:RS}{c:UInt8} (h0:s.e=0) (h:t.drop s.p=c::r):zBc t c.toNat s=s.at' 1 0:=by
 unfold zBc;rw [zAl h0 h,if_pos rfl,zBS h0]
theorem zNF {t l r:List UInt8}{a b:Int}{s:RS} (hc:DCount l a b) (h0:s.e=0) (h:t.drop s.p=l++r):zAs t s=((a.toNat,b),s.at' l.length 0)∧0≤a:=by
 cases hc with
 | @just l n hn =>
   rw [List.append_assoc] at h
   have h1:t.drop (s.at' l.length 0).p=125::r:=zAQ h
   have hm:=zHd (c:=125) rfl h1
   refine ⟨?_,Int.natCast_nonneg _⟩
   unfold zAs
   dsimp only
   rw [zFs hn h0 h (fun x q e=>by simp at e;rw [←e.1];decide)]
   dsimp only
   rw [zAl rfl h1,if_neg (by decide)]
   dsimp only
   rw [show zBc t 125 (s.at' l.length 0)=_ from hm,zDc,if_neg (by omega),List.length_append]
   rfl
 | @up l n hn =>
   rw [List.append_assoc] at h
   have h1:t.drop (s.at' l.length 0).p=44::125::r:=zAQ h
   have h2:t.drop (s.at' (l.length+1) 0).p=125::r:=zAU h1
   have hm:=zHd (c:=125) rfl h2
   refine ⟨?_,Int.natCast_nonneg _⟩
   unfold zAs
   dsimp only
   rw [zFs hn h0 h (fun x q e=>by simp at e;rw [←e.1];decide)]
   dsimp only
   rw [zAl rfl h1,if_pos (by decide),zE5,zAl rfl h2,if_pos (by decide)]
   dsimp only
   rw [show zBc t 125 (s.at' (l.length+1) 0)=_ from hm,zDc,if_neg (by omega),List.length_append]
   rfl
 | @both l m n k hn hk hle =>
   rw [List.append_assoc] at h
   have h1:t.drop (s.at' l.length 0).p=44::(m++[125]++r):=zAQ h
   have h2:t.drop (s.at' (l.length+1) 0).p=m++125::r:=by rw [show m++125::r=m++[125]++r by simp];exact zAU h1
   have h3:t.drop (s.at' (l.length+1+m.length) 0).p=125::r:=by rw [at_p,←Nat.add_assoc];exact zAQ h2
   have hm:=zHd (c:=125) rfl h3
   have hp:zAe t (s.at' (l.length+1) 0)≠125:=by
    cases m with
    | nil=>exact absurd hk.good (by decide)
    | cons y m =>
      rw [zAl rfl h2]
      have:=hk.digs y (by simp)
      simp [zAS] at this;omega
   refine ⟨?_,Int.natCast_nonneg _⟩
   unfold zAs
   dsimp only
   rw [zFs hn h0 h (fun x q e=>by simp at e;rw [←e.1];decide)]
   dsimp only
   rw [zAl rfl h1,if_pos (by decide),zE5,if_neg hp,zFs hk rfl h2 (fun x q e=>by simp at e;rw [←e.1];decide)]
   dsimp only
   rw [zDc,show zBc t 125 (s.at' (l.length+1+m.length) 0)=_ from hm,zDc,if_neg (by omega)]
   simp only [List.length_append,List.length_cons,List.length_nil,Int.toNat_natCast]
   congr 2
   omega
theorem rep_at {t m r:List UInt8}{a b:Int}{s:RS}{n:RgD}{k:Nat} (hm:DRep m a b) (h0:s.e=0) (h:t.drop s.p=m++r):repL t (k+1) n s=repL t k (repD n a b) (zA3 (s.at' m.length 0)):=by
 cases hm with
 | star=>rw [repL,zAl h0 h,if_pos (by decide),zBS h0];rfl
 | plus=>rw [repL,zAl h0 h,if_neg (by decide),if_pos (by decide),zBS h0];rfl
 | opt=>rw [repL,zAl h0 h,if_neg (by decide),if_neg (by decide),if_pos (by decide),zBS h0];rfl
 | @count l a b hc =>
   have h1:t.drop (s.at' 1 0).p=l++r:=zAU h
   obtain ⟨e1,e2⟩:=zNF hc rfl h1
   rw [repL,zAl h0 h,if_neg (by decide),if_neg (by decide),if_neg (by decide),if_pos (by decide),zBS h0,e1]
   dsimp only
   rw [zDc,Int.toNat_of_nonneg e2,List.length_cons,Nat.add_comm 1]
theorem DRep.ne {m:List UInt8}{a b:Int} (h:DRep m a b):1≤m.length:=by cases h<;>simp
theorem rep_stop {t r:List UInt8}{s:RS}{n:RgD}{k:Nat} (h0:s.e=0) (h:t.drop s.p=r) (hr:∀ x q,r=x::q→x.toNat≠42∧x.toNat≠43∧x.toNat≠63∧x.toNat≠123):repL t k n s=(n,s):=by
 cases k with
 | zero=>rfl
 | succ k =>
   cases r with
   | nil=>rw [repL,zEn h];rfl
   | cons x q =>
     obtain ⟨h1,h2,h3,h4⟩:=hr x q rfl
     rw [repL,zAl h0 h,if_neg h1,if_neg h2,if_neg h3,if_neg h4]
theorem node_at {s:RS}{k n:Nat} (h:s.n+n+1≤512):zA3 (s.at' k n)=s.at' k (n+1):=by
 unfold zA3
 rw [if_neg (by rw [at_n];omega)];rfl
theorem zML {s:RS}{k n:Nat} (h:512<s.n+n+1):(zA3 (s.at' k n)).e=2:=by
 unfold zA3
 rw [if_pos (by rw [at_n];omega)];rfl
def Out {α:Type} (F:Prop) (s:RS) (len sz:Nat) (v:α) (x:α × RS):Prop:=(x=(v,s.at' len sz)∧s.n+sz≤512)∨(x.2.e=2∧512<s.n+sz)∨(x.2.e=6∧F)
theorem Out.node {α β:Type}{F:Prop}{s:RS}{len sz:Nat}{v:α}{x:α × RS}{f:α→β} (h:Out F s len sz v x):Out F s len (sz+1) (f v) (f x.1,zA3 x.2):=by
 rcases h with ⟨rfl,h⟩|⟨h1,h2⟩|⟨h1,h2⟩
 ·by_cases hn:s.n+sz+1≤512
  ·exact .inl ⟨by dsimp only;rw [node_at hn],hn⟩
  ·exact .inr (.inl ⟨zML (by omega),by omega⟩)
 ·exact .inr (.inl ⟨by dsimp only;rw [zCE (by omega),h1],by omega⟩)
 ·exact .inr (.inr ⟨by dsimp only;rw [zCE (by omega),h1],h2⟩)
theorem Out.start {α:Type}{F:Prop}{s:RS}{len:Nat}{v:α} (h:s.n≤512):Out F s len 0 v (v,s.at' len 0):=.inl ⟨rfl,h⟩
structure zJB (t:List UInt8) (alt:RS→RgD × RS) (A:List UInt8→RgD→Prop) (F:Prop):Prop where
 run:∀ {l r:List UInt8}{n:RgD}{s:RS},A l n→s.e=0→s.n≤512→t.drop s.p=l++r→s.p≤t.length→(∀ x q,r=x::q→x.toNat=41)→Out F s l.length (zAn n) n (alt s)
 keep:∀ {s:RS},s.e≠0→(alt s).2.e=s.e
section
variable {t:List UInt8}{alt:RS→RgD × RS}{A:List UInt8→RgD→Prop}{F:Prop}
theorem atom_at (ha:zJB t alt A F) {l r:List UInt8}{n:RgD}{s:RS} (hd:DAtom A l n) (h0:s.e=0) (hn:s.n≤512) (h:t.drop s.p=l++r):Out F s l.length (zAn n) n (zBE t alt s):=by
 cases hd with
 | @paren l n hl =>
   have h1:t.drop s.adv.p=l++41::r:=by rw [show l++41::r=l++[41]++r by simp];exact zAU h
   have hO:=ha.run hl (s:=s.adv) (r:=41::r) h0 hn h1 (zDV (l:=[40]) (r:=l++[41]++r) h (.inl (by simp))) (fun x q e=>by cases e;rfl)
   unfold zBE
   rw [zAl h0 h,if_pos (by decide)]
   rcases hO with ⟨e,h2⟩|⟨h2,h3⟩|⟨h2,h3⟩
   ·refine .inl ⟨?_,h2⟩
    rw [e]
    dsimp only
    have h4:t.drop (s.adv.at' l.length (zAn n)).p=41::r:=zAQ h1
    rw [show zBc t 41 (s.adv.at' l.length (zAn n))=_ from zHd (c:=41) rfl h4,zDc,zBS h0,zDc,List.length_cons,List.length_append,List.length_singleton]
    congr 2
    ·omega
    ·omega
   ·exact .inr (.inl ⟨by dsimp only;rw [zCH (by omega),h2],h3⟩)
   ·exact .inr (.inr ⟨by dsimp only;rw [zCH (by omega),h2],h3⟩)
 | any =>
   unfold zBE
   rw [zAl h0 h,if_neg (by decide),if_pos (by decide),zBS h0]
   exact (Out.start (v:=()) hn).node (f:=fun _=>oneD allD)
 | @set l z hz =>
   unfold zBE
   rw [zAl h0 h,if_neg (by decide),if_neg (by decide),if_pos (by decide),zBS h0,set_at (s:=s.at' 1 0) hz rfl (zAU h),zDc]
   have:=(Out.start (F:=F) (s:=s) (len:=1+l.length) (v:=()) hn).node (f:=fun _=>oneD z)
   rw [List.length_cons,Nat.add_comm];exact this
 | @byte l c hb hne =>
   obtain ⟨x,m,hx,hh⟩:=hb.head
   have hs:=zFo _ x.toNat_lt hh
   have hpk:zAe t s=x.toNat:=by subst hx;exact zAl h0 h
   have h46:x.toNat≠46:=by
    intro e
    apply hne
    cases hb with
    | plain=>cases hx;rw [UInt8.toNat_inj.1 (e.trans (show 46=(46:UInt8).toNat from rfl))]
    | esc=>cases hx;cases e
    | hex=>cases hx;cases e
    | sign=>cases hx;cases e
   unfold zBE
   rw [hpk,if_neg hs.2.2.2.2.1,if_neg h46,if_neg hs.2.2.2.2.2,zHz hb h0 h]
   exact (Out.start (v:=()) hn).node (f:=fun _=>oneD (ofD c))
theorem DAtom.head {l:List UInt8}{n:RgD} (h:DAtom A l n):∃ x m,l=x::m∧zJK x.toNat=true:=by
 cases h with
 | paren=>exact ⟨_,_,rfl,by decide⟩
 | any=>exact ⟨_,_,rfl,by decide⟩
 | set=>exact ⟨_,_,rfl,by decide⟩
 | byte hb=>obtain ⟨x,m,hx,hh⟩:=hb.head;exact ⟨x,m,hx,by simp [zJK,hh]⟩
theorem DPiece.head {l:List UInt8}{n:RgD} (h:DPiece A l n):∃ x m,l=x::m∧zJK x.toNat=true:=by
 induction h with
 | atom h=>exact h.head
 | rep h1 h2 ih=>obtain ⟨x,m,rfl,hx⟩:=ih;exact ⟨x,_,rfl,hx⟩
theorem zFv (n:RgD) (a b:Int):zAn (repD n a b)=zAn n+1:=by rw [repD,zAn,zAr,zAr]
theorem zM4 (ha:zJB t alt A F) {l:List UInt8}{n:RgD} (hd:DPiece A l n):∀ {r:List UInt8}{s:RS},s.e=0→s.n≤512→t.drop s.p=l++r →
  ∃ k x,t.length+1≤k+l.length∧zBr t alt s=repL t k x.1 x.2∧Out F s l.length (zAn n) n x:=by
 induction hd with
 | atom h1 =>
   intro r s h0 hn h
   exact ⟨t.length+1,zBE t alt s,by omega,rfl,atom_at ha h1 h0 hn h⟩
 | @rep l m n a b h1 h2 ih =>
   intro r s h0 hn h
   have hle:=zDV h (.inl (by obtain ⟨x,q,e,_⟩:=h1.head;simp [e]))
   rw [List.append_assoc] at h
   rw [List.length_append] at hle
   obtain ⟨k,x,hk,e,hO⟩:=ih h0 hn h
   have hne:=h2.ne
   obtain ⟨k,rfl⟩:∃ j,k=j+1:=⟨k-1,by omega⟩
   rcases hO with ⟨rfl,hs⟩|⟨h3,h4⟩|⟨h3,h4⟩
   ·have h5:t.drop (s.at' l.length (zAn n)).p=m++r:=zAQ h
    refine ⟨k,(repD n a b,zA3 (s.at' (l.length+m.length) (zAn n))),by rw [List.length_append];omega,by rw [e];dsimp only;rw [rep_at h2 rfl h5,zDc,Nat.add_zero],?_⟩
    rw [zFv,List.length_append]
    exact (show Out F s (l.length+m.length) (zAn n) n (n,s.at' (l.length+m.length) (zAn n)) from .inl ⟨rfl,hs⟩).node (f:=fun n=>repD n a b)
   ·exact ⟨k,x,by rw [List.length_append];omega,by rw [e,zBu (by omega),zBu (by omega)],.inr (.inl ⟨h3,by rw [zFv];omega⟩)⟩
   ·exact ⟨k,x,by rw [List.length_append];omega,by rw [e,zBu (by omega),zBu (by omega)],.inr (.inr ⟨h3,h4⟩)⟩
theorem piece_at (ha:zJB t alt A F) {l r:List UInt8}{n:RgD}{s:RS} (hd:DPiece A l n) (h0:s.e=0) (hn:s.n≤512) (h:t.drop s.p=l++r)
  (hr:∀ x q,r=x::q→x.toNat≠42∧x.toNat≠43∧x.toNat≠63∧x.toNat≠123):Out F s l.length (zAn n) n (zBr t alt s):=by
 obtain ⟨k,x,hk,e,hO⟩:=zM4 ha hd h0 hn h
 rw [e]
 rcases hO with ⟨rfl,hs⟩|⟨h3,h4⟩|⟨h3,h4⟩
 ·exact .inl ⟨rep_stop rfl (zAQ h) hr,hs⟩
 ·exact .inr (.inl ⟨by rw [zBu (by omega)];exact h3,h4⟩)
 ·exact .inr (.inr ⟨by rw [zBu (by omega)];exact h3,h4⟩)
def EndC (r:List UInt8):Prop:=∀ x q,r=x::q→x.toNat=124∨x.toNat=41
theorem Out.seq {α β:Type}{F:Prop}{s:RS}{len sz len2 sz2:Nat}{v:α}{w:β}{x:α × RS}{y:β × RS} (h:Out F s len sz v x) (hk:x.2.e≠0→y.2.e=x.2.e) (hy:x=(v,s.at' len sz)→s.n+sz≤512→Out F (s.at' len sz) len2 sz2 w y):Out F s (len+len2) (sz+sz2) w y:=by
 rcases h with ⟨e,hs⟩|⟨h3,h4⟩|⟨h3,h4⟩
 ·have:=hy e hs
  unfold Out at this ⊢
  rw [zDc,at_n] at this
  simpa [Nat.add_assoc] using this
 ·exact .inr (.inl ⟨by rw [hk (by omega),h3],by omega⟩)
 ·exact .inr (.inr ⟨by rw [hk (by omega),h3],h4⟩)
theorem catL_at (ha:zJB t alt A F) {l:List UInt8}{ns:List RgD} (hd:DPieces A l ns):∀ {k:Nat}{acc:List RgD}{s:RS}{r:List UInt8},l.length+1≤k→s.e=0→s.n≤512→t.drop s.p=l++r→EndC r→Out F s l.length (zAr ns) (acc++ns) (catL t alt k acc s):=by
 induction hd with
 | nil =>
   intro k acc s r hk h0 hn h hr
   obtain ⟨k,rfl⟩:∃ j,k=j+1:=⟨k-1,by omega⟩
   have:catL t alt (k+1) acc s=(acc,s):=by
    rw [catL]
    rw [List.nil_append] at h
    cases r with
    | nil=>rw [zEn h];rfl
    | cons x q =>
      rw [zAl h0 h]
      rcases hr x q rfl with e|e<;>rw [e]<;>rfl
   rw [this,List.append_nil]
   exact .inl ⟨by rw [List.length_nil,zAr,zJ5 h0],by rw [zAr];omega⟩
 | @cons l m n ns h1 h2 ih =>
   intro k acc s r hk h0 hn h hr
   obtain ⟨k,rfl⟩:∃ j,k=j+1:=⟨k-1,by omega⟩
   obtain ⟨x,q,hx,hh⟩:=h1.head
   have hs:=zHC _ x.toNat_lt hh
   have hl:=lenPos hx
   rw [List.append_assoc] at h
   rw [List.length_append] at hk
   have hpk:zAe t s=x.toNat:=by subst hx;exact zAl h0 h
   have hO:=piece_at ha h1 h0 hn h (fun y q2 e=>by
    cases h2 with
    | nil =>
      rw [List.nil_append] at e
      rcases hr y q2 e with e|e<;>rw [e]<;>decide
    | cons h3 h4 =>
      obtain ⟨y2,m2,rfl,hy⟩:=h3.head
      simp at e;rw [←e.1];have:=zHC _ y2.toNat_lt hy
      exact ⟨this.2.2.2.1,this.2.2.2.2.1,this.2.2.2.2.2.1,this.2.2.2.2.2.2⟩)
   rw [catL,hpk,if_pos ⟨hs.1,hs.2.1,hs.2.2.1⟩,zAr,List.length_append]
   refine hO.seq (fun he=>by rw [zE2 he]) (fun e hs=>?_)
   rw [e,show acc++n::ns=acc++[n]++ns by simp]
   exact ih (by omega) rfl hs (zAQ h) hr
theorem cat_at (ha:zJB t alt A F) {l r:List UInt8}{n:RgD}{s:RS} (hd:DCat A l n) (h0:s.e=0) (hn:s.n≤512) (h:t.drop s.p=l++r) (hp:s.p≤t.length) (hr:EndC r):Out F s l.length (zAn n) n (catD t alt s):=by
 obtain ⟨ns,hd,rfl⟩:=hd
 have hle:=zDV h (.inr hp)
 have hO:=catL_at ha hd (k:=t.length+1) (acc:=[]) (by omega) h0 hn h hr
 rw [List.nil_append] at hO
 unfold catD
 generalize catL t alt (t.length+1) [] s=x at hO
 obtain ⟨x1,x2⟩:=x
 have hbad:∀ z,(x2.e=z∧z≠0)→(zJz (x1,x2)).2.e=z:=fun z h=>by rw [zEP (by omega),h.1]
 have hsz:zAr ns≤zAn (catN' ns):=by
  unfold catN'
  split
  ·simp [zAr]
  ·simp [zAr]
  ·rw [zIC,zAn];omega
 rcases hO with ⟨e,hs⟩|⟨h3,h4⟩|⟨h3,h4⟩
 ·cases e
  match ns with
  | []=>exact (show Out F s l.length (zAr []) () ((),s.at' l.length (zAr [])) from .inl ⟨rfl,hs⟩).node (f:=fun _=>zFS)
  | [x] =>
    have e:zAr [x]=zAn (catN' [x]):=by rw [zAr,zAr];rfl
    exact .inl ⟨by rw [←e];rfl,by rw [←e];exact hs⟩
  | x::y::q=>exact (show Out F s l.length (zAr (x::y::q)) () ((),s.at' l.length (zAr (x::y::q))) from .inl ⟨rfl,hs⟩).node (f:=fun _=>zIC (x::y::q))
 ·exact .inr (.inl ⟨hbad 2 ⟨h3,by decide⟩,by omega⟩)
 ·exact .inr (.inr ⟨hbad 6 ⟨h3,by decide⟩,h4⟩)
theorem zNM (hk:∀ {s:RS},s.e≠0→(alt s).2.e=s.e) {s:RS} (h:s.e≠0):(catD t alt s).2.e=s.e:=by
 unfold catD;rw [zE2 h,zEP h]
theorem cats_at (ha:zJB t alt A F) {l:List UInt8}{ns:List RgD} (hd:DCats A l ns):∀ {k:Nat}{acc:List RgD}{s:RS}{r:List UInt8},l.length+1≤k→s.e=0→s.n≤512→t.drop s.p=l++r→s.p≤t.length→(∀ x q,r=x::q→x.toNat=41) →
  Out F s l.length (zAr ns) (acc++ns) (altL t alt k (acc++[(catD t alt s).1]) (catD t alt s).2):=by
 induction hd with
 | @one l n h1 =>
   intro k acc s r hk h0 hn h hp hr
   have hO:=cat_at ha h1 h0 hn h hp (fun x q e=>.inr (hr x q e))
   rw [zAr,zAr]
   refine hO.seq (len2:=0) (sz2:=0) (fun he=>by rw [zCM he]) (fun e hs=>?_)
   have h2:t.drop (s.at' l.length (zAn n)).p=r:=zAQ h
   have:altL t alt k (acc++[n]) (s.at' l.length (zAn n))=(acc++[n],s.at' l.length (zAn n)):=by
    cases k with
    | zero=>rfl
    | succ k =>
      rw [altL]
      cases r with
      | nil=>rw [zEn h2];rfl
      | cons x q=>rw [zAl rfl h2,hr x q rfl];rfl
   rw [e,this]
   exact .inl ⟨by rw [zDc];rfl,hs⟩
 | @cons l m n ns h1 h2 ih =>
   intro k acc s r hk h0 hn h hp hr
   rw [List.append_assoc] at h
   rw [List.length_append,List.length_cons] at hk
   obtain ⟨k,rfl⟩:∃ j,k=j+1:=⟨k-1,by omega⟩
   have hO:=cat_at ha h1 h0 hn h hp (fun x q e=>by simp at e;exact .inl (by rw [←e.1];rfl))
   rw [zAr,List.length_append,List.length_cons]
   refine hO.seq (fun he=>by rw [zCM he]) (fun e hs=>?_)
   have h3:t.drop (s.at' l.length (zAn n)).p=124::(m++r):=zAQ h
   have hle:s.p+l.length+1≤t.length:=by
    have:=zDV (l:=l++[124]) (r:=m++r) (p:=s.p) (t:=t) (by rw [h];simp) (.inl (by simp))
    rw [List.length_append,List.length_singleton] at this;omega
   rw [e]
   dsimp only
   rw [altL,zAl rfl h3,if_pos (by decide),zE5]
   have hI:=ih (k:=k) (acc:=acc++[n]) (s:=s.at' (l.length+1) (zAn n)) (r:=r) (by omega) rfl hs (by rw [at_p];exact zAU h3) (by rw [at_p];omega) hr
   rw [show acc++n::ns=acc++[n]++ns by simp]
   unfold Out at hI ⊢
   rw [zDc] at hI ⊢
   rw [at_n] at hI ⊢
   rw [show l.length+(m.length+1)=l.length+1+m.length by omega]
   exact hI
end
theorem zE7 {t:List UInt8}:∀ {d:Nat}{s:RS},s.e≠0→(altD t d s).2.e=s.e
 | 0,s,h=>zC1 h
 | d+1,s,h=>by
   have h1:(catD t (altD t d) s).2.e=s.e:=zNM (fun h=>zE7 h) h
   rw [altD,zCM (by rw [h1];exact h),zEQ (by rw [h1];exact h),h1]
theorem alt_at {t:List UInt8}:∀ {d k:Nat}{l r:List UInt8}{n:RgD}{s:RS},DAlt k l n→s.e=0→s.n≤512→t.drop s.p=l++r→s.p≤t.length→(∀ x q,r=x::q→x.toNat=41)→Out (d<k) s l.length (zAn n) n (altD t d s)
 | _,0,_,_,_,_,h,_,_,_,_,_=>h.elim
 | 0,k+1,l,r,n,s,h,h0,hn,hd,hp,hr=>by
   refine .inr (.inr ⟨?_,Nat.zero_lt_succ _⟩)
   show (s.wrong 6 s.p).e=6
   unfold RS.wrong;rw [if_pos h0]
 | d+1,k+1,l,r,n,s,h,h0,hn,hd,hp,hr=>by
   have hle:=zDV hd (.inr hp)
   have ha:zJB t (altD t d) (DAlt k) (d<k):=⟨fun h1 h2 h3 h4 h5 h6=>alt_at h1 h2 h3 h4 h5 h6,fun h=>zE7 h⟩
   obtain ⟨ns,hc,rfl⟩:=h
   have hO:=cats_at ha hc (k:=t.length+1) (acc:=[]) (by omega) h0 hn hd hp hr
   rw [List.nil_append,List.nil_append] at hO
   rw [altD]
   generalize altL t (altD t d) (t.length+1) [(catD t (altD t d) s).1] (catD t (altD t d) s).2=x at hO
   obtain ⟨x1,x2⟩:=x
   have hbad:∀ z,(x2.e=z∧z≠0)→(zJ6 (x1,x2)).2.e=z:=fun z h=>by rw [zEQ (by omega),h.1]
   have hsz:zAr ns≤zAn (altN' ns):=by
    unfold altN'
    split
    ·simp [zAr]
    ·rw [zIH,zAn];omega
   rcases hO with ⟨e,hs⟩|⟨h3,h4⟩|⟨h3,h4⟩
   ·cases e
    match ns with
    | []=>cases hc
    | [x] =>
      have e:zAr [x]=zAn (altN' [x]):=by rw [zAr,zAr];rfl
      exact .inl ⟨by rw [←e];rfl,by rw [←e];exact hs⟩
    | x::y::q=>exact (show Out (d+1<k+1) s l.length (zAr (x::y::q)) () ((),s.at' l.length (zAr (x::y::q))) from .inl ⟨rfl,hs⟩).node (f:=fun _=>zIH (x::y::q))
   ·exact .inr (.inl ⟨hbad 2 ⟨h3,by decide⟩,by omega⟩)
   ·exact .inr (.inr ⟨hbad 6 ⟨h3,by decide⟩,by omega⟩)
theorem parse_at {k:Nat}{l:List UInt8}{n:RgD} (h:DAlt k l n) (hl:l.length≤512):zDG l=(n,(0,0))∧zAn n≤512∨(zDG l=(noneD,(zDG l).2)∧((zDG l).2.1=2∧512<zAn n∨(zDG l).2.1=6∧33<k)):=by
 have hO:=alt_at (t:=l) (d:=33) (s:=⟨0,0,0,0⟩) (r:=[]) h rfl (by decide) (by simp) (Nat.zero_le _) (fun x q e=>by cases e)
 unfold zDG
 rw [if_neg (by omega)]
 rcases hO with ⟨e,hs⟩|⟨h3,h4⟩|⟨h3,h4⟩
 ·rw [e]
  dsimp only
  have:endS l (RS.at' ⟨0,0,0,0⟩ l.length (zAn n))=RS.at' ⟨0,0,0,0⟩ l.length (zAn n):=by
   unfold endS
   rw [if_neg (fun x=>by have:=x.2;simp [RS.at'] at this)]
  rw [this]
  exact .inl ⟨rfl,by simpa using hs⟩
 ·rw [zHp (by omega),if_neg (by omega)]
  exact .inr ⟨rfl,.inl ⟨h3,by simpa using h4⟩⟩
 ·rw [zHp (by omega),if_neg (by omega)]
  exact .inr ⟨rfl,.inr ⟨h3,h4⟩⟩
end Go.Proofs.YtmaennnkaoollaaGreatDoor
namespace Go.Proofs.YtmaennnkaoollaaGreatDoor
open Go Go.E
theorem zeroS_in:SetIn zeroS:=SetIn.zero
theorem zDY (c:Nat):zeroS.has c=false:=SetD.has_zero c
theorem zEB (x y:Nat):∀ k,k≤256→SetIn ((List.range k).foldl (fun s c=>if x≤c∧c≤y then s.add c else s) zeroS)∧∀ c,c<256→((List.range k).foldl (fun s c=>if x≤c∧c≤y then s.add c else s) zeroS).has c=decide (x≤c∧c≤y∧c<k)
 | 0,_=>⟨zeroS_in,fun c _=>by rw [List.range_zero,List.foldl_nil,zDY,eq_comm,decide_eq_false_iff_not];omega⟩
 | k+1,h=>by
   obtain ⟨h1,h2⟩:=zEB x y k (by omega)
   rw [List.range_succ,List.foldl_append,List.foldl_cons,List.foldl_nil]
   split
   ·refine ⟨h1.add (by omega),fun c hc=>?_⟩
    rw [SetD.has_add (by omega) hc,h2 c hc,Bool.eq_iff_iff]
    simp only [Bool.or_eq_true,decide_eq_true_iff];omega
   ·refine ⟨h1,fun c hc=>?_⟩
    rw [h2 c hc,decide_eq_decide];omega
theorem zBW (x y:Nat):SetIn (zDi x y):=(zEB x y 256 (by omega)).1
theorem zHT (x y:Nat) {c:Nat} (hc:c<256):(zDi x y).has c=decide (x≤c∧c≤y):=by
 have:=(zEB x y 256 (by omega)).2 c hc
 rw [zDi,this,decide_eq_decide];omega
theorem of_in {c:Nat} (hc:c<256):SetIn (ofD c):=zeroS_in.add hc
theorem of_has {c d:Nat} (hc:c<256) (hd:d<256):(ofD c).has d=decide (d=c):=by rw [ofD,SetD.has_add hc hd,zDY,Bool.false_or]
theorem zLm:∀ c:Nat,c<256→zEm c=true→(UInt8.ofNat c).toNat=c∧c≠92∧badB c=false∧c≠46:=by decide +kernel
theorem zNg:∀ k:Nat,k<16→hexN (hexB.getD k 0).toNat=some k:=by decide +kernel
theorem zD1 {c:Nat} (hc:c<256):DByte (zAW c) c∧zAW c≠[46]:=by
 unfold zAW
 by_cases h:zEm c=true
 ·obtain ⟨h1,h2,h3,h4⟩:=zLm c hc h
  rw [if_pos h]
  refine ⟨?_,fun e=>?_⟩
  ·have:=DByte.plain (c:=UInt8.ofNat c) (by rw [h1];exact h2) (by rw [h1];exact h3)
   rwa [h1] at this
  ·simp only [List.cons.injEq,and_true] at e
   rw [e] at h1;exact h4 (h1.symm.trans rfl)
 ·rw [if_neg h]
  refine ⟨?_,by simp⟩
  have:=DByte.hex (zNg (c / 16) (by omega)) (zNg (c % 16) (by omega))
  rwa [show 16*(c / 16)+c % 16=c by omega] at this
theorem zEI (s:SetD):∀ (n c:Nat) (z:SetD),256≤c+n→SetIn z→∃ w,DItems (zBV s n c) z w∧SetIn w∧∀ d,d<256→w.has d=(z.has d||(decide (c≤d)&&s.has d))
 | 0,c,z,h,hz=>⟨z,.nil z,hz,fun d hd=>by have:¬c≤d:=by omega
                                         simp [this]⟩
 | n+1,c,z,h,hz=>by
   rw [zBV]
   by_cases hc:256≤c
   ·rw [if_pos hc]
    exact ⟨z,.nil z,hz,fun d hd=>by have:¬c≤d:=by omega
                                    simp [this]⟩
   ·rw [if_neg hc]
    by_cases hh:s.has c=true
    ·rw [if_pos hh]
     obtain ⟨he1,he2⟩:=zJt s 256 c (by omega)
     have hin:∀ j,c≤j→j≤endF s 256 c→s.has j=true:=fun j h1 h2=>by
      by_cases e:j=c
      ·rw [e];exact hh
      ·exact zK3 s 256 c j (by omega) h2
     generalize endF s 256 c=e at he1 he2 hin
     obtain ⟨w,hw1,hw2,hw3⟩:=zEI s n (e+1) (z.or (zDi c e)) (by omega) (hz.or (zBW c e))
     have hp:DPair (zAW c++(if c<e then 45::zAW e else [])) c e:=by
      by_cases hce:c<e
      ·rw [if_pos hce];exact .two (zD1 (by omega)).1 (zD1 (by omega)).1 he1
      ·obtain rfl:c=e:=by omega
       rw [if_neg hce,List.append_nil];exact .one (zD1 (by omega)).1
     refine ⟨w,.cons hp hw1,hw2,fun d hd=>?_⟩
     rw [hw3 d hd,SetD.has_or,zHT c e hd]
     by_cases h1:c≤d
     ·by_cases h2:d≤e
      ·rw [hin d h1 h2];simp [h1,h2]
      ·have:e+1≤d:=by omega
       simp [h1,h2,this]
     ·have:¬e+1≤d:=by omega
      simp [h1,this]
    ·rw [if_neg hh]
     obtain ⟨w,hw1,hw2,hw3⟩:=zEI s n (c+1) z (by omega) hz
     refine ⟨w,hw1,hw2,fun d hd=>?_⟩
     rw [hw3 d hd]
     by_cases e:d=c
     ·subst e
      rw [Bool.not_eq_true] at hh
      simp [hh]
     ·by_cases h1:c≤d
      ·have:c+1≤d:=by omega
       simp [h1,this]
      ·have:¬c+1≤d:=by omega
       simp [h1,this]
theorem zNe {s:SetD} (hs:SetIn s):DItems (zBV s 256 0) zeroS s:=by
 obtain ⟨w,h1,h2,h3⟩:=zEI s 256 0 zeroS (by omega) zeroS_in
 have:w=s:=SetD.ext h2 hs fun d hd=>by rw [h3 d hd,zDY];simp
 rwa [this] at h1
theorem zNX {A:List UInt8→RgD→Prop}{s:SetD} (hs:SetIn s) (h0:s≠zeroS):DAtom A (zBC s) (oneD s):=by
 rcases zDK s with ⟨h1,h2⟩|⟨c,hc,h1,h2,h3,h4,h5⟩|⟨h1,h2,h3⟩
 ·rw [h2,h1];exact .any
 ·rw [h5]
  have:s=ofD c:=SetD.ext hs (of_in hc) fun d hd=>by rw [of_has hc hd,Bool.eq_iff_iff,h4 d hd,decide_eq_true_iff]
  rw [this]
  exact .byte (zD1 hc).1 (zD1 hc).2
 ·rw [h3];exact .set (.pos (zNe hs) h0)
theorem zLJ {s:SetD} (hs:SetIn s):∃ x m,zBC s=x::m:=by
 rcases zDK s with ⟨h1,h2⟩|⟨c,hc,h1,h2,h3,h4,h5⟩|⟨h1,h2,h3⟩
 ·exact ⟨_,_,h2⟩
 ·obtain ⟨x,r,e,_⟩:=zLn hc;exact ⟨x,r,h5.trans e⟩
 ·exact ⟨_,_,h3⟩
theorem digs_few:∀ n:Nat,n<257→((zDo n).all fun c=>zAS c.toNat)=true∧zDH (zDo n)=false∧zBT (zDo n)=n:=by decide +kernel
theorem zKi {n:Nat} (h:n≤256):DNum (zDo n) n:=by
 obtain ⟨h1,h2,h3⟩:=digs_few n (by omega)
 exact ⟨fun c hc=>List.all_eq_true.1 h1 c hc,h2,h3,h⟩
theorem often_at {a b:Int} (h:¬(a<0∨256<a∨256<b∨(0≤b∧b<a))):DRep (zBd a b) a (Max.max b (-1)):=by
 unfold zBd
 have ea:((a.toNat:Nat):Int)=a:=by omega
 split
 ·rename_i h1;rw [h1.1,show Max.max b (-1)=-1 by omega];exact .star
 ·split
  ·rename_i h1;rw [h1.1,show Max.max b (-1)=-1 by omega];exact .plus
  ·split
   ·rename_i h1;rw [h1.1,h1.2];exact .opt
   ·split
    ·have:=DCount.up (zKi (n:=a.toNat) (by omega))
     rw [ea] at this
     rw [show Max.max b (-1)=-1 by omega]
     exact .count this
    ·split
     ·rename_i h1
      have:=DCount.just (zKi (n:=a.toNat) (by omega))
      rw [ea] at this
      rw [←h1,show Max.max a (-1)=a by omega]
      exact .count this
     ·have:=DCount.both (zKi (n:=a.toNat) (by omega)) (zKi (n:=b.toNat) (by omega)) (by omega)
      rw [ea,show ((b.toNat:Nat):Int)=b by omega] at this
      rw [show Max.max b (-1)=b by omega]
      exact .count this
mutual
def zCd:RgD→RgD
 | .mk k s l a b=>.mk k (if k=2 then s else zeroS) (zBf l) (if k=5 then a else 0) (if k=5 then Max.max b (-1) else 0)
def zBf:List RgD→List RgD
 | []=>[]
 | x::r=>zCd x::zBf r
end
mutual
def insD:RgD→Prop
 | .mk _ s l _ _=>SetIn s∧insK l
def insK:List RgD→Prop
 | []=>True
 | x::r=>insD x∧insK r
end
mutual
def cdep:RgD→Nat
 | .mk k _ l _ _=>if k=3 then zF4 l else if k=4 then 1+zHy l else if k=5 then zF4 l else 0
def qdep:RgD→Nat
 | .mk k _ l _ _=>if k=1 then 1 else if k=3 then 1+zF4 l else if k=4 then 1+zHy l else if k=5 then zF4 l else 0
def zHy:List RgD→Nat
 | []=>0
 | x::r=>Max.max (cdep x) (zHy r)
def zF4:List RgD→Nat
 | []=>0
 | x::r=>Max.max (qdep x) (zF4 r)
end
def adep (n:RgD):Nat:=if n.kind=4 then cdep n else 1+cdep n
theorem zId:∀ (l:List RgD),(zBf l).length=l.length
 | []=>rfl
 | x::r=>by rw [zBf,List.length_cons,List.length_cons,zId r]
section
variable {A B:List UInt8→RgD→Prop} (hAB:∀ l n,A l n→B l n)
include hAB
theorem DAtom.mono {l:List UInt8}{n:RgD} (h:DAtom A l n):DAtom B l n:=by
 cases h with
 | paren h=>exact .paren (hAB _ _ h)
 | any=>exact .any
 | set h=>exact .set h
 | byte h h2=>exact .byte h h2
theorem DPiece.mono {l:List UInt8}{n:RgD} (h:DPiece A l n):DPiece B l n:=by
 induction h with
 | atom h=>exact .atom (h.mono hAB)
 | rep h1 h2 ih=>exact .rep ih h2
theorem DPieces.mono {l:List UInt8}{n:List RgD} (h:DPieces A l n):DPieces B l n:=by
 induction h with
 | nil=>exact .nil
 | cons h1 h2 ih=>exact .cons (h1.mono hAB) ih
theorem DCat.mono {l:List UInt8}{n:RgD} (h:DCat A l n):DCat B l n:=by
 obtain ⟨ns,h1,h2⟩:=h;exact ⟨ns,h1.mono hAB,h2⟩
theorem DCats.mono {l:List UInt8}{n:List RgD} (h:DCats A l n):DCats B l n:=by
 induction h with
 | one h=>exact .one (h.mono hAB)
 | cons h1 h2 ih=>exact .cons (h1.mono hAB) ih
end
theorem DAlt.up:∀ {k:Nat}{l:List UInt8}{n:RgD},DAlt k l n→DAlt (k+1) l n
 | 0,_,_,h=>h.elim
 | k+1,l,n,⟨ns,h1,h2⟩=>⟨ns,h1.mono (fun _ _ h=>DAlt.up h),h2⟩
theorem DAlt.le {k j:Nat}{l:List UInt8}{n:RgD} (h:DAlt k l n) (hj:k≤j):DAlt j l n:=by
 induction hj with
 | refl=>exact h
 | step _ ih=>exact ih.up
theorem DPiece.one {A:List UInt8→RgD→Prop}{l:List UInt8}{n:RgD} (h:DPiece A l n):DCat A l n:=⟨[n],by simpa using DPieces.cons h .nil,rfl⟩
theorem DCat.alt {k:Nat}{l:List UInt8}{n:RgD} (h:DCat (DAlt k) l n):DAlt (k+1) l n:=⟨[n],.one h,rfl⟩
theorem zAM {n:RgD} (h:zAJ n=0):zEL n=0∧zBp n.kids=0:=by
 obtain ⟨k,s,l,a,b⟩:=n
 rw [zAJ] at h
 split at h
 ·contradiction
 ·rename_i h1;exact ⟨Decidable.of_not_not h1,h⟩
theorem zAB {x:RgD}{r:List RgD} (h:zBp (x::r)=0):zAJ x=0∧zBp r=0:=by
 rw [zBp] at h
 split at h
 ·contradiction
 ·rename_i h1;exact ⟨Decidable.of_not_not h1,h⟩
inductive Form:RgD→Prop where
 | none (s a b):Form (.mk 1 s [] a b)
 | one (s a b) (h:s≠zeroS):Form (.mk 2 s [] a b)
 | cat (s x y l a b):Form (.mk 3 s (x::y::l) a b)
 | alt (s x y l a b):Form (.mk 4 s (x::y::l) a b)
 | rep (s x a b) (h:¬(a<0∨256<a∨256<b∨(0≤b∧b<a))):Form (.mk 5 s [x] a b)
theorem zBm {n:RgD} (h:zEL n=0):Form n:=by
 obtain ⟨k,s,l,a,b⟩:=n
 change (if k=1∨k=2 then (if l≠[] then 5 else if k=2∧s=zeroS then 160 else 0) else if k=3∨k=4 then (if l.length<2 then 5 else 0)
  else if k=5 then (if l.length≠1 then 5 else if a<0∨256<a∨256<b∨(0≤b∧b<a) then 1 else 0) else 5)=0 at h
 by_cases hk:k=1∨k=2
 ·rw [if_pos hk] at h
  by_cases hl:l≠[]
  ·rw [if_pos hl] at h;cases h
  ·rw [if_neg hl] at h
   have hl:=Decidable.of_not_not hl
   subst hl
   by_cases h2:k=2∧s=zeroS
   ·rw [if_pos h2] at h;cases h
   ·rcases hk with rfl|rfl
    ·exact .none _ _ _
    ·exact .one _ _ _ (fun e=>h2 ⟨rfl,e⟩)
 ·rw [if_neg hk] at h
  by_cases hk2:k=3∨k=4
  ·rw [if_pos hk2] at h
   by_cases h2:l.length<2
   ·rw [if_pos h2] at h;cases h
   ·match l with
    | []=>simp at h2
    | [x]=>simp at h2
    | x::y::l =>
      rcases hk2 with rfl|rfl
      ·exact .cat _ _ _ _ _ _
      ·exact .alt _ _ _ _ _ _
  ·rw [if_neg hk2] at h
   by_cases hk3:k=5
   ·rw [if_pos hk3] at h
    subst hk3
    by_cases h2:l.length≠1
    ·rw [if_pos h2] at h;cases h
    ·rw [if_neg h2] at h
     match l with
     | []=>simp at h2
     | [x] =>
       by_cases h3:a<0∨256<a∨256<b∨(0≤b∧b<a)
       ·rw [if_pos h3] at h;cases h
       ·exact .rep _ _ _ _ h3
     | x::y::l=>simp at h2
   ·rw [if_neg hk3] at h;cases h
mutual
theorem RgD.ind {P:RgD→Prop} (h:∀ k s l a b,(∀ x∈l,P x)→P (.mk k s l a b)):∀ n,P n
 | .mk k s l a b=>h k s l a b (RgD.indK h l)
theorem RgD.indK {P:RgD→Prop} (h:∀ k s l a b,(∀ x∈l,P x)→P (.mk k s l a b)):∀ (l:List RgD),∀ x∈l,P x
 | []=>fun x hx=>absurd hx (by simp)
 | y::r=>List.forall_mem_cons.2 ⟨RgD.ind h y,RgD.indK h r⟩
end
def zJ7 (n:RgD):Prop:=zAJ n=0→insD n→DPiece (DAlt (qdep n)) (zAc n true) (zCd n)∧DCat (DAlt (cdep n)) (zAc n (decide (n.kind=4))) (zCd n)
theorem zJC:∀ (l:List RgD),(∀ x∈l,zJ7 x)→zBp l=0→insK l→DPieces (DAlt (zF4 l)) (zAo l) (zBf l)
 | [],_,_,_=>.nil
 | x::r,hx,hw,hi=>by
   obtain ⟨h1,h2⟩:=zAB hw
   rw [insK] at hi
   rw [zAo,zBf,zF4]
   exact .cons ((hx x (by simp) h1 hi.1).1.mono (fun _ _ h=>h.le (Nat.le_max_left _ _))) ((zJC r (fun y hy=>hx y (by simp [hy])) h2 hi.2).mono (fun _ _ h=>h.le (Nat.le_max_right _ _)))
theorem zGO:∀ (l:List RgD) (x:RgD),(∀ y∈x::l,zJ7 y)→zBp (x::l)=0→insK (x::l)→DCats (DAlt (zHy (x::l))) (zAi (x::l) true) (zBf (x::l))
 | [],x,hx,hw,hi=>by
   obtain ⟨h1,h2⟩:=zAB hw
   rw [insK] at hi
   have:=(hx x (by simp) h1 hi.1).2
   rw [zAi,zAi,zBf,zBf,zHy,zHy]
   simpa using DCats.one this
 | y::l,x,hx,hw,hi=>by
   obtain ⟨h1,h2⟩:=zAB hw
   rw [insK] at hi
   have hxx:=(hx x (by simp) h1 hi.1).2
   have hl:=zGO l y (fun z hz=>hx z (by simp [List.mem_cons.1 hz])) h2 hi.2
   have e:zAi (x::y::l) true=zAc x (decide (x.kind=4))++124::zAi (y::l) true:=by
    rw [zAi,zAi,zAi];simp
   rw [e,zBf,zHy]
   exact .cons (hxx.mono (fun _ _ h=>h.le (Nat.le_max_left _ _))) (hl.mono (fun _ _ h=>h.le (Nat.le_max_right _ _)))
theorem zFe:∀ (n:RgD),zJ7 n:=RgD.ind fun k s l a b ih hw hi=>by
 obtain ⟨hf,hk⟩:=zAM hw
 rw [insD] at hi
 cases zBm hf with
 | none s a b =>
   rw [zAc,zCd,qdep,cdep,zAc]
   exact ⟨.atom (.paren (l:=[]) ⟨[zFS],.one ⟨[],.nil,rfl⟩,rfl⟩),⟨[],.nil,rfl⟩⟩
 | one s a b h =>
   have h1:=DPiece.atom (A:=DAlt 0) (zNX hi.1 h)
   rw [zAc,zCd,qdep,cdep,zAc]
   exact ⟨by simpa [zBf,oneD] using h1,by simpa [zBf,oneD] using h1.one⟩
 | cat s x y l a b =>
   have hp:=zJC (x::y::l) ih hk hi.2
   have h1:DCat (DAlt (zF4 (x::y::l))) (zAo (x::y::l)) (zIC (zBf (x::y::l))):=⟨_,hp,rfl⟩
   have h2:DAlt (1+zF4 (x::y::l)) (zAo (x::y::l)) (zIC (zBf (x::y::l))):=by
    rw [Nat.add_comm];exact DCat.alt h1
   rw [zAc,zCd,qdep,cdep,zAc]
   exact ⟨.atom (.paren h2),by simpa [RgD.kind,zIC] using h1⟩
 | alt s x y l a b =>
   have hp:=zGO (y::l) x ih hk hi.2
   have h2:DAlt (1+zHy (x::y::l)) (zAi (x::y::l) true) (zIH (zBf (x::y::l))):=by
    rw [Nat.add_comm];exact ⟨_,hp,rfl⟩
   rw [zAc,zCd,qdep,cdep,zAc]
   exact ⟨.atom (.paren h2),DPiece.one (.atom (.paren h2))⟩
 | rep s x a b h =>
   have hx:=(ih x (by simp) (zAB hk).1 (by have:=hi.2;rw [insK] at this;exact this.1)).1
   have h1:=DPiece.rep hx (often_at h)
   rw [zAc,zCd,qdep,cdep,zAc]
   exact ⟨by simpa [zDe,zBf,zF4,repD] using h1,by simpa [zDe,zBf,zF4,repD] using h1.one⟩
theorem zIK {n:RgD} (h:n.kind≠4):zAc n (decide (n.kind=4))=zAc n false:=by rw [decide_eq_false h]
theorem write_a {n:RgD} (hw:zAJ n=0) (hi:insD n):DAlt (adep n) (zFb n) (zCd n):=by
 unfold zFb adep
 by_cases h:n.kind=4
 ·rw [if_pos h]
  obtain ⟨k,s,l,a,b⟩:=n
  obtain ⟨hf,hk⟩:=zAM hw
  rw [insD] at hi
  have hk4:k=4:=h
  cases zBm hf with
  | alt s x y l a b =>
    have hp:=zGO (y::l) x (fun z _=>zFe z) hk hi.2
    have h2:DAlt (1+zHy (x::y::l)) (zAi (x::y::l) true) (zIH (zBf (x::y::l))):=by
     rw [Nat.add_comm];exact ⟨_,hp,rfl⟩
    rw [zAc,zCd,cdep]
    simpa [zIH] using h2
  | none=>exact absurd hk4 (by decide)
  | one=>exact absurd hk4 (by decide)
  | cat=>exact absurd hk4 (by decide)
  | rep=>exact absurd hk4 (by decide)
 ·rw [if_neg h]
  have:=(zFe n hw hi).2
  rw [zIK h] at this
  rw [Nat.add_comm];exact this.alt
mutual
theorem zIc:∀ (n:RgD),zAn (zCd n)=zAn n
 | .mk k s l a b=>by rw [zCd,zAn,zAn,zG4 l]
theorem zG4:∀ (l:List RgD),zAr (zBf l)=zAr l
 | []=>rfl
 | x::r=>by rw [zBf,zAr,zAr,zIc x,zG4 r]
end
end Go.Proofs.YtmaennnkaoollaaGreatDoor
namespace Go.Proofs.YtmaennnkaoollaaGreatDoor
open Go Go.E
theorem zHV {t:List UInt8}{s:RS} (h:zAe t s≠0):s.e=0∧∃ c,t.drop s.p=c::t.drop (s.p+1)∧c.toNat=zAe t s:=by
 unfold zAe at h ⊢
 split at h
 ·rename_i h1
  rw [if_pos h1]
  refine ⟨h1.2,t[s.p],List.drop_eq_getElem_cons h1.1,?_⟩
  rw [List.getElem!_eq_getElem?_getD,List.getElem?_eq_getElem h1.1];rfl
 ·exact absurd rfl h
def Rdg (t:List UInt8) (s:RS) (l:List UInt8) (j:Nat) (s':RS):Prop:=s'=s.at' l.length j∧t.drop s.p=l++t.drop (s.p+l.length)
theorem Rdg.nil {t:List UInt8}{s:RS} (h:s.e=0):Rdg t s [] 0 s:=⟨(zJ5 h).symm,rfl⟩
theorem Rdg.app {t:List UInt8}{s s1 s2:RS}{l m:List UInt8}{i j:Nat} (h1:Rdg t s l i s1) (h2:Rdg t s1 m j s2):Rdg t s (l++m) (i+j) s2:=by
 obtain ⟨rfl,e1⟩:=h1
 obtain ⟨rfl,e2⟩:=h2
 refine ⟨by rw [zDc,List.length_append],?_⟩
 rw [at_p] at e2
 rw [List.length_append,←Nat.add_assoc,List.append_assoc,←e2];exact e1
theorem Rdg.one {t:List UInt8}{s:RS}{c:Nat} (h:zAe t s=c) (h0:c≠0):∃ x:UInt8,x.toNat=c∧Rdg t s [x] 0 s.adv:=by
 obtain ⟨he,x,h1,h2⟩:=zHV (t:=t) (s:=s) (by rw [h];exact h0)
 exact ⟨x,h2.trans h,zBS he,h1⟩
theorem u8_eq {x:UInt8}{c:Nat} (h:x.toNat=c) (hc:c<256):x=UInt8.ofNat c:=by rw [←h,UInt8.ofNat_toNat]
theorem Rdg.lit {t:List UInt8}{s:RS} (c:Nat) (h:zAe t s=c) (h0:c≠0) (hc:c<256):Rdg t s [UInt8.ofNat c] 0 s.adv:=by
 obtain ⟨x,h1,h2⟩:=Rdg.one h h0
 rwa [u8_eq h1 hc] at h2
theorem zA1 {s:RS}{e f:Nat} (he:e≠0) (h:(s.wrong e f).e=0):False:=zD3 he h
theorem zFU {t:List UInt8}{s:RS}{a:Nat} (h:(zAA t a s).2.e=0):∃ c:UInt8,Rdg t s [c] 0 (zAA t a s).2∧hexN c.toNat=some (zAA t a s).1:=by
 unfold zAA at h ⊢
 split at h
 ·rename_i h1
  rw [if_pos h1]
  obtain ⟨x,h2,h3⟩:=Rdg.one (t:=t) (s:=s) rfl (by intro e;rw [e] at h1;cases h1)
  exact ⟨x,h3,by rw [h2];unfold hexN;rw [if_pos h1]⟩
 ·rename_i h1
  rw [if_neg h1]
  split at h
  ·rename_i h4
   rw [if_pos h4]
   obtain ⟨x,h2,h3⟩:=Rdg.one (t:=t) (s:=s) rfl (by omega)
   exact ⟨x,h3,by rw [h2];unfold hexN;rw [if_neg h1,if_pos h4]⟩
  ·exact (zA1 (by decide) h).elim
theorem zCa {t:List UInt8}{s:RS} (h:(zAw t s).2.e=0):∃ l,Rdg t s l 0 (zAw t s).2∧DByte l (zAw t s).1:=by
 unfold zAw at h ⊢
 split at h
 ·rename_i h92
  rw [if_pos h92]
  have r0:=Rdg.lit 92 h92 (by decide) (by decide)
  have step:∀ c v:Nat,zAe t s.adv=c→c≠0→c<256→escN c=some v→∃ l,Rdg t s l 0 s.adv.adv∧DByte l v:=fun c v hc h0 hl hv =>
   ⟨_,r0.app (Rdg.lit c hc h0 hl),DByte.esc (by rw [UInt8.toNat_ofNat_of_lt' hl];exact hv)⟩
  unfold escD at h ⊢
  split at h
  ·rename_i e;rw [if_pos e];exact step _ _ e (by decide) (by decide) rfl
  ·rename_i e;rw [if_neg e]
   split at h
   ·rename_i e;rw [if_pos e];exact step _ _ e (by decide) (by decide) rfl
   ·rename_i e;rw [if_neg e]
    split at h
    ·rename_i e;rw [if_pos e];exact step _ _ e (by decide) (by decide) rfl
    ·rename_i e;rw [if_neg e]
     split at h
     ·rename_i e;rw [if_pos e];exact step _ _ e (by decide) (by decide) rfl
     ·rename_i e;rw [if_neg e]
      split at h
      ·rename_i e
       rw [if_pos e]
       have r1:=Rdg.lit 120 e (by decide) (by decide)
       have h1:(zAA t s.p s.adv.adv).2.e=0:=by
        by_cases hz:(zAA t s.p s.adv.adv).2.e=0
        ·exact hz
        ·exact absurd ((zLy hz).symm.trans h) hz
       obtain ⟨x,r2,hx⟩:=zFU h1
       obtain ⟨y,r3,hy⟩:=zFU h
       exact ⟨_,((r0.app r1).app r2).app r3,DByte.hex hx hy⟩
      ·rename_i e
       rw [if_neg e]
       dsimp only at h ⊢
       split at h
       ·exact (zA1 (by decide) h).elim
       ·rename_i hb
        rw [if_neg hb]
        obtain ⟨x,h2,h3⟩:=Rdg.one (t:=t) (s:=s.adv) rfl (by intro e;rw [e] at hb;exact hb (by decide))
        refine ⟨_,r0.app h3,?_⟩
        rw [←h2] at hb ⊢
        exact DByte.sign (by simpa using hb)
 ·rename_i h92
  rw [if_neg h92]
  split at h
  ·exact (zA1 (by decide) h).elim
  ·rename_i hb
   rw [if_neg hb]
   obtain ⟨x,h2,h3⟩:=Rdg.one (t:=t) (s:=s) rfl (by intro e;rw [e] at hb;exact hb (by decide))
   refine ⟨_,h3,?_⟩
   rw [←h2] at hb h92 ⊢
   exact DByte.plain h92 (by simpa using hb)
theorem zBB {α:Type}{f:RS→α × RS} (hk:∀ {s:RS},s.e≠0→(f s).2.e=s.e) {s:RS} (h:(f s).2.e=0):s.e=0:=by
 by_cases hz:s.e=0
 ·exact hz
 ·exact absurd ((hk hz).symm.trans h) hz
theorem zG1 {t:List UInt8}{s:RS} (h:(zAZ t s).2.e=0):∃ l,Rdg t s l 0 (zAZ t s).2∧((zAZ t s).1.1≤(zAZ t s).1.2→DPair l (zAZ t s).1.1 (zAZ t s).1.2):=by
 unfold zAZ at h ⊢
 split at h
 ·rename_i e
  rw [if_pos e]
  have h1:(zAw t s).2.e=0:=zBB (f:=fun s=>zAw t s) (fun h=>zGc h) (s:=(zAw t s).2.adv) h
  obtain ⟨l,r1,d1⟩:=zCa h1
  obtain ⟨m,r2,d2⟩:=zCa h
  exact ⟨_,(r1.app (Rdg.lit 45 e (by decide) (by decide))).app r2,fun hle=>by rw [List.append_assoc];exact .two d1 d2 hle⟩
 ·rename_i e
  rw [if_neg e]
  obtain ⟨l,r1,d1⟩:=zCa h
  exact ⟨l,r1,fun _=>.one d1⟩
theorem zGw {t:List UInt8}{a:Nat}:∀ {k:Nat}{z:SetD}{s:RS},(setL t a k z s).2.e=0→∃ l,Rdg t s l 0 (setL t a k z s).2∧DItems l z (setL t a k z s).1
 | 0,z,s,h=>⟨[],.nil h,.nil z⟩
 | k+1,z,s,h=>by
   have hs:s.e=0:=zBB (f:=fun s=>setL t a (k+1) z s) (fun h=>zHG h) h
   rw [setL] at h ⊢
   split at h
   ·rename_i h1
    rw [if_pos h1]
    split at h
    ·exact (zA1 (by decide) h).elim
    ·rename_i h2
     rw [if_neg h2]
     have h3:(if (zAZ t s).1.2<(zAZ t s).1.1 then (zAZ t s).2.wrong 1 a else (zAZ t s).2).e=0:=zBB (f:=fun s'=>setL t a k (z.or (zDi (zAZ t s).1.1 (zAZ t s).1.2)) s') (fun h=>zHG h) h
     split at h3
     ·exact (zA1 (by decide) h3).elim
     ·rename_i h4
      rw [if_neg h4] at h ⊢
      obtain ⟨l,r1,d1⟩:=zG1 h3
      obtain ⟨m,r2,d2⟩:=zGw h
      exact ⟨_,r1.app r2,.cons (d1 (by omega)) d2⟩
   ·rename_i h1
    rw [if_neg h1];exact ⟨[],.nil hs,.nil z⟩
theorem zCG {t:List UInt8}{s:RS}{c:Nat} (h0:c≠0) (hc:c<256) (h:(zBc t c s).e=0):Rdg t s [UInt8.ofNat c] 0 (zBc t c s):=by
 unfold zBc at h ⊢
 split at h
 ·rename_i e;rw [if_pos e];exact Rdg.lit c e h0 hc
 ·exact (zA1 (by decide) h).elim
theorem zLY {t:List UInt8}{a:Nat}{s:RS} (h:(setD t a s).2.e=0):∃ l,Rdg t s l 0 (setD t a s).2∧DSet l (setD t a s).1:=by
 unfold setD at h ⊢
 dsimp only at h ⊢
 split at h
 ·exact (zA1 (by decide) h).elim
 ·rename_i h1
  rw [if_neg h1]
  have hz:zDm (decide (zAe t s=94)) (setL t a (t.length+1) zeroS (eatS t 94 s)).1≠zeroS:=fun e=>h1 ⟨h,e⟩
  have r2:=zCG (by decide) (by decide) h
  have h2:(setL t a (t.length+1) zeroS (eatS t 94 s)).2.e=0:=zBB (f:=fun s=>((),zBc t 93 s)) (fun h=>zCH h) h
  obtain ⟨l,r1,d1⟩:=zGw h2
  by_cases e:zAe t s=94
  ·have he:eatS t 94 s=s.adv:=by unfold eatS;rw [if_pos e]
   rw [he] at r1 r2 d1 hz ⊢
   rw [decide_eq_true e] at hz ⊢
   exact ⟨_,((Rdg.lit 94 e (by decide) (by decide)).app (r1.app r2)),.neg d1 hz⟩
  ·have he:eatS t 94 s=s:=by unfold eatS;rw [if_neg e]
   rw [he] at r1 r2 d1 hz ⊢
   rw [decide_eq_false e] at hz ⊢
   exact ⟨_,r1.app r2,.pos d1 hz⟩
theorem zFr:∀ (l:List UInt8),∀ c∈zBx l,zAS c.toNat=true
 | [],c,h=>by cases h
 | x::l,c,h=>by
   unfold zBx at h
   rw [List.takeWhile_cons] at h
   split at h
   ·rename_i h1
    rcases List.mem_cons.1 h with rfl|h
    ·exact h1
    ·exact zFr l c h
   ·cases h
theorem zDa {t:List UInt8}{s:RS} (h0:s.e=0) (h:(zAg t s).2.e=0):∃ l,Rdg t s l 0 (zAg t s).2∧DNum l (zAg t s).1:=by
 unfold zAg at h ⊢
 dsimp only at h ⊢
 split at h
 ·exact (zA1 (by decide) h).elim
 ·rename_i h1
  rw [if_neg h1]
  split at h
  ·exact (zA1 (by decide) h).elim
  ·rename_i h2
   rw [if_neg h2]
   refine ⟨zBx (t.drop s.p),⟨?_,?_⟩,zFr _,by simpa using h1,rfl,by omega⟩
   ·obtain ⟨p,n,e,f⟩:=s;cases h0;rfl
   ·have h3:t.drop s.p=zBx (t.drop s.p)++(t.drop s.p).dropWhile (fun c=>zAS c.toNat):=List.takeWhile_append_dropWhile.symm
    rw [zAQ h3];exact h3
theorem zEW {t:List UInt8}{s:RS} (h0:s.e=0) (h:(zAs t s).2.e=0):∃ l,Rdg t s l 0 (zAs t s).2∧DCount l ((zAs t s).1.1:Int) (zAs t s).1.2:=by
 unfold zAs at h ⊢
 dsimp only at h ⊢
 have hmk:∀ {s:RS},(zBc t 125 s).e=0→s.e=0:=fun h=>zBB (f:=fun s=>((),zBc t 125 s)) (fun h=>zCH h) h
 by_cases e:zAe t (zAg t s).2=44
 ·rw [if_pos e] at h ⊢
  by_cases e2:zAe t (zAg t s).2.adv=125
  ·rw [if_pos e2] at h ⊢
   dsimp only at h ⊢
   split at h
   ·exact (zA1 (by decide) h).elim
   ·rename_i h1
    rw [if_neg h1]
    obtain ⟨l,r1,d1⟩:=zDa h0 (hmk (s:=(zAg t s).2.adv) h)
    exact ⟨_,(r1.app (Rdg.lit 44 e (by decide) (by decide))).app (zCG (by decide) (by decide) h),by rw [List.append_assoc];exact .up d1⟩
  ·rw [if_neg e2] at h ⊢
   dsimp only at h ⊢
   split at h
   ·exact (zA1 (by decide) h).elim
   ·rename_i h1
    rw [if_neg h1]
    have h3:(zAg t s).2.e=0:=(zHV (t:=t) (s:=(zAg t s).2) (by rw [e];decide)).1
    obtain ⟨l,r1,d1⟩:=zDa h0 h3
    obtain ⟨m,r2,d2⟩:=zDa (s:=(zAg t s).2.adv) h3 (hmk h)
    exact ⟨_,((r1.app (Rdg.lit 44 e (by decide) (by decide))).app r2).app (zCG (by decide) (by decide) h),by rw [List.append_assoc,List.append_assoc];exact .both d1 d2 (by omega)⟩
 ·rw [if_neg e] at h ⊢
  dsimp only at h ⊢
  split at h
  ·exact (zA1 (by decide) h).elim
  ·rename_i h1
   rw [if_neg h1]
   obtain ⟨l,r1,d1⟩:=zDa h0 (hmk h)
   exact ⟨_,r1.app (zCG (by decide) (by decide) h),.just d1⟩
theorem zHF (z:SetD):zAn (oneD z)=1:=by rw [oneD,zAn,zAr]
theorem zIT:zAn zFS=1:=by rw [zFS,zAn,zAr]
theorem zBl {t:List UInt8}{s:RS} (h:(zA3 s).e=0):Rdg t s [] 1 (zA3 s)∧s.e=0:=by
 have h0:s.e=0:=zBB (f:=fun s=>((),zA3 s)) (fun h=>zCE h) h
 unfold zA3 at h ⊢
 split at h
 ·exact (zA1 (by decide) h).elim
 ·rename_i h1
  rw [if_neg h1]
  refine ⟨⟨?_,rfl⟩,h0⟩
  obtain ⟨p,n,e,f⟩:=s;cases h0;rfl
section
variable {t:List UInt8}{alt:RS→RgD × RS}{A:List UInt8→RgD→Prop}
theorem zGy:∀ {k:Nat}{n:RgD}{s:RS},(repL t k n s).2.e=0→∃ m j,Rdg t s m j (repL t k n s).2∧zAn (repL t k n s).1=zAn n+j∧∀ l,DPiece A l n→DPiece A (l++m) (repL t k n s).1
 | 0,n,s,h=>⟨[],0,.nil h,rfl,fun l hl=>by rw [List.append_nil];exact hl⟩
 | k+1,n,s,h=>by
   have hs:s.e=0:=zBB (f:=fun s=>repL t (k+1) n s) (fun h=>by rw [zBu h]) h
   have key:∀ {s1:RS}{m1:List UInt8}{a b:Int},Rdg t s m1 0 s1→DRep m1 a b→(repL t k (repD n a b) (zA3 s1)).2.e=0 →
     ∃ m j,Rdg t s m j (repL t k (repD n a b) (zA3 s1)).2∧zAn (repL t k (repD n a b) (zA3 s1)).1=zAn n+j∧∀ l,DPiece A l n→DPiece A (l++m) (repL t k (repD n a b) (zA3 s1)).1:=fun {s1 m1 a b} r1 d1 h=>by
    have h2:(zA3 s1).e=0:=zBB (f:=fun s=>repL t k (repD n a b) s) (fun h=>by rw [zBu h]) h
    obtain ⟨r2,_⟩:=zBl (t:=t) h2
    obtain ⟨m,j,r3,h4,h5⟩:=zGy h
    refine ⟨m1++m,1+j,?_,by rw [h4,zFv];omega,fun l hl=>by rw [←List.append_assoc];exact h5 _ (.rep hl d1)⟩
    have:=(r1.app r2).app r3
    rw [List.append_nil] at this
    simpa using this
   rw [repL] at h ⊢
   split at h
   ·rename_i e;rw [if_pos e];exact key (Rdg.lit 42 e (by decide) (by decide)) .star h
   ·rename_i e;rw [if_neg e]
    split at h
    ·rename_i e;rw [if_pos e];exact key (Rdg.lit 43 e (by decide) (by decide)) .plus h
    ·rename_i e;rw [if_neg e]
     split at h
     ·rename_i e;rw [if_pos e];exact key (Rdg.lit 63 e (by decide) (by decide)) .opt h
     ·rename_i e;rw [if_neg e]
      split at h
      ·rename_i e
       rw [if_pos e]
       have h2:(zA3 (zAs t s.adv).2).e=0:=zBB (f:=fun s'=>repL t k (repD n (zAs t s.adv).1.1 (zAs t s.adv).1.2) s') (fun h=>by rw [zBu h]) h
       obtain ⟨m,r2,d2⟩:=zEW (t:=t) (s:=s.adv) hs (zBl (t:=t) h2).2
       exact key ((Rdg.lit 123 e (by decide) (by decide)).app r2) (.count d2) h
      ·rename_i e
       rw [if_neg e]
       exact ⟨[],0,.nil hs,rfl,fun l hl=>by rw [List.append_nil];exact hl⟩
structure AltS (t:List UInt8) (alt:RS→RgD × RS) (A:List UInt8→RgD→Prop):Prop where
 run:∀ {s:RS},(alt s).2.e=0→∃ l,Rdg t s l (zAn (alt s).1) (alt s).2∧A l (alt s).1
 keep:∀ {s:RS},s.e≠0→(alt s).2.e=s.e
theorem zL4 (ha:AltS t alt A) {s:RS} (h:(zBE t alt s).2.e=0):∃ l,Rdg t s l (zAn (zBE t alt s).1) (zBE t alt s).2∧DAtom A l (zBE t alt s).1:=by
 unfold zBE at h ⊢
 split at h
 ·rename_i e
  rw [if_pos e]
  have rm:=zCG (by decide) (by decide) h
  obtain ⟨l,r1,d1⟩:=ha.run (zBB (f:=fun s=>((),zBc t 41 s)) (fun h=>zCH h) h)
  refine ⟨_,?_,.paren d1⟩
  have:=(Rdg.lit 40 e (by decide) (by decide)).app (r1.app rm)
  simpa using this
 ·rename_i e;rw [if_neg e]
  split at h
  ·rename_i e
   rw [if_pos e]
   obtain ⟨r2,_⟩:=zBl (t:=t) h
   exact ⟨_,(Rdg.lit 46 e (by decide) (by decide)).app r2,.any⟩
  ·rename_i e46;rw [if_neg e46]
   split at h
   ·rename_i e
    rw [if_pos e]
    obtain ⟨r2,h3⟩:=zBl (t:=t) h
    obtain ⟨l,r1,d1⟩:=zLY h3
    refine ⟨91::l,?_,.set d1⟩
    have:=((Rdg.lit 91 e (by decide) (by decide)).app r1).app r2
    simpa [zHF] using this
   ·rename_i e
    rw [if_neg e]
    obtain ⟨r2,h3⟩:=zBl (t:=t) h
    obtain ⟨l,r1,d1⟩:=zCa h3
    refine ⟨l,?_,.byte d1 (fun e2=>?_)⟩
    ·have:=r1.app r2
     simpa [zHF] using this
    ·subst e2
     have h5:s.e=0:=zBB (f:=fun s=>zAw t s) (fun h=>zGc h) h3
     exact e46 (zAl h5 r1.2)
theorem zF5 (ha:AltS t alt A) {s:RS} (h:(zBr t alt s).2.e=0):∃ l,Rdg t s l (zAn (zBr t alt s).1) (zBr t alt s).2∧DPiece A l (zBr t alt s).1:=by
 unfold zBr at h ⊢
 have h1:(zBE t alt s).2.e=0:=zBB (f:=fun s'=>repL t (t.length+1) (zBE t alt s).1 s') (fun h=>by rw [zBu h]) h
 obtain ⟨l,r1,d1⟩:=zL4 ha h1
 obtain ⟨m,j,r2,e2,d2⟩:=zGy (A:=A) h
 exact ⟨_,by rw [e2];exact r1.app r2,d2 _ (.atom d1)⟩
theorem zGG (ha:AltS t alt A):∀ {k:Nat}{acc:List RgD}{s:RS},(catL t alt k acc s).2.e=0→∃ l ns,Rdg t s l (zAr ns) (catL t alt k acc s).2∧(catL t alt k acc s).1=acc++ns∧DPieces A l ns
 | 0,acc,s,h=>⟨[],[],.nil h,by rw [List.append_nil];rfl,.nil⟩
 | k+1,acc,s,h=>by
   have hs:s.e=0:=zBB (f:=fun s=>catL t alt (k+1) acc s) (fun h=>by rw [zE2 h]) h
   rw [catL] at h ⊢
   split at h
   ·rename_i e
    rw [if_pos e]
    have h1:(zBr t alt s).2.e=0:=zBB (f:=fun s'=>catL t alt k (acc++[(zBr t alt s).1]) s') (fun h=>by rw [zE2 h]) h
    obtain ⟨l,r1,d1⟩:=zF5 ha h1
    obtain ⟨m,ns,r2,e2,d2⟩:=zGG ha h
    exact ⟨_,_,by rw [zAr];exact r1.app r2,by rw [e2];simp,.cons d1 d2⟩
   ·rename_i e
    rw [if_neg e];exact ⟨[],[],.nil hs,by rw [List.append_nil],.nil⟩
theorem zGb (ha:AltS t alt A) {s:RS} (h:(catD t alt s).2.e=0):∃ l,Rdg t s l (zAn (catD t alt s).1) (catD t alt s).2∧DCat A l (catD t alt s).1:=by
 unfold catD at h ⊢
 have h1:(catL t alt (t.length+1) [] s).2.e=0:=by
  by_cases hz:(catL t alt (t.length+1) [] s).2.e=0
  ·exact hz
  ·exact absurd ((zEP (l:=(catL t alt (t.length+1) [] s).1) hz).symm.trans h) hz
 obtain ⟨l,ns,r1,e1,d1⟩:=zGG ha h1
 rw [List.nil_append] at e1
 generalize catL t alt (t.length+1) [] s=x at h h1 r1 e1
 obtain ⟨x1,x2⟩:=x
 dsimp only at e1 r1 h1
 subst e1
 match x1,d1 with
 | [],d1 =>
   obtain ⟨r2,_⟩:=zBl (t:=t) (s:=x2) h
   exact ⟨l,by show Rdg t s l (zAn zFS) (zA3 x2);have:=r1.app r2;rwa [List.append_nil,zAr,Nat.zero_add,←zIT] at this,[],d1,rfl⟩
 | [x],d1=>exact ⟨l,by have:=r1;rw [zAr,zAr] at this;exact this,[x],d1,rfl⟩
 | x::y::q,d1 =>
   obtain ⟨r2,_⟩:=zBl (t:=t) (s:=x2) h
   exact ⟨l,by have:=r1.app r2;rw [List.append_nil] at this;exact this,x::y::q,d1,rfl⟩
theorem zGJ (ha:AltS t alt A):∀ {k:Nat}{acc:List RgD}{s:RS},(altL t alt k acc s).2.e=0→∃ l ns,Rdg t s l (zAr ns) (altL t alt k acc s).2∧(altL t alt k acc s).1=acc++ns∧∀ m n,DCat A m n→DCats A (m++l) (n::ns)
 | 0,acc,s,h=>⟨[],[],.nil h,by rw [List.append_nil];rfl,fun m n hm=>by rw [List.append_nil];exact .one hm⟩
 | k+1,acc,s,h=>by
   have hs:s.e=0:=zBB (f:=fun s=>altL t alt (k+1) acc s) (fun h=>by rw [zCM h]) h
   rw [altL] at h ⊢
   split at h
   ·rename_i e
    rw [if_pos e]
    have h1:(catD t alt s.adv).2.e=0:=zBB (f:=fun s'=>altL t alt k (acc++[(catD t alt s.adv).1]) s') (fun h=>by rw [zCM h]) h
    obtain ⟨l,r1,d1⟩:=zGb ha h1
    obtain ⟨m,ns,r2,e2,d2⟩:=zGJ ha h
    refine ⟨[UInt8.ofNat 124]++l++m,(catD t alt s.adv).1::ns,by rw [zAr];have:=((Rdg.lit 124 e (by decide) (by decide)).app r1).app r2;rw [Nat.zero_add] at this;exact this,by rw [e2];simp,fun m' n' hm=>?_⟩
    exact .cons hm (d2 _ _ d1)
   ·rename_i e
    rw [if_neg e];exact ⟨[],[],.nil hs,by rw [List.append_nil],fun m n hm=>by rw [List.append_nil];exact .one hm⟩
end
theorem zGe {t:List UInt8}:∀ {d:Nat}{s:RS},(altD t d s).2.e=0→∃ l,Rdg t s l (zAn (altD t d s).1) (altD t d s).2∧DAlt d l (altD t d s).1
 | 0,s,h=>(zA1 (s:=s) (by decide) h).elim
 | d+1,s,h=>by
   have ha:AltS t (altD t d) (DAlt d):=⟨fun h=>zGe h,fun h=>zE7 h⟩
   rw [altD] at h ⊢
   have h1:(altL t (altD t d) (t.length+1) [(catD t (altD t d) s).1] (catD t (altD t d) s).2).2.e=0:=by
    by_cases hz:(altL t (altD t d) (t.length+1) [(catD t (altD t d) s).1] (catD t (altD t d) s).2).2.e=0
    ·exact hz
    ·exact absurd ((zEQ (l:=(altL t (altD t d) (t.length+1) [(catD t (altD t d) s).1] (catD t (altD t d) s).2).1) hz).symm.trans h) hz
   have h2:(catD t (altD t d) s).2.e=0:=zBB (f:=fun s'=>altL t (altD t d) (t.length+1) [(catD t (altD t d) s).1] s') (fun h=>by rw [zCM h]) h1
   obtain ⟨l,r1,d1⟩:=zGb ha h2
   obtain ⟨m,ns,r2,e2,d2⟩:=zGJ ha h1
   have hd:=d2 _ _ d1
   have hr:=r1.app r2
   generalize altL t (altD t d) (t.length+1) [(catD t (altD t d) s).1] (catD t (altD t d) s).2=x at h h1 hr e2
   obtain ⟨x1,x2⟩:=x
   dsimp only at e2 hr h1
   subst e2
   match ns,hd,hr with
   | [],hd,hr=>exact ⟨_,by rw [zAr] at hr;exact hr,_,hd,rfl⟩
   | y::q,hd,hr =>
     obtain ⟨r3,_⟩:=zBl (t:=t) (s:=x2) h
     exact ⟨_,by have:=hr.app r3;rw [List.append_nil] at this;exact this,_,hd,rfl⟩
end Go.Proofs.YtmaennnkaoollaaGreatDoor
namespace Go.Proofs.YtmaennnkaoollaaGreatDoor
open Go Go.E
def Known (e:Nat):Prop:=e=1∨e=2∨e=5∨e=6∨e=160
structure Inv (t:List UInt8) (s:RS):Prop where
 p0:s.e=0→s.p≤t.length
 p:s.p≤t.length+2
 f:s.f≤t.length
 e:s.e=0∨Known s.e
section
variable {t:List UInt8}{s:RS}
theorem Inv.wrong (h:Inv t s) {e f:Nat} (he:Known e) (hf:s.e=0→f≤t.length):Inv t (s.wrong e f):=by
 unfold RS.wrong
 split
 ·rename_i h0;exact ⟨fun h=>by unfold Known at he;dsimp only at h;omega,h.p,hf h0,.inr he⟩
 ·exact h
theorem zAF (h:zAe t s≠0):s.e=0∧s.p<t.length:=by
 unfold zAe at h
 split at h
 ·rename_i h1;exact ⟨h1.2,h1.1⟩
 ·exact absurd rfl h
theorem Inv.adv (h:Inv t s) (hp:zAe t s≠0):Inv t s.adv:=by
 have:=zAF hp
 exact ⟨fun _=>this.2,by show s.p+1≤_;omega,h.f,h.e⟩
theorem Inv.advW (h:Inv t s) (hp:s.p≤t.length+1) {a:Nat} (ha:a≤t.length):Inv t (s.adv.wrong 5 a):=by
 unfold RS.wrong
 split
 ·exact ⟨fun h=>(by cases h),by show s.p+1≤_;omega,ha,.inr (.inr (.inr (.inl rfl)))⟩
 ·rename_i h0;exact ⟨fun h=>absurd h h0,by show s.p+1≤_;omega,h.f,h.e⟩
theorem Inv.digit (h:Inv t s) (hp:s.p≤t.length+1) {a:Nat} (ha:a≤t.length):Inv t (zAA t a s).2:=by
 unfold zAA
 split
 ·rename_i h1;exact h.adv (by intro e;rw [e] at h1;cases h1)
 ·split
  ·exact h.adv (by omega)
  ·exact h.advW hp ha
theorem digit_p {a:Nat}:(zAA t a s).2.p=s.p+1:=by
 unfold zAA
 split
 ·rfl
 ·split
  ·rfl
  ·unfold RS.wrong;split<;>rfl
theorem Inv.esc (h:Inv t s) (hp:s.p≤t.length) {a:Nat} (ha:a≤t.length):Inv t (escD t a s).2:=by
 unfold escD
 split
 ·exact h.adv (by omega)
 ·split
  ·exact h.adv (by omega)
  ·split
   ·exact h.adv (by omega)
   ·split
    ·exact h.adv (by omega)
    ·split
     ·have h1:=h.adv (by omega)
      have hq:s.adv.p≤t.length:=(zAF (t:=t) (s:=s) (by omega)).2
      exact (h1.digit (by omega) ha).digit (by rw [digit_p];omega) ha
     ·dsimp only
      split
      ·exact h.advW (by omega) ha
      ·rename_i hb;exact h.adv (by intro e;rw [e] at hb;exact hb (by decide))
theorem Inv.byte (h:Inv t s):Inv t (zAw t s).2:=by
 unfold zAw
 split
 ·rename_i e
  have hp:=zAF (t:=t) (s:=s) (by rw [e];decide)
  exact (h.adv (by rw [e];decide)).esc (by show s.p+1≤_;omega) (by omega)
 ·split
  ·exact h.wrong (.inr (.inr (.inl rfl))) h.p0
  ·rename_i hb;exact h.adv (by intro e;rw [e] at hb;exact hb (by decide))
theorem Inv.pair (h:Inv t s):Inv t (zAZ t s).2:=by
 unfold zAZ
 split
 ·rename_i e;exact (h.byte.adv (by rw [e];decide)).byte
 ·exact h.byte
theorem Inv.ite {c:Prop} [Decidable c] {a b:RS} (ha:c→Inv t a) (hb:¬c→Inv t b):Inv t (if c then a else b):=by split<;>(first|exact ha (by assumption)|exact hb (by assumption))
theorem Inv.pairs {a:Nat} (ha:a≤t.length):∀ {k:Nat}{z:SetD}{s:RS},Inv t s→Inv t (setL t a k z s).2
 | 0,z,s,h=>h
 | k+1,z,s,h=>by
   rw [setL]
   split
   ·split
    ·exact h.wrong (.inr (.inr (.inl rfl))) h.p0
    ·exact Inv.pairs ha (Inv.ite (fun _=>h.pair.wrong (.inl rfl) (fun _=>ha)) (fun _=>h.pair))
   ·exact h
theorem Inv.eat (h:Inv t s) {c:Nat} (hc:c≠0):Inv t (eatS t c s):=by
 unfold eatS
 split
 ·rename_i e;exact h.adv (by rw [e];exact hc)
 ·exact h
theorem Inv.must (h:Inv t s) {c:Nat} (hc:c≠0):Inv t (zBc t c s):=by
 unfold zBc
 split
 ·rename_i e;exact h.adv (by rw [e];exact hc)
 ·exact h.wrong (.inr (.inr (.inl rfl))) h.p0
theorem Inv.set (h:Inv t s) {a:Nat} (ha:a≤t.length):Inv t (setD t a s).2:=by
 have h1:=(Inv.pairs (a:=a) ha (k:=t.length+1) (z:=zeroS) (h.eat (c:=94) (by decide))).must (c:=93) (by decide)
 unfold setD
 exact Inv.ite (fun _=>h1.wrong (.inr (.inr (.inr (.inr rfl)))) (fun _=>ha)) (fun _=>h1)
theorem Inv.node (h:Inv t s):Inv t (zA3 s):=by
 unfold zA3
 have h1:Inv t { s with n:=s.n+1 }:=⟨h.p0,h.p,h.f,h.e⟩
 exact Inv.ite (fun _=>h1.wrong (.inr (.inl rfl)) (fun e=>h.p0 e)) (fun _=>h1)
theorem zJv (l:List UInt8):(zBx l).length≤l.length:=List.takeWhile_sublist _ |>.length_le
theorem Inv.count (h:Inv t s) (hp:s.p≤t.length):Inv t (zAg t s).2:=by
 have hl:=zJv (t.drop s.p)
 rw [List.length_drop] at hl
 have h1:Inv t { s with p:=s.p+(zBx (t.drop s.p)).length }:=⟨fun _=>by dsimp only;omega,by dsimp only;omega,h.f,h.e⟩
 unfold zAg
 dsimp only
 split
 ·exact h1.wrong (.inr (.inr (.inl rfl))) (fun _=>hp)
 ·split
  ·exact h1.wrong (.inl rfl) (fun _=>hp)
  ·exact h1
theorem Inv.counts (h:Inv t s) (hp:s.p≤t.length):Inv t (zAs t s).2:=by
 have h1:=h.count hp
 unfold zAs
 dsimp only
 have h2:Inv t (if zAe t (zAg t s).2=44 then (if zAe t (zAg t s).2.adv=125 then ((-1:Int),(zAg t s).2.adv) else (((zAg t (zAg t s).2.adv).1:Int),(zAg t (zAg t s).2.adv).2)) else (((zAg t s).1:Int),(zAg t s).2)).2:=by
  split
  ·rename_i e
   have h3:=h1.adv (by rw [e];decide)
   split
   ·exact h3
   ·exact h3.count (zAF (t:=t) (s:=(zAg t s).2) (by rw [e];decide)).2
  ·exact h1
 exact Inv.ite (fun _=>(h2.must (by decide)).wrong (.inl rfl) (fun _=>hp)) (fun _=>h2.must (by decide))
theorem Inv.rep:∀ {k:Nat}{n:RgD}{s:RS},Inv t s→Inv t (repL t k n s).2
 | 0,n,s,h=>h
 | k+1,n,s,h=>by
   rw [repL]
   split
   ·rename_i e;exact Inv.rep (h.adv (by rw [e];decide)).node
   ·split
    ·rename_i e;exact Inv.rep (h.adv (by rw [e];decide)).node
    ·split
     ·rename_i e;exact Inv.rep (h.adv (by rw [e];decide)).node
     ·split
      ·rename_i e;exact Inv.rep ((h.adv (by rw [e];decide)).counts (zAF (t:=t) (s:=s) (by rw [e];decide)).2).node
      ·exact h
end
section
variable {t:List UInt8}{alt:RS→RgD × RS} (ha:∀ {s:RS},Inv t s→s.e=0→Inv t (alt s).2)
include ha
theorem Inv.atom {s:RS} (h:Inv t s) (h0:s.e=0):Inv t (zBE t alt s).2:=by
 unfold zBE
 split
 ·rename_i e;exact (ha (h.adv (by rw [e];decide)) h0).must (by decide)
 ·split
  ·rename_i e;exact (h.adv (by rw [e];decide)).node
  ·split
   ·rename_i e;exact ((h.adv (by rw [e];decide)).set (h.p0 h0)).node
   ·exact h.byte.node
theorem Inv.piece {s:RS} (h:Inv t s) (h0:s.e=0):Inv t (zBr t alt s).2:=Inv.rep (h.atom ha h0)
theorem Inv.cats1:∀ {k:Nat}{l:List RgD}{s:RS},Inv t s→Inv t (catL t alt k l s).2
 | 0,l,s,h=>h
 | k+1,l,s,h=>by
   rw [catL]
   split
   ·rename_i e;exact Inv.cats1 (h.piece ha (zAF e.1).1)
   ·exact h
theorem Inv.cat {s:RS} (h:Inv t s):Inv t (catD t alt s).2:=by
 unfold catD
 have h1:=Inv.cats1 ha (k:=t.length+1) (l:=[]) h
 generalize catL t alt (t.length+1) [] s=x at h1
 unfold zJz
 split
 ·exact h1.node
 ·exact h1
 ·exact h1.node
theorem Inv.alts:∀ {k:Nat}{l:List RgD}{s:RS},Inv t s→Inv t (altL t alt k l s).2
 | 0,l,s,h=>h
 | k+1,l,s,h=>by
   rw [altL]
   split
   ·rename_i e;exact Inv.alts ((h.adv (by rw [e];decide)).cat ha)
   ·exact h
end
theorem Inv.alt {t:List UInt8}:∀ {d:Nat}{s:RS},Inv t s→Inv t (altD t d s).2
 | 0,s,h=>h.wrong (.inr (.inr (.inr (.inl rfl)))) h.p0
 | d+1,s,h=>by
   have h1:=Inv.alts (fun {s} h _=>Inv.alt (d:=d) h) (k:=t.length+1) (l:=[(catD t (altD t d) s).1]) (h.cat (fun {s} h _=>Inv.alt (d:=d) h))
   unfold altD
   generalize altL t (altD t d) (t.length+1) [(catD t (altD t d) s).1] (catD t (altD t d) s).2=x at h1
   unfold zJ6
   split
   ·exact h1
   ·exact h1.node
end Go.Proofs.YtmaennnkaoollaaGreatDoor
namespace Go.Proofs.YtmaennnkaoollaaGreatDoor
open Go Go.E
structure NB (B:Nat) (s:RS):Prop where
 n0:s.e=0→s.n≤512
 n:s.n≤B
section
variable {t:List UInt8}{s:RS}{B:Nat}
theorem zCb (s:RS) (e f:Nat):(s.wrong e f).n=s.n:=by unfold RS.wrong;split<;>rfl
theorem NB.wrong (h:NB B s) {e f:Nat} (he:e≠0):NB B (s.wrong e f):=⟨fun h2=>(zD3 he h2).elim,by rw [zCb];exact h.n⟩
theorem NB.le (h:NB B s) {C:Nat} (hc:B≤C):NB C s:=⟨h.n0,Nat.le_trans h.n hc⟩
theorem NB.node (h:NB B s):NB (B+1) (zA3 s):=by
 have:=h.n
 unfold zA3
 split
 ·exact ⟨fun h2=>(zD3 (by decide) h2).elim,by rw [zCb];dsimp only;omega⟩
 ·exact ⟨fun _=>by dsimp only;omega,by dsimp only;omega⟩
theorem zN9 {a:Nat}:(zAA t a s).2.n=s.n:=by
 unfold zAA
 repeat' split
 all_goals first|rfl|exact zCb s.adv _ _
theorem esc_n {a:Nat}:(escD t a s).2.n=s.n:=by
 unfold escD
 repeat' split
 all_goals first|rfl|exact zCb s.adv _ _|(dsimp only;rw [zN9,zN9];rfl)|skip
theorem zIE:(zAw t s).2.n=s.n:=by
 unfold zAw
 repeat' split
 all_goals first|rfl|exact zCb s _ _|(rw [esc_n];rfl)
theorem pair_n:(zAZ t s).2.n=s.n:=by
 unfold zAZ
 split
 ·dsimp only;rw [zIE];exact zIE
 ·exact zIE
theorem zMc {a:Nat}:∀ {k:Nat}{z:SetD}{s:RS},(setL t a k z s).2.n=s.n
 | 0,z,s=>rfl
 | k+1,z,s=>by
   rw [setL]
   split
   ·split
    ·exact zCb s _ _
    ·rw [zMc]
     split
     ·rw [zCb,pair_n]
     ·exact pair_n
   ·rfl
theorem zIh {c:Nat}:(zBc t c s).n=s.n:=by
 unfold zBc
 split
 ·rfl
 ·exact zCb s _ _
theorem eat_n {c:Nat}:(eatS t c s).n=s.n:=by
 unfold eatS
 split<;>rfl
theorem set_n {a:Nat}:(setD t a s).2.n=s.n:=by
 unfold setD
 dsimp only
 split
 ·rw [zCb,zIh,zMc,eat_n]
 ·rw [zIh,zMc,eat_n]
theorem zHt:(zAg t s).2.n=s.n:=by
 unfold zAg
 dsimp only
 repeat' split
 all_goals first|rfl|exact zCb _ _ _
theorem zHs:(zAs t s).2.n=s.n:=by
 unfold zAs
 dsimp only
 have h:(if zAe t (zAg t s).2=44 then (if zAe t (zAg t s).2.adv=125 then ((-1:Int),(zAg t s).2.adv) else (((zAg t (zAg t s).2.adv).1:Int),(zAg t (zAg t s).2.adv).2)) else (((zAg t s).1:Int),(zAg t s).2)).2.n=s.n:=by
  split
  ·split
   ·exact zHt
   ·dsimp only;rw [zHt];exact zHt
  ·exact zHt
 generalize (if zAe t (zAg t s).2=44 then (if zAe t (zAg t s).2.adv=125 then ((-1:Int),(zAg t s).2.adv) else (((zAg t (zAg t s).2.adv).1:Int),(zAg t (zAg t s).2.adv).2)) else (((zAg t s).1:Int),(zAg t s).2))=x at h
 split
 ·rw [zCb,zIh,h]
 ·rw [zIh,h]
theorem NB.of (h:NB B s) {s':RS} (hn:s'.n=s.n) (hk:s'.e=0→s.e=0):NB B s':=⟨fun h2=>by rw [hn];exact h.n0 (hk h2),by rw [hn];exact h.n⟩
theorem NB.small (h:NB B s) (h0:s.e=0) {s':RS} (hn:s'.n=s.n):NB 513 (zA3 s'):=by
 have h1:=h.n0 h0
 have:NB 512 s':=⟨fun _=>by omega,by omega⟩
 exact this.node
theorem NB.rep (hB:513≤B):∀ {k:Nat}{n:RgD}{s:RS},NB B s→NB B (repL t k n s).2
 | 0,n,s,h=>h
 | k+1,n,s,h=>by
   rw [repL]
   split
   ·rename_i e;exact NB.rep hB ((h.small (zAF (t:=t) (s:=s) (by rw [e];decide)).1 (s':=s.adv) rfl).le hB)
   ·split
    ·rename_i e;exact NB.rep hB ((h.small (zAF (t:=t) (s:=s) (by rw [e];decide)).1 (s':=s.adv) rfl).le hB)
    ·split
     ·rename_i e;exact NB.rep hB ((h.small (zAF (t:=t) (s:=s) (by rw [e];decide)).1 (s':=s.adv) rfl).le hB)
     ·split
      ·rename_i e;exact NB.rep hB ((h.small (zAF (t:=t) (s:=s) (by rw [e];decide)).1 (s':=(zAs t s.adv).2) zHs).le hB)
      ·exact h
end
section
variable {t:List UInt8}{alt:RS→RgD × RS}{B C:Nat} (hB:513≤B) (ha:∀ {s:RS},s.e=0→s.n≤512→NB B (alt s).2)
include hB ha
theorem NB.atom {s:RS} (h0:s.e=0) (hn:s.n≤512):NB B (zBE t alt s).2:=by
 have h:NB 512 s:=⟨fun _=>hn,hn⟩
 unfold zBE
 split
 ·have h1:=ha (s:=s.adv) h0 hn
  exact h1.of zIh (fun h2=>zBB (f:=fun s=>((),zBc t 41 s)) (fun h=>zCH h) h2)
 ·split
  ·exact (h.small h0 (s':=s.adv) rfl).le hB
  ·split
   ·exact (h.small h0 (s':=(setD t s.p s.adv).2) set_n).le hB
   ·exact (h.small h0 (s':=(zAw t s).2) zIE).le hB
theorem NB.piece {s:RS} (h0:s.e=0) (hn:s.n≤512):NB B (zBr t alt s).2:=NB.rep hB (NB.atom hB ha h0 hn)
theorem NB.cats1:∀ {k:Nat}{l:List RgD}{s:RS},NB B s→NB B (catL t alt k l s).2
 | 0,l,s,h=>h
 | k+1,l,s,h=>by
   rw [catL]
   split
   ·rename_i e
    have h0:=(zAF e.1).1
    exact NB.cats1 (NB.piece hB ha h0 (h.n0 h0))
   ·exact h
theorem NB.cat {s:RS} (h:NB B s):NB (B+1) (catD t alt s).2:=by
 unfold catD
 have h1:=NB.cats1 (t:=t) hB ha (k:=t.length+1) (l:=[]) h
 generalize catL t alt (t.length+1) [] s=x at h1
 unfold zJz
 split
 ·exact h1.node
 ·exact h1.le (by omega)
 ·exact h1.node
theorem NB.alts:∀ {k:Nat}{l:List RgD}{s:RS},NB (B+1) s→NB (B+1) (altL t alt k l s).2
 | 0,l,s,h=>h
 | k+1,l,s,h=>by
   rw [altL]
   split
   ·rename_i e
    have h0:=(zAF (t:=t) (s:=s) (by rw [e];decide)).1
    exact NB.alts (NB.cat hB ha (s:=s.adv) ⟨fun _=>h.n0 h0,Nat.le_trans (h.n0 h0) (by omega)⟩)
   ·exact h
end
theorem NB.alt {t:List UInt8}:∀ {d:Nat}{s:RS},s.e=0→s.n≤512→NB (513+2*d) (altD t d s).2
 | 0,s,h0,hn=>by
   have h:NB 513 s:=⟨fun _=>hn,by omega⟩
   exact h.wrong (by decide)
 | d+1,s,h0,hn=>by
   have ha:∀ {s:RS},s.e=0→s.n≤512→NB (513+2*d) (altD t d s).2:=fun h0 hn=>NB.alt h0 hn
   have h:NB (513+2*d) s:=⟨fun _=>hn,by omega⟩
   have h1:=NB.alts (t:=t) (by omega) ha (k:=t.length+1) (l:=[(catD t (altD t d) s).1]) (NB.cat (t:=t) (s:=s) (by omega) ha h)
   unfold altD
   generalize altL t (altD t d) (t.length+1) [(catD t (altD t d) s).1] (catD t (altD t d) s).2=x at h1
   unfold zJ6
   split
   ·exact h1.le (by omega)
   ·exact h1.node
end Go.Proofs.YtmaennnkaoollaaGreatDoor
namespace Go.Proofs.YtmaennnkaoollaaGreatDoor
open Go Go.E
section
variable {A:List UInt8→RgD→Prop} (hA:∀ l n,A l n→zAJ n=0)
include hA
end
end Go.Proofs.YtmaennnkaoollaaGreatDoor
end
