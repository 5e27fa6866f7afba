/- Texts of a walk, one behind the other. -/
import Derived.Lib.IndexMore
import Derived.Shelf.Bits.Mul64
import Derived.Ground.NamesProg
import Derived.Test.YtnapjcnfgdkmcaaGreatDoorMg2
import Derived.Test.YtnapjcnfgdkmcaaGreatDoorMg3
set_option linter.unusedVariables false
set_option linter.unusedSimpArgs false
set_option linter.unusedSectionVars false
set_option maxRecDepth 10000
section
namespace Go.Proofs.YtnapjcnfgdkmcaaGreatDoor
open Go Go.E
def zDM (k:Nat) (x:List UInt8):List UInt8:=if k=3 then 47::(x++[47]) else x
section
variable {ro:Ro}{own r:Chs}{K:Value→Ro→Chs→Prop}{g:Chunk→Chs}
end
theorem head_nil {p:UInt8→Bool}{y:List UInt8} (h:∀ u,y.head?=some u→p u=false):y.takeWhile p=[]:=by
 cases y with
 | nil=>rfl
 | cons u y=>rw [List.takeWhile_cons,h u rfl];rfl
theorem zGZ {p:UInt8→Bool} (l:List UInt8):∀ u∈l.takeWhile p,p u=true:=fun u hu=>by
 induction l with
 | nil=>simp at hu
 | cons x l ih =>
   rw [List.takeWhile_cons] at hu
   split at hu
   ·rcases List.mem_cons.1 hu with rfl|h
    ·assumption
    ·exact ih h
   ·simp at hu
theorem zGY {p:UInt8→Bool}{w y:List UInt8} (h:∀ u∈w,p u=true) (hy:∀ u,y.head?=some u→p u=false):(w++y).takeWhile p=w:=by
 rw [List.takeWhile_append_of_pos h,head_nil hy,List.append_nil]
theorem zFs {p:UInt8→Bool} (l:List UInt8):l.takeWhile p++l.drop (l.takeWhile p).length=l:=by
 induction l with
 | nil=>rfl
 | cons x l ih =>
   rw [List.takeWhile_cons]
   split
   ·rw [List.length_cons,List.drop_succ_cons,List.cons_append,ih]
   ·rfl
structure Front (l:List UInt8) (k:Nat) (w:List UInt8) (n:Nat):Prop where
 len:n=(zDM k w).length
 pos:1≤n
 five:k≠5
 app:zDM k w++l.drop n=l
 again:∀ y:List UInt8,(∀ u,y.head?=some u→u.toNat=32)→zAE (zDM k w++y)=(k,w,n,0)
 gap:∀ y:List UInt8,gapD false (zDM k w++y)=0
theorem zDp {c:UInt8} (r:List UInt8) (h1:c.toNat≠10) (h2:c.toNat≠32) (h3:c.toNat≠9) (h4:c.toNat≠13) (h5:c.toNat≠35):gapD false (c::r)=0:=by
 rw [gapD,if_neg h1,if_neg (by simp [h2,h3,h4]),if_neg h5]
theorem letB_rng {u:UInt8} (h:letB u=true):65≤u.toNat:=by
 unfold letB at h
 simp at h
 omega
theorem digB_rng {u:UInt8} (h:digB u=true):48≤u.toNat:=by
 unfold digB at h
 simp at h
 omega
theorem word_32 {u:UInt8} (h:u.toNat=32∨u.toNat=10):zBn u=false:=by
 unfold zBn letB digB
 simp
 omega
theorem dig_32 {u:UInt8} (h:u.toNat=32∨u.toNat=10):digB u=false:=by
 unfold digB
 simp
 omega
theorem zDU:∀ s∈signsL,∀ y,zAE (s++y)=(4,s,s.length,0)∧gapD false (s++y)=0:=by
 intro s hs y
 simp only [signsL,List.mem_cons,List.not_mem_nil,or_false] at hs
 rcases hs with rfl|rfl|rfl|rfl|rfl|rfl|rfl|rfl|rfl|rfl|rfl|rfl|rfl|rfl<;>exact ⟨rfl,zDp _ (by decide) (by decide) (by decide) (by decide) (by decide)⟩
theorem zFC {l:List UInt8}{k:Nat}{w:List UInt8}{n:Nat} (h:zAE l=(k,w,n,0)):Front l k w n:=by
 cases l with
 | nil=>simp [zAE] at h
 | cons c r =>
   rw [zAE] at h
   by_cases h1:letB c=true
   ·rw [if_pos h1] at h
    split at h
    ·simp at h
    rename_i h24
    obtain ⟨rfl,hw,hn⟩:1=k∧(c::r).takeWhile zBn=w∧((c::r).takeWhile zBn).length=n:=by simpa using h
    rw [hw] at hn h24
    have hs:zDM 1 w=w:=rfl
    have hc:zBn c=true:=by unfold zBn;rw [h1];rfl
    have hall:∀ u∈w,zBn u=true:=fun u hu=>zGZ _ u (hw▸hu)
    obtain ⟨w',hw'⟩:∃ w',w=c::w':=by rw [←hw,List.takeWhile_cons,hc];exact ⟨_,rfl⟩
    have hr:=letB_rng h1
    refine ⟨by rw [hs,hn],by rw [←hn,hw'];simp,by decide,?_,fun y hy=>?_,fun y=>?_⟩
    ·rw [hs,←hn,←hw];exact zFs _
    ·rw [hs]
     have ht:(w++y).takeWhile zBn=w:=zGY hall (fun u hu=>word_32 (.inl (hy u hu)))
     have:zAE (w++y)=if letB c=true then (if 24<((w++y).takeWhile zBn).length then (0,[],0,2) else (1,(w++y).takeWhile zBn,((w++y).takeWhile zBn).length,0)) else zAE (w++y):=by
      rw [if_pos h1,hw',List.cons_append,zAE,if_pos h1]
     rw [this,if_pos h1,ht,if_neg h24,hn]
    ·rw [hs,hw',List.cons_append]
     exact zDp _ (by omega) (by omega) (by omega) (by omega) (by omega)
   rw [if_neg h1] at h
   by_cases h2:digB c=true
   ·rw [if_pos h2] at h
    split at h
    ·simp at h
    rename_i h20
    split at h
    ·simp at h
    rename_i h0
    obtain ⟨rfl,hw,hn⟩:2=k∧(c::r).takeWhile digB=w∧((c::r).takeWhile digB).length=n:=by simpa using h
    rw [hw] at hn h20 h0
    have hs:zDM 2 w=w:=rfl
    have hall:∀ u∈w,digB u=true:=fun u hu=>zGZ _ u (hw▸hu)
    obtain ⟨w',hw'⟩:∃ w',w=c::w':=by rw [←hw,List.takeWhile_cons,h2];exact ⟨_,rfl⟩
    have hr:=digB_rng h2
    have hr2:c.toNat≤57:=by unfold digB at h2;simp at h2;omega
    refine ⟨by rw [hs,hn],by rw [←hn,hw'];simp,by decide,?_,fun y hy=>?_,fun y=>?_⟩
    ·rw [hs,←hn,←hw];exact zFs _
    ·rw [hs]
     have ht:(w++y).takeWhile digB=w:=zGY hall (fun u hu=>dig_32 (.inl (hy u hu)))
     have:zAE (w++y)=if 20<((w++y).takeWhile digB).length then (0,[],0,2) else if 1<((w++y).takeWhile digB).length∧c.toNat=48 then (0,[],0,5) else (2,(w++y).takeWhile digB,((w++y).takeWhile digB).length,0):=by
      rw [hw',List.cons_append,zAE,if_neg h1,if_pos h2]
     rw [this,ht,if_neg h20,if_neg h0,hn]
    ·rw [hs,hw',List.cons_append]
     exact zDp _ (by omega) (by omega) (by omega) (by omega) (by omega)
   rw [if_neg h2] at h
   by_cases h3:c.toNat=47
   ·rw [if_pos h3] at h
    split at h
    ·simp at h
    rename_i v hv
    obtain ⟨rfl,rfl,hn⟩:3=k∧v=w∧v.length+2=n:=by simpa using h
    have hc:c=47:=UInt8.toNat_inj.1 (by simpa using h3)
    subst hc
    have hs:zDM 3 v=47::(v++[47]):=rfl
    unfold patD at hv
    split at hv
    ·simp at hv
    rename_i x r' hr'
    split at hv
    ·rename_i hx
     have hx:x=47:=UInt8.toNat_inj.1 (by simpa using hx)
     subst hx
     have hv:r.takeWhile patB=v:=by simpa using hv
     rw [hv] at hr'
     have hr:r=v++47::r':=by rw [←hr',←hv];exact (zFs r).symm
     have hall:∀ u∈v,patB u=true:=fun u hu=>zGZ _ u (hv▸hu)
     refine ⟨by rw [hs,←hn];simp,by omega,by decide,?_,fun y hy=>?_,fun y=>?_⟩
     ·rw [hs,hr,←hn,List.drop_succ_cons]
      rw [show v++47::r'=(v++[47])++r' by simp,List.drop_left' (by simp)]
      simp
     ·rw [hs]
      have hp:patD (v++47::y)=some v:=by
       have ht:(v++47::y).takeWhile patB=v:=zGY hall (fun u hu=>by
        have:u=47:=by simpa using hu.symm
        subst this;rfl)
       unfold patD
       rw [ht,List.drop_left]
       rfl
      rw [List.cons_append,List.append_assoc,zAE,if_neg h1,if_neg h2,if_pos h3]
      rw [show v++([47]++y)=v++47::y from rfl,hp,←hn]
     ·rw [hs,List.cons_append]
      exact zDp _ (by decide) (by decide) (by decide) (by decide) (by decide)
    ·simp at hv
   rw [if_neg h3] at h
   split at h
   ·rename_i s hf
    obtain ⟨rfl,rfl,hn⟩:4=k∧s=w∧s.length=n:=by simpa using h
    have hm:=List.mem_of_find?_eq_some hf
    have hp:=List.find?_some hf
    have hs:zDM 4 s=s:=rfl
    have h1:1≤s.length:=by
     have:∀ s∈signsL,1≤s.length:=by decide
     exact this s hm
    refine ⟨by rw [hs,hn],by omega,by decide,?_,fun y _=>by rw [hs,←hn];exact (zDU s hm y).1,fun y=>(zDU s hm y).2⟩
    rw [hs,←hn]
    have:=List.isPrefixOf_iff_prefix.1 hp
    obtain ⟨t,ht⟩:=this
    rw [←ht,List.drop_left]
   ·simp at h
def zIt:Nat→List UInt8→List TokD→Prop
 | _,_,[]=>False
 | a,l,t::ts=>t.a=a+gapD false l∧((t.kind=5∧t.text=[]∧ts=[]∧l.drop (gapD false l)=[]) ∨
  ∃ n,l.drop (gapD false l)≠[]∧zAE (l.drop (gapD false l))=(t.kind,t.text,n,0)∧zIt (t.a+n) ((l.drop (gapD false l)).drop n) ts)
theorem zDW:∀ (k a:Nat) (o:List TokD) (l:List UInt8) (r:List TokD) (p:Nat),l.length<k→zF1 k a o l=(r,p,0)→∃ ts,r=o++ts∧zIt a l ts
 | 0,a,o,l,r,p,h,_=>absurd h (Nat.not_lt_zero _)
 | k+1,a,o,l,r,p,hk,h=>by
   rw [zF1] at h
   split at h
   ·rename_i h0
    have:o++[⟨5,a+gapD false l,[]⟩]=r:=congrArg (·.1) h
    exact ⟨_,this.symm,rfl,.inl ⟨rfl,rfl,rfl,h0⟩⟩
   rename_i h0
   split at h
   ·simp at h
   split at h
   ·rename_i hc
    have:(zAE (l.drop (gapD false l))).2.2.2=0:=by have:=congrArg (·.2.2) h;simpa using this
    exact absurd this hc
   rename_i hc
   obtain ⟨kd,w,n,c,hf⟩:∃ kd w n c,zAE (l.drop (gapD false l))=(kd,w,n,c):=⟨_,_,_,_,rfl⟩
   rw [hf] at h hc
   have hc:c=0:=by simpa using hc
   subst hc
   dsimp only at h
   have hF:=zFC hf
   have hl:((l.drop (gapD false l)).drop n).length<k:=by
    have:=hF.pos
    have h1:(l.drop (gapD false l)).length≠0:=fun e=>h0 (List.eq_nil_of_length_eq_zero e)
    simp only [List.length_drop] at h1 ⊢
    omega
   obtain ⟨ts,e,hw⟩:=zDW k _ _ _ r p hl h
   exact ⟨⟨kd,a+gapD false l,w⟩::ts,by rw [e];simp,rfl,.inr ⟨n,h0,hf,hw⟩⟩
section
variable {ro:Ro}{own:Chs}{K:Value→Ro→Chs→Prop}{f:Chunk→Chs}
theorem zFM {n:Int} (hk:K (.bool (decide (1≤n∧n≤8))) ro own):CallOk Tryz.prog 82 #[.int .i64 n] ro own K:=by
 refine CallOk.intro (args:=[_]) (rs:=[_]) T_ok Tryz.func82 Tryz.call82 rfl rfl (by kernel_rfl) rfl rfl ?_
 repeat first|exact zE|refine wkG ?_|refine zB fun b=>?_|refine zC fun a' c' hc1 hc2=>?_|(show GJ _ _ _ _ _ _ _;first|(apply GJ.a;exact rfl;intro hg)|(apply GJ.o;exact rfl;intro hg)|refine GJ.t zO ?_|refine GJ.f zO ?_|refine GJ.ft zO ?_|refine GJ.ff zO ?_)
 refine Wk.val hk (congrArg Value.bool ?_)
 simp
def mostN (n:Int):Nat:=if 1≤n∧n≤8 then 2 ^ (8*n.toNat)-1 else 0
theorem most_ok {n:Int} (hk:K (.int .u64 (mostN n)) ro own):CallOk Tryz.prog 53 #[.int .i64 n] ro own K:=by
 refine CallOk.intro (args:=[_]) (rs:=[_]) T_ok Tryz.func53 Tryz.call53 rfl rfl (by kernel_rfl) rfl rfl ?_
 repeat first|exact zE|refine wkG ?_|refine zB fun b=>?_|refine zC fun a' c' hc1 hc2=>?_|(show GJ _ _ _ _ _ _ _;first|(apply GJ.a;exact rfl;intro hg)|(apply GJ.o;exact rfl;intro hg)|refine GJ.t zO ?_|refine GJ.f zO ?_|refine GJ.ft zO ?_|refine GJ.ff zO ?_)
 refine zFM ?_
 repeat first|exact zE|refine wkG ?_|refine zB fun b=>?_|refine zC fun a' c' hc1 hc2=>?_|(show GJ _ _ _ _ _ _ _;first|(apply GJ.a;exact rfl;intro hg)|(apply GJ.o;exact rfl;intro hg)|refine GJ.t zO ?_|refine GJ.f zO ?_|refine GJ.ft zO ?_|refine GJ.ff zO ?_)
 refine Br.cases (fun hc=>?_) (fun hc=>?_)
 ·repeat first|exact zE|refine wkG ?_|refine zB fun b=>?_|refine zC fun a' c' hc1 hc2=>?_|(show GJ _ _ _ _ _ _ _;first|(apply GJ.a;exact rfl;intro hg)|(apply GJ.o;exact rfl;intro hg)|refine GJ.t zO ?_|refine GJ.f zO ?_|refine GJ.ft zO ?_|refine GJ.ff zO ?_)
  refine Wk.val hk (congrArg (Value.int .u64) ?_)
  have:¬(1≤n∧n≤8):=by simpa using hc
  simp [mostN,this]
 ·have hc:1≤n∧n≤8:=by simpa using hc
  repeat first|exact zE|refine wkG ?_|refine zB fun b=>?_|refine zC fun a' c' hc1 hc2=>?_|(show GJ _ _ _ _ _ _ _;first|(apply GJ.a;exact rfl;intro hg)|(apply GJ.o;exact rfl;intro hg)|refine GJ.t zO ?_|refine GJ.f zO ?_|refine GJ.ft zO ?_|refine GJ.ff zO ?_)
  refine Wk.val hk (congrArg (Value.int .u64) ?_)
  obtain ⟨m,rfl⟩:=Int.eq_ofNat_of_zero_le (show 0≤n by omega)
  simp only [mostN,hc,and_self,if_true]
  rcases (show m=1∨m=2∨m=3∨m=4∨m=5∨m=6∨m=7∨m=8 by omega) with h|h|h|h|h|h|h|h<;>subst h<;>decide
end
section
variable {ro:Ro}{own r:Chs}{K:Value→Ro→Chs→Prop}{g:Chunk→Chs}
theorem zFn {a:Option Addr}{n c:Nat}{cs:List Value} (hr:Rs ro a n c 1 cs) (h1:∀ u∈cs,u.oneCell'=true) (hn:n≤100000000) (hk:∀ a' c',n≤c'→c'≤maxLen→K (.slice a' n c') ro (.sl a' n c' 3 1 cs::own)) :
  CallOk Tryz.prog 48 #[.slice a n c] ro own K:=by
 have hln:=hr.len
 have hle:=hr.le
 refine CallOk.given (fun hsat=>?_)
 refine CallOk.intro (args:=[_]) (rs:=[_]) T_ok Tryz.func48 Tryz.call48 rfl rfl (by kernel_rfl) rfl rfl ?_
 repeat first|exact zE|refine wkG ?_|refine zB fun b=>?_|refine zC fun a' c' hc1 hc2=>?_|(show GJ _ _ _ _ _ _ _;first|(apply GJ.a;exact rfl;intro hg)|(apply GJ.o;exact rfl;intro hg)|refine GJ.t zO ?_|refine GJ.f zO ?_|refine GJ.ft zO ?_|refine GJ.ff zO ?_)
 refine Br.cases (fun hc=>?_) (fun hc=>?_)
 ·subst hc
  have hn0:=hr.nilN hsat
  subst hn0
  obtain rfl:cs=[]:=List.eq_nil_of_length_eq_zero (by omega)
  repeat first|exact zE|refine wkG ?_|refine zB fun b=>?_|refine zC fun a' c' hc1 hc2=>?_|(show GJ _ _ _ _ _ _ _;first|(apply GJ.a;exact rfl;intro hg)|(apply GJ.o;exact rfl;intro hg)|refine GJ.t zO ?_|refine GJ.f zO ?_|refine GJ.ft zO ?_|refine GJ.ff zO ?_)
  exact Wk.outS (Sup.nilc (Sup.all _)) (.refl _) (hk none 0 (Nat.le_refl _) (Nat.zero_le _))
 ·repeat first|exact zE|refine wkG ?_|refine zB fun b=>?_|refine zC fun a' c' hc1 hc2=>?_|(show GJ _ _ _ _ _ _ _;first|(apply GJ.a;exact rfl;intro hg)|(apply GJ.o;exact rfl;intro hg)|refine GJ.t zO ?_|refine GJ.f zO ?_|refine GJ.ft zO ?_|refine GJ.ff zO ?_)
  exact Wk.id (hk _ _ (by omega) (by omega))
theorem zIk {a:Option Addr}{n c:Nat}{cs:List Value} (hr:Rs ro a n c 1 cs) (h1:∀ u∈cs,u.oneCell'=true) (hn:n≤100000000) (hk:∀ a' c',n≤c'→c'≤maxLen→K (.slice a' n c') ro (.sl a' n c' 4 1 cs::own)) :
  CallOk Tryz.prog 154 #[.slice a n c] ro own K:=by
 have hln:=hr.len
 have hle:=hr.le
 refine CallOk.given (fun hsat=>?_)
 refine CallOk.intro (args:=[_]) (rs:=[_]) T_ok Tryz.func154 Tryz.call154 rfl rfl (by kernel_rfl) rfl rfl ?_
 repeat first|exact zE|refine wkG ?_|refine zB fun b=>?_|refine zC fun a' c' hc1 hc2=>?_|(show GJ _ _ _ _ _ _ _;first|(apply GJ.a;exact rfl;intro hg)|(apply GJ.o;exact rfl;intro hg)|refine GJ.t zO ?_|refine GJ.f zO ?_|refine GJ.ft zO ?_|refine GJ.ff zO ?_)
 refine Br.cases (fun hc=>?_) (fun hc=>?_)
 ·subst hc
  have hn0:=hr.nilN hsat
  subst hn0
  obtain rfl:cs=[]:=List.eq_nil_of_length_eq_zero (by omega)
  repeat first|exact zE|refine wkG ?_|refine zB fun b=>?_|refine zC fun a' c' hc1 hc2=>?_|(show GJ _ _ _ _ _ _ _;first|(apply GJ.a;exact rfl;intro hg)|(apply GJ.o;exact rfl;intro hg)|refine GJ.t zO ?_|refine GJ.f zO ?_|refine GJ.ft zO ?_|refine GJ.ff zO ?_)
  exact Wk.outS (Sup.nilc (Sup.all _)) (.refl _) (hk none 0 (Nat.le_refl _) (Nat.zero_le _))
 ·repeat first|exact zE|refine wkG ?_|refine zB fun b=>?_|refine zC fun a' c' hc1 hc2=>?_|(show GJ _ _ _ _ _ _ _;first|(apply GJ.a;exact rfl;intro hg)|(apply GJ.o;exact rfl;intro hg)|refine GJ.t zO ?_|refine GJ.f zO ?_|refine GJ.ft zO ?_|refine GJ.ff zO ?_)
  exact Wk.id (hk _ _ (by omega) (by omega))
theorem zIh {a:Option Addr}{n c:Nat}{cs:List Value} (hr:Rs ro a n c 5 cs) (h1:∀ u∈cs,u.oneCell'=true) (hn:n≤100000000) (hk:∀ a' c',n≤c'→c'≤maxLen→K (.slice a' n c') ro (.sl a' n c' 47 5 cs::own)) :
  CallOk Tryz.prog 156 #[.slice a n c] ro own K:=by
 have hln:=hr.len
 have hle:=hr.le
 refine CallOk.given (fun hsat=>?_)
 refine CallOk.intro (args:=[_]) (rs:=[_]) T_ok Tryz.func156 Tryz.call156 rfl rfl (by kernel_rfl) rfl rfl ?_
 repeat first|exact zE|refine wkG ?_|refine zB fun b=>?_|refine zC fun a' c' hc1 hc2=>?_|(show GJ _ _ _ _ _ _ _;first|(apply GJ.a;exact rfl;intro hg)|(apply GJ.o;exact rfl;intro hg)|refine GJ.t zO ?_|refine GJ.f zO ?_|refine GJ.ft zO ?_|refine GJ.ff zO ?_)
 refine Br.cases (fun hc=>?_) (fun hc=>?_)
 ·subst hc
  have hn0:=hr.nilN hsat
  subst hn0
  obtain rfl:cs=[]:=List.eq_nil_of_length_eq_zero (by omega)
  repeat first|exact zE|refine wkG ?_|refine zB fun b=>?_|refine zC fun a' c' hc1 hc2=>?_|(show GJ _ _ _ _ _ _ _;first|(apply GJ.a;exact rfl;intro hg)|(apply GJ.o;exact rfl;intro hg)|refine GJ.t zO ?_|refine GJ.f zO ?_|refine GJ.ft zO ?_|refine GJ.ff zO ?_)
  exact Wk.outS (Sup.nilc (Sup.all _)) (.refl _) (hk none 0 (Nat.le_refl _) (Nat.zero_le _))
 ·repeat first|exact zE|refine wkG ?_|refine zB fun b=>?_|refine zC fun a' c' hc1 hc2=>?_|(show GJ _ _ _ _ _ _ _;first|(apply GJ.a;exact rfl;intro hg)|(apply GJ.o;exact rfl;intro hg)|refine GJ.t zO ?_|refine GJ.f zO ?_|refine GJ.ft zO ?_|refine GJ.ff zO ?_)
  exact Wk.id (hk _ _ (by omega) (by omega))
theorem zIj {a:Option Addr}{n c:Nat}{cs:List Value} (hr:Rs ro a n c 2 cs) (h1:∀ u∈cs,u.oneCell'=true) (hn:n≤100000000) (hk:∀ a' c',n≤c'→c'≤maxLen→K (.slice a' n c') ro (.sl a' n c' 97 2 cs::own)) :
  CallOk Tryz.prog 158 #[.slice a n c] ro own K:=by
 have hln:=hr.len
 have hle:=hr.le
 refine CallOk.given (fun hsat=>?_)
 refine CallOk.intro (args:=[_]) (rs:=[_]) T_ok Tryz.func158 Tryz.call158 rfl rfl (by kernel_rfl) rfl rfl ?_
 repeat first|exact zE|refine wkG ?_|refine zB fun b=>?_|refine zC fun a' c' hc1 hc2=>?_|(show GJ _ _ _ _ _ _ _;first|(apply GJ.a;exact rfl;intro hg)|(apply GJ.o;exact rfl;intro hg)|refine GJ.t zO ?_|refine GJ.f zO ?_|refine GJ.ft zO ?_|refine GJ.ff zO ?_)
 refine Br.cases (fun hc=>?_) (fun hc=>?_)
 ·subst hc
  have hn0:=hr.nilN hsat
  subst hn0
  obtain rfl:cs=[]:=List.eq_nil_of_length_eq_zero (by omega)
  repeat first|exact zE|refine wkG ?_|refine zB fun b=>?_|refine zC fun a' c' hc1 hc2=>?_|(show GJ _ _ _ _ _ _ _;first|(apply GJ.a;exact rfl;intro hg)|(apply GJ.o;exact rfl;intro hg)|refine GJ.t zO ?_|refine GJ.f zO ?_|refine GJ.ft zO ?_|refine GJ.ff zO ?_)
  exact Wk.outS (Sup.nilc (Sup.all _)) (.refl _) (hk none 0 (Nat.le_refl _) (Nat.zero_le _))
 ·repeat first|exact zE|refine wkG ?_|refine zB fun b=>?_|refine zC fun a' c' hc1 hc2=>?_|(show GJ _ _ _ _ _ _ _;first|(apply GJ.a;exact rfl;intro hg)|(apply GJ.o;exact rfl;intro hg)|refine GJ.t zO ?_|refine GJ.f zO ?_|refine GJ.ft zO ?_|refine GJ.ff zO ?_)
  exact Wk.id (hk _ _ (by omega) (by omega))
theorem zIi {a:Option Addr}{n c:Nat}{cs:List Value} (hr:Rs ro a n c 2 cs) (h1:∀ u∈cs,u.oneCell'=true) (hn:n≤100000000) (hk:∀ a' c',n≤c'→c'≤maxLen→K (.slice a' n c') ro (.sl a' n c' 44 2 cs::own)) :
  CallOk Tryz.prog 116 #[.slice a n c] ro own K:=by
 have hln:=hr.len
 have hle:=hr.le
 refine CallOk.given (fun hsat=>?_)
 refine CallOk.intro (args:=[_]) (rs:=[_]) T_ok Tryz.func116 Tryz.call116 rfl rfl (by kernel_rfl) rfl rfl ?_
 repeat first|exact zE|refine wkG ?_|refine zB fun b=>?_|refine zC fun a' c' hc1 hc2=>?_|(show GJ _ _ _ _ _ _ _;first|(apply GJ.a;exact rfl;intro hg)|(apply GJ.o;exact rfl;intro hg)|refine GJ.t zO ?_|refine GJ.f zO ?_|refine GJ.ft zO ?_|refine GJ.ff zO ?_)
 refine Br.cases (fun hc=>?_) (fun hc=>?_)
 ·subst hc
  have hn0:=hr.nilN hsat
  subst hn0
  obtain rfl:cs=[]:=List.eq_nil_of_length_eq_zero (by omega)
  repeat first|exact zE|refine wkG ?_|refine zB fun b=>?_|refine zC fun a' c' hc1 hc2=>?_|(show GJ _ _ _ _ _ _ _;first|(apply GJ.a;exact rfl;intro hg)|(apply GJ.o;exact rfl;intro hg)|refine GJ.t zO ?_|refine GJ.f zO ?_|refine GJ.ft zO ?_|refine GJ.ff zO ?_)
  exact Wk.outS (Sup.nilc (Sup.all _)) (.refl _) (hk none 0 (Nat.le_refl _) (Nat.zero_le _))
 ·repeat first|exact zE|refine wkG ?_|refine zB fun b=>?_|refine zC fun a' c' hc1 hc2=>?_|(show GJ _ _ _ _ _ _ _;first|(apply GJ.a;exact rfl;intro hg)|(apply GJ.o;exact rfl;intro hg)|refine GJ.t zO ?_|refine GJ.f zO ?_|refine GJ.ft zO ?_|refine GJ.ff zO ?_)
  exact Wk.id (hk _ _ (by omega) (by omega))
end
structure zAm where
 name:List UInt8
 type:Int
 derive:Int
 of:List UInt8
 to:List UInt8
deriving DecidableEq
structure zB2 where
 value:Nat
 type:Int
deriving DecidableEq
structure zAh where
 kind:Int
 width:Int
 little:Bool
 zig:Bool
 lenient:Bool
 min:Nat
 max:Nat
 text:List UInt8
 ereg:List UInt8
 emul:Nat
 eadd:Nat
 kids:List Int
 last:List Bool
 fields:List zAm
 reg:List UInt8
 mod:Nat
 cases:List zB2
 els:Int
deriving DecidableEq
structure DefD where
 name:List UInt8
 type:Int
deriving DecidableEq
structure zAd where
 nodes:List zAh
 defs:List DefD
deriving DecidableEq
def zA1 (f:zAm):List Value:=[str f.name,.int .i64 f.type,.int .i64 f.derive,str f.of,str f.to]
def zCA (c:zB2):List Value:=[.int .u64 (c.value:Nat),.int .i64 c.type]
def defV (d:DefD):List Value:=[str d.name,.int .i64 d.type]
structure zA5 where
 ka:Option Addr
 kc:Nat
 la:Option Addr
 lc:Nat
 fa:Option Addr
 fc:Nat
 ca:Option Addr
 cc:Nat
def zAl (d:zAh) (a:zA5):List Value :=
 [.int .i64 d.kind,.int .i64 d.width,.bool d.little,.bool d.zig,.bool d.lenient,.int .u64 (d.min:Nat),.int .u64 (d.max:Nat),str d.text,str d.ereg,.int .u64 (d.emul:Nat),.int .u64 (d.eadd:Nat),
  .slice a.ka d.kids.length a.kc,.slice a.la d.last.length a.lc,.slice a.fa d.fields.length a.fc,str d.reg,.int .u64 (d.mod:Nat),.slice a.ca d.cases.length a.cc,.int .i64 d.els]
def zAs (l:List Int):List Value:=l.map (Value.int .i64)
def zBf (l:List Bool):List Value:=l.map Value.bool
def zA0 (l:List zAm):List Value:=l.flatMap zA1
def zAu (l:List zB2):List Value:=l.flatMap zCA
def zCL (l:List DefD):List Value:=l.flatMap defV
abbrev In64 (x:Int):Prop:=-9223372036854775808≤x∧x≤9223372036854775807
structure NodeOk (ro:Ro) (d:zAh) (a:zA5):Prop where
 kids:Rs ro a.ka d.kids.length a.kc 1 (zAs d.kids)
 last:Rs ro a.la d.last.length a.lc 1 (zBf d.last)
 fields:Rs ro a.fa d.fields.length a.fc 5 (zA0 d.fields)
 cases:Rs ro a.ca d.cases.length a.cc 2 (zAu d.cases)
structure zIu (d:zAh):Prop where
 kind:In64 d.kind
 width:In64 d.width
 min:d.min<18446744073709551616
 max:d.max<18446744073709551616
 emul:d.emul<18446744073709551616
 eadd:d.eadd<18446744073709551616
 mod:d.mod<18446744073709551616
 els:In64 d.els
 kids:∀ k∈d.kids,In64 k
 fields:∀ f∈d.fields,In64 f.type∧In64 f.derive
 cases:∀ c∈d.cases,In64 c.type∧c.value<18446744073709551616
theorem zFG (l:List zAm):(zA0 l).length=l.length*5:=by induction l with
 | nil=>rfl
 | cons f l ih=>simp [zA0,zA1] at ih ⊢;omega
theorem zAn (l:List zAm):∀ {i:Nat} (h:i<l.length),((zA0 l).drop (i*5)).take 5=zA1 l[i]:=by
 induction l with
 | nil=>intro i h;simp at h
 | cons f l ih =>
   intro i h
   cases i with
   | zero=>rfl
   | succ i =>
     have:=ih (i:=i) (by simpa using h)
     rw [show (i+1)*5=i*5+5 by omega,Nat.add_comm]
     show List.take 5 (List.drop (5+i*5) (zA1 f++zA0 l))=_
     rw [←List.drop_drop,List.drop_left' (by rfl)]
     simpa using this
theorem zFJ (l:List zB2):∀ {i:Nat} (h:i<l.length),((zAu l).drop (i*2)).take 2=zCA l[i]:=by
 induction l with
 | nil=>intro i h;simp at h
 | cons f l ih =>
   intro i h
   cases i with
   | zero=>rfl
   | succ i =>
     have:=ih (i:=i) (by simpa using h)
     rw [show (i+1)*2=i*2+2 by omega,Nat.add_comm]
     show List.take 2 (List.drop (2+i*2) (zCA f++zAu l))=_
     rw [←List.drop_drop,List.drop_left' (by rfl)]
     simpa using this
theorem zBv (l:List DefD):∀ {i:Nat} (h:i<l.length),((zCL l).drop (i*2)).take 2=defV l[i]:=by
 induction l with
 | nil=>intro i h;simp at h
 | cons f l ih =>
   intro i h
   cases i with
   | zero=>rfl
   | succ i =>
     have:=ih (i:=i) (by simpa using h)
     rw [show (i+1)*2=i*2+2 by omega,Nat.add_comm]
     show List.take 2 (List.drop (2+i*2) (defV f++zCL l))=_
     rw [←List.drop_drop,List.drop_left' (by rfl)]
     simpa using this
theorem zFa (l:List Int):∀ u∈zAs l,u.oneCell'=true:=zH3 .i64 l
theorem zHF (l:List Bool):∀ u∈zBf l,u.oneCell'=true:=fun u hu=>by obtain ⟨b,_,rfl⟩:=List.mem_map.1 hu;rfl
theorem zFF (l:List zAm):∀ u∈zA0 l,u.oneCell'=true:=fun u hu=>by
 obtain ⟨f,_,hf⟩:=List.mem_flatMap.1 hu
 simp [zA1] at hf
 rcases hf with rfl|rfl|rfl|rfl|rfl<;>rfl
theorem zGO (l:List zB2):∀ u∈zAu l,u.oneCell'=true:=fun u hu=>by
 obtain ⟨f,_,hf⟩:=List.mem_flatMap.1 hu
 simp [zCA] at hf
 rcases hf with rfl|rfl<;>rfl
theorem zId (l:List DefD):∀ u∈zCL l,u.oneCell'=true:=fun u hu=>by
 obtain ⟨f,_,hf⟩:=List.mem_flatMap.1 hu
 simp [defV] at hf
 rcases hf with rfl|rfl<;>rfl
def zAc (d:zAh):List Int:=d.kids++d.fields.map (·.type)++d.cases.map (·.type)++(if d.kind=9∧0≤d.els then [d.els] else [])
section
variable {ro:Ro}{own r:Chs}{K:Value→Ro→Chs→Prop}{g:Chunk→Chs}
theorem zC6 {d:zAh}{a:zA5} (ho:NodeOk ro d a) (hn:d.kids.length≤1000000∧d.fields.length≤1000000∧d.cases.length≤1000000) (hk:∀ a' n' c',n'=(zAc d).length→n'≤c'→c'≤maxLen→K (.slice a' n' c') ro (.sl a' n' c' 3 1 (zAs (zAc d))::own)) :
  CallOk Tryz.prog 15 #[.agg (zAl d a).toArray] ro own K:=by
 have hr1:=ho.kids
 have hr3:=ho.fields
 have hr4:=ho.cases
 refine CallOk.intro (args:=[_]) (rs:=[_]) T_ok Tryz.func15 Tryz.call15 rfl rfl (by kernel_rfl) rfl rfl ?_
 repeat first|exact zE|refine wkG ?_|refine zB fun b=>?_|refine zC fun a' c' hc1 hc2=>?_|(show GJ _ _ _ _ _ _ _;first|(apply GJ.a;exact rfl;intro hg)|(apply GJ.o;exact rfl;intro hg)|refine GJ.t zO ?_|refine GJ.f zO ?_|refine GJ.ft zO ?_|refine GJ.ff zO ?_)
 refine zFn hr1 (zFa _) (by omega) (fun a1 c1 h1 h2=>?_)
 repeat first|exact zE|refine wkG ?_|refine zB fun b=>?_|refine zC fun a' c' hc1 hc2=>?_|(show GJ _ _ _ _ _ _ _;first|(apply GJ.a;exact rfl;intro hg)|(apply GJ.o;exact rfl;intro hg)|refine GJ.t zO ?_|refine GJ.f zO ?_|refine GJ.ft zO ?_|refine GJ.ff zO ?_)
 refine LoopOk.at (ι:=Nat × List Value × Option Addr × Nat × Nat) Keep.z (fun (i,cs,a1,n1,c1)=>[(14,.int .i64 (i:Int)),(3,.slice a1 n1 c1)]) (fun (i,cs,a1,n1,c1)=>.sl a1 n1 c1 3 1 cs::.blk b 40 (zAl d a)::own) (fun (i,cs,a1,n1,c1)=>i≤d.fields.length∧cs=zAs (d.kids++(d.fields.take i).map (·.type))∧n1=d.kids.length+i∧n1≤c1∧c1≤maxLen) (fun (i,cs,a1,n1,c1)=>d.fields.length-i) (0,_,_,_,_) ?_ Sub.z Sup.z ?_
 ·exact ⟨by omega,by simp,by omega,by omega,by omega⟩
 rintro ⟨i,cs,a1,n1,c1⟩ ⟨i1,rfl,rfl,i4,i5⟩
 dsimp only [List.cons_append,List.nil_append]
 repeat first|exact zE|refine wkG ?_|refine zB fun b=>?_|refine zC fun a' c' hc1 hc2=>?_|(show GJ _ _ _ _ _ _ _;first|(apply GJ.a;exact rfl;intro hg)|(apply GJ.o;exact rfl;intro hg)|refine GJ.t zO ?_|refine GJ.f zO ?_|refine GJ.ft zO ?_|refine GJ.ff zO ?_)
 refine Br.cases (fun hc=>?_) (fun hc=>?_)
 ·have hd:=zAn d.fields (i:=i) (by omega)
  have htk:d.fields.take (i+1)=d.fields.take i++[d.fields[i]'(by omega)]:=by rw [List.take_add_one,List.getElem?_eq_getElem (by omega)];rfl
  generalize hf:d.fields[i]'(by omega)=f at hd htk
  repeat first|exact zE|refine wkG ?_|refine zB fun b=>?_|refine zC fun a' c' hc1 hc2=>?_|(show GJ _ _ _ _ _ _ _;first|(apply GJ.a;exact rfl;intro hg)|(apply GJ.o;exact rfl;intro hg)|refine GJ.t zO ?_|refine GJ.f zO ?_|refine GJ.ft zO ?_|refine GJ.ff zO ?_)
  rw [Int.toNat_natCast]
  refine OpOk.loadRow rfl rfl (LdN.at hr3 hd) rfl ?_
  repeat first|exact zE|refine wkG ?_|refine zB fun b=>?_|refine zC fun a' c' hc1 hc2=>?_|(show GJ _ _ _ _ _ _ _;first|(apply GJ.a;exact rfl;intro hg)|(apply GJ.o;exact rfl;intro hg)|refine GJ.t zO ?_|refine GJ.f zO ?_|refine GJ.ft zO ?_|refine GJ.ff zO ?_)
  refine Wk.id ⟨(i+1,_,_,_,_),⟨rfl,?_⟩,?_,Sub.z,Sup.z⟩
  all_goals try dsimp only
  ·exact ⟨by omega,by rw [htk];simp [zAs],by omega,by omega,by omega⟩
  ·omega
 ·obtain rfl:i=d.fields.length:=by omega
  rw [List.take_length]
  repeat first|exact zE|refine wkG ?_|refine zB fun b=>?_|refine zC fun a' c' hc1 hc2=>?_|(show GJ _ _ _ _ _ _ _;first|(apply GJ.a;exact rfl;intro hg)|(apply GJ.o;exact rfl;intro hg)|refine GJ.t zO ?_|refine GJ.f zO ?_|refine GJ.ft zO ?_|refine GJ.ff zO ?_)
  refine LoopOk.at (ι:=Nat × List Value × Option Addr × Nat × Nat) Keep.z (fun (i,cs,a1,n1,c1)=>[(27,.int .i64 (i:Int)),(3,.slice a1 n1 c1)]) (fun (i,cs,a1,n1,c1)=>.sl a1 n1 c1 3 1 cs::.blk b 40 (zAl d a)::own) (fun (i,cs,a1,n1,c1)=>i≤d.cases.length∧cs=zAs (d.kids++d.fields.map (·.type)++(d.cases.take i).map (·.type))∧n1=d.kids.length+d.fields.length+i∧n1≤c1∧c1≤maxLen) (fun (i,cs,a1,n1,c1)=>d.cases.length-i) (0,_,_,_,_) ?_ Sub.z Sup.z ?_
  ·exact ⟨by omega,by simp,by omega,by omega,by omega⟩
  rintro ⟨i,cs,a1,n1,c1⟩ ⟨i1,rfl,rfl,i4,i5⟩
  dsimp only [List.cons_append,List.nil_append]
  repeat first|exact zE|refine wkG ?_|refine zB fun b=>?_|refine zC fun a' c' hc1 hc2=>?_|(show GJ _ _ _ _ _ _ _;first|(apply GJ.a;exact rfl;intro hg)|(apply GJ.o;exact rfl;intro hg)|refine GJ.t zO ?_|refine GJ.f zO ?_|refine GJ.ft zO ?_|refine GJ.ff zO ?_)
  refine Br.cases (fun hc=>?_) (fun hc=>?_)
  ·have hd:=zFJ d.cases (i:=i) (by omega)
   have htk:d.cases.take (i+1)=d.cases.take i++[d.cases[i]'(by omega)]:=by rw [List.take_add_one,List.getElem?_eq_getElem (by omega)];rfl
   generalize hf:d.cases[i]'(by omega)=f at hd htk
   repeat first|exact zE|refine wkG ?_|refine zB fun b=>?_|refine zC fun a' c' hc1 hc2=>?_|(show GJ _ _ _ _ _ _ _;first|(apply GJ.a;exact rfl;intro hg)|(apply GJ.o;exact rfl;intro hg)|refine GJ.t zO ?_|refine GJ.f zO ?_|refine GJ.ft zO ?_|refine GJ.ff zO ?_)
   rw [Int.toNat_natCast]
   refine OpOk.loadRow rfl rfl (LdN.at hr4 hd) rfl ?_
   repeat first|exact zE|refine wkG ?_|refine zB fun b=>?_|refine zC fun a' c' hc1 hc2=>?_|(show GJ _ _ _ _ _ _ _;first|(apply GJ.a;exact rfl;intro hg)|(apply GJ.o;exact rfl;intro hg)|refine GJ.t zO ?_|refine GJ.f zO ?_|refine GJ.ft zO ?_|refine GJ.ff zO ?_)
   refine Wk.id ⟨(i+1,_,_,_,_),⟨rfl,?_⟩,?_,Sub.z,Sup.z⟩
   all_goals try dsimp only
   ·exact ⟨by omega,by rw [htk];simp [zAs],by omega,by omega,by omega⟩
   ·omega
  ·obtain rfl:i=d.cases.length:=by omega
   rw [List.take_length]
   repeat first|exact zE|refine wkG ?_|refine zB fun b=>?_|refine zC fun a' c' hc1 hc2=>?_|(show GJ _ _ _ _ _ _ _;first|(apply GJ.a;exact rfl;intro hg)|(apply GJ.o;exact rfl;intro hg)|refine GJ.t zO ?_|refine GJ.f zO ?_|refine GJ.ft zO ?_|refine GJ.ff zO ?_)
   have hkl:(zAc d).length=d.kids.length+d.fields.length+d.cases.length+(if d.kind=9∧0≤d.els then 1 else 0):=by
    unfold zAc
    split<;>simp<;>omega
   refine SeqOk.pass ?_
   repeat first|exact zE|refine wkG ?_|refine zB fun b=>?_|refine zC fun a' c' hc1 hc2=>?_|(show GJ _ _ _ _ _ _ _;first|(apply GJ.a;exact rfl;intro hg)|(apply GJ.o;exact rfl;intro hg)|refine GJ.t zO ?_|refine GJ.f zO ?_|refine GJ.ft zO ?_|refine GJ.ff zO ?_)
   refine Br.cases (fun he=>?_) (fun he=>?_)
   ·rw [if_pos (by omega)] at hkl
    have hks:zAs (d.kids++d.fields.map (·.type)++d.cases.map (·.type))++[.int .i64 d.els]=zAs (zAc d):=by rw [zAc,if_pos (by omega)];simp [zAs]
    repeat first|exact zE|refine wkG ?_|refine zB fun b=>?_|refine zC fun a' c' hc1 hc2=>?_|(show GJ _ _ _ _ _ _ _;first|(apply GJ.a;exact rfl;intro hg)|(apply GJ.o;exact rfl;intro hg)|refine GJ.t zO ?_|refine GJ.f zO ?_|refine GJ.ft zO ?_|refine GJ.ff zO ?_)
    rw [hks]
    exact Wk.outS Sup.z (.refl _) (hk _ _ _ (by omega) (by omega) (by omega))
   ·rw [if_neg (by omega)] at hkl
    have hks:zAs (d.kids++d.fields.map (·.type)++d.cases.map (·.type))=zAs (zAc d):=by rw [zAc,if_neg (by omega)];simp [zAs]
    rw [hks]
    repeat first|exact zE|refine wkG ?_|refine zB fun b=>?_|refine zC fun a' c' hc1 hc2=>?_|(show GJ _ _ _ _ _ _ _;first|(apply GJ.a;exact rfl;intro hg)|(apply GJ.o;exact rfl;intro hg)|refine GJ.t zO ?_|refine GJ.f zO ?_|refine GJ.ft zO ?_|refine GJ.ff zO ?_)
    exact Wk.outS Sup.z (.refl _) (hk _ _ _ (by omega) (by omega) (by omega))
theorem zAB {d:zAh}{a:zA5} (hk:K (.bool (decide (d.kind=1∨d.kind=2))) ro own):CallOk Tryz.prog 20 #[.agg (zAl d a).toArray] ro own K:=by
 refine CallOk.intro (args:=[_]) (rs:=[_]) T_ok Tryz.func20 Tryz.call20 rfl rfl (by kernel_rfl) rfl rfl ?_
 repeat first|exact zE|refine wkG ?_|refine zB fun b=>?_|refine zC fun a' c' hc1 hc2=>?_|(show GJ _ _ _ _ _ _ _;first|(apply GJ.a;exact rfl;intro hg)|(apply GJ.o;exact rfl;intro hg)|refine GJ.t zO ?_|refine GJ.f zO ?_|refine GJ.ft zO ?_|refine GJ.ff zO ?_)
 have e:(decide (d.kind=1)||decide (d.kind=2))=decide (d.kind=1∨d.kind=2):=by rw [Bool.eq_iff_iff];simp
 rw [←e] at hk
 exact Wk.outS Sup.z (.refl _) hk
def zCc (d:zAh):Nat:=if d.kind=1 then mostN d.width else 18446744073709551615
theorem zEp {d:zAh}{a:zA5} (hk:K (.int .u64 (zCc d:Nat)) ro own):CallOk Tryz.prog 22 #[.agg (zAl d a).toArray] ro own K:=by
 refine CallOk.intro (args:=[_]) (rs:=[_]) T_ok Tryz.func22 Tryz.call22 rfl rfl (by kernel_rfl) rfl rfl ?_
 repeat first|exact zE|refine wkG ?_|refine zB fun b=>?_|refine zC fun a' c' hc1 hc2=>?_|(show GJ _ _ _ _ _ _ _;first|(apply GJ.a;exact rfl;intro hg)|(apply GJ.o;exact rfl;intro hg)|refine GJ.t zO ?_|refine GJ.f zO ?_|refine GJ.ft zO ?_|refine GJ.ff zO ?_)
 refine Br.cases (fun he=>?_) (fun he=>?_)
 ·rw [zCc,if_pos he] at hk
  repeat first|exact zE|refine wkG ?_|refine zB fun b=>?_|refine zC fun a' c' hc1 hc2=>?_|(show GJ _ _ _ _ _ _ _;first|(apply GJ.a;exact rfl;intro hg)|(apply GJ.o;exact rfl;intro hg)|refine GJ.t zO ?_|refine GJ.f zO ?_|refine GJ.ft zO ?_|refine GJ.ff zO ?_)
  refine most_ok ?_
  repeat first|exact zE|refine wkG ?_|refine zB fun b=>?_|refine zC fun a' c' hc1 hc2=>?_|(show GJ _ _ _ _ _ _ _;first|(apply GJ.a;exact rfl;intro hg)|(apply GJ.o;exact rfl;intro hg)|refine GJ.t zO ?_|refine GJ.f zO ?_|refine GJ.ft zO ?_|refine GJ.ff zO ?_)
  exact Wk.outS Sup.z (.refl _) hk
 ·rw [zCc,if_neg he] at hk
  repeat first|exact zE|refine wkG ?_|refine zB fun b=>?_|refine zC fun a' c' hc1 hc2=>?_|(show GJ _ _ _ _ _ _ _;first|(apply GJ.a;exact rfl;intro hg)|(apply GJ.o;exact rfl;intro hg)|refine GJ.t zO ?_|refine GJ.f zO ?_|refine GJ.ft zO ?_|refine GJ.ff zO ?_)
  exact Wk.outS Sup.z (.refl _) hk
end
def zEN (d:zAh):Int :=
 if d.kind=1∧¬(1≤d.width∧d.width≤8) then 1
 else if (d.kind≠1∧(d.width≠0∨d.little=true))∨(d.width=1∧d.little=true)∨(d.kind≠2∧(d.zig=true∨d.lenient=true)) then 5
 else if (d.kind=1∨d.kind=2)∧(d.max<d.min∨zCc d<d.max) then 1
 else if ¬(d.kind=1∨d.kind=2)∧(d.min≠0∨d.max≠0) then 5
 else if ¬((d.kind=3∨d.kind=13)↔d.text≠[]) then 5
 else if (¬(d.kind=4∨d.kind=6∨d.kind=8)∧(d.ereg≠[]∨d.emul≠0∨d.eadd≠0))∨(d.ereg=[]∧d.emul≠0)∨(d.ereg≠[]∧d.emul=0) then 5
 else 0
def zB1 (d:zAh):Int :=
 if d.kind<1∨13<d.kind then 5
 else if ((d.kind=6∨d.kind=7∨d.kind=8)∧d.kids.length≠1)∨((d.kind=10∨d.kind=11)∧d.kids.length<1)∨(¬(d.kind=6∨d.kind=7∨d.kind=8)∧¬(d.kind=10∨d.kind=11)∧0<d.kids.length) then 5
 else if (d.kind=11∧d.last.length≠d.kids.length)∨(d.kind≠11∧0<d.last.length) then 5
 else if ¬(d.kind=5↔0<d.fields.length)∨(d.kind≠9∧0<d.cases.length) then 5
 else if (d.kind=9∧(d.reg=[]∨d.cases.length=0))∨(d.kind≠9∧(d.reg≠[]∨d.mod≠0∨d.els≠0)) then 5
 else if d.kind=9∧d.els < -1 then 5
 else if 64<d.kids.length∨64<d.fields.length∨64<d.cases.length then 2
 else zEN d
section
variable {ro:Ro}{own r:Chs}{K:Value→Ro→Chs→Prop}{g:Chunk→Chs}
theorem plain_ok {d:zAh}{a:zA5} (hk:K (.int .i64 (zEN d)) ro own):CallOk Tryz.prog 74 #[.agg (zAl d a).toArray] ro own K:=by
 refine CallOk.intro (args:=[_]) (rs:=[_]) T_ok Tryz.func74 Tryz.call74 rfl rfl (by kernel_rfl) rfl rfl ?_
 repeat' (first|exact zE|refine wkT ?_|refine zB (fun b=>?_)|refine zC (fun a' c' hc1 hc2=>?_)|(apply GJ.a;exact rfl;intro hg)|(apply GJ.o;exact rfl;intro hg)|refine SeqOk.pass ?_|refine Br.cases (fun h=>?_) (fun h=>?_)|(show GJ _ _ _ _ _ _ _;first|refine GJ.casesT (fun h=>?_) (fun h=>?_)|refine GJ.casesF (fun h=>?_) (fun h=>?_))|refine Bs.all ?_|(show QOk _ _ _ _ _ _ _;refine QOk.build rfl rfl Nf.auto ?_)|(show OpOk _ _ _ _ _ _ _;refine OpOk.neqStruct rfl rfl rfl rfl (by kernel_rfl) (by kernel_rfl) (by kernel_rfl) ?_)|(show CallOk _ _ _ _ _ _;first|refine zFM ?_|refine zAB ?_|refine zEp ?_))
 all_goals refine Wk.outV Sup.z hk (congrArg (Value.int .i64) ?_)
 all_goals (unfold zEN;grind (splits:=50))
theorem form_ok {d:zAh}{a:zA5} (hk:K (.int .i64 (zB1 d)) ro own):CallOk Tryz.prog 44 #[.agg (zAl d a).toArray] ro own K:=by
 refine CallOk.intro (args:=[_]) (rs:=[_]) T_ok Tryz.func44 Tryz.call44 rfl rfl (by kernel_rfl) rfl rfl ?_
 repeat' (first|exact zE|refine wkT ?_|refine zB (fun b=>?_)|refine zC (fun a' c' hc1 hc2=>?_)|(apply GJ.a;exact rfl;intro hg)|(apply GJ.o;exact rfl;intro hg)|refine SeqOk.pass ?_|refine Br.cases (fun h=>?_) (fun h=>?_)|(show GJ _ _ _ _ _ _ _;first|refine GJ.casesT (fun h=>?_) (fun h=>?_)|refine GJ.casesF (fun h=>?_) (fun h=>?_))|refine Bs.all ?_|(show QOk _ _ _ _ _ _ _;refine QOk.build rfl rfl Nf.auto ?_)|(show OpOk _ _ _ _ _ _ _;refine OpOk.neqStruct rfl rfl rfl rfl (by kernel_rfl) (by kernel_rfl) (by kernel_rfl) ?_)|(show CallOk _ _ _ _ _ _;first|refine plain_ok ?_))
 all_goals refine Wk.outV Sup.z hk (congrArg (Value.int .i64) ?_)
 all_goals (unfold zB1;grind (splits:=50))
end
structure zAp where
 na:Option Addr
 nc:Nat
 da:Option Addr
 dc:Nat
 xs:List zA5
def zAf (s:zAd) (a:zAp):List Value:=[.slice a.na s.nodes.length a.nc,.slice a.da s.defs.length a.dc]
def zA4:List zAh→List zA5→List Value
 | d::ds,a::xs=>zAl d a++zA4 ds xs
 | _,_=>[]
structure SpecOk (ro:Ro) (s:zAd) (a:zAp):Prop where
 len:a.xs.length=s.nodes.length
 nodes:Rs ro a.na s.nodes.length a.nc 18 (zA4 s.nodes a.xs)
 each:∀ (i:Nat) (d:zAh) (x:zA5),s.nodes[i]?=some d→a.xs[i]?=some x→NodeOk ro d x
 defs:Rs ro a.da s.defs.length a.dc 2 (zCL s.defs)
theorem zAj:∀ (ds:List zAh) (xs:List zA5) (i:Nat) (d:zAh) (a:zA5),ds[i]?=some d→xs[i]?=some a→((zA4 ds xs).drop (i*18)).take 18=zAl d a:=by
 intro ds
 induction ds with
 | nil=>intro xs i d a h;simp at h
 | cons x ds ih =>
   intro xs i d a h1 h2
   cases xs with
   | nil=>simp at h2
   | cons y xs =>
     cases i with
     | zero=>simp at h1 h2;subst h1;subst h2;rfl
     | succ i =>
       rw [show (i+1)*18=i*18+18 by omega,Nat.add_comm]
       show List.take 18 (List.drop (18+i*18) (zAl x y++zA4 ds xs))=_
       rw [←List.drop_drop,List.drop_left' (by rfl)]
       exact ih xs i d a (by simpa using h1) (by simpa using h2)
def zAD (lim:Nat):List Int→List Bool→Except Int (List Bool)
 | [],o=>.ok o
 | k::ks,o=>if k<0∨(lim:Int)≤k then .error 3 else if o[k.toNat]! = true then .error 4 else zAD lim ks (o.set k.toNat true)
def zAA:Nat→List zAh→List Bool→Except Int (List Bool)
 | _,[],o=>.ok o
 | i,d::ds,o=>if zB1 d≠0 then .error (zB1 d) else match zAD i (zAc d) o with
   | .error e=>.error e
   | .ok o=>zAA (i+1) ds o
def zDG (s:zAd):Except Int (List Bool):=match zAA 0 s.nodes (List.replicate s.nodes.length false) with
 | .error e=>.error e
 | .ok o=>zAD s.nodes.length (s.defs.map (·.type)) o
def zAo (s:zAd):Int:=if 2048<s.nodes.length∨64<s.defs.length∨s.defs.length=0 then 2 else match zDG s with
 | .error e=>e
 | .ok o=>if false∈o then 3 else 0
theorem zAI {d:zAh} (h:zB1 d=0):d.kids.length≤64∧d.fields.length≤64∧d.cases.length≤64:=by
 unfold zB1 at h
 grind
section
variable {ro:Ro}{own r:Chs}{K:Value→Ro→Chs→Prop}{g:Chunk→Chs}
theorem zFi {α:Type} [Inhabited α] {l:List α}{j:Nat} (h:j<l.length):l.drop j=l[j]!::l.drop (j+1):=by
 rw [List.drop_eq_getElem_cons h,List.getElem!_eq_getElem?_getD,List.getElem?_eq_getElem h];rfl
theorem zHG {o:List Bool}{k:Nat} (h:k<o.length):(zBf o)[k]?=some (.bool o[k]!):=zEf h
theorem zEX (o:List Bool) (k:Nat) (b:Bool):(zBf o).set k (.bool b)=zBf (o.set k b):=by simp [zBf,List.map_set]
theorem zFm {a:Option Addr}{n c:Nat}{o:List Bool} (hr:Rds ro own a n c 1 (zBf o)) (hk:K (.bool (decide (false∈o))) ro own):CallOk Tryz.prog 45 #[.slice a n c,.bool false] ro own K:=by
 have hn:o.length=n:=by have:=hr.n1;simpa [zBf] using this
 have hm:=hr.max
 have hidx:∀ K':Value→Ro→Chs→Prop,(∀ i:Int,-1≤i→i≤maxLen→(0≤i↔false∈o)→K' (.int .i64 i) ro own)→CallOk Tryz.prog 75 #[.slice a n c,.bool false] ro own K':=by
  intro K' hk'
  have hle:=hr.le
  unfold maxLen at hm hk'
  refine CallOk.intro (args:=[_,_]) (rs:=[_]) T_ok Tryz.func75 Tryz.call75 rfl rfl (by kernel_rfl) rfl rfl ?_
  repeat first|exact zE|refine wkG ?_|refine zB fun b=>?_|refine zC fun a' c' hc1 hc2=>?_|(show GJ _ _ _ _ _ _ _;first|(apply GJ.a;exact rfl;intro hg)|(apply GJ.o;exact rfl;intro hg)|refine GJ.t zO ?_|refine GJ.f zO ?_|refine GJ.ft zO ?_|refine GJ.ff zO ?_)
  refine LoopOk.at (ι:=Nat) Keep.z (fun i=>[(8,.int .i64 (i:Int))]) (fun i=>own) (fun i=>i≤n∧¬false∈o.take i) (fun i=>n-i) 0 ?_ Sub.z Sup.z ?_
  ·exact ⟨by omega,by simp⟩
  rintro i ⟨i1,i2⟩
  dsimp only [List.cons_append,List.nil_append]
  repeat first|exact zE|refine wkG ?_|refine zB fun b=>?_|refine zC fun a' c' hc1 hc2=>?_|(show GJ _ _ _ _ _ _ _;first|(apply GJ.a;exact rfl;intro hg)|(apply GJ.o;exact rfl;intro hg)|refine GJ.t zO ?_|refine GJ.f zO ?_|refine GJ.ft zO ?_|refine GJ.ff zO ?_)
  refine Br.cases (fun hc=>?_) (fun hc=>?_)
  ·have hget:=zHG (o:=o) (k:=i) (by omega)
   have htk:o.take (i+1)=o.take i++[o[i]!]:=by rw [List.take_add_one,List.getElem?_eq_getElem (by omega),List.getElem!_eq_getElem?_getD,List.getElem?_eq_getElem (by omega)];rfl
   have hmem:o[i]!∈o:=by rw [List.getElem!_eq_getElem?_getD,List.getElem?_eq_getElem (by omega)];exact List.getElem_mem _
   repeat first|exact zE|refine wkG ?_|refine zB fun b=>?_|refine zC fun a' c' hc1 hc2=>?_|(show GJ _ _ _ _ _ _ _;first|(apply GJ.a;exact rfl;intro hg)|(apply GJ.o;exact rfl;intro hg)|refine GJ.t zO ?_|refine GJ.f zO ?_|refine GJ.ft zO ?_|refine GJ.ff zO ?_)
   rw [Int.toNat_natCast]
   refine Br.cases (fun hd=>?_) (fun hd=>?_)
   ·repeat first|exact zE|refine wkG ?_|refine zB fun b=>?_|refine zC fun a' c' hc1 hc2=>?_|(show GJ _ _ _ _ _ _ _;first|(apply GJ.a;exact rfl;intro hg)|(apply GJ.o;exact rfl;intro hg)|refine GJ.t zO ?_|refine GJ.f zO ?_|refine GJ.ft zO ?_|refine GJ.ff zO ?_)
    exact Wk.outS Sup.z (.refl _) (hk' i (by omega) (by omega) ⟨fun _=>hd▸hmem,fun _=>by omega⟩)
   ·repeat first|exact zE|refine wkG ?_|refine zB fun b=>?_|refine zC fun a' c' hc1 hc2=>?_|(show GJ _ _ _ _ _ _ _;first|(apply GJ.a;exact rfl;intro hg)|(apply GJ.o;exact rfl;intro hg)|refine GJ.t zO ?_|refine GJ.f zO ?_|refine GJ.ft zO ?_|refine GJ.ff zO ?_)
    refine Wk.id ⟨i+1,⟨rfl,?_⟩,?_,Sub.z,Sup.z⟩
    all_goals try dsimp only
    ·refine ⟨by omega,fun hm2=>?_⟩
     rw [htk,List.mem_append] at hm2
     rcases hm2 with hm2|hm2
     ·exact i2 hm2
     ·exact hd (List.mem_singleton.1 hm2)
    ·omega
  ·obtain rfl:i=n:=by omega
   rw [List.take_of_length_le (by omega)] at i2
   repeat first|exact zE|refine wkG ?_|refine zB fun b=>?_|refine zC fun a' c' hc1 hc2=>?_|(show GJ _ _ _ _ _ _ _;first|(apply GJ.a;exact rfl;intro hg)|(apply GJ.o;exact rfl;intro hg)|refine GJ.t zO ?_|refine GJ.f zO ?_|refine GJ.ft zO ?_|refine GJ.ff zO ?_)
   exact Wk.outS Sup.z (.refl _) (hk' (-1) (by omega) (by omega) ⟨fun h=>by omega,fun h=>absurd h i2⟩)
 refine CallOk.intro (args:=[_,_]) (rs:=[_]) T_ok Tryz.func45 Tryz.call45 rfl rfl (by kernel_rfl) rfl rfl ?_
 repeat first|exact zE|refine wkG ?_|refine zB fun b=>?_|refine zC fun a' c' hc1 hc2=>?_|(show GJ _ _ _ _ _ _ _;first|(apply GJ.a;exact rfl;intro hg)|(apply GJ.o;exact rfl;intro hg)|refine GJ.t zO ?_|refine GJ.f zO ?_|refine GJ.ft zO ?_|refine GJ.ff zO ?_)
 refine hidx _ (fun i h1 h2 h3=>?_)
 repeat first|exact zE|refine wkG ?_|refine zB fun b=>?_|refine zC fun a' c' hc1 hc2=>?_|(show GJ _ _ _ _ _ _ _;first|(apply GJ.a;exact rfl;intro hg)|(apply GJ.o;exact rfl;intro hg)|refine GJ.t zO ?_|refine GJ.f zO ?_|refine GJ.ft zO ?_|refine GJ.ff zO ?_)
 refine Wk.outV Sup.z hk (congrArg Value.bool ?_)
 exact decide_eq_decide.2 h3.symm
set_option maxHeartbeats 1000000 in
theorem zGk {s:zAd}{a:zAp} (ho:SpecOk ro s a) (hk:K (.int .i64 (zAo s)) ro own):CallOk Tryz.prog 13 #[.agg (zAf s a).toArray] ro own K:=by
 have hr1:=ho.nodes
 have hr2:=ho.defs
 have hlen:=ho.len
 have hm1:=hr1.max
 have hm2:=hr2.max
 have hle1:=hr1.le
 have hle2:=hr2.le
 unfold maxLen at hm1 hm2
 refine CallOk.intro (args:=[_]) (rs:=[_]) T_ok Tryz.func13 Tryz.call13 rfl rfl (by kernel_rfl) rfl rfl ?_
 repeat first|exact zE|refine wkG ?_|refine zB fun b=>?_|refine zC fun a' c' hc1 hc2=>?_|(show GJ _ _ _ _ _ _ _;first|(apply GJ.a;exact rfl;intro hg)|(apply GJ.o;exact rfl;intro hg)|refine GJ.t zO ?_|refine GJ.f zO ?_|refine GJ.ft zO ?_|refine GJ.ff zO ?_)
 refine Br.cases (fun hc=>?_) (fun hc=>?_)
 ·have e:zAo s=2:=by unfold zAo;rw [if_pos (by omega)]
  rw [e] at hk
  repeat first|exact zE|refine wkG ?_|refine zB fun b=>?_|refine zC fun a' c' hc1 hc2=>?_|(show GJ _ _ _ _ _ _ _;first|(apply GJ.a;exact rfl;intro hg)|(apply GJ.o;exact rfl;intro hg)|refine GJ.t zO ?_|refine GJ.f zO ?_|refine GJ.ft zO ?_|refine GJ.ff zO ?_)
  exact Wk.outS Sup.z (.refl _) hk
 have e:zAo s=match zDG s with
  | .error e=>e
  | .ok o=>if false∈o then 3 else 0:=by unfold zAo;rw [if_neg (by omega)]
 repeat first|exact zE|refine wkG ?_|refine zB fun b=>?_|refine zC fun a' c' hc1 hc2=>?_|(show GJ _ _ _ _ _ _ _;first|(apply GJ.a;exact rfl;intro hg)|(apply GJ.o;exact rfl;intro hg)|refine GJ.t zO ?_|refine GJ.f zO ?_|refine GJ.ft zO ?_|refine GJ.ff zO ?_)
 rename_i b0
 refine LoopOk.at (ι:=Nat × List Value × List Bool) Keep.z (fun (i,cs,o)=>[(34,.int .i64 (i:Int))]) (fun (i,cs,o)=>.sl (some ⟨b,0,none⟩) s.nodes.length s.nodes.length 4 1 cs::.blk b0 25 (zAf s a)::own) (fun (i,cs,o)=>i≤s.nodes.length∧o.length=s.nodes.length∧cs=zBf o∧zAA i (s.nodes.drop i) o=zAA 0 s.nodes (List.replicate s.nodes.length false)) (fun (i,cs,o)=>s.nodes.length-i) (0,_,List.replicate s.nodes.length false) ?_ Sub.z Sup.z ?_
 ·exact ⟨by omega,by simp,by simp [zBf],rfl⟩
 rintro ⟨i,cs,o⟩ ⟨i1,i2,rfl,i3⟩
 dsimp only [List.cons_append,List.nil_append]
 repeat first|exact zE|refine wkG ?_|refine zB fun b=>?_|refine zC fun a' c' hc1 hc2=>?_|(show GJ _ _ _ _ _ _ _;first|(apply GJ.a;exact rfl;intro hg)|(apply GJ.o;exact rfl;intro hg)|refine GJ.t zO ?_|refine GJ.f zO ?_|refine GJ.ft zO ?_|refine GJ.ff zO ?_)
 refine Br.cases (fun hd=>?_) (fun hd=>?_)
 ·obtain ⟨d,hd1⟩:∃ d,s.nodes[i]?=some d:=⟨_,List.getElem?_eq_getElem (by omega)⟩
  obtain ⟨x,hx1⟩:∃ x,a.xs[i]?=some x:=⟨_,List.getElem?_eq_getElem (by omega)⟩
  have hno:=ho.each i d x hd1 hx1
  have hdrop:=zAj _ _ _ _ _ hd1 hx1
  rw [List.drop_eq_getElem_cons (by omega),(List.getElem?_eq_some_iff.1 hd1).2,zAA] at i3
  repeat first|exact zE|refine wkG ?_|refine zB fun b=>?_|refine zC fun a' c' hc1 hc2=>?_|(show GJ _ _ _ _ _ _ _;first|(apply GJ.a;exact rfl;intro hg)|(apply GJ.o;exact rfl;intro hg)|refine GJ.t zO ?_|refine GJ.f zO ?_|refine GJ.ft zO ?_|refine GJ.ff zO ?_)
  rw [Int.toNat_natCast]
  refine OpOk.loadRow rfl rfl (LdN.at hr1 hdrop) rfl ?_
  repeat first|exact zE|refine wkG ?_|refine zB fun b=>?_|refine zC fun a' c' hc1 hc2=>?_|(show GJ _ _ _ _ _ _ _;first|(apply GJ.a;exact rfl;intro hg)|(apply GJ.o;exact rfl;intro hg)|refine GJ.t zO ?_|refine GJ.f zO ?_|refine GJ.ft zO ?_|refine GJ.ff zO ?_)
  refine form_ok ?_
  repeat first|exact zE|refine wkG ?_|refine zB fun b=>?_|refine zC fun a' c' hc1 hc2=>?_|(show GJ _ _ _ _ _ _ _;first|(apply GJ.a;exact rfl;intro hg)|(apply GJ.o;exact rfl;intro hg)|refine GJ.t zO ?_|refine GJ.f zO ?_|refine GJ.ft zO ?_|refine GJ.ff zO ?_)
  refine Br.cases (fun hf=>?_) (fun hf=>?_)
  ·rw [if_pos hf] at i3
   have e2:zAo s=zB1 d:=by rw [e,zDG,←i3]
   rw [e2] at hk
   repeat first|exact zE|refine wkG ?_|refine zB fun b=>?_|refine zC fun a' c' hc1 hc2=>?_|(show GJ _ _ _ _ _ _ _;first|(apply GJ.a;exact rfl;intro hg)|(apply GJ.o;exact rfl;intro hg)|refine GJ.t zO ?_|refine GJ.f zO ?_|refine GJ.ft zO ?_|refine GJ.ff zO ?_)
   exact Wk.outS Sup.z (.refl _) hk
  ·rw [if_neg hf] at i3
   have hsm:=zAI (d:=d) (by omega)
   repeat first|exact zE|refine wkG ?_|refine zB fun b=>?_|refine zC fun a' c' hc1 hc2=>?_|(show GJ _ _ _ _ _ _ _;first|(apply GJ.a;exact rfl;intro hg)|(apply GJ.o;exact rfl;intro hg)|refine GJ.t zO ?_|refine GJ.f zO ?_|refine GJ.ft zO ?_|refine GJ.ff zO ?_)
   refine zC6 hno (by omega) (fun a' n' c' h1 h2 h3=>?_)
   generalize hks:zAc d=ks at *
   repeat first|exact zE|refine wkG ?_|refine zB fun b=>?_|refine zC fun a' c' hc1 hc2=>?_|(show GJ _ _ _ _ _ _ _;first|(apply GJ.a;exact rfl;intro hg)|(apply GJ.o;exact rfl;intro hg)|refine GJ.t zO ?_|refine GJ.f zO ?_|refine GJ.ft zO ?_|refine GJ.ff zO ?_)
   rename_i b1
   refine LoopOk.at (ι:=Nat × List Bool) Keep.z (fun (j,o2)=>[(47,.int .i64 (j:Int))]) (fun (j,o2)=>.sl a' n' c' 3 1 (zAs ks)::.blk b 40 (zAl d x)::.sl (some ⟨b1,0,none⟩) s.nodes.length s.nodes.length 4 1 (zBf o2)::.blk b0 25 (zAf s a)::own) (fun (j,o2)=>j≤n'∧o2.length=s.nodes.length∧zAD i (ks.drop j) o2=zAD i ks o) (fun (j,o2)=>n'-j) (0,o) ?_ Sub.z Sup.z ?_
   ·exact ⟨by omega,i2,rfl⟩
   rintro ⟨j,o2⟩ ⟨j1,j2,j3⟩
   dsimp only [List.cons_append,List.nil_append]
   repeat first|exact zE|refine wkG ?_|refine zB fun b=>?_|refine zC fun a' c' hc1 hc2=>?_|(show GJ _ _ _ _ _ _ _;first|(apply GJ.a;exact rfl;intro hg)|(apply GJ.o;exact rfl;intro hg)|refine GJ.t zO ?_|refine GJ.f zO ?_|refine GJ.ft zO ?_|refine GJ.ff zO ?_)
   refine Br.cases (fun hg=>?_) (fun hg=>?_)
   ·rw [zFi (by omega),zAD] at j3
    repeat first|exact zE|refine wkG ?_|refine zB fun b=>?_|refine zC fun a' c' hc1 hc2=>?_|(show GJ _ _ _ _ _ _ _;first|(apply GJ.a;exact rfl;intro hg)|(apply GJ.o;exact rfl;intro hg)|refine GJ.t zO ?_|refine GJ.f zO ?_|refine GJ.ft zO ?_|refine GJ.ff zO ?_)
    rw [Int.toNat_natCast]
    generalize ks[j]! = k at j3
    refine Br.cases (fun hh=>?_) (fun hh=>?_)
    ·rw [if_pos (by omega)] at j3
     rw [←j3] at i3
     have e2:zAo s=3:=by rw [e,zDG,←i3]
     rw [e2] at hk
     repeat first|exact zE|refine wkG ?_|refine zB fun b=>?_|refine zC fun a' c' hc1 hc2=>?_|(show GJ _ _ _ _ _ _ _;first|(apply GJ.a;exact rfl;intro hg)|(apply GJ.o;exact rfl;intro hg)|refine GJ.t zO ?_|refine GJ.f zO ?_|refine GJ.ft zO ?_|refine GJ.ff zO ?_)
     exact Wk.outS Sup.z (.refl _) hk
    ·rw [if_neg (by omega)] at j3
     repeat first|exact zE|refine wkG ?_|refine zB fun b=>?_|refine zC fun a' c' hc1 hc2=>?_|(show GJ _ _ _ _ _ _ _;first|(apply GJ.a;exact rfl;intro hg)|(apply GJ.o;exact rfl;intro hg)|refine GJ.t zO ?_|refine GJ.f zO ?_|refine GJ.ft zO ?_|refine GJ.ff zO ?_)
     refine Br.cases (fun hi=>?_) (fun hi=>?_)
     ·rw [if_pos hi] at j3
      rw [←j3] at i3
      have e2:zAo s=4:=by rw [e,zDG,←i3]
      rw [e2] at hk
      repeat first|exact zE|refine wkG ?_|refine zB fun b=>?_|refine zC fun a' c' hc1 hc2=>?_|(show GJ _ _ _ _ _ _ _;first|(apply GJ.a;exact rfl;intro hg)|(apply GJ.o;exact rfl;intro hg)|refine GJ.t zO ?_|refine GJ.f zO ?_|refine GJ.ft zO ?_|refine GJ.ff zO ?_)
      exact Wk.outS Sup.z (.refl _) hk
     ·rw [if_neg hi] at j3
      repeat first|exact zE|refine wkG ?_|refine zB fun b=>?_|refine zC fun a' c' hc1 hc2=>?_|(show GJ _ _ _ _ _ _ _;first|(apply GJ.a;exact rfl;intro hg)|(apply GJ.o;exact rfl;intro hg)|refine GJ.t zO ?_|refine GJ.f zO ?_|refine GJ.ft zO ?_|refine GJ.ff zO ?_)
      refine OpOk.storeSl rfl rfl rfl rfl (by simp [zBf];omega) ?_
      rw [zEX]
      have h3':=h3
      unfold maxLen at h3'
      repeat first|exact zE|refine wkG ?_|refine zB fun b=>?_|refine zC fun a' c' hc1 hc2=>?_|(show GJ _ _ _ _ _ _ _;first|(apply GJ.a;exact rfl;intro hg)|(apply GJ.o;exact rfl;intro hg)|refine GJ.t zO ?_|refine GJ.f zO ?_|refine GJ.ft zO ?_|refine GJ.ff zO ?_)
      refine Wk.id ⟨(j+1,_),⟨rfl,?_⟩,?_,Sub.z,Sup.z⟩
      all_goals try dsimp only
      ·exact ⟨by omega,by simp [j2],j3⟩
      ·omega
   ·obtain rfl:j=n':=by omega
    rw [List.drop_of_length_le (by omega),zAD] at j3
    rw [←j3] at i3
    repeat first|exact zE|refine wkG ?_|refine zB fun b=>?_|refine zC fun a' c' hc1 hc2=>?_|(show GJ _ _ _ _ _ _ _;first|(apply GJ.a;exact rfl;intro hg)|(apply GJ.o;exact rfl;intro hg)|refine GJ.t zO ?_|refine GJ.f zO ?_|refine GJ.ft zO ?_|refine GJ.ff zO ?_)
    refine Wk.id ⟨(i+1,_,o2),⟨rfl,?_⟩,?_,Sub.z,Sup.z⟩
    all_goals try dsimp only
    ·exact ⟨by omega,j2,rfl,i3⟩
    ·omega
 ·obtain rfl:i=s.nodes.length:=by omega
  rw [List.drop_length,zAA] at i3
  have e3:zAo s=match zAD s.nodes.length (s.defs.map (·.type)) o with
   | .error e=>e
   | .ok o=>if false∈o then 3 else 0:=by rw [e,zDG,←i3]
  generalize hts:s.defs.map (·.type)=ts at e3
  repeat first|exact zE|refine wkG ?_|refine zB fun b=>?_|refine zC fun a' c' hc1 hc2=>?_|(show GJ _ _ _ _ _ _ _;first|(apply GJ.a;exact rfl;intro hg)|(apply GJ.o;exact rfl;intro hg)|refine GJ.t zO ?_|refine GJ.f zO ?_|refine GJ.ft zO ?_|refine GJ.ff zO ?_)
  refine LoopOk.at (ι:=Nat × List Bool) Keep.z (fun (j,o2)=>[(70,.int .i64 (j:Int))]) (fun (j,o2)=>.sl (some ⟨b,0,none⟩) s.nodes.length s.nodes.length 4 1 (zBf o2)::.blk b0 25 (zAf s a)::own) (fun (j,o2)=>j≤s.defs.length∧o2.length=s.nodes.length∧zAD s.nodes.length (ts.drop j) o2=zAD s.nodes.length ts o) (fun (j,o2)=>s.defs.length-j) (0,o) ?_ Sub.z Sup.z ?_
  ·exact ⟨by omega,i2,rfl⟩
  rintro ⟨j,o2⟩ ⟨j1,j2,j3⟩
  dsimp only [List.cons_append,List.nil_append]
  have htl:ts.length=s.defs.length:=by rw [←hts];simp
  repeat first|exact zE|refine wkG ?_|refine zB fun b=>?_|refine zC fun a' c' hc1 hc2=>?_|(show GJ _ _ _ _ _ _ _;first|(apply GJ.a;exact rfl;intro hg)|(apply GJ.o;exact rfl;intro hg)|refine GJ.t zO ?_|refine GJ.f zO ?_|refine GJ.ft zO ?_|refine GJ.ff zO ?_)
  refine Br.cases (fun hg=>?_) (fun hg=>?_)
  ·have hd:=zBv s.defs (i:=j) (by omega)
   have hty:ts[j]! = (s.defs[j]'(by omega)).type:=by
    subst hts
    rw [List.getElem!_eq_getElem?_getD,List.getElem?_map,List.getElem?_eq_getElem (show j<s.defs.length by omega)];rfl
   rw [zFi (by omega),zAD,hty] at j3
   generalize s.defs[j]'(by omega)=df at hd j3
   repeat first|exact zE|refine wkG ?_|refine zB fun b=>?_|refine zC fun a' c' hc1 hc2=>?_|(show GJ _ _ _ _ _ _ _;first|(apply GJ.a;exact rfl;intro hg)|(apply GJ.o;exact rfl;intro hg)|refine GJ.t zO ?_|refine GJ.f zO ?_|refine GJ.ft zO ?_|refine GJ.ff zO ?_)
   rw [Int.toNat_natCast]
   refine OpOk.loadRow rfl rfl (LdN.at hr2 hd) rfl ?_
   repeat first|exact zE|refine wkG ?_|refine zB fun b=>?_|refine zC fun a' c' hc1 hc2=>?_|(show GJ _ _ _ _ _ _ _;first|(apply GJ.a;exact rfl;intro hg)|(apply GJ.o;exact rfl;intro hg)|refine GJ.t zO ?_|refine GJ.f zO ?_|refine GJ.ft zO ?_|refine GJ.ff zO ?_)
   refine Br.cases (fun hh=>?_) (fun hh=>?_)
   ·rw [if_pos (by omega)] at j3
    have e2:zAo s=3:=by rw [e3,←j3]
    rw [e2] at hk
    repeat first|exact zE|refine wkG ?_|refine zB fun b=>?_|refine zC fun a' c' hc1 hc2=>?_|(show GJ _ _ _ _ _ _ _;first|(apply GJ.a;exact rfl;intro hg)|(apply GJ.o;exact rfl;intro hg)|refine GJ.t zO ?_|refine GJ.f zO ?_|refine GJ.ft zO ?_|refine GJ.ff zO ?_)
    exact Wk.outS Sup.z (.refl _) hk
   ·rw [if_neg (by omega)] at j3
    repeat first|exact zE|refine wkG ?_|refine zB fun b=>?_|refine zC fun a' c' hc1 hc2=>?_|(show GJ _ _ _ _ _ _ _;first|(apply GJ.a;exact rfl;intro hg)|(apply GJ.o;exact rfl;intro hg)|refine GJ.t zO ?_|refine GJ.f zO ?_|refine GJ.ft zO ?_|refine GJ.ff zO ?_)
    refine Br.cases (fun hi=>?_) (fun hi=>?_)
    ·rw [if_pos hi] at j3
     have e2:zAo s=4:=by rw [e3,←j3]
     rw [e2] at hk
     repeat first|exact zE|refine wkG ?_|refine zB fun b=>?_|refine zC fun a' c' hc1 hc2=>?_|(show GJ _ _ _ _ _ _ _;first|(apply GJ.a;exact rfl;intro hg)|(apply GJ.o;exact rfl;intro hg)|refine GJ.t zO ?_|refine GJ.f zO ?_|refine GJ.ft zO ?_|refine GJ.ff zO ?_)
     exact Wk.outS Sup.z (.refl _) hk
    ·rw [if_neg hi] at j3
     repeat first|exact zE|refine wkG ?_|refine zB fun b=>?_|refine zC fun a' c' hc1 hc2=>?_|(show GJ _ _ _ _ _ _ _;first|(apply GJ.a;exact rfl;intro hg)|(apply GJ.o;exact rfl;intro hg)|refine GJ.t zO ?_|refine GJ.f zO ?_|refine GJ.ft zO ?_|refine GJ.ff zO ?_)
     refine OpOk.storeSl rfl rfl rfl rfl (by simp [zBf];omega) ?_
     rw [zEX]
     repeat first|exact zE|refine wkG ?_|refine zB fun b=>?_|refine zC fun a' c' hc1 hc2=>?_|(show GJ _ _ _ _ _ _ _;first|(apply GJ.a;exact rfl;intro hg)|(apply GJ.o;exact rfl;intro hg)|refine GJ.t zO ?_|refine GJ.f zO ?_|refine GJ.ft zO ?_|refine GJ.ff zO ?_)
     refine Wk.id ⟨(j+1,_),⟨rfl,?_⟩,?_,Sub.z,Sup.z⟩
     all_goals try dsimp only
     ·exact ⟨by omega,by simp [j2],j3⟩
     ·omega
  ·obtain rfl:j=s.defs.length:=by omega
   rw [List.drop_of_length_le (by omega),zAD] at j3
   rw [←j3] at e3
   have e4:zAo s=if false∈o2 then 3 else 0:=e3
   repeat first|exact zE|refine wkG ?_|refine zB fun b=>?_|refine zC fun a' c' hc1 hc2=>?_|(show GJ _ _ _ _ _ _ _;first|(apply GJ.a;exact rfl;intro hg)|(apply GJ.o;exact rfl;intro hg)|refine GJ.t zO ?_|refine GJ.f zO ?_|refine GJ.ft zO ?_|refine GJ.ff zO ?_)
   refine zFm (o:=o2) (Rds.hasSl (by omega) (by unfold maxLen;omega) (by simp [zBf,j2])) ?_
   repeat first|exact zE|refine wkG ?_|refine zB fun b=>?_|refine zC fun a' c' hc1 hc2=>?_|(show GJ _ _ _ _ _ _ _;first|(apply GJ.a;exact rfl;intro hg)|(apply GJ.o;exact rfl;intro hg)|refine GJ.t zO ?_|refine GJ.f zO ?_|refine GJ.ft zO ?_|refine GJ.ff zO ?_)
   refine Br.cases (fun hi=>?_) (fun hi=>?_)
   ·rw [e4,if_pos hi] at hk
    repeat first|exact zE|refine wkG ?_|refine zB fun b=>?_|refine zC fun a' c' hc1 hc2=>?_|(show GJ _ _ _ _ _ _ _;first|(apply GJ.a;exact rfl;intro hg)|(apply GJ.o;exact rfl;intro hg)|refine GJ.t zO ?_|refine GJ.f zO ?_|refine GJ.ft zO ?_|refine GJ.ff zO ?_)
    exact Wk.outS Sup.z (.refl _) hk
   ·rw [e4,if_neg hi] at hk
    repeat first|exact zE|refine wkG ?_|refine zB fun b=>?_|refine zC fun a' c' hc1 hc2=>?_|(show GJ _ _ _ _ _ _ _;first|(apply GJ.a;exact rfl;intro hg)|(apply GJ.o;exact rfl;intro hg)|refine GJ.t zO ?_|refine GJ.f zO ?_|refine GJ.ft zO ?_|refine GJ.ff zO ?_)
    exact Wk.outS Sup.z (.refl _) hk
def defD:List DefD→List UInt8→Int
 | [],_=>-1
 | d::ds,n=>if d.name=n then d.type else defD ds n
def zDi (s:zAd):Int:=(s.defs.getLast?.map (·.type)).getD (-1)
theorem def_ok {s:zAd}{a:zAp}{name:List UInt8} (ho:SpecOk ro s a) (hk:K (.int .i64 (defD s.defs name)) ro own):CallOk Tryz.prog 120 #[.agg (zAf s a).toArray,str name] ro own K:=by
 have hr2:=ho.defs
 have hm2:=hr2.max
 have hle2:=hr2.le
 unfold maxLen at hm2
 refine CallOk.intro (args:=[_,_]) (rs:=[_]) T_ok Tryz.func120 Tryz.call120 rfl rfl (by kernel_rfl) rfl rfl ?_
 repeat first|exact zE|refine wkG ?_|refine zB fun b=>?_|refine zC fun a' c' hc1 hc2=>?_|(show GJ _ _ _ _ _ _ _;first|(apply GJ.a;exact rfl;intro hg)|(apply GJ.o;exact rfl;intro hg)|refine GJ.t zO ?_|refine GJ.f zO ?_|refine GJ.ft zO ?_|refine GJ.ff zO ?_)
 refine LoopOk.at (ι:=Nat) Keep.z (fun i=>[(10,.int .i64 (i:Int))]) (fun i=>.blk b 25 (zAf s a)::own) (fun i=>i≤s.defs.length∧defD (s.defs.drop i) name=defD s.defs name) (fun i=>s.defs.length-i) 0 ?_ Sub.z Sup.z ?_
 ·exact ⟨by omega,rfl⟩
 rintro i ⟨i1,i2⟩
 dsimp only [List.cons_append,List.nil_append]
 repeat first|exact zE|refine wkG ?_|refine zB fun b=>?_|refine zC fun a' c' hc1 hc2=>?_|(show GJ _ _ _ _ _ _ _;first|(apply GJ.a;exact rfl;intro hg)|(apply GJ.o;exact rfl;intro hg)|refine GJ.t zO ?_|refine GJ.f zO ?_|refine GJ.ft zO ?_|refine GJ.ff zO ?_)
 refine Br.cases (fun hg=>?_) (fun hg=>?_)
 ·have hd:=zBv s.defs (i:=i) (by omega)
  rw [List.drop_eq_getElem_cons (by omega),defD] at i2
  generalize s.defs[i]'(by omega)=df at hd i2
  repeat first|exact zE|refine wkG ?_|refine zB fun b=>?_|refine zC fun a' c' hc1 hc2=>?_|(show GJ _ _ _ _ _ _ _;first|(apply GJ.a;exact rfl;intro hg)|(apply GJ.o;exact rfl;intro hg)|refine GJ.t zO ?_|refine GJ.f zO ?_|refine GJ.ft zO ?_|refine GJ.ff zO ?_)
  rw [Int.toNat_natCast]
  refine OpOk.loadRow rfl rfl (LdN.at hr2 hd) rfl ?_
  repeat first|exact zE|refine wkG ?_|refine zB fun b=>?_|refine zC fun a' c' hc1 hc2=>?_|(show GJ _ _ _ _ _ _ _;first|(apply GJ.a;exact rfl;intro hg)|(apply GJ.o;exact rfl;intro hg)|refine GJ.t zO ?_|refine GJ.f zO ?_|refine GJ.ft zO ?_|refine GJ.ff zO ?_)
  refine Br.cases (fun hh=>?_) (fun hh=>?_)
  ·rw [if_pos hh] at i2
   rw [←i2] at hk
   repeat first|exact zE|refine wkG ?_|refine zB fun b=>?_|refine zC fun a' c' hc1 hc2=>?_|(show GJ _ _ _ _ _ _ _;first|(apply GJ.a;exact rfl;intro hg)|(apply GJ.o;exact rfl;intro hg)|refine GJ.t zO ?_|refine GJ.f zO ?_|refine GJ.ft zO ?_|refine GJ.ff zO ?_)
   exact Wk.outS Sup.z (.refl _) hk
  ·rw [if_neg hh] at i2
   repeat first|exact zE|refine wkG ?_|refine zB fun b=>?_|refine zC fun a' c' hc1 hc2=>?_|(show GJ _ _ _ _ _ _ _;first|(apply GJ.a;exact rfl;intro hg)|(apply GJ.o;exact rfl;intro hg)|refine GJ.t zO ?_|refine GJ.f zO ?_|refine GJ.ft zO ?_|refine GJ.ff zO ?_)
   refine Wk.id ⟨i+1,⟨rfl,?_⟩,?_,Sub.z,Sup.z⟩
   all_goals try dsimp only
   ·exact ⟨by omega,i2⟩
   ·omega
 ·obtain rfl:i=s.defs.length:=by omega
  rw [List.drop_length,defD] at i2
  rw [←i2] at hk
  repeat first|exact zE|refine wkG ?_|refine zB fun b=>?_|refine zC fun a' c' hc1 hc2=>?_|(show GJ _ _ _ _ _ _ _;first|(apply GJ.a;exact rfl;intro hg)|(apply GJ.o;exact rfl;intro hg)|refine GJ.t zO ?_|refine GJ.f zO ?_|refine GJ.ft zO ?_|refine GJ.ff zO ?_)
  exact Wk.outS Sup.z (.refl _) hk
theorem zF2 {s:zAd}{a:zAp} (ho:SpecOk ro s a) (hk:K (.int .i64 (zDi s)) ro own):CallOk Tryz.prog 65 #[.agg (zAf s a).toArray] ro own K:=by
 have hr2:=ho.defs
 have hm2:=hr2.max
 have hle2:=hr2.le
 unfold maxLen at hm2
 refine CallOk.intro (args:=[_]) (rs:=[_]) T_ok Tryz.func65 Tryz.call65 rfl rfl (by kernel_rfl) rfl rfl ?_
 repeat first|exact zE|refine wkG ?_|refine zB fun b=>?_|refine zC fun a' c' hc1 hc2=>?_|(show GJ _ _ _ _ _ _ _;first|(apply GJ.a;exact rfl;intro hg)|(apply GJ.o;exact rfl;intro hg)|refine GJ.t zO ?_|refine GJ.f zO ?_|refine GJ.ft zO ?_|refine GJ.ff zO ?_)
 refine Br.cases (fun hg=>?_) (fun hg=>?_)
 ·have e:s.defs=[]:=List.eq_nil_of_length_eq_zero (by omega)
  rw [zDi,e] at hk
  repeat first|exact zE|refine wkG ?_|refine zB fun b=>?_|refine zC fun a' c' hc1 hc2=>?_|(show GJ _ _ _ _ _ _ _;first|(apply GJ.a;exact rfl;intro hg)|(apply GJ.o;exact rfl;intro hg)|refine GJ.t zO ?_|refine GJ.f zO ?_|refine GJ.ft zO ?_|refine GJ.ff zO ?_)
  exact Wk.outS Sup.z (.refl _) hk
 ·obtain ⟨n,hn⟩:∃ n,s.defs.length=n+1:=⟨s.defs.length-1,by omega⟩
  have hd:=zBv s.defs (i:=n) (by omega)
  have hl:zDi s=(s.defs[n]'(by omega)).type:=by
   unfold zDi
   rw [List.getLast?_eq_getElem?,show s.defs.length-1=n by omega,List.getElem?_eq_getElem (show n<s.defs.length by omega)]
   rfl
  rw [hl] at hk
  generalize s.defs[n]'(by omega)=df at hd hk
  have hcell:(zCL s.defs)[n*2+1]?=some (.int .i64 df.type):=by
   have:=congrArg (·[1]?) hd
   simpa [defV,List.getElem?_take,List.getElem?_drop] using this
  repeat first|exact zE|refine wkG ?_|refine zB fun b=>?_|refine zC fun a' c' hc1 hc2=>?_|(show GJ _ _ _ _ _ _ _;first|(apply GJ.a;exact rfl;intro hg)|(apply GJ.o;exact rfl;intro hg)|refine GJ.t zO ?_|refine GJ.f zO ?_|refine GJ.ft zO ?_|refine GJ.ff zO ?_)
  rw [show ((s.defs.length:Int)-1).toNat*2=n*2 by omega,Nat.add_assoc]
  refine OpOk.load rfl rfl (Ld.rs hr2 hcell) ?_
  repeat first|exact zE|refine wkG ?_|refine zB fun b=>?_|refine zC fun a' c' hc1 hc2=>?_|(show GJ _ _ _ _ _ _ _;first|(apply GJ.a;exact rfl;intro hg)|(apply GJ.o;exact rfl;intro hg)|refine GJ.t zO ?_|refine GJ.f zO ?_|refine GJ.ft zO ?_|refine GJ.ff zO ?_)
  exact Wk.outS Sup.z (.refl _) hk
end
def zGS:List UInt8:=[32,118,97,114,105,110,116,32,122,105,103,122,97,103,32,108,101,110,105,101,110,116,32,98,121,116,101,115,32,116,105,109,101,115,32,109,97,110,121,32,119,105,116,104,105,110,32,115,119,105,116,99,104,32,101,108,115,101,32,111,110,101,111,102,32,99,104,97,105,110,32,108,97,115,116,32,101,109,112,116,121,32,115,105,122,101,32,99,111,117,110,116,32,99,114,99,32]
def fixedL:List (List UInt8 × Nat × Bool):=[([117,56],1,false),([117,49,54,98,101],2,false),([117,49,54,108,101],2,true),([117,50,52,98,101],3,false),([117,50,52,108,101],3,true),([117,51,50,98,101],4,false),([117,51,50,108,101],4,true),([117,52,48,98,101],5,false),([117,52,48,108,101],5,true),([117,52,56,98,101],6,false),([117,52,56,108,101],6,true),([117,53,54,98,101],7,false),([117,53,54,108,101],7,true),([117,54,52,98,101],8,false),([117,54,52,108,101],8,true)]
def zAG (t:List UInt8):Option (Nat × Bool):=(fixedL.find? fun x=>decide (x.1=t)).map (·.2)
def zGT (t:List UInt8):Bool:=Lib.contains zGS (32::(t++[32]))||(zAG t).isSome
def zAb:zAh:=⟨0,0,false,false,false,0,0,[],[],0,0,[],[],[],[],0,[],0⟩
structure PS where
 at':Nat
 nodes:List zAh
 defs:List DefD
 code:Nat
 fat:Nat
def endT:TokD:=⟨5,0,[]⟩
structure PE where
 tok:Nat→TokD
 last:TokD
 lim:Nat
 limD:Nat
def zAa (l:List TokD):PE:=⟨fun i=>l[i]?.getD endT,l.getLast?.getD endT,2048,64⟩
section
variable (wideP:List UInt8→Nat × Nat) (E:PE)
def zAy (s:PS):TokD:=if s.code=0 then E.tok s.at' else E.last
def zAg (e:Nat) (s:PS):PS:=if s.code=0 then { s with code:=e,fat:=s.at' } else s
def isP (k:Nat) (t:List UInt8) (s:PS):Bool:=decide ((zAy E s).kind=k)&&decide ((zAy E s).text=t)
def zC2 (s:PS):PS:={ s with at':=s.at'+1 }
def zCv (s:PS):PS:={ s with at':=s.at'-1 }
def eatP (k:Nat) (t:List UInt8) (s:PS):Bool × PS:=if isP E k t s then (true,zC2 s) else (false,s)
def zA3 (t:List UInt8) (s:PS):Bool × PS:=eatP E 4 t s
def kwP (t:List UInt8) (s:PS):Bool × PS:=eatP E 1 t s
def zAe (t:List UInt8) (s:PS):PS:=if (zA3 E t s).1 then (zA3 E t s).2 else zAg 5 s
def zA6 (s:PS):List UInt8 × PS:=if (zAy E s).kind≠1∨zGT (zAy E s).text=true then ([],zAg 5 s) else ((zAy E s).text,zC2 s)
def numP (s:PS):Nat × PS:=if (zAy E s).kind≠2 then (0,zAg 5 s) else if (wideP (zAy E s).text).2≠0 then (0,zAg (wideP (zAy E s).text).2 s) else ((wideP (zAy E s).text).1,zC2 s)
def addP (n:zAh) (s:PS):Nat × PS:=if s.nodes.length=E.lim then (0,zAg 2 s) else (s.nodes.length,{ s with nodes:=s.nodes++[n] })
def zB9 (n:zAh) (s:PS):Nat × PS :=
 if (zAy E s).kind=2 then
  let r1:=numP wideP E s
  let r2:=numP wideP E (zAe E [46,46] r1.2)
  let s3:=if r2.2.code=0∧(r2.1<r1.1∨zCc n<r2.1) then zAg 1 (zCv r2.2) else r2.2
  addP E { n with min:=r1.1,max:=r2.1 } s3
 else addP E { n with max:=zCc n } s
def zC9 (s:PS):(List UInt8 × Nat × Nat) × PS :=
 let s1:=zAe E [91] s
 if (zAy E s1).kind=2 then
  let r:=numP wideP E s1
  let m:=zA3 E [42] r.2
  if m.1=false then (([],0,r.1),zAe E [93] m.2) else
  let s2:=if r.1=0 then zAg 1 m.2 else m.2
  let x:=zA6 E s2
  let p:=zA3 E [43] x.2
  if p.1 then let a:=numP wideP E p.2;((x.1,r.1,a.1),zAe E [93] a.2) else ((x.1,r.1,0),zAe E [93] p.2)
 else
  let x:=zA6 E s1
  let p:=zA3 E [43] x.2
  if p.1 then let a:=numP wideP E p.2;((x.1,1,a.1),zAe E [93] a.2) else ((x.1,1,0),zAe E [93] p.2)
variable (K:PS→Nat × PS)
def zBj (kind:Int) (s:PS):Nat × PS :=
 let x:=zC9 wideP E s
 let k:=K x.2
 addP E { zAb with kind:=kind,ereg:=x.1.1,emul:=x.1.2.1,eadd:=x.1.2.2,kids:=[(k.1:Int)] } k.2
def zDE (s:PS):Int × PS :=
 if (kwP E [115,105,122,101] s).1 then (1,(kwP E [115,105,122,101] s).2) else if (kwP E [99,111,117,110,116] s).1 then (2,(kwP E [99,111,117,110,116] s).2) else if (kwP E [99,114,99] s).1 then (3,(kwP E [99,114,99] s).2) else (0,zAg 5 s)
def zBH (s:PS):zAm × PS :=
 let n:=zA6 E s
 let k:=K (zAe E [58] n.2)
 let e:=zA3 E [61] k.2
 if e.1 then
  let d:=zDE E e.2
  let o:=zA6 E (zAe E [40] d.2)
  if d.1=3 then
   let t:=zA6 E (zAe E [46,46] o.2)
   (⟨n.1,k.1,d.1,o.1,t.1⟩,zAe E [59] (zAe E [41] t.2))
  else (⟨n.1,k.1,d.1,o.1,[]⟩,zAe E [59] (zAe E [41] o.2))
 else (⟨n.1,k.1,0,[],[]⟩,zAe E [59] e.2)
def zC7:Nat→List zAm→PS→List zAm × PS
 | 0,fs,s=>(fs,s)
 | f+1,fs,s =>
   if s.code≠0 then (fs,s) else
   let e:=zA3 E [125] s
   if e.1 then (fs,e.2) else
   let s1:=if fs.length=64 then zAg 2 e.2 else e.2
   let x:=zBH E K s1
   zC7 f (fs++[x.1]) x.2
def zBM (s:PS):Nat × PS :=
 let r:=zC7 E K 70 [] (zAe E [123] s)
 let s1:=if r.2.code=0∧r.1.length=0 then zAg 5 (zCv r.2) else r.2
 addP E { zAb with kind:=5,fields:=r.1 } s1
def zBm:Nat→List zB2→PS→List zB2 × PS
 | 0,cs,s=>(cs,s)
 | f+1,cs,s =>
   if s.code≠0∨(zAy E s).kind≠2 then (cs,s) else
   let s1:=if cs.length=64 then zAg 2 s else s
   let v:=numP wideP E s1
   let k:=K (zAe E [58] v.2)
   zBm f (cs++[⟨v.1,k.1⟩]) (zAe E [59] k.2)
def zBL (s:PS):Nat × PS :=
 let n:=zA6 E s
 let m:=zA3 E [37] n.2
 let v:=if m.1 then numP wideP E m.2 else (0,m.2)
 let s1:=if m.1∧v.2.code=0∧v.1=0 then zAg 1 (zCv v.2) else v.2
 let c:=zBm wideP E K 70 [] (zAe E [123] s1)
 let s2:=if c.1.length=0 then zAg 5 c.2 else c.2
 let e:=kwP E [101,108,115,101] s2
 let k:=if e.1 then K (zAe E [58] e.2) else (0,e.2)
 let s3:=if e.1 then zAe E [59] k.2 else k.2
 addP E { zAb with kind:=9,reg:=n.1,mod:=v.1,cases:=c.1,els:=if e.1 then (k.1:Int) else -1 } (zAe E [125] s3)
def zCF (n:Nat) (s:PS):PS:=if n=64 then zAg 2 s else s
def zBV (kind:Int) (s:PS):Bool × PS:=if kind=11 then kwP E [108,97,115,116] s else (false,s)
def zGf (kind:Int) (ls:List Bool) (w:Bool):List Bool:=if kind=11 then ls++[w] else ls
def zCu (kind:Int):Nat→List Int→List Bool→PS→List Int × List Bool × PS
 | 0,ks,ls,s=>(ks,ls,s)
 | f+1,ks,ls,s =>
   if (zA3 E [124] (K (zBV E kind (zCF ks.length s)).2).2).1=true∧(zA3 E [124] (K (zBV E kind (zCF ks.length s)).2).2).2.code=0 then
    zCu kind f (ks++[((K (zBV E kind (zCF ks.length s)).2).1:Int)]) (zGf kind ls (zBV E kind (zCF ks.length s)).1) (zA3 E [124] (K (zBV E kind (zCF ks.length s)).2).2).2
   else (ks++[((K (zBV E kind (zCF ks.length s)).2).1:Int)],zGf kind ls (zBV E kind (zCF ks.length s)).1,(zA3 E [124] (K (zBV E kind (zCF ks.length s)).2).2).2)
def zG5 (kind:Int) (s:PS):List Int × List Bool × PS:=if s.code=0 then zCu E K kind 70 [] [] s else ([],[],s)
def zBP (kind:Int) (s:PS):Nat × PS :=
 addP E { zAb with kind:=kind,kids:=(zG5 E K kind (zAe E [123] s)).1,last:=(zG5 E K kind (zAe E [123] s)).2.1 } (zAe E [125] (zG5 E K kind (zAe E [123] s)).2.2)
def lenP (n:zAh) (s:PS):Nat × PS:=zB9 wideP E { n with lenient:=(kwP E [108,101,110,105,101,110,116] s).1 } (kwP E [108,101,110,105,101,110,116] s).2
def blobP (s:PS):Nat × PS:=addP E { zAb with kind:=4,ereg:=(zC9 wideP E s).1.1,emul:=(zC9 wideP E s).1.2.1,eadd:=(zC9 wideP E s).1.2.2 } (zC9 wideP E s).2
def manyP (s:PS):Nat × PS:=addP E { zAb with kind:=7,kids:=[((K s).1:Int)] } (K s).2
def useP (s:PS):Nat × PS:=addP E { zAb with kind:=13,text:=(zA6 E s).1 } (zA6 E s).2
def zCH (s:PS):Nat × PS :=
 if (kwP E [118,97,114,105,110,116] s).1 then lenP wideP E { zAb with kind:=2 } (kwP E [118,97,114,105,110,116] s).2
 else if (kwP E [122,105,103,122,97,103] s).1 then lenP wideP E { zAb with kind:=2,zig:=true } (kwP E [122,105,103,122,97,103] s).2
 else if (kwP E [98,121,116,101,115] s).1 then blobP wideP E (kwP E [98,121,116,101,115] s).2
 else if (kwP E [116,105,109,101,115] s).1 then zBj wideP E K 6 (kwP E [116,105,109,101,115] s).2
 else if (kwP E [119,105,116,104,105,110] s).1 then zBj wideP E K 8 (kwP E [119,105,116,104,105,110] s).2
 else if (kwP E [109,97,110,121] s).1 then manyP E K (kwP E [109,97,110,121] s).2
 else if (kwP E [115,119,105,116,99,104] s).1 then zBL wideP E K (kwP E [115,119,105,116,99,104] s).2
 else if (kwP E [111,110,101,111,102] s).1 then zBP E K 10 (kwP E [111,110,101,111,102] s).2
 else if (kwP E [99,104,97,105,110] s).1 then zBP E K 11 (kwP E [99,104,97,105,110] s).2
 else if (kwP E [101,109,112,116,121] s).1 then addP E { zAb with kind:=12 } (kwP E [101,109,112,116,121] s).2
 else useP E s
end
def zCg (wideP:List UInt8→Nat × Nat) (E:PE):Nat→PS→Nat × PS
 | 0,s=>(0,zAg 6 s)
 | d+1,s =>
   if s.code≠0 then (0,s) else
   if (zAy E s).kind=3 then addP E { zAb with kind:=3,text:=(zAy E s).text } (zC2 (if (zAy E s).text=[] then zAg 5 s else s)) else
   if isP E 4 [123] s then zBM E (zCg wideP E d) s else
   if (zAy E s).kind≠1 then (0,zAg 5 s) else
   match zAG (zAy E s).text with
   | some x=>zB9 wideP E { zAb with kind:=1,width:=(x.1:Int),little:=x.2 } (zC2 s)
   | none=>zCH wideP E (zCg wideP E d) s
def defP (wideP:List UInt8→Nat × Nat) (E:PE) (s:PS):PS :=
 let n:=zA6 E s
 let k:=zCg wideP E 25 (zAe E [61] n.2)
 let s1:=zAe E [59] k.2
 if s1.code≠0 then s1 else if s1.defs.length=E.limD then zAg 2 s1 else { s1 with defs:=s1.defs++[⟨n.1,k.1⟩] }
def zIe (wideP:List UInt8→Nat × Nat) (E:PE):Nat→PS→PS
 | 0,s=>s
 | f+1,s =>
   let s1:=defP wideP E s
   if s1.code=0∧(zAy E s1).kind≠5 then zIe wideP E f s1 else s1
def zFP:PS:=⟨0,[],[],0,0⟩
def zG2 (wideP:List UInt8→Nat × Nat) (l:List TokD):zAd × Int × Option Nat :=
 let s:=zIe wideP (zAa l) 70 zFP
 if s.code≠0 then (⟨[],[]⟩,(s.code:Int),some s.fat) else
 if zAo ⟨s.nodes,s.defs⟩≠0 then (⟨[],[]⟩,zAo ⟨s.nodes,s.defs⟩,none) else (⟨s.nodes,s.defs⟩,0,some 0)
structure EndL (l:List TokD):Prop where
 pos:0<l.length
 last:∀ (i:Nat) (t:TokD),l[i]?=some t→(t.kind=5↔i+1=l.length)
class Clo (E:PE) (I:PS→Prop):Prop where
 wrong:∀ (s:PS) (e:Nat),e≠0→I s→I (zAg e s)
 step:∀ s:PS,I s→(zAy E s).kind≠5∨s.code≠0→I (zC2 s)
 backW:∀ (s:PS) (e:Nat),e≠0→I s→I (zAg e (zCv s))
 add:∀ (s:PS) (n:zAh),I s→I { s with nodes:=s.nodes++[n] }
structure InP (I:PS→Prop) (E:PE) (s:PS):Prop where
 get:I s
section
variable {wideP:List UInt8→Nat × Nat}{E:PE}{s:PS}{I:PS→Prop} [C:Clo E I]
theorem InP.wrong (h:InP I E s) (e:Nat) (he:e≠0):InP I E (zAg e s):=⟨C.wrong s e he h.get⟩
theorem InP.step (h:InP I E s) (hk:(zAy E s).kind≠5):InP I E (zC2 s):=⟨C.step s h.get (.inl hk)⟩
theorem InP.backW (h:InP I E s) (e:Nat) (he:e≠0):InP I E (zAg e (zCv s)):=⟨C.backW s e he h.get⟩
theorem InP.stepF (hc:s.code≠0) (h:InP I E s):InP I E (zC2 s):=⟨C.step s h.get (.inr hc)⟩
theorem InP.eat (h:InP I E s) {k:Nat} (hk:k≠5) (t:List UInt8):InP I E (eatP E k t s).2:=by
 unfold eatP
 split
 ·rename_i hi
  unfold isP at hi
  rw [Bool.and_eq_true,decide_eq_true_eq] at hi
  exact h.step  (by rw [hi.1];exact hk)
 ·exact h
theorem InP.sign (h:InP I E s) (t:List UInt8):InP I E (zA3 E t s).2:=h.eat  (by decide) t
theorem InP.kw (h:InP I E s) (t:List UInt8):InP I E (kwP E t s).2:=h.eat  (by decide) t
theorem InP.must (h:InP I E s) (t:List UInt8):InP I E (zAe E t s):=by
 unfold zAe
 split
 ·exact h.sign  t
 ·exact h.wrong 5 (by decide)
theorem InP.name (h:InP I E s):InP I E (zA6 E s).2:=by
 unfold zA6
 split
 ·exact h.wrong 5 (by decide)
 ·rename_i hk
  exact h.step  (fun e=>hk (.inl (by rw [e];decide)))
theorem InP.num (h:InP I E s):InP I E (numP wideP E s).2:=by
 unfold numP
 split
 ·exact h.wrong 5 (by decide)
 ·rename_i hk
  split
  ·rename_i he;exact h.wrong _ he
  ·exact h.step  (fun e=>hk (by rw [e];decide))
theorem InP.add (h:InP I E s) (n:zAh):InP I E (addP E n s).2:=by
 unfold addP
 split
 ·exact h.wrong 2 (by decide)
 ·exact ⟨C.add s n h.get⟩
theorem InP.ranged (h:InP I E s) (n:zAh):InP I E (zB9 wideP E n s).2:=by
 unfold zB9
 split
 ·dsimp only
  refine InP.add ?_ _
  have h2:InP I E (numP wideP E (zAe E [46,46] (numP wideP E s).2)).2:=((h.num ).must  _).num
  split
  ·exact h2.backW 1 (by decide)
  ·exact h2
 ·exact h.add _
theorem InP.expr (h:InP I E s):InP I E (zC9 wideP E s).2:=by
 have h1:=h.must  [91]
 unfold zC9
 dsimp only
 generalize zAe E [91] s=s1 at *
 split
 ·have h2:=h1.num (wideP:=wideP)
  generalize numP wideP E s1=r at *
  have h3:=h2.sign  [42]
  generalize zA3 E [42] r.2=m at *
  split
  ·exact h3.must  _
  ·have h4:InP I E (if r.1=0 then zAg 1 m.2 else m.2):=by
    split
    ·exact h3.wrong 1 (by decide)
    ·exact h3
   generalize (if r.1=0 then zAg 1 m.2 else m.2)=s2 at *
   have h5:=(h4.name ).sign  [43]
   generalize zA6 E s2=x at *
   generalize zA3 E [43] x.2=p at *
   split
   ·exact (h5.num ).must  _
   ·exact h5.must  _
 ·have h5:=(h1.name ).sign  [43]
  generalize zA6 E s1=x at *
  generalize zA3 E [43] x.2=p at *
  split
  ·exact (h5.num ).must  _
  ·exact h5.must  _
variable {K:PS→Nat × PS}
theorem InP.counted (hK:∀ s,InP I E s→InP I E (K s).2) (h:InP I E s) (k:Int):InP I E (zBj wideP E K k s).2:=by
 unfold zBj
 exact (hK _ (h.expr )).add _
theorem InP.derive (h:InP I E s):InP I E (zDE E s).2:=by
 unfold zDE
 split
 ·exact h.kw  _
 split
 ·exact h.kw  _
 split
 ·exact h.kw  _
 ·exact h.wrong 5 (by decide)
theorem InP.field (hK:∀ s,InP I E s→InP I E (K s).2) (h:InP I E s):InP I E (zBH E K s).2:=by
 unfold zBH
 dsimp only
 have h1:=(hK _ ((h.name ).must  [58])).sign  [61]
 generalize zA3 E [61] (K (zAe E [58] (zA6 E s).2)).2=e at *
 split
 ·have h3:=((h1.derive ).must  [40]).name
  generalize zDE E e.2=d at *
  generalize zA6 E (zAe E [40] d.2)=o at *
  split<;>dsimp only
  ·exact (((h3.must  _).name ).must  _).must  _
  ·exact (h3.must  _).must  _
 ·exact h1.must  _
theorem InP.fields (hK:∀ s,InP I E s→InP I E (K s).2):∀ (f:Nat) (fs:List zAm) (s:PS),InP I E s→InP I E (zC7 E K f fs s).2
 | 0,fs,s,h=>h
 | f+1,fs,s,h=>by
   rw [zC7]
   split
   ·exact h
   ·dsimp only
    have h1:=h.sign  [125]
    split
    ·exact h1
    ·refine InP.fields  hK f _ _ (InP.field  hK ?_)
     split
     ·exact h1.wrong 2 (by decide)
     ·exact h1
theorem InP.record (hK:∀ s,InP I E s→InP I E (K s).2) (h:InP I E s):InP I E (zBM E K s).2:=by
 unfold zBM
 dsimp only
 have h1:=InP.fields  hK 70 [] _ (h.must  [123])
 refine InP.add ?_ _
 split
 ·exact h1.backW 5 (by decide)
 ·exact h1
theorem InP.cases (hK:∀ s,InP I E s→InP I E (K s).2):∀ (f:Nat) (cs:List zB2) (s:PS),InP I E s→InP I E (zBm wideP E K f cs s).2
 | 0,cs,s,h=>h
 | f+1,cs,s,h=>by
   rw [zBm]
   split
   ·exact h
   ·dsimp only
    refine InP.cases  hK f _ _ (InP.must  (hK _ (InP.must  (InP.num  ?_) _)) _)
    split
    ·exact h.wrong 2 (by decide)
    ·exact h
theorem InP.switch (hK:∀ s,InP I E s→InP I E (K s).2) (h:InP I E s):InP I E (zBL wideP E K s).2:=by
 unfold zBL
 dsimp only
 have h1:=(h.name ).sign  [37]
 generalize zA3 E [37] (zA6 E s).2=m at *
 have h2:InP I E (if m.1=true then numP wideP E m.2 else (0,m.2)).2:=by
  split
  ·exact h1.num
  ·exact h1
 generalize (if m.1=true then numP wideP E m.2 else (0,m.2))=v at *
 have h3:InP I E (if m.1=true∧v.2.code=0∧v.1=0 then zAg 1 (zCv v.2) else v.2):=by
  split
  ·exact h2.backW 1 (by decide)
  ·exact h2
 have h4:=InP.cases (wideP:=wideP)  hK 70 [] _ (h3.must  [123])
 generalize zBm wideP E K 70 [] (zAe E [123] (if m.1=true∧v.2.code=0∧v.1=0 then zAg 1 (zCv v.2) else v.2))=c at *
 have h5:InP I E (if c.1.length=0 then zAg 5 c.2 else c.2):=by
  split
  ·exact h4.wrong 5 (by decide)
  ·exact h4
 have h6:=h5.kw  [101,108,115,101]
 generalize kwP E [101,108,115,101] (if c.1.length=0 then zAg 5 c.2 else c.2)=e at *
 refine InP.add (InP.must  ?_ _) _
 by_cases he:e.1=true
 ·rw [if_pos he,if_pos he]
  exact (hK _ (h6.must  _)).must  _
 ·rw [if_neg he,if_neg he]
  exact h6
theorem InP.over (h:InP I E s) (n:Nat):InP I E (zCF n s):=by
 unfold zCF
 split
 ·exact h.wrong 2 (by decide)
 ·exact h
theorem InP.last (h:InP I E s) (kind:Int):InP I E (zBV E kind s).2:=by
 unfold zBV
 split
 ·exact h.kw  _
 ·exact h
theorem InP.choices (hK:∀ s,InP I E s→InP I E (K s).2) (kind:Int):∀ (f:Nat) (ks:List Int) (ls:List Bool) (s:PS),InP I E s→InP I E (zCu E K kind f ks ls s).2.2
 | 0,ks,ls,s,h=>h
 | f+1,ks,ls,s,h=>by
   rw [zCu]
   have h3:=(hK _ ((h.over ks.length).last  kind)).sign  [124]
   split
   ·exact InP.choices  hK kind f _ _ _ h3
   ·exact h3
theorem InP.choice (hK:∀ s,InP I E s→InP I E (K s).2) (h:InP I E s) (kind:Int):InP I E (zBP E K kind s).2:=by
 have h1:=h.must  [123]
 refine InP.add (InP.must  ?_ _) _
 unfold zG5
 split
 ·exact InP.choices  hK kind _ _ _ _ h1
 ·exact h1
theorem InP.ite {c:Prop} [Decidable c] {a b:Nat × PS} (h1:InP I E a.2) (h2:InP I E b.2):InP I E (if c then a else b).2:=by
 split
 ·exact h1
 ·exact h2
theorem InP.named (hK:∀ s,InP I E s→InP I E (K s).2) (h:InP I E s):InP I E (zCH wideP E K s).2:=by
 unfold zCH
 refine InP.ite (InP.ranged  ((h.kw  _).kw  _) _) ?_
 refine InP.ite (InP.ranged  ((h.kw  _).kw  _) _) ?_
 refine InP.ite (InP.add ((h.kw  _).expr ) _) ?_
 refine InP.ite (InP.counted  hK (h.kw  _) 6) ?_
 refine InP.ite (InP.counted  hK (h.kw  _) 8) ?_
 refine InP.ite (InP.add (hK _ (h.kw  _)) _) ?_
 refine InP.ite (InP.switch  hK (h.kw  _)) ?_
 refine InP.ite (InP.choice  hK (h.kw  _) 10) ?_
 refine InP.ite (InP.choice  hK (h.kw  _) 11) ?_
 refine InP.ite (InP.add (h.kw  _) _) ?_
 exact InP.add (h.name ) _
theorem InP.kind:∀ (d:Nat) (s:PS),InP I E s→InP I E (zCg wideP E d s).2
 | 0,s,h=>h.wrong 6 (by decide)
 | d+1,s,h=>by
   rw [zCg]
   split
   ·exact h
   rename_i hc
   split
   ·rename_i hk
    refine InP.add ?_ _
    split
    ·exact InP.stepF (by unfold zAg;rw [if_pos (Decidable.of_not_not hc)];exact (by decide:(5:Nat)≠0)) (h.wrong 5 (by decide))
    ·exact h.step  (by rw [hk];decide)
   split
   ·exact h.record  (InP.kind  d)
   split
   ·exact h.wrong 5 (by decide)
   rename_i hk
   split
   ·exact InP.ranged  (h.step  (fun e=>hk (by rw [e];decide))) _
   ·exact h.named  (InP.kind  d)
end
theorem zA2 (l:List TokD):Clo (zAa l) (fun s=>s.code≠0) where
 wrong s e he h:=by unfold zAg;rw [if_neg h];exact h
 step s h hk:=h
 backW s e he h:=by unfold zAg;rw [if_neg (show ¬(zCv s).code=0 from h)];exact h
 add s n h:=h
section
variable {wideP:List UInt8→Nat × Nat}{l:List TokD}{s:PS}
end
end Go.Proofs.YtnapjcnfgdkmcaaGreatDoor
end
section
namespace Go.Proofs
open Go.Shelf
def Tryz.laysMul_ren:Go.Shelf.Ren:=⟨fun|264=>169|n=>n,fun|53=>33|46=>164|n=>n,fun|n=>n⟩
theorem Tryz.laysMul:Go.Proofs.Lays.n264 Tryz.prog Tryz.laysMul_ren:={
 mixed:=by kernel_rfl
 f264:=Tryz.func169.trans (congrArg some (by kernel_rfl))
 t46:=Tryz.underlying164
 a46:=Tryz.isAgg164
 z46:=Tryz.sizeOf164
 v46:=Tryz.zeroValue164
 t53:=Tryz.underlying33
 a53:=Tryz.isAgg33
 z53:=Tryz.sizeOf33
 v53:=Tryz.zeroValue33 }
end Go.Proofs
namespace Go.Proofs.YtnapjcnfgdkmcaaGreatDoor
open Go Go.E
def zD9 (c:Nat):Bool:=decide (48≤c)&&decide (c≤57)
def zGm (l:List UInt8):Bool:=l.isEmpty||(decide (1<l.length)&&decide (l.headD 0=48))
def zC1 (l:List UInt8):Nat:=l.foldl (fun v c=>10*v+(c.toNat-48)) 0
section
variable {ro:Ro}{own r:Chs}{K:Value→Ro→Chs→Prop}{g:Chunk→Chs}
theorem mul64_ok {x y:Nat} (hx:x<18446744073709551616) (hy:y<18446744073709551616) (hk:K (.tuple #[.int .u64 ((x*y / 18446744073709551616:Nat):Int),.int .u64 ((x*y % 18446744073709551616:Nat):Int)]) ro own) :
  CallOk Tryz.prog 169 #[.int .u64 (x:Int),.int .u64 (y:Int)] ro own K:=by
 refine CallOk.ofBelow Tryz.call169 (fun w=>?_) hk
 have h:=Go.Proofs.Any.bits_Mul64 Tryz.laysMul x y hx hy w
 rw [show Tryz.laysMul_ren.f 264=169 by kernel_rfl] at h
 refine h.mono fun e w' ⟨he,hb⟩=>⟨he,?_⟩
 rw [hb]
 exact Go.RowKit.Below.refl _ _
theorem wmul_ok {x y:Nat} (hx:x<18446744073709551616) (hy:y<18446744073709551616) (h1:x*y<18446744073709551616→K (.tuple #[.int .u64 ((x*y:Nat):Int),.int .i64 0]) ro own) (h2:18446744073709551616≤x*y→K (.tuple #[.int .u64 0,.int .i64 40]) ro own) :
  CallOk Tryz.prog 167 #[.int .u64 (x:Int),.int .u64 (y:Int)] ro own K:=by
 refine CallOk.intro (args:=[_,_]) (rs:=[_,_]) T_ok Tryz.func167 Tryz.call167 rfl rfl (by kernel_rfl) rfl rfl ?_
 repeat first|exact zE|refine zP ?_|refine zB fun b=>?_|refine zC fun a' c' hc1 hc2=>?_|(apply GJ.a;exact rfl;intro hg)|(apply GJ.o;exact rfl;intro hg)
 refine mul64_ok hx hy ?_
 generalize x*y=z at h1 h2 ⊢
 repeat first|exact zE|refine zP ?_|refine zB fun b=>?_|refine zC fun a' c' hc1 hc2=>?_|(apply GJ.a;exact rfl;intro hg)|(apply GJ.o;exact rfl;intro hg)
 refine Br.cases (fun h=>?_) (fun h=>?_)
 ·repeat first|exact zE|refine zP ?_|refine zB fun b=>?_|refine zC fun a' c' hc1 hc2=>?_|(apply GJ.a;exact rfl;intro hg)|(apply GJ.o;exact rfl;intro hg)
  exact Wk.outS Sup.z (.refl _) (h2 (by omega))
 ·have h3:z<18446744073709551616:=by omega
  rw [Nat.mod_eq_of_lt h3]
  repeat first|exact zE|refine zP ?_|refine zB fun b=>?_|refine zC fun a' c' hc1 hc2=>?_|(apply GJ.a;exact rfl;intro hg)|(apply GJ.o;exact rfl;intro hg)
  exact Wk.outS Sup.z (.refl _) (h1 h3)
theorem wadd_ok {x y:Nat} (hx:x<18446744073709551616) (hy:y<18446744073709551616) (h1:x+y<18446744073709551616→K (.tuple #[.int .u64 ((x+y:Nat):Int),.int .i64 0]) ro own) (h2:18446744073709551616≤x+y→K (.tuple #[.int .u64 0,.int .i64 40]) ro own) :
  CallOk Tryz.prog 168 #[.int .u64 (x:Int),.int .u64 (y:Int)] ro own K:=by
 refine CallOk.intro (args:=[_,_]) (rs:=[_,_]) T_ok Tryz.func168 Tryz.call168 rfl rfl (by kernel_rfl) rfl rfl ?_
 repeat first|exact zE|refine zP ?_|refine zB fun b=>?_|refine zC fun a' c' hc1 hc2=>?_|(apply GJ.a;exact rfl;intro hg)|(apply GJ.o;exact rfl;intro hg)
 refine CallOk.add64 Tryz.func170 (by kernel_rfl) (by kernel_rfl) (by kernel_rfl) (by kernel_rfl) ?_
 generalize x+y=z at h1 h2 ⊢
 repeat first|exact zE|refine zP ?_|refine zB fun b=>?_|refine zC fun a' c' hc1 hc2=>?_|(apply GJ.a;exact rfl;intro hg)|(apply GJ.o;exact rfl;intro hg)
 refine Br.cases (fun h=>?_) (fun h=>?_)
 ·repeat first|exact zE|refine zP ?_|refine zB fun b=>?_|refine zC fun a' c' hc1 hc2=>?_|(apply GJ.a;exact rfl;intro hg)|(apply GJ.o;exact rfl;intro hg)
  exact Wk.outS Sup.z (.refl _) (h2 (by omega))
 ·have h3:z<18446744073709551616:=by omega
  rw [Nat.mod_eq_of_lt h3]
  repeat first|exact zE|refine zP ?_|refine zB fun b=>?_|refine zC fun a' c' hc1 hc2=>?_|(apply GJ.a;exact rfl;intro hg)|(apply GJ.o;exact rfl;intro hg)
  exact Wk.outS Sup.z (.refl _) (h1 h3)
theorem zFL {m x y:Nat} (hm:m<18446744073709551616) (hx:x<18446744073709551616) (hy:y<18446744073709551616) (h1:m*x+y<18446744073709551616→K (.tuple #[.int .u64 ((m*x+y:Nat):Int),.int .i64 0]) ro own) (h2:18446744073709551616≤m*x+y→K (.tuple #[.int .u64 0,.int .i64 40]) ro own) :
  CallOk Tryz.prog 164 #[.int .u64 (m:Int),.int .u64 (x:Int),.int .u64 (y:Int)] ro own K:=by
 refine CallOk.intro (args:=[_,_,_]) (rs:=[_,_]) T_ok Tryz.func164 Tryz.call164 rfl rfl (by kernel_rfl) rfl rfl ?_
 repeat first|exact zE|refine zP ?_|refine zB fun b=>?_|refine zC fun a' c' hc1 hc2=>?_|(apply GJ.a;exact rfl;intro hg)|(apply GJ.o;exact rfl;intro hg)
 refine wmul_ok hm hx (fun h=>?_) (fun h=>?_)
 ·repeat first|exact zE|refine zP ?_|refine zB fun b=>?_|refine zC fun a' c' hc1 hc2=>?_|(apply GJ.a;exact rfl;intro hg)|(apply GJ.o;exact rfl;intro hg)
  refine wadd_ok h hy (fun h3=>?_) (fun h3=>?_)
  ·repeat first|exact zE|refine zP ?_|refine zB fun b=>?_|refine zC fun a' c' hc1 hc2=>?_|(apply GJ.a;exact rfl;intro hg)|(apply GJ.o;exact rfl;intro hg)
   exact Wk.outS Sup.z (.refl _) (h1 h3)
  ·repeat first|exact zE|refine zP ?_|refine zB fun b=>?_|refine zC fun a' c' hc1 hc2=>?_|(apply GJ.a;exact rfl;intro hg)|(apply GJ.o;exact rfl;intro hg)
   exact Wk.outS Sup.z (.refl _) (h2 h3)
 ·repeat first|exact zE|refine zP ?_|refine zB fun b=>?_|refine zC fun a' c' hc1 hc2=>?_|(apply GJ.a;exact rfl;intro hg)|(apply GJ.o;exact rfl;intro hg)
  exact Wk.outS Sup.z (.refl _) (h2 (by omega))
theorem zDQ (l:List UInt8) (c:UInt8):zC1 (l++[c])=10*zC1 l+(c.toNat-48):=by simp [zC1]
def zBJ (l:List UInt8):Bool:=l.all fun c=>zD9 c.toNat
def numD (l:List UInt8):Nat × Nat:=if zGm l=true∨zBJ l=false then (0,5) else if 18446744073709551616≤zC1 l then (0,40) else (zC1 l,0)
set_option maxHeartbeats 4000000 in
theorem zE5 {l:List UInt8} (hl:l.length≤100000) (hk:K (.tuple #[.int .u64 ((numD l).1:Int),.int .i64 ((numD l).2:Int)]) ro own) :
  CallOk Tryz.prog 151 #[str l] ro own K:=by
 by_cases hb:zGm l=true
 ·have hn:numD l=(0,5):=by unfold numD;rw [if_pos (.inl hb)]
  rw [hn] at hk
  match l,hl,hb with
  | [],hl,hb =>
    refine CallOk.intro (args:=[_]) (rs:=[_,_]) T_ok Tryz.func151 Tryz.call151 rfl rfl (by kernel_rfl) rfl rfl ?_
    repeat first|exact zE|refine zP ?_|refine zB fun b=>?_|refine zC fun a' c' hc1 hc2=>?_|(apply GJ.a;exact rfl;intro hg)|(apply GJ.o;exact rfl;intro hg)
    exact Wk.outS Sup.z (.refl _) hk
  | [c],hl,hb=>simp [zGm] at hb
  | c::d::r,hl,hb =>
    have hc:c=48:=by simpa [zGm] using hb
    subst hc
    have hlen:1<(48::d::r:List UInt8).length:=by simp
    have hne:¬(48::d::r:List UInt8)=[]:=by simp
    refine CallOk.intro (args:=[_]) (rs:=[_,_]) T_ok Tryz.func151 Tryz.call151 rfl rfl (by kernel_rfl) rfl rfl ?_
    repeat first|exact zE|refine zP ?_|refine zB fun b=>?_|refine zC fun a' c' hc1 hc2=>?_|(apply GJ.a;exact rfl;intro hg)|(apply GJ.o;exact rfl;intro hg)
    refine Br.t rfl ?_
    repeat first|exact zE|refine zP ?_|refine zB fun b=>?_|refine zC fun a' c' hc1 hc2=>?_|(apply GJ.a;exact rfl;intro hg)|(apply GJ.o;exact rfl;intro hg)
    exact Wk.outS Sup.z (.refl _) hk
 ·have hne:¬l=[]:=by intro e;subst e;exact hb rfl
  have h0:1<l.length→¬(l[0]!).toNat=48:=by
   intro h e
   apply hb
   match l,h,e with
   | c::d::r,h,e =>
     have hc:c=48:=UInt8.toNat_inj.1 e
     subst hc;rfl
  have hnum:numD l=if zBJ l=false then (0,5) else if 18446744073709551616≤zC1 l then (0,40) else (zC1 l,0):=by
   unfold numD
   by_cases ha:zBJ l=false
   ·rw [if_pos (.inr ha),if_pos ha]
   ·rw [if_neg (fun x=>x.elim hb ha),if_neg ha]
  have rest:True:=trivial
  have hz:(Int.toNat 0)=0:=rfl
  refine CallOk.intro (args:=[_]) (rs:=[_,_]) T_ok Tryz.func151 Tryz.call151 rfl rfl (by kernel_rfl) rfl rfl ?_
  by_cases h1:1<l.length
  ·have h0:=h0 h1
   repeat first|exact zE|refine zP ?_|refine zB fun b=>?_|refine zC fun a' c' hc1 hc2=>?_|(apply GJ.a;exact rfl;intro hg)|(apply GJ.o;exact rfl;intro hg)
   refine Br.f (by rw [hz];omega) ?_
   repeat first|exact zE|refine zP ?_|refine zB fun b=>?_|refine zC fun a' c' hc1 hc2=>?_|(apply GJ.a;exact rfl;intro hg)|(apply GJ.o;exact rfl;intro hg)
   refine LoopOk.at (ι:=Nat × Nat × Bool) Keep.z (fun (i,n,gr)=>[(23,.int .i64 (i:Int)),(4,.int .u64 (n:Int)),(5,.bool gr)]) (fun (i,n,gr)=>own) (fun (i,n,gr)=>i≤l.length∧zBJ (l.take i)=true∧n<18446744073709551616∧(gr=false→n=zC1 (l.take i))∧(gr=true→18446744073709551616≤zC1 (l.take i))) (fun (i,n,gr)=>l.length-i) (0,0,false) ?_ Sub.z Sup.z ?_
   ·exact ⟨Nat.zero_le _,rfl,by decide,fun _=>rfl,fun h=>by cases h⟩
   rintro ⟨i,n,gr⟩ ⟨i1,i2,i3,i4,i5⟩
   dsimp only [List.cons_append,List.nil_append] at i1 i2 i3 i4 i5 ⊢
   repeat first|exact zE|refine zP ?_|refine zB fun b=>?_|refine zC fun a' c' hc1 hc2=>?_|(apply GJ.a;exact rfl;intro hg)|(apply GJ.o;exact rfl;intro hg)
   refine Br.cases (fun hg=>?_) (fun hg=>?_)
   ·have hi:i<l.length:=by omega
    obtain ⟨c,hc⟩:∃ c,l[i]?=some c:=⟨_,List.getElem?_eq_getElem hi⟩
    have htk:l.take (i+1)=l.take i++[c]:=by rw [List.take_add_one,hc];rfl
    have hgc:l[(i:Int).toNat]! = c:=by rw [Int.toNat_natCast,List.getElem!_eq_getElem?_getD,hc];rfl
    have hcn:=c.toNat_lt
    have hbad:zD9 c.toNat=false→zBJ l=false:=fun h=>by
     unfold zBJ
     rw [List.all_eq_false]
     exact ⟨c,List.mem_of_getElem? hc,by rw [h];decide⟩
    repeat first|exact zE|refine zP ?_|refine zB fun b=>?_|refine zC fun a' c' hc1 hc2=>?_|(apply GJ.a;exact rfl;intro hg)|(apply GJ.o;exact rfl;intro hg)
    try rw [hgc]
    by_cases hlo:c.toNat<48
    ·have hd:=hbad (by simp [zD9];omega)
     rw [hnum,if_pos hd] at hk
     repeat first|exact zE|refine zP ?_|refine zB fun b=>?_|refine zC fun a' c' hc1 hc2=>?_|(apply GJ.a;exact rfl;intro hg)|(apply GJ.o;exact rfl;intro hg)
     exact Wk.outS Sup.z (.refl _) hk
    by_cases hhi:57<c.toNat
    ·have hd:=hbad (by simp [zD9];omega)
     rw [hnum,if_pos hd] at hk
     repeat first|exact zE|refine zP ?_|refine zB fun b=>?_|refine zC fun a' c' hc1 hc2=>?_|(apply GJ.a;exact rfl;intro hg)|(apply GJ.o;exact rfl;intro hg)
     try rw [hgc]
     repeat first|exact zE|refine zP ?_|refine zB fun b=>?_|refine zC fun a' c' hc1 hc2=>?_|(apply GJ.a;exact rfl;intro hg)|(apply GJ.o;exact rfl;intro hg)
     exact Wk.outS Sup.z (.refl _) hk
    have hdig:zD9 c.toNat=true:=by simp [zD9];omega
    have hall:zBJ (l.take (i+1))=true:=by
     rw [htk];unfold zBJ at i2 ⊢;rw [List.all_append,i2];simp [hdig]
    have hv:zC1 (l.take (i+1))=10*zC1 (l.take i)+(c.toNat-48):=by rw [htk,zDQ]
    repeat first|exact zE|refine zP ?_|refine zB fun b=>?_|refine zC fun a' c' hc1 hc2=>?_|(apply GJ.a;exact rfl;intro hg)|(apply GJ.o;exact rfl;intro hg)
    try rw [hgc]
    repeat first|exact zE|refine zP ?_|refine zB fun b=>?_|refine zC fun a' c' hc1 hc2=>?_|(apply GJ.a;exact rfl;intro hg)|(apply GJ.o;exact rfl;intro hg)
    try rw [hgc]
    repeat first|exact zE|refine zP ?_|refine zB fun b=>?_|refine zC fun a' c' hc1 hc2=>?_|(apply GJ.a;exact rfl;intro hg)|(apply GJ.o;exact rfl;intro hg)
    rw [show ((c.toNat:Int)-48) % 256=((c.toNat-48:Nat):Int) by omega]
    refine zFL (m:=10) (x:=n) (y:=c.toNat-48) (by decide) i3 (by omega) (fun h=>?_) (fun h=>?_)
    ·repeat first|exact zE|refine zP ?_|refine zB fun b=>?_|refine zC fun a' c' hc1 hc2=>?_|(apply GJ.a;exact rfl;intro hg)|(apply GJ.o;exact rfl;intro hg)
     refine Wk.id ⟨(i+1,10*n+(c.toNat-48),gr),⟨rfl,?_⟩,?_,Sub.z,Sup.z⟩
     all_goals try dsimp only
     ·exact ⟨by omega,hall,h,fun e=>by rw [hv,i4 e],fun e=>by have:=i5 e;omega⟩
     ·omega
    ·repeat first|exact zE|refine zP ?_|refine zB fun b=>?_|refine zC fun a' c' hc1 hc2=>?_|(apply GJ.a;exact rfl;intro hg)|(apply GJ.o;exact rfl;intro hg)
     refine Wk.id ⟨(i+1,0,true),⟨rfl,?_⟩,?_,Sub.z,Sup.z⟩
     all_goals try dsimp only
     ·refine ⟨by omega,hall,by decide,fun e=>(by cases e),fun _=>?_⟩
      rw [hv]
      cases gr with
      | false=>rw [←i4 rfl];exact h
      | true=>have:=i5 rfl;omega
     ·omega
   ·obtain rfl:i=l.length:=by omega
    rw [List.take_length] at i2 i4 i5
    rw [hnum,if_neg (by rw [i2];decide)] at hk
    cases gr with
    | true =>
      rw [if_pos (i5 rfl)] at hk
      repeat first|exact zE|refine zP ?_|refine zB fun b=>?_|refine zC fun a' c' hc1 hc2=>?_|(apply GJ.a;exact rfl;intro hg)|(apply GJ.o;exact rfl;intro hg)
      exact Wk.outS Sup.z (.refl _) hk
    | false =>
      rw [←i4 rfl,if_neg (by omega)] at hk
      repeat first|exact zE|refine zP ?_|refine zB fun b=>?_|refine zC fun a' c' hc1 hc2=>?_|(apply GJ.a;exact rfl;intro hg)|(apply GJ.o;exact rfl;intro hg)
      exact Wk.outS Sup.z (.refl _) hk
  ·repeat first|exact zE|refine zP ?_|refine zB fun b=>?_|refine zC fun a' c' hc1 hc2=>?_|(apply GJ.a;exact rfl;intro hg)|(apply GJ.o;exact rfl;intro hg)
   refine LoopOk.at (ι:=Nat × Nat × Bool) Keep.z (fun (i,n,gr)=>[(23,.int .i64 (i:Int)),(4,.int .u64 (n:Int)),(5,.bool gr)]) (fun (i,n,gr)=>own) (fun (i,n,gr)=>i≤l.length∧zBJ (l.take i)=true∧n<18446744073709551616∧(gr=false→n=zC1 (l.take i))∧(gr=true→18446744073709551616≤zC1 (l.take i))) (fun (i,n,gr)=>l.length-i) (0,0,false) ?_ Sub.z Sup.z ?_
   ·exact ⟨Nat.zero_le _,rfl,by decide,fun _=>rfl,fun h=>by cases h⟩
   rintro ⟨i,n,gr⟩ ⟨i1,i2,i3,i4,i5⟩
   dsimp only [List.cons_append,List.nil_append] at i1 i2 i3 i4 i5 ⊢
   repeat first|exact zE|refine zP ?_|refine zB fun b=>?_|refine zC fun a' c' hc1 hc2=>?_|(apply GJ.a;exact rfl;intro hg)|(apply GJ.o;exact rfl;intro hg)
   refine Br.cases (fun hg=>?_) (fun hg=>?_)
   ·have hi:i<l.length:=by omega
    obtain ⟨c,hc⟩:∃ c,l[i]?=some c:=⟨_,List.getElem?_eq_getElem hi⟩
    have htk:l.take (i+1)=l.take i++[c]:=by rw [List.take_add_one,hc];rfl
    have hgc:l[(i:Int).toNat]! = c:=by rw [Int.toNat_natCast,List.getElem!_eq_getElem?_getD,hc];rfl
    have hcn:=c.toNat_lt
    have hbad:zD9 c.toNat=false→zBJ l=false:=fun h=>by
     unfold zBJ
     rw [List.all_eq_false]
     exact ⟨c,List.mem_of_getElem? hc,by rw [h];decide⟩
    repeat first|exact zE|refine zP ?_|refine zB fun b=>?_|refine zC fun a' c' hc1 hc2=>?_|(apply GJ.a;exact rfl;intro hg)|(apply GJ.o;exact rfl;intro hg)
    try rw [hgc]
    by_cases hlo:c.toNat<48
    ·have hd:=hbad (by simp [zD9];omega)
     rw [hnum,if_pos hd] at hk
     repeat first|exact zE|refine zP ?_|refine zB fun b=>?_|refine zC fun a' c' hc1 hc2=>?_|(apply GJ.a;exact rfl;intro hg)|(apply GJ.o;exact rfl;intro hg)
     exact Wk.outS Sup.z (.refl _) hk
    by_cases hhi:57<c.toNat
    ·have hd:=hbad (by simp [zD9];omega)
     rw [hnum,if_pos hd] at hk
     repeat first|exact zE|refine zP ?_|refine zB fun b=>?_|refine zC fun a' c' hc1 hc2=>?_|(apply GJ.a;exact rfl;intro hg)|(apply GJ.o;exact rfl;intro hg)
     try rw [hgc]
     repeat first|exact zE|refine zP ?_|refine zB fun b=>?_|refine zC fun a' c' hc1 hc2=>?_|(apply GJ.a;exact rfl;intro hg)|(apply GJ.o;exact rfl;intro hg)
     exact Wk.outS Sup.z (.refl _) hk
    have hdig:zD9 c.toNat=true:=by simp [zD9];omega
    have hall:zBJ (l.take (i+1))=true:=by
     rw [htk];unfold zBJ at i2 ⊢;rw [List.all_append,i2];simp [hdig]
    have hv:zC1 (l.take (i+1))=10*zC1 (l.take i)+(c.toNat-48):=by rw [htk,zDQ]
    repeat first|exact zE|refine zP ?_|refine zB fun b=>?_|refine zC fun a' c' hc1 hc2=>?_|(apply GJ.a;exact rfl;intro hg)|(apply GJ.o;exact rfl;intro hg)
    try rw [hgc]
    repeat first|exact zE|refine zP ?_|refine zB fun b=>?_|refine zC fun a' c' hc1 hc2=>?_|(apply GJ.a;exact rfl;intro hg)|(apply GJ.o;exact rfl;intro hg)
    try rw [hgc]
    repeat first|exact zE|refine zP ?_|refine zB fun b=>?_|refine zC fun a' c' hc1 hc2=>?_|(apply GJ.a;exact rfl;intro hg)|(apply GJ.o;exact rfl;intro hg)
    rw [show ((c.toNat:Int)-48) % 256=((c.toNat-48:Nat):Int) by omega]
    refine zFL (m:=10) (x:=n) (y:=c.toNat-48) (by decide) i3 (by omega) (fun h=>?_) (fun h=>?_)
    ·repeat first|exact zE|refine zP ?_|refine zB fun b=>?_|refine zC fun a' c' hc1 hc2=>?_|(apply GJ.a;exact rfl;intro hg)|(apply GJ.o;exact rfl;intro hg)
     refine Wk.id ⟨(i+1,10*n+(c.toNat-48),gr),⟨rfl,?_⟩,?_,Sub.z,Sup.z⟩
     all_goals try dsimp only
     ·exact ⟨by omega,hall,h,fun e=>by rw [hv,i4 e],fun e=>by have:=i5 e;omega⟩
     ·omega
    ·repeat first|exact zE|refine zP ?_|refine zB fun b=>?_|refine zC fun a' c' hc1 hc2=>?_|(apply GJ.a;exact rfl;intro hg)|(apply GJ.o;exact rfl;intro hg)
     refine Wk.id ⟨(i+1,0,true),⟨rfl,?_⟩,?_,Sub.z,Sup.z⟩
     all_goals try dsimp only
     ·refine ⟨by omega,hall,by decide,fun e=>(by cases e),fun _=>?_⟩
      rw [hv]
      cases gr with
      | false=>rw [←i4 rfl];exact h
      | true=>have:=i5 rfl;omega
     ·omega
   ·obtain rfl:i=l.length:=by omega
    rw [List.take_length] at i2 i4 i5
    rw [hnum,if_neg (by rw [i2];decide)] at hk
    cases gr with
    | true =>
      rw [if_pos (i5 rfl)] at hk
      repeat first|exact zE|refine zP ?_|refine zB fun b=>?_|refine zC fun a' c' hc1 hc2=>?_|(apply GJ.a;exact rfl;intro hg)|(apply GJ.o;exact rfl;intro hg)
      exact Wk.outS Sup.z (.refl _) hk
    | false =>
      rw [←i4 rfl,if_neg (by omega)] at hk
      repeat first|exact zE|refine zP ?_|refine zB fun b=>?_|refine zC fun a' c' hc1 hc2=>?_|(apply GJ.a;exact rfl;intro hg)|(apply GJ.o;exact rfl;intro hg)
      exact Wk.outS Sup.z (.refl _) hk
end
section
variable {ro:Ro}{own r:Chs}{K:Value→Ro→Chs→Prop}{g:Chunk→Chs}
theorem listI_ok {a:Option Addr}{n c:Nat}{cs:List Value} (hr:Rs ro a n c 1 cs) (h1:∀ u∈cs,u.oneCell'=true) (hn:n≤100000000) (hk:∀ a' c',n≤c'→c'≤maxLen→K (.slice a' n n) ro (.sl a' n c' 3 1 cs::own)) :
  CallOk Tryz.prog 140 #[.slice a n c] ro own K:=by
 refine CallOk.intro (args:=[_]) (rs:=[_]) T_ok Tryz.func140 Tryz.call140 rfl rfl (by kernel_rfl) rfl rfl ?_
 repeat first|exact zE|refine wkG ?_|refine zB fun b=>?_|refine zC fun a' c' hc1 hc2=>?_|(show GJ _ _ _ _ _ _ _;first|(apply GJ.a;exact rfl;intro hg)|(apply GJ.o;exact rfl;intro hg)|refine GJ.t zO ?_|refine GJ.f zO ?_|refine GJ.ft zO ?_|refine GJ.ff zO ?_)
 refine zFn hr h1 hn (fun a1 c1 h2 h3=>?_)
 repeat first|exact zE|refine wkG ?_|refine zB fun b=>?_|refine zC fun a' c' hc1 hc2=>?_|(show GJ _ _ _ _ _ _ _;first|(apply GJ.a;exact rfl;intro hg)|(apply GJ.o;exact rfl;intro hg)|refine GJ.t zO ?_|refine GJ.f zO ?_|refine GJ.ft zO ?_|refine GJ.ff zO ?_)
 refine CallOk.intro (args:=[_]) (rs:=[_]) T_ok Tryz.func152 Tryz.call152 rfl rfl (by kernel_rfl) rfl rfl ?_
 repeat first|exact zE|refine wkG ?_|refine zB fun b=>?_|refine zC fun a' c' hc1 hc2=>?_|(show GJ _ _ _ _ _ _ _;first|(apply GJ.a;exact rfl;intro hg)|(apply GJ.o;exact rfl;intro hg)|refine GJ.t zO ?_|refine GJ.f zO ?_|refine GJ.ft zO ?_|refine GJ.ff zO ?_)
 refine Wk.id ?_
 repeat first|exact zE|refine wkG ?_|refine zB fun b=>?_|refine zC fun a' c' hc1 hc2=>?_|(show GJ _ _ _ _ _ _ _;first|(apply GJ.a;exact rfl;intro hg)|(apply GJ.o;exact rfl;intro hg)|refine GJ.t zO ?_|refine GJ.f zO ?_|refine GJ.ft zO ?_|refine GJ.ff zO ?_)
 exact Wk.id (hk _ _ h2 h3)
theorem listB_ok {a:Option Addr}{n c:Nat}{cs:List Value} (hr:Rs ro a n c 1 cs) (h1:∀ u∈cs,u.oneCell'=true) (hn:n≤100000000) (hk:∀ a' c',n≤c'→c'≤maxLen→K (.slice a' n n) ro (.sl a' n c' 4 1 cs::own)) :
  CallOk Tryz.prog 141 #[.slice a n c] ro own K:=by
 refine CallOk.intro (args:=[_]) (rs:=[_]) T_ok Tryz.func141 Tryz.call141 rfl rfl (by kernel_rfl) rfl rfl ?_
 repeat first|exact zE|refine wkG ?_|refine zB fun b=>?_|refine zC fun a' c' hc1 hc2=>?_|(show GJ _ _ _ _ _ _ _;first|(apply GJ.a;exact rfl;intro hg)|(apply GJ.o;exact rfl;intro hg)|refine GJ.t zO ?_|refine GJ.f zO ?_|refine GJ.ft zO ?_|refine GJ.ff zO ?_)
 refine zIk hr h1 hn (fun a1 c1 h2 h3=>?_)
 repeat first|exact zE|refine wkG ?_|refine zB fun b=>?_|refine zC fun a' c' hc1 hc2=>?_|(show GJ _ _ _ _ _ _ _;first|(apply GJ.a;exact rfl;intro hg)|(apply GJ.o;exact rfl;intro hg)|refine GJ.t zO ?_|refine GJ.f zO ?_|refine GJ.ft zO ?_|refine GJ.ff zO ?_)
 refine CallOk.intro (args:=[_]) (rs:=[_]) T_ok Tryz.func153 Tryz.call153 rfl rfl (by kernel_rfl) rfl rfl ?_
 repeat first|exact zE|refine wkG ?_|refine zB fun b=>?_|refine zC fun a' c' hc1 hc2=>?_|(show GJ _ _ _ _ _ _ _;first|(apply GJ.a;exact rfl;intro hg)|(apply GJ.o;exact rfl;intro hg)|refine GJ.t zO ?_|refine GJ.f zO ?_|refine GJ.ft zO ?_|refine GJ.ff zO ?_)
 refine Wk.id ?_
 repeat first|exact zE|refine wkG ?_|refine zB fun b=>?_|refine zC fun a' c' hc1 hc2=>?_|(show GJ _ _ _ _ _ _ _;first|(apply GJ.a;exact rfl;intro hg)|(apply GJ.o;exact rfl;intro hg)|refine GJ.t zO ?_|refine GJ.f zO ?_|refine GJ.ft zO ?_|refine GJ.ff zO ?_)
 exact Wk.id (hk _ _ h2 h3)
theorem listF_ok {a:Option Addr}{n c:Nat}{cs:List Value} (hr:Rs ro a n c 5 cs) (h1:∀ u∈cs,u.oneCell'=true) (hn:n≤100000000) (hk:∀ a' c',n≤c'→c'≤maxLen→K (.slice a' n n) ro (.sl a' n c' 47 5 cs::own)) :
  CallOk Tryz.prog 142 #[.slice a n c] ro own K:=by
 refine CallOk.intro (args:=[_]) (rs:=[_]) T_ok Tryz.func142 Tryz.call142 rfl rfl (by kernel_rfl) rfl rfl ?_
 repeat first|exact zE|refine wkG ?_|refine zB fun b=>?_|refine zC fun a' c' hc1 hc2=>?_|(show GJ _ _ _ _ _ _ _;first|(apply GJ.a;exact rfl;intro hg)|(apply GJ.o;exact rfl;intro hg)|refine GJ.t zO ?_|refine GJ.f zO ?_|refine GJ.ft zO ?_|refine GJ.ff zO ?_)
 refine zIh hr h1 hn (fun a1 c1 h2 h3=>?_)
 repeat first|exact zE|refine wkG ?_|refine zB fun b=>?_|refine zC fun a' c' hc1 hc2=>?_|(show GJ _ _ _ _ _ _ _;first|(apply GJ.a;exact rfl;intro hg)|(apply GJ.o;exact rfl;intro hg)|refine GJ.t zO ?_|refine GJ.f zO ?_|refine GJ.ft zO ?_|refine GJ.ff zO ?_)
 refine CallOk.intro (args:=[_]) (rs:=[_]) T_ok Tryz.func155 Tryz.call155 rfl rfl (by kernel_rfl) rfl rfl ?_
 repeat first|exact zE|refine wkG ?_|refine zB fun b=>?_|refine zC fun a' c' hc1 hc2=>?_|(show GJ _ _ _ _ _ _ _;first|(apply GJ.a;exact rfl;intro hg)|(apply GJ.o;exact rfl;intro hg)|refine GJ.t zO ?_|refine GJ.f zO ?_|refine GJ.ft zO ?_|refine GJ.ff zO ?_)
 refine Wk.id ?_
 repeat first|exact zE|refine wkG ?_|refine zB fun b=>?_|refine zC fun a' c' hc1 hc2=>?_|(show GJ _ _ _ _ _ _ _;first|(apply GJ.a;exact rfl;intro hg)|(apply GJ.o;exact rfl;intro hg)|refine GJ.t zO ?_|refine GJ.f zO ?_|refine GJ.ft zO ?_|refine GJ.ff zO ?_)
 exact Wk.id (hk _ _ h2 h3)
theorem listC_ok {a:Option Addr}{n c:Nat}{cs:List Value} (hr:Rs ro a n c 2 cs) (h1:∀ u∈cs,u.oneCell'=true) (hn:n≤100000000) (hk:∀ a' c',n≤c'→c'≤maxLen→K (.slice a' n n) ro (.sl a' n c' 97 2 cs::own)) :
  CallOk Tryz.prog 143 #[.slice a n c] ro own K:=by
 refine CallOk.intro (args:=[_]) (rs:=[_]) T_ok Tryz.func143 Tryz.call143 rfl rfl (by kernel_rfl) rfl rfl ?_
 repeat first|exact zE|refine wkG ?_|refine zB fun b=>?_|refine zC fun a' c' hc1 hc2=>?_|(show GJ _ _ _ _ _ _ _;first|(apply GJ.a;exact rfl;intro hg)|(apply GJ.o;exact rfl;intro hg)|refine GJ.t zO ?_|refine GJ.f zO ?_|refine GJ.ft zO ?_|refine GJ.ff zO ?_)
 refine zIj hr h1 hn (fun a1 c1 h2 h3=>?_)
 repeat first|exact zE|refine wkG ?_|refine zB fun b=>?_|refine zC fun a' c' hc1 hc2=>?_|(show GJ _ _ _ _ _ _ _;first|(apply GJ.a;exact rfl;intro hg)|(apply GJ.o;exact rfl;intro hg)|refine GJ.t zO ?_|refine GJ.f zO ?_|refine GJ.ft zO ?_|refine GJ.ff zO ?_)
 refine CallOk.intro (args:=[_]) (rs:=[_]) T_ok Tryz.func157 Tryz.call157 rfl rfl (by kernel_rfl) rfl rfl ?_
 repeat first|exact zE|refine wkG ?_|refine zB fun b=>?_|refine zC fun a' c' hc1 hc2=>?_|(show GJ _ _ _ _ _ _ _;first|(apply GJ.a;exact rfl;intro hg)|(apply GJ.o;exact rfl;intro hg)|refine GJ.t zO ?_|refine GJ.f zO ?_|refine GJ.ft zO ?_|refine GJ.ff zO ?_)
 refine Wk.id ?_
 repeat first|exact zE|refine wkG ?_|refine zB fun b=>?_|refine zC fun a' c' hc1 hc2=>?_|(show GJ _ _ _ _ _ _ _;first|(apply GJ.a;exact rfl;intro hg)|(apply GJ.o;exact rfl;intro hg)|refine GJ.t zO ?_|refine GJ.f zO ?_|refine GJ.ft zO ?_|refine GJ.ff zO ?_)
 exact Wk.id (hk _ _ h2 h3)
def zCb (d:zAh) (a:zA5) (k:Nat × Nat × Nat × Nat):Chs:=[.sl a.ka d.kids.length k.1 3 1 (zAs d.kids),.sl a.la d.last.length k.2.1 4 1 (zBf d.last),.sl a.fa d.fields.length k.2.2.1 47 5 (zA0 d.fields),.sl a.ca d.cases.length k.2.2.2 97 2 (zAu d.cases)]
structure zIw (d:zAh) (a:zA5):Prop where
 kids:a.kc=d.kids.length
 last:a.lc=d.last.length
 fields:a.fc=d.fields.length
 cases:a.cc=d.cases.length
theorem own_ok {d:zAh}{a:zA5} (ho:NodeOk ro d a) (hn:d.kids.length≤100000000∧d.last.length≤100000000∧d.fields.length≤100000000∧d.cases.length≤100000000)
  (hk:∀ a' k,zIw d a'→K (.agg (zAl d a').toArray) ro (zCb d a' k++own)):CallOk Tryz.prog 117 #[.agg (zAl d a).toArray] ro own K:=by
 have hr1:=ho.kids
 have hr2:=ho.last
 have hr3:=ho.fields
 have hr4:=ho.cases
 refine CallOk.intro (args:=[_]) (rs:=[_]) T_ok Tryz.func117 Tryz.call117 rfl rfl (by kernel_rfl) rfl rfl ?_
 repeat first|exact zE|refine wkG ?_|refine zB fun b=>?_|refine zC fun a' c' hc1 hc2=>?_|(show GJ _ _ _ _ _ _ _;first|(apply GJ.a;exact rfl;intro hg)|(apply GJ.o;exact rfl;intro hg)|refine GJ.t zO ?_|refine GJ.f zO ?_|refine GJ.ft zO ?_|refine GJ.ff zO ?_)
 refine Bs.all ?_
 repeat first|exact zE|refine wkG ?_|refine zB fun b=>?_|refine zC fun a' c' hc1 hc2=>?_|(show GJ _ _ _ _ _ _ _;first|(apply GJ.a;exact rfl;intro hg)|(apply GJ.o;exact rfl;intro hg)|refine GJ.t zO ?_|refine GJ.f zO ?_|refine GJ.ft zO ?_|refine GJ.ff zO ?_)
 refine listI_ok hr1 (zFa _) (by omega) (fun a1 c1 h1 h2=>?_)
 repeat first|exact zE|refine wkG ?_|refine zB fun b=>?_|refine zC fun a' c' hc1 hc2=>?_|(show GJ _ _ _ _ _ _ _;first|(apply GJ.a;exact rfl;intro hg)|(apply GJ.o;exact rfl;intro hg)|refine GJ.t zO ?_|refine GJ.f zO ?_|refine GJ.ft zO ?_|refine GJ.ff zO ?_)
 refine listB_ok hr2 (zHF _) (by omega) (fun a2 c2 h3 h4=>?_)
 repeat first|exact zE|refine wkG ?_|refine zB fun b=>?_|refine zC fun a' c' hc1 hc2=>?_|(show GJ _ _ _ _ _ _ _;first|(apply GJ.a;exact rfl;intro hg)|(apply GJ.o;exact rfl;intro hg)|refine GJ.t zO ?_|refine GJ.f zO ?_|refine GJ.ft zO ?_|refine GJ.ff zO ?_)
 refine Bs.all ?_
 repeat first|exact zE|refine wkG ?_|refine zB fun b=>?_|refine zC fun a' c' hc1 hc2=>?_|(show GJ _ _ _ _ _ _ _;first|(apply GJ.a;exact rfl;intro hg)|(apply GJ.o;exact rfl;intro hg)|refine GJ.t zO ?_|refine GJ.f zO ?_|refine GJ.ft zO ?_|refine GJ.ff zO ?_)
 refine listF_ok hr3 (zFF _) (by omega) (fun a3 c3 h5 h6=>?_)
 repeat first|exact zE|refine wkG ?_|refine zB fun b=>?_|refine zC fun a' c' hc1 hc2=>?_|(show GJ _ _ _ _ _ _ _;first|(apply GJ.a;exact rfl;intro hg)|(apply GJ.o;exact rfl;intro hg)|refine GJ.t zO ?_|refine GJ.f zO ?_|refine GJ.ft zO ?_|refine GJ.ff zO ?_)
 refine listC_ok hr4 (zGO _) (by omega) (fun a4 c4 h7 h8=>?_)
 repeat first|exact zE|refine wkG ?_|refine zB fun b=>?_|refine zC fun a' c' hc1 hc2=>?_|(show GJ _ _ _ _ _ _ _;first|(apply GJ.a;exact rfl;intro hg)|(apply GJ.o;exact rfl;intro hg)|refine GJ.t zO ?_|refine GJ.f zO ?_|refine GJ.ft zO ?_|refine GJ.ff zO ?_)
 exact Wk.outS Sup.z ((Take.perm (.miss _ (.miss _ (.miss _ (.hit _ _))))).trans ((Take.perm (.miss _ (.miss _ (.hit _ _)))).cons _ |>.trans (((Take.perm (.miss _ (.hit _ _))).cons _).cons _))) (hk ⟨a1,d.kids.length,a2,d.last.length,a3,d.fields.length,a4,d.cases.length⟩ (c1,c2,c3,c4) ⟨rfl,rfl,rfl,rfl⟩)
end
end Go.Proofs.YtnapjcnfgdkmcaaGreatDoor
end
