/- Texts of a walk, one behind the other. -/
import Derived.Laws.IdiomRangeMap
import Derived.DeepKeys5
import Derived.Test.YtmaennnkaoollaaGreatDoorMg4
import Derived.Test.YtmaennnkaoollaaGreatDoorMg6
import Derived.Test.YtmaennnkaoollaaGreatDoorMg7
import Derived.Test.YtmaennnkaoollaaGreatDoorMg8
import Derived.Test.YtmaennnkaoollaaGreatDoorMg10
set_option linter.unusedVariables false
set_option linter.unusedSimpArgs false
set_option linter.unusedSectionVars false
set_option maxRecDepth 10000
section
namespace Go.E
open Go
theorem KeyEnc.comap {P:Program}{kt:TypeId}{κ κ':Type}{kv:κ→Value}{ok:κ→Prop} (E:KeyEnc P kt kv ok) (f:κ'→κ) (hf:∀ a b,f a=f b→a=b):KeyEnc P kt (fun k=>kv (f k)) (fun k=>ok (f k)) where
 check k hk w em:=E.check (f k) hk w em
 search w k hk es he:=E.search w (f k) hk es (fun e h=>by
  obtain ⟨j,h1,h2⟩:=he e h
  exact ⟨f j,h1,h2⟩)
 stays k hk w:=E.stays (f k) hk w
 inj a b h:=hf a b (E.inj _ _ h)
end Go.E
namespace Go.Proofs.YtmaennnkaoollaaGreatDoor
open Go Go.E
theorem zNZ (m:List Bool) (l:List Int) (z:Int):anyR m (l++[z])=(anyR m l||(decide (0≤z)&&getB m z.toNat)):=by
 unfold anyR;rw [List.any_append];simp
theorem zE0 (l:List Bool):cntB l≤l.length:=by unfold cntB;exact List.count_le_length
structure MetR (a:DfaA) (m:List Bool) (wk:List Nat) (s k:Nat):Prop where
 len:m.length=a.next.length
 zero:getB m 0=true
 in':∀ t∈wk,t<a.next.length∧getB m t=true
 here:s<a.next.length∧getB m s=true
 closed:∀ t,getB m t=true→t∉wk→t≠s→∀ z∈rowA a t,0≤z→getB m z.toNat=true
 row:∀ z∈(rowA a s).take k,0≤z→getB m z.toNat=true
section
variable {a:DfaA}{m:List Bool}{wk:List Nat}{s k:Nat}
theorem MetD.pop (h:MetD a m (wk++[s])):MetR a m wk s 0 :=
 ⟨h.len,h.zero,fun t ht=>h.in' t (by simp [ht]),h.in' s (by simp),fun t h1 h2 h3=>h.closed t h1 (by simp [h2,h3]),by simp⟩
theorem MetR.fin (h:MetR a m wk s k) (hk:(rowA a s).length≤k):MetD a m wk :=
 ⟨h.len,h.zero,h.in',fun t h1 h2 z hz h0=>by
  by_cases e:t=s
  ·subst e
   exact h.row z (by rw [List.take_of_length_le hk];exact hz) h0
  ·exact h.closed t h1 h2 e z hz h0⟩
theorem MetR.skip (h:MetR a m wk s k) {z:Int} (hz:(rowA a s)[k]?=some z) (hg:0≤z→getB m z.toNat=true):MetR a m wk s (k+1) :=
 ⟨h.len,h.zero,h.in',h.here,h.closed,fun y hy h0=>by
  rw [List.take_add_one,hz,List.mem_append] at hy
  rcases hy with hy|hy
  ·exact h.row y hy h0
  ·simp at hy;subst hy;exact hg h0⟩
theorem MetR.push (h:MetR a m wk s k) {u:Nat} (hz:(rowA a s)[k]?=some (u:Int)) (hu:u<a.next.length):MetR a (m.set u true) (wk++[u]) s (k+1):=by
 have hl:u<m.length:=by rw [h.len];exact hu
 have up:∀ t,getB m t=true→getB (m.set u true) t=true:=fun t ht=>by
  rw [zBh hl];split
  ·rfl
  ·exact ht
 refine ⟨by rw [List.length_set,h.len],up 0 h.zero,fun t ht=>?_,⟨h.here.1,up s h.here.2⟩,fun t h1 h2 h3 z hz' h0=>?_,fun y hy h0=>?_⟩
 ·rw [List.mem_append,List.mem_singleton] at ht
  rcases ht with ht|rfl
  ·exact ⟨(h.in' t ht).1,up t (h.in' t ht).2⟩
  ·exact ⟨hu,by rw [zBh hl,if_pos rfl]⟩
 ·rw [List.mem_append,List.mem_singleton,not_or] at h2
  rw [zBh hl,if_neg h2.2] at h1
  exact up _ (h.closed t h1 h2.1 h3 z hz' h0)
 ·rw [List.take_add_one,hz,List.mem_append] at hy
  rcases hy with hy|hy
  ·exact up _ (h.row y hy h0)
  ·simp at hy;subst hy
   rw [Int.toNat_natCast,zBh hl,if_pos rfl]
theorem MetD.start (hp:0<a.next.length):MetD a ((List.replicate a.next.length false).set 0 true) [0]∧cntB ((List.replicate a.next.length false).set 0 true)=1:=by
 have h0:getB (List.replicate a.next.length false) 0=false:=by
  unfold getB;rw [List.getElem?_replicate,if_pos hp];rfl
 have hl:0<(List.replicate a.next.length false).length:=by simpa using hp
 refine ⟨⟨by simp,by rw [zBh hl,if_pos rfl],fun s hs=>?_,fun s h1 h2=>?_⟩,?_⟩
 ·rw [List.mem_singleton] at hs;subst hs
  exact ⟨hp,by rw [zBh hl,if_pos rfl]⟩
 ·rw [List.mem_singleton] at h2
  rw [zBh hl,if_neg h2] at h1
  unfold getB at h1
  rw [List.getElem?_replicate] at h1
  split at h1<;>cases h1
 ·rw [zFV hl h0]
  unfold cntB
  rw [List.count_replicate];simp
end
structure NumM {κ:Type} [DecidableEq κ] (ok:κ→Prop) (seen:List κ) (M:List (κ × Nat × Nat)):Prop where
 map:MapOk ok M
 at':∀ k,getG M k=seen.idxOf? k
section
variable {κ:Type} [DecidableEq κ] {ok:κ→Prop}{seen:List κ}{M:List (κ × Nat × Nat)}
theorem NumM.nil:NumM ok ([]:List κ) []:=⟨MapOk.nil,fun k=>rfl⟩
theorem zNf (s:List κ) (l x:κ):(s++[l]).idxOf? x=(s.idxOf? x).or (if x=l then some s.length else none):=by
 unfold List.idxOf?
 rw [List.findIdx?_append,List.findIdx?_cons]
 by_cases e:x=l
 ·subst e;simp
 ·have:(l == x)=false:=by simpa using fun h=>e h.symm
  rw [this,if_neg e];simp
theorem NumM.push (h:NumM ok seen M) {k:κ} (hk:ok k) (hn:seen.idxOf? k=none) (c:Nat):NumM ok (seen++[k]) (putG M c k seen.length):=by
 refine ⟨h.map.put hk c _,fun x=>?_⟩
 rw [zDz,zNf]
 by_cases e:x=k
 ·subst e
  rw [if_pos rfl,hn,if_pos rfl];rfl
 ·rw [if_neg e,h.at' x,if_neg e]
  cases seen.idxOf? x<;>rfl
end
section
variable {w:Nat}{a:DfaA}{now:List Bool}{M N S:List (Int × Bool × Nat)}{c c' k:Nat}{s:Int}
end
theorem zKo (n:Nat):(Value.int .u8 ((n % 256:Nat):Int))=u8 (UInt8.ofNat n):=by unfold u8;rw [UInt8.toNat_ofNat']
section
variable {ro:Ro}{own r:Chs}{K:Value→Ro→Chs→Prop}{g:Chunk→Chs}
theorem zFG {a:Option Addr}{n c:Nat}{l:List Int} (hr:Rds ro own a n c 1 (l.map (Value.int .i64))) (hl:l.length=n) (hn:n≤1000000) (ha:AdmK l) (hk:K (str (keyT l)) ro own):CallOk Tryz.prog 62 #[.slice a n c] ro own K:=by
 subst hl
 have hm:=hr.max
 have hle:=hr.le
 unfold maxLen at hm
 refine CallOk.intro (args:=[_]) (rs:=[_]) T_ok Tryz.func62 Tryz.call62 rfl rfl (by kernel_rfl) rfl rfl ?_
 repeat first|exact zE|refine zP ?_|refine zB fun b=>?_|refine zC fun a' c' hc1 hc2=>?_|(apply GJ.a;exact rfl;intro hg)|(apply GJ.o;exact rfl;intro hg)
 refine LoopOk.at (ι:=Nat × Option Addr × Nat) Keep.z (fun (i,ab,cb)=>[(12,.int .i64 (i:Int)),(3,.slice ab (2*i) cb)]) (fun (i,ab,cb)=>.sl ab (2*i) cb 5 1 ((keyT (l.take i)).map u8)::own) (fun (i,ab,cb)=>i≤l.length∧2*i≤cb∧cb≤maxLen) (fun (i,ab,cb)=>l.length-i) (0,some ⟨b,0,none⟩,2*l.length) ?_ Sub.z Sup.z ?_
 ·exact ⟨Nat.zero_le _,Nat.zero_le _,by unfold maxLen;omega⟩
 rintro ⟨i,ab,cb⟩ ⟨i1,i2,i3⟩
 dsimp only [List.cons_append,List.nil_append] at i1 i2 i3 ⊢
 by_cases hi:i<l.length
 ·obtain ⟨z,hz⟩:∃ z,l[i]?=some z:=⟨_,List.getElem?_eq_getElem hi⟩
  have hzb:l[((i:Nat):Int).toNat]! = z:=by rw [Int.toNat_natCast,List.getElem!_eq_getElem?_getD,hz];rfl
  have hza:=ha z (List.mem_of_getElem? hz)
  have htk:l.take (i+1)=l.take i++[z]:=by rw [List.take_add_one,hz];rfl
  have hkl:(keyT (l.take i)).length=2*i:=by rw [zCm,List.length_take];omega
  repeat first|exact zE|refine zP ?_|refine zB fun b=>?_|refine zC fun a' c' hc1 hc2=>?_|(apply GJ.a;exact rfl;intro hg)|(apply GJ.o;exact rfl;intro hg)
  have hap:((keyT (l.take i)).map u8)++[.int .u8 (l[(i:Int).toNat]! / 2 ^ Int.toNat 8 % 256),.int .u8 (l[(i:Int).toNat]! % 256)]=(keyT (l.take (i+1))).map u8:=by
   obtain ⟨z,rfl⟩:∃ k:Nat,z=(k:Int):=⟨z.toNat,by omega⟩
   rw [htk,zNd,List.map_append,hzb]
   have e1:Value.int .u8 ((z:Int) / 2 ^ Int.toNat 8 % 256)=u8 (UInt8.ofNat ((z:Int).toNat / 256)):=by rw [←zKo];rfl
   have e2:Value.int .u8 ((z:Int) % 256)=u8 (UInt8.ofNat (z:Int).toNat):=by rw [←zKo];rfl
   rw [e1,e2];rfl
  rw [hap,show 2*i+2=2*(i+1) by omega]
  rw [show 2*i+2=2*(i+1) by omega] at hc1
  repeat first|exact zE|refine zP ?_|refine zB fun b=>?_|refine zC fun a' c' hc1 hc2=>?_|(apply GJ.a;exact rfl;intro hg)|(apply GJ.o;exact rfl;intro hg)
  refine Wk.id ⟨(i+1,a',c'),⟨rfl,?_⟩,?_,Sub.z,Sup.z⟩
  all_goals try dsimp only
  ·exact ⟨by omega,hc1,hc2⟩
  ·omega
 ·obtain rfl:i=l.length:=by omega
  rw [List.take_length] at *
  have hkl:=zCm l
  repeat first|exact zE|refine zP ?_|refine zB fun b=>?_|refine zC fun a' c' hc1 hc2=>?_|(apply GJ.a;exact rfl;intro hg)|(apply GJ.o;exact rfl;intro hg)
  exact Wk.outS Sup.z (.refl _) hk
end
structure AlvI (d:DfaA) (m0 m:List Bool) (ch:Bool) (P:Nat→Int→Prop):Prop where
 len:m.length=d.next.length
 acc:∀ i,getB d.acc i=true→getB m i=true
 live:∀ i,getB m i=true→getB (zBt d) i=true
 same:ch=false→m=m0
 less:ch=true→m.count false<m0.count false
 cl:ch=false→∀ s z,P s z→0≤z→getB m z.toNat=true→getB m s=true
theorem zCJ {m:List Bool}{i:Nat}{q:Bool} (h:m[i]?=some q):getB m i=q:=by unfold getB;rw [h];rfl
theorem zKv {m:List Bool}{i j:Nat} (hi:i<m.length):getB (m.set i true) j=if j=i then true else getB m j:=by
 unfold getB
 by_cases e:j=i
 ·subst e;rw [List.getElem?_set_self hi,if_pos rfl];rfl
 ·rw [List.getElem?_set_ne (fun h=>e h.symm),if_neg e]
theorem AlvI.skip {d:DfaA}{m0 m:List Bool}{ch:Bool}{P Q:Nat→Int→Prop} (h:AlvI d m0 m ch P) (hq:ch=false→∀ s z,Q s z→P s z∨(0≤z→getB m z.toNat=true→getB m s=true)):AlvI d m0 m ch Q :=
 ⟨h.len,h.acc,h.live,h.same,h.less,fun hc s z hs h0 hz=>(hq hc s z hs).elim (fun h1=>h.cl hc s z h1 h0 hz) (fun h1=>h1 h0 hz)⟩
theorem AlvI.put {w:Nat}{d:DfaA}{m0 m:List Bool}{ch:Bool}{P Q:Nat→Int→Prop}{i:Nat}{z:Int} (ho:zAt w d) (h:AlvI d m0 m ch P) (hz:z∈d.next[i]?.getD []) (h0:0≤z) (hmz:getB m z.toNat=true) (hi:m[i]?=some false):AlvI d m0 (m.set i true) true Q:=by
 have hil:=(List.getElem?_eq_some_iff.1 hi).1
 refine ⟨by rw [List.length_set,h.len],fun j hj=>?_,fun j hj=>?_,(fun e=>by cases e),fun _=>?_,(fun e=>by cases e)⟩
 ·rw [zKv hil]
  split
  ·rfl
  ·exact h.acc j hj
 ·rw [zKv hil] at hj
  by_cases e:j=i
  ·subst e
   exact zIp ho j z hz h0 (h.live _ hmz)
  ·rw [if_neg e] at hj;exact h.live j hj
 ·have:=count_set m i hi
  cases ch with
  | true=>have:=h.less rfl;omega
  | false=>have:=h.same rfl;subst this;omega
section
variable {ro:Ro}{own r:Chs}{K:Value→Ro→Chs→Prop}{g:Chunk→Chs}
theorem zNL {a:Option Addr}{n c:Nat}{cs:List Value} (hr:Rs ro a n c 1 cs) (h1:∀ u∈cs,u.oneCell'=true) (hn:n≤100000000) (hk:∀ a' c',n≤c'→c'≤maxLen→K (.slice a' n c') ro (.sl a' n c' 4 1 cs::own)) :
  CallOk Tryz.prog 106 #[.slice a n c] ro own K:=by
 have hln:=hr.len
 have hle:=hr.le
 refine CallOk.given (fun hsat=>?_)
 refine CallOk.intro (args:=[_]) (rs:=[_]) T_ok Tryz.func106 Tryz.call106 rfl rfl (by kernel_rfl) rfl rfl ?_
 repeat first|exact zE|refine wkG ?_|refine zB fun b=>?_|refine zC fun a' c' hc1 hc2=>?_|(show GJ _ _ _ _ _ _ _;first|(apply GJ.a;exact rfl;intro hg)|(apply GJ.o;exact rfl;intro hg)|refine GJ.t zO ?_|refine GJ.f zO ?_|refine GJ.ft zO ?_|refine GJ.ff zO ?_)
 refine Br.cases (fun hc=>?_) (fun hc=>?_)
 ·subst hc
  have hn0:=hr.nilN hsat
  subst hn0
  obtain rfl:cs=[]:=List.eq_nil_of_length_eq_zero (by omega)
  repeat first|exact zE|refine wkG ?_|refine zB fun b=>?_|refine zC fun a' c' hc1 hc2=>?_|(show GJ _ _ _ _ _ _ _;first|(apply GJ.a;exact rfl;intro hg)|(apply GJ.o;exact rfl;intro hg)|refine GJ.t zO ?_|refine GJ.f zO ?_|refine GJ.ft zO ?_|refine GJ.ff zO ?_)
  exact Wk.outS (Sup.nilc (Sup.all _)) (.refl _) (hk none 0 (Nat.le_refl _) (Nat.zero_le _))
 ·repeat first|exact zE|refine wkG ?_|refine zB fun b=>?_|refine zC fun a' c' hc1 hc2=>?_|(show GJ _ _ _ _ _ _ _;first|(apply GJ.a;exact rfl;intro hg)|(apply GJ.o;exact rfl;intro hg)|refine GJ.t zO ?_|refine GJ.f zO ?_|refine GJ.ft zO ?_|refine GJ.ff zO ?_)
  exact Wk.id (hk _ _ (by omega) (by omega))
set_option maxHeartbeats 4000000 in
theorem zND {q w:Nat}{d:DfaA} (hD:DAt ro q d) (ho:zAt w d) (hn:d.next.length≤4096)
  (hk:∀ a c,d.next.length≤c→c≤maxLen→K (.slice a d.next.length c) ro (.sl a d.next.length c 4 1 (zAh (zBt d))::own)):CallOk Tryz.prog 95 #[ptr' q] ro own K:=by
 obtain ⟨an,cn,aa,ca,hs,hd⟩:=hD.rd
 have hN:=hd.ldN
 have hA:=hd.ldA
 have hrs:=hd.rs
 have hal:=ho.acc
 have hcm:=hrs.max
 have hcl:=hrs.le
 unfold maxLen at hcm
 refine CallOk.intro (args:=[_]) (rs:=[_]) T_ok Tryz.func95 Tryz.call95 rfl rfl (by kernel_rfl) rfl rfl ?_
 repeat first|exact zE|refine zP ?_|refine zB fun b=>?_|refine zC fun a' c' hc1 hc2=>?_|(apply GJ.a;exact rfl;intro hg)|(apply GJ.o;exact rfl;intro hg)
 refine zNL hd.ra (fun u hu=>by obtain ⟨b,_,rfl⟩:=List.mem_map.1 hu;rfl) (by omega) (fun ao co h1 h2=>?_)
 rw [hal] at h1 ⊢
 repeat first|exact zE|refine zP ?_|refine zB fun b=>?_|refine zC fun a' c' hc1 hc2=>?_|(apply GJ.a;exact rfl;intro hg)|(apply GJ.o;exact rfl;intro hg)
 refine LoopOk.at (ι:=List Bool × Bool) Keep.z (fun (m,ch)=>[(4,.bool ch)]) (fun (m,ch)=>.sl ao d.next.length co 4 1 (zAh m)::own) (fun (m,ch)=>m.length=d.next.length∧(∀ i,getB d.acc i=true→getB m i=true)∧(∀ i,getB m i=true→getB (zBt d) i=true)∧(ch=false→zDd d m)) (fun (m,ch)=>2*m.count false+(if ch then 1 else 0)) (d.acc,true) ?_ Sub.z Sup.z ?_
 ·exact ⟨hal,fun _ h=>h,zNb ho,(fun e=>by cases e)⟩
 rintro ⟨m,ch⟩ ⟨j1,j2,j3,j4⟩
 dsimp only [List.cons_append,List.nil_append] at j1 j2 j3 j4 ⊢
 cases ch with
 | false =>
   have hfin:=zOc ho j1 j2 j3 (j4 rfl)
   subst hfin
   repeat first|exact zE|refine zP ?_|refine zB fun b=>?_|refine zC fun a' c' hc1 hc2=>?_|(apply GJ.a;exact rfl;intro hg)|(apply GJ.o;exact rfl;intro hg)
   exact Wk.id (hk _ _ h1 h2)
 | true =>
   repeat first|exact zE|refine zP ?_|refine zB fun b=>?_|refine zC fun a' c' hc1 hc2=>?_|(apply GJ.a;exact rfl;intro hg)|(apply GJ.o;exact rfl;intro hg)
   refine LoopOk.at (ι:=Nat × List Bool × Bool) Keep.z (fun (i,m',ch)=>[(20,.int .i64 (i:Int)),(4,.bool ch)]) (fun (i,m',ch)=>.sl ao d.next.length co 4 1 (zAh m')::own) (fun (i,m',ch)=>i≤d.next.length∧AlvI d m m' ch (fun s z=>s<i∧z∈d.next[s]?.getD [])) (fun (i,m',ch)=>d.next.length-i) (0,m,false) ?_ Sub.z Sup.z ?_
   ·exact ⟨Nat.zero_le _,j1,j2,j3,fun _=>rfl,fun e=>(by cases e),fun _ s z h=>absurd h.1 (Nat.not_lt_zero _)⟩
   rintro ⟨i,m',ch⟩ ⟨i1,i2⟩
   dsimp only [List.cons_append,List.nil_append] at i1 i2 ⊢
   by_cases hi:i<d.next.length
   ·obtain ⟨row,hrow⟩:∃ row,d.next[i]?=some row:=⟨_,List.getElem?_eq_getElem hi⟩
    obtain ⟨ar,cr,q1,q2⟩:=hd.rows i row hrow
    have hrm:=q2.max
    have hrl:=q2.le
    unfold maxLen at hrm
    repeat first|exact zE|refine zP ?_|refine zB fun b=>?_|refine zC fun a' c' hc1 hc2=>?_|(apply GJ.a;exact rfl;intro hg)|(apply GJ.o;exact rfl;intro hg)
    refine OpOk.load rfl rfl (Go.E.Ld.rs hrs (by rw [Int.toNat_natCast];exact q1)) ?_
    repeat first|exact zE|refine zP ?_|refine zB fun b=>?_|refine zC fun a' c' hc1 hc2=>?_|(apply GJ.a;exact rfl;intro hg)|(apply GJ.o;exact rfl;intro hg)
    refine LoopOk.at (ι:=Nat × List Bool × Bool) Keep.z (fun (j,m',ch)=>[(27,.int .i64 (j:Int)),(4,.bool ch)]) (fun (j,m',ch)=>.sl ao d.next.length co 4 1 (zAh m')::own) (fun (j,m',ch)=>j≤row.length∧AlvI d m m' ch (fun s z=>(s<i∧z∈d.next[s]?.getD [])∨(s=i∧z∈row.take j))) (fun (j,m',ch)=>row.length-j) (0,m',ch) ?_ Sub.z Sup.z ?_
    ·exact ⟨Nat.zero_le _,i2.skip fun _ s z h=>.inl (h.elim id fun h=>by simp at h)⟩
    clear i2
    rintro ⟨j,m',ch⟩ ⟨k1,k2⟩
    dsimp only [List.cons_append,List.nil_append] at k1 k2 ⊢
    by_cases hj:j<row.length
    ·obtain ⟨z,hz⟩:∃ z,row[j]?=some z:=⟨_,List.getElem?_eq_getElem hj⟩
     have hzr:row[((j:Nat):Int).toNat]! = z:=by rw [Int.toNat_natCast,List.getElem!_eq_getElem?_getD,hz];rfl
     have hzto:=ho.to row (List.mem_of_getElem? hrow) z (List.mem_of_getElem? hz)
     have htk:row.take (j+1)=row.take j++[z]:=by rw [List.take_add_one,hz];rfl
     obtain ⟨p,hp⟩:∃ p,m'[i]?=some p:=⟨_,List.getElem?_eq_getElem (by rw [k2.len];exact hi)⟩
     have hgp:(zAh m')[i]?=some (.bool p):=by simp [zAh,hp]
     have hnx:(0≤z→getB m' z.toNat=true→getB m' i=true)→AlvI d m m' ch (fun s y=>(s<i∧y∈d.next[s]?.getD [])∨(s=i∧y∈row.take (j+1))):=fun hh=>k2.skip fun _ s y h=>by
      rcases h with h|⟨h,h2⟩
      ·exact .inl (.inl h)
      ·rw [htk,List.mem_append,List.mem_singleton] at h2
       rcases h2 with h2|rfl
       ·exact .inl (.inr ⟨h,h2⟩)
       ·subst h;exact .inr hh
     cases p with
     | true =>
       repeat first|exact zE|refine zP ?_|refine zB fun b=>?_|refine zC fun a' c' hc1 hc2=>?_|(apply GJ.a;exact rfl;intro hg)|(apply GJ.o;exact rfl;intro hg)
       refine OpOk.load rfl rfl (Ld.slAt' (k:=i) (by rw [Int.toNat_natCast]) hgp) ?_
       repeat first|exact zE|refine zP ?_|refine zB fun b=>?_|refine zC fun a' c' hc1 hc2=>?_|(apply GJ.a;exact rfl;intro hg)|(apply GJ.o;exact rfl;intro hg)
       repeat first|exact zE|refine zP ?_|refine zB fun b=>?_|refine zC fun a' c' hc1 hc2=>?_|(apply GJ.a;exact rfl;intro hg)|(apply GJ.o;exact rfl;intro hg)
       refine Wk.id ⟨(j+1,m',ch),⟨rfl,?_⟩,?_,Sub.z,Sup.z⟩
       all_goals try dsimp only
       ·exact ⟨by omega,hnx (fun _ _=>zCJ hp)⟩
       ·omega
     | false =>
       by_cases hz0:z<0
       ·repeat first|exact zE|refine zP ?_|refine zB fun b=>?_|refine zC fun a' c' hc1 hc2=>?_|(apply GJ.a;exact rfl;intro hg)|(apply GJ.o;exact rfl;intro hg)
        refine OpOk.load rfl rfl (Ld.slAt' (k:=i) (by rw [Int.toNat_natCast]) hgp) ?_
        repeat first|exact zE|refine zP ?_|refine zB fun b=>?_|refine zC fun a' c' hc1 hc2=>?_|(apply GJ.a;exact rfl;intro hg)|(apply GJ.o;exact rfl;intro hg)
        repeat first|exact zE|refine zP ?_|refine zB fun b=>?_|refine zC fun a' c' hc1 hc2=>?_|(apply GJ.a;exact rfl;intro hg)|(apply GJ.o;exact rfl;intro hg)
        refine Wk.id ⟨(j+1,m',ch),⟨rfl,?_⟩,?_,Sub.z,Sup.z⟩
        all_goals try dsimp only
        ·exact ⟨by omega,hnx (fun h=>by omega)⟩
        ·omega
       obtain ⟨u,rfl⟩:∃ u:Nat,z=(u:Int):=⟨z.toNat,by omega⟩
       obtain ⟨p2,hp2⟩:∃ p,m'[u]?=some p:=⟨_,List.getElem?_eq_getElem (by rw [k2.len];omega)⟩
       have hgp2:(zAh m')[u]?=some (.bool p2):=by simp [zAh,hp2]
       have hlm:=(zAV m').trans k2.len
       cases p2 with
       | false =>
         repeat first|exact zE|refine zP ?_|refine zB fun b=>?_|refine zC fun a' c' hc1 hc2=>?_|(apply GJ.a;exact rfl;intro hg)|(apply GJ.o;exact rfl;intro hg)
         refine OpOk.load rfl rfl (Ld.slAt' (k:=i) (by rw [Int.toNat_natCast]) hgp) ?_
         repeat first|exact zE|refine zP ?_|refine zB fun b=>?_|refine zC fun a' c' hc1 hc2=>?_|(apply GJ.a;exact rfl;intro hg)|(apply GJ.o;exact rfl;intro hg)
         refine OpOk.load rfl rfl (Ld.slAt' (k:=u) (by rw [hzr];rfl) hgp2) ?_
         repeat first|exact zE|refine zP ?_|refine zB fun b=>?_|refine zC fun a' c' hc1 hc2=>?_|(apply GJ.a;exact rfl;intro hg)|(apply GJ.o;exact rfl;intro hg)
         repeat first|exact zE|refine zP ?_|refine zB fun b=>?_|refine zC fun a' c' hc1 hc2=>?_|(apply GJ.a;exact rfl;intro hg)|(apply GJ.o;exact rfl;intro hg)
         refine Wk.id ⟨(j+1,m',ch),⟨rfl,?_⟩,?_,Sub.z,Sup.z⟩
         all_goals try dsimp only
         ·exact ⟨by omega,hnx (fun _ h=>by rw [Int.toNat_natCast,zCJ hp2] at h;cases h)⟩
         ·omega
       | true =>
         have hpu:=k2.put (Q:=fun s y=>(s<i∧y∈d.next[s]?.getD [])∨(s=i∧y∈row.take (j+1))) ho (i:=i) (z:=(u:Int)) (by rw [hrow];exact List.mem_of_getElem? hz) (by omega) (by rw [Int.toNat_natCast];exact zCJ hp2) hp
         repeat first|exact zE|refine zP ?_|refine zB fun b=>?_|refine zC fun a' c' hc1 hc2=>?_|(apply GJ.a;exact rfl;intro hg)|(apply GJ.o;exact rfl;intro hg)
         refine OpOk.load rfl rfl (Ld.slAt' (k:=i) (by rw [Int.toNat_natCast]) hgp) ?_
         repeat first|exact zE|refine zP ?_|refine zB fun b=>?_|refine zC fun a' c' hc1 hc2=>?_|(apply GJ.a;exact rfl;intro hg)|(apply GJ.o;exact rfl;intro hg)
         refine OpOk.load rfl rfl (Ld.slAt' (k:=u) (by rw [hzr];rfl) hgp2) ?_
         repeat first|exact zE|refine zP ?_|refine zB fun b=>?_|refine zC fun a' c' hc1 hc2=>?_|(apply GJ.a;exact rfl;intro hg)|(apply GJ.o;exact rfl;intro hg)
         refine OpOk.storeSlAt' (k:=i) rfl rfl rfl rfl (by rw [Int.toNat_natCast]) (by rw [hlm];exact hi) ?_
         rw [zBo]
         repeat first|exact zE|refine zP ?_|refine zB fun b=>?_|refine zC fun a' c' hc1 hc2=>?_|(apply GJ.a;exact rfl;intro hg)|(apply GJ.o;exact rfl;intro hg)
         repeat first|exact zE|refine zP ?_|refine zB fun b=>?_|refine zC fun a' c' hc1 hc2=>?_|(apply GJ.a;exact rfl;intro hg)|(apply GJ.o;exact rfl;intro hg)
         refine Wk.id ⟨(j+1,m'.set i true,true),⟨rfl,?_⟩,?_,Sub.z,Sup.z⟩
         all_goals try dsimp only
         ·exact ⟨by omega,hpu⟩
         ·omega
    ·obtain rfl:j=row.length:=by omega
     rw [List.take_length] at k2
     repeat first|exact zE|refine zP ?_|refine zB fun b=>?_|refine zC fun a' c' hc1 hc2=>?_|(apply GJ.a;exact rfl;intro hg)|(apply GJ.o;exact rfl;intro hg)
     repeat first|exact zE|refine zP ?_|refine zB fun b=>?_|refine zC fun a' c' hc1 hc2=>?_|(apply GJ.a;exact rfl;intro hg)|(apply GJ.o;exact rfl;intro hg)
     refine Wk.id ⟨(i+1,m',ch),⟨rfl,?_⟩,?_,Sub.z,Sup.z⟩
     all_goals try dsimp only
     ·refine ⟨by omega,k2.skip fun _ s y h=>.inl ?_⟩
      by_cases e:s=i
      ·subst e
       have h2:=h.2
       rw [hrow] at h2
       exact .inr ⟨rfl,h2⟩
      ·exact .inl ⟨by omega,h.2⟩
     ·omega
   ·obtain rfl:i=d.next.length:=by omega
    repeat first|exact zE|refine zP ?_|refine zB fun b=>?_|refine zC fun a' c' hc1 hc2=>?_|(apply GJ.a;exact rfl;intro hg)|(apply GJ.o;exact rfl;intro hg)
    repeat first|exact zE|refine zP ?_|refine zB fun b=>?_|refine zC fun a' c' hc1 hc2=>?_|(apply GJ.a;exact rfl;intro hg)|(apply GJ.o;exact rfl;intro hg)
    refine Wk.id ⟨(m',ch),⟨rfl,?_⟩,?_,Sub.z,Sup.z⟩
    all_goals try dsimp only
    ·refine ⟨i2.len,i2.acc,i2.live,fun hc s z hz h0 hm=>i2.cl hc s z ⟨zFA hz,hz⟩ h0 hm⟩
    ·cases ch with
     | true=>have:=i2.less rfl;simp only [if_true];omega
     | false=>have:=i2.same rfl;subst this;simp
end
def nV (k:Nat):Value:=.int .i64 (k:Int)
def intV (l:List Int):List Value:=l.map (Value.int .i64)
theorem zAO (l:List Int):(intV l).length=l.length:=by simp [intV]
theorem zAz (l:List Int) (k:Nat) (z:Int):(intV l).set k (.int .i64 z)=intV (l.set k z):=by simp [intV,List.map_set]
theorem zCI (n:Nat):List.replicate n (Value.int .i64 0)=intV (List.replicate n 0):=by simp [intV]
theorem zHn {α:Type}{L:List α}{n i:Nat}{v z:α} (hL:L.length=n) (hv:L[i]?=some v):(L.take i++List.replicate (n-i) z).set i v=L.take (i+1)++List.replicate (n-(i+1)) z:=by
 have hi:=(List.getElem?_eq_some_iff.1 hv).1
 have hl:(L.take i).length=i:=by simp;omega
 rw [List.set_append_right _ _ (by omega),hl,Nat.sub_self,show n-i=(n-(i+1))+1 by omega,List.replicate_succ,List.set_cons_zero,List.take_add_one,hv]
 simp
theorem zNv {α:Type}{L:List α}{n i:Nat}{z:α} (hL:L.length=n) (hv:L[i]?=some z):L.take i++List.replicate (n-i) z=L.take (i+1)++List.replicate (n-(i+1)) z:=by
 have hi:=(List.getElem?_eq_some_iff.1 hv).1
 rw [show n-i=(n-(i+1))+1 by omega,List.replicate_succ,List.take_add_one,hv]
 simp
theorem zK2 {α:Type}{L:List α}{n i:Nat}{z:α} (hL:L.length=n) (hi:i≤n):(L.take i++List.replicate (n-i) z).length=n:=by simp;omega
theorem zD7 {α:Type}{out:List α}{i n:Nat}{v z:α} (hl:out.length=i) (hi:i<n):(out++List.replicate (n-i) z).set i v=(out++[v])++List.replicate (n-(i+1)) z:=by
 rw [List.set_append_right _ _ (by omega),hl,Nat.sub_self,show n-i=(n-(i+1))+1 by omega,List.replicate_succ,List.set_cons_zero]
 simp
theorem zNl {d:DfaA}{m:Nat}{g:List Int} (hl:g.length=d.next.length) (hm:zOf d m g):m≤d.next.length:=by
 have h1:∀ x∈(List.range m).map (fun k:Nat=>(k:Int)),x∈g:=fun x hx=>by
  obtain ⟨k,hk,rfl⟩:=List.mem_map.1 hx
  obtain ⟨s,h1,_,h2⟩:=hm.all k (List.mem_range.1 hk)
  unfold zAk at h2
  rw [List.getElem?_eq_getElem (by rw [hl];exact h1),Option.getD_some] at h2
  exact h2▸List.getElem_mem _
 have h3:((List.range m).map (fun k:Nat=>(k:Int))).Nodup:=List.pairwise_map.2 (List.nodup_range.imp fun {x y} h e=>h (by omega))
 have:=zB7 h3 h1
 rw [List.length_map,List.length_range,hl] at this;exact this
theorem bang {α:Type} [Inhabited α] {l:List α}{i:Nat}{x:α} (h:l[i]?=some x):l[((i:Nat):Int).toNat]! = x:=by
 rw [Int.toNat_natCast,List.getElem!_eq_getElem?_getD,h];rfl
structure GrpI (d:DfaA) (f m:Nat) (g:List Int):Prop where
 ok:GrpOk d g
 full:m=0∨zOf d m g
 fuel:d.next.length<f+m
 fin:grpL d f m g=grpA d
 hi:∀ s,s<d.next.length→zAk g s≤4096
theorem GrpI.start {w:Nat}{d:DfaA} (h:zAt w d) (hs:SurA w d):GrpI d (d.next.length+1) 0 (grp0 d):=by
 refine ⟨zNi h hs,.inl rfl,by omega,rfl,fun s hs1=>?_⟩
 unfold zAk grp0
 rw [List.getElem?_map,List.getElem?_range hs1]
 show (if _ then (if _ then (1:Int) else 0) else -1)≤4096
 split
 ·split<;>omega
 ·omega
theorem GrpI.pos {d:DfaA}{f m:Nat}{g:List Int} (h:GrpI d f m g):∃ k,f=k+1:=by
 have hm:m≤d.next.length:=h.full.elim (fun e=>by omega) (zNl h.ok.len)
 have:=h.fuel
 exact ⟨f-1,by omega⟩
theorem GrpI.done {d:DfaA}{f m:Nat}{g:List Int} (h:GrpI d (f+1) m g) (he:(refA d g d.next.length 0 [] []).1.length=m):(refA d g d.next.length 0 [] []).2=grpA d:=by
 have:=h.fin
 rwa [grpL,if_pos he] at this
theorem GrpI.next {w:Nat}{d:DfaA}{f m:Nat}{g:List Int} (ho:zAt w d) (hs:SurA w d) (hn4:d.next.length≤4096) (h:GrpI d (f+1) m g) (he:¬(refA d g d.next.length 0 [] []).1.length=m):GrpI d f (refA d g d.next.length 0 [] []).1.length (refA d g d.next.length 0 [] []).2:=by
 have hf:=h.fin
 rw [grpL,if_neg he] at hf
 have hn:=zMq d g
 generalize refA d g d.next.length 0 [] []=r at *
 obtain ⟨o1,o2,o3⟩:=h.ok.ref ho hs hn
 have hfu:=h.fuel
 have hle:=zNl o1.len o2
 refine ⟨o1,.inr o2,?_,hf,fun s hs1=>by have:=o2.lt s hs1;omega⟩
 rcases h.full with hm|hm
 ·omega
 ·have:=(zDq h.ok hm hn).1;omega
theorem zB9 {g:List Int}{s:Nat}{z:Int} (h:g[s]?=some z):zAk g s=z:=by unfold zAk;rw [h];rfl
theorem keyA_adm {w:Nat}{d:DfaA}{f m:Nat}{g:List Int} (ho:zAt w d) (h:GrpI d f m g) {i:Nat} (hi:i<d.next.length):AdmK (keyA d g i)∧(keyA d g i).length=w+1:=by
 have hr:=List.getElem?_eq_getElem hi
 have hat:∀ z:Int,(z=-1∨(0≤z∧z<d.next.length))→-1≤zA5 g z∧zA5 g z≤4096:=fun z hz=>by
  unfold zA5
  split
  ·exact ⟨h.ok.low _ (by omega),h.hi _ (by omega)⟩
  ·omega
 refine ⟨fun z hz=>?_,?_⟩
 ·unfold keyA at hz
  rw [hr,Option.getD_some] at hz
  rcases List.mem_cons.1 hz with rfl|hz
  ·have:=h.ok.low i hi;have:=h.hi i hi;omega
  ·obtain ⟨y,hy,rfl⟩:=List.mem_map.1 hz
   have:=hat y (ho.to _ (List.getElem_mem hi) y hy)
   omega
 ·unfold keyA
  rw [hr,Option.getD_some,List.length_cons,List.length_map,ho.row _ (List.getElem_mem hi)]
section
variable {ro:Ro}{own r:Chs}{K:Value→Ro→Chs→Prop}{g:Chunk→Chs}
set_option maxHeartbeats 8000000 in
theorem zLz {q w:Nat}{d:DfaA} (hD:DAt ro q d) (ho:zAt w d) (hs:SurA w d) (hn:d.next.length≤4096) (hw:w≤256)
  (hk:∀ a c,d.next.length≤c→c≤maxLen→K (.slice a d.next.length c) ro (.sl a d.next.length c 3 1 (intV (grpA d))::own)):CallOk Tryz.prog 66 #[ptr' q] ro own K:=by
 obtain ⟨an,cn,aa,ca,hsv,hd⟩:=hD.rd
 have hN:=hd.ldN
 have hA:=hd.ldA
 have hrs:=hd.rs
 have hra:=hd.ra
 have hal:=ho.acc
 have hll:=zFE ho
 have hg0:(grp0 d).length=d.next.length:=by simp [grp0]
 have hcm:=hrs.max
 have hcl:=hrs.le
 unfold maxLen at hcm
 refine CallOk.intro (args:=[_]) (rs:=[_]) T_ok Tryz.func66 Tryz.call66 rfl rfl (by kernel_rfl) rfl rfl ?_
 repeat first|exact zE|refine zP ?_|refine zB fun b=>?_|refine zC fun a' c' hc1 hc2=>?_|(apply GJ.a;exact rfl;intro hg)|(apply GJ.o;exact rfl;intro hg)
 refine zND hD ho hn (fun al cl l1 l2=>?_)
 repeat first|exact zE|refine zP ?_|refine zB fun b=>?_|refine zC fun a' c' hc1 hc2=>?_|(apply GJ.a;exact rfl;intro hg)|(apply GJ.o;exact rfl;intro hg)
 refine zBP hD ?_
 repeat first|exact zE|refine zP ?_|refine zB fun b=>?_|refine zC fun a' c' hc1 hc2=>?_|(apply GJ.a;exact rfl;intro hg)|(apply GJ.o;exact rfl;intro hg)
 rw [Int.toNat_natCast,zCI]
 refine LoopOk.at (ι:=Nat) Keep.z (fun i=>[(23,.int .i64 (i:Int))]) (fun i=>.sl (some ⟨b,0,none⟩) d.next.length d.next.length 3 1 (intV ((grp0 d).take i++List.replicate (d.next.length-i) 0))::.sl al d.next.length cl 4 1 (zAh (zBt d))::own) (fun i=>i≤d.next.length) (fun i=>d.next.length-i) 0 ?_ Sub.z Sup.z ?_
 ·exact Nat.zero_le _
 rintro i i1
 dsimp only [List.cons_append,List.nil_append] at i1 ⊢
 have hfl:=zK2 (z:=(0:Int)) hg0 i1
 have hfv:=zAO ((grp0 d).take i++List.replicate (d.next.length-i) 0)
 by_cases hi:i<d.next.length
 ·obtain ⟨p,hp⟩:∃ p,(zBt d)[i]?=some p:=⟨_,List.getElem?_eq_getElem (by omega)⟩
  obtain ⟨e,he⟩:∃ p,d.acc[i]?=some p:=⟨_,List.getElem?_eq_getElem (by omega)⟩
  have hgp:(zAh (zBt d))[i]?=some (.bool p):=by simp [zAh,hp]
  have hge:(d.acc.map Value.bool)[i]?=some (.bool e):=by simp [he]
  have hgv:(grp0 d)[i]?=some (if p then (if e then 1 else 0) else -1):=by
   unfold grp0
   rw [List.getElem?_map,List.getElem?_range hi,Option.map_some,zCJ hp,zCJ he]
  cases p with
  | false =>
    have hfs:=zHn (z:=(0:Int)) hg0 hgv
    repeat first|exact zE|refine zP ?_|refine zB fun b=>?_|refine zC fun a' c' hc1 hc2=>?_|(apply GJ.a;exact rfl;intro hg)|(apply GJ.o;exact rfl;intro hg)
    rw [bang hp]
    repeat first|exact zE|refine zP ?_|refine zB fun b=>?_|refine zC fun a' c' hc1 hc2=>?_|(apply GJ.a;exact rfl;intro hg)|(apply GJ.o;exact rfl;intro hg)
    refine OpOk.storeSlAt' (k:=i) rfl rfl rfl rfl (by rw [Int.toNat_natCast]) (by omega) ?_
    rw [zAz,show (-1:Int)=(if false=true then (if e=true then 1 else 0) else -1) from rfl,hfs]
    repeat first|exact zE|refine zP ?_|refine zB fun b=>?_|refine zC fun a' c' hc1 hc2=>?_|(apply GJ.a;exact rfl;intro hg)|(apply GJ.o;exact rfl;intro hg)
    repeat first|exact zE|refine zP ?_|refine zB fun b=>?_|refine zC fun a' c' hc1 hc2=>?_|(apply GJ.a;exact rfl;intro hg)|(apply GJ.o;exact rfl;intro hg)
    refine Wk.id ⟨i+1,⟨rfl,?_⟩,?_,Sub.z,Sup.z⟩
    all_goals try dsimp only
    ·omega
    ·omega
  | true =>
    repeat first|exact zE|refine zP ?_|refine zB fun b=>?_|refine zC fun a' c' hc1 hc2=>?_|(apply GJ.a;exact rfl;intro hg)|(apply GJ.o;exact rfl;intro hg)
    rw [bang hp]
    repeat first|exact zE|refine zP ?_|refine zB fun b=>?_|refine zC fun a' c' hc1 hc2=>?_|(apply GJ.a;exact rfl;intro hg)|(apply GJ.o;exact rfl;intro hg)
    rw [bang he]
    cases e with
    | true =>
      have hfs:=zHn (z:=(0:Int)) hg0 hgv
      repeat first|exact zE|refine zP ?_|refine zB fun b=>?_|refine zC fun a' c' hc1 hc2=>?_|(apply GJ.a;exact rfl;intro hg)|(apply GJ.o;exact rfl;intro hg)
      refine OpOk.storeSlAt' (k:=i) rfl rfl rfl rfl (by rw [Int.toNat_natCast]) (by omega) ?_
      rw [zAz,show (1:Int)=(if true=true then (if true=true then 1 else 0) else -1) from rfl,hfs]
      repeat first|exact zE|refine zP ?_|refine zB fun b=>?_|refine zC fun a' c' hc1 hc2=>?_|(apply GJ.a;exact rfl;intro hg)|(apply GJ.o;exact rfl;intro hg)
      repeat first|exact zE|refine zP ?_|refine zB fun b=>?_|refine zC fun a' c' hc1 hc2=>?_|(apply GJ.a;exact rfl;intro hg)|(apply GJ.o;exact rfl;intro hg)
      refine Wk.id ⟨i+1,⟨rfl,?_⟩,?_,Sub.z,Sup.z⟩
      all_goals try dsimp only
      ·omega
      ·omega
    | false =>
      have hfs:=zNv (n:=d.next.length) (z:=(0:Int)) hg0 hgv
      rw [hfs]
      repeat first|exact zE|refine zP ?_|refine zB fun b=>?_|refine zC fun a' c' hc1 hc2=>?_|(apply GJ.a;exact rfl;intro hg)|(apply GJ.o;exact rfl;intro hg)
      repeat first|exact zE|refine zP ?_|refine zB fun b=>?_|refine zC fun a' c' hc1 hc2=>?_|(apply GJ.a;exact rfl;intro hg)|(apply GJ.o;exact rfl;intro hg)
      refine Wk.id ⟨i+1,⟨rfl,?_⟩,?_,Sub.z,Sup.z⟩
      all_goals try dsimp only
      ·omega
      ·omega
 ·obtain rfl:i=d.next.length:=by omega
  rw [List.take_of_length_le (by omega),Nat.sub_self,List.replicate_zero,List.append_nil] at *
  repeat first|exact zE|refine zP ?_|refine zB fun b=>?_|refine zC fun a' c' hc1 hc2=>?_|(apply GJ.a;exact rfl;intro hg)|(apply GJ.o;exact rfl;intro hg)
  refine LoopOk.at (ι:=Nat × Nat × List Int × Option Addr × Nat) Keep.z (fun (f,m,gr,ag,cg)=>[(6,.int .i64 (m:Int)),(4,.slice ag d.next.length cg)]) (fun (f,m,gr,ag,cg)=>.sl ag d.next.length cg 3 1 (intV gr)::own) (fun (f,m,gr,ag,cg)=>GrpI d f m gr∧d.next.length≤cg∧cg≤maxLen) (fun (f,m,gr,ag,cg)=>f) (d.next.length+1,0,grp0 d,some ⟨b,0,none⟩,d.next.length) ?_ Sub.z Sup.z ?_
  ·exact ⟨GrpI.start ho hs,Nat.le_refl _,by unfold maxLen;omega⟩
  rintro ⟨f,m,gr,ag,cg⟩ ⟨j1,j2,j3⟩
  dsimp only [List.cons_append,List.nil_append] at j1 j2 j3 ⊢
  obtain ⟨f,rfl⟩:=j1.pos
  have hgl:=j1.ok.len
  repeat first|exact zE|refine zP ?_|refine zB fun b=>?_|refine zC fun a' c' hc1 hc2=>?_|(apply GJ.a;exact rfl;intro hg)|(apply GJ.o;exact rfl;intro hg)
  refine OpOk.makeMapG (kv:=str) (vv:=nV) (fun bM=>?_)
  repeat first|exact zE|refine zP ?_|refine zB fun b=>?_|refine zC fun a' c' hc1 hc2=>?_|(apply GJ.a;exact rfl;intro hg)|(apply GJ.o;exact rfl;intro hg)
  rw [Int.toNat_natCast,zCI]
  obtain ⟨bX,hbX⟩:∃ z:Nat,z=b:=⟨_,rfl⟩
  subst hbX
  have hR:refA d gr (d.next.length-0) 0 [] []=refA d gr d.next.length 0 [] []:=rfl
  obtain ⟨R,hRR⟩:∃ R,refA d gr d.next.length 0 [] []=R:=⟨_,rfl⟩
  rw [hRR] at hR
  have hdone:=j1.done
  have hnext:=j1.next ho hs hn
  rw [hRR] at hdone hnext
  refine LoopOk.at (ι:=Nat × List Int × List (List Int) × List (List UInt8 × Nat × Nat) × Nat) Keep.z (fun (i,out,seen,M,cM)=>[(56,.int .i64 (i:Int))]) (fun (i,out,seen,M,cM)=>.sl (some ⟨bX,0,none⟩) d.next.length d.next.length 3 1 (intV (out++List.replicate (d.next.length-i) 0))::.obj bM (mapG str nV M cM)::.sl ag d.next.length cg 3 1 (intV gr)::own) (fun (i,out,seen,M,cM)=>i≤d.next.length∧out.length=i∧KeyM (w+1) seen M∧refA d gr (d.next.length-i) i seen out=R) (fun (i,out,seen,M,cM)=>d.next.length-i) (0,[],[],[],0) ?_ Sub.z Sup.z ?_
  ·exact ⟨Nat.zero_le _,rfl,KeyM.nil _,hR⟩
  rintro ⟨i,out,seen,M,cM⟩ ⟨k1,k2,k3,k4⟩
  dsimp only [List.cons_append,List.nil_append] at k1 k2 k3 k4 ⊢
  by_cases hi:i<d.next.length
  ·obtain ⟨row,hrow⟩:∃ row,d.next[i]?=some row:=⟨_,List.getElem?_eq_getElem hi⟩
   obtain ⟨ar,cr,q1,q2⟩:=hd.rows i row hrow
   obtain ⟨z,hz⟩:∃ z,gr[i]?=some z:=⟨_,List.getElem?_eq_getElem (by omega)⟩
   have hzl:=j1.ok.low i hi
   have hzh:=j1.hi i hi
   have hzg:=zB9 hz
   have hbz:=bang hz
   have hka:=keyA_adm ho j1 hi
   have hrm:=q2.max
   have hrl:=q2.le
   have hrw:=ho.row row (List.mem_of_getElem? hrow)
   unfold maxLen at hrm
   have hss:∀ v:Int,(intV (out++List.replicate (d.next.length-i) 0)).set i (.int .i64 v)=intV ((out++[v])++List.replicate (d.next.length-(i+1)) 0):=fun v=>by rw [zAz,zD7 k2 hi]
   have hol:(intV (out++List.replicate (d.next.length-i) 0)).length=d.next.length:=by rw [zAO];simp;omega
   rw [show d.next.length-i=(d.next.length-(i+1))+1 by omega,refA,hzg] at k4
   rw [hzg] at hzl hzh
   by_cases h1:z=-1
   ·rw [if_pos h1] at k4
    subst h1
    repeat first|exact zE|refine zP ?_|refine zB fun b=>?_|refine zC fun a' c' hc1 hc2=>?_|(apply GJ.a;exact rfl;intro hg)|(apply GJ.o;exact rfl;intro hg)
    refine OpOk.load rfl rfl (Go.E.Ld.rs hrs (by rw [Int.toNat_natCast];exact q1)) ?_
    repeat first|exact zE|refine zP ?_|refine zB fun b=>?_|refine zC fun a' c' hc1 hc2=>?_|(apply GJ.a;exact rfl;intro hg)|(apply GJ.o;exact rfl;intro hg)
    rw [bang hz]
    repeat first|exact zE|refine zP ?_|refine zB fun b=>?_|refine zC fun a' c' hc1 hc2=>?_|(apply GJ.a;exact rfl;intro hg)|(apply GJ.o;exact rfl;intro hg)
    refine OpOk.storeSlAt' (k:=i) rfl rfl rfl rfl (by rw [Int.toNat_natCast]) (by omega) ?_
    rw [hss]
    repeat first|exact zE|refine zP ?_|refine zB fun b=>?_|refine zC fun a' c' hc1 hc2=>?_|(apply GJ.a;exact rfl;intro hg)|(apply GJ.o;exact rfl;intro hg)
    repeat first|exact zE|refine zP ?_|refine zB fun b=>?_|refine zC fun a' c' hc1 hc2=>?_|(apply GJ.a;exact rfl;intro hg)|(apply GJ.o;exact rfl;intro hg)
    refine Wk.id ⟨(i+1,out++[-1],seen,M,cM),⟨rfl,?_⟩,?_,Sub.z,Sup.z⟩
    all_goals try dsimp only
    ·exact ⟨by omega,by simp [k2],k3,k4⟩
    ·omega
   ·rw [if_neg h1] at k4
    repeat first|exact zE|refine zP ?_|refine zB fun b=>?_|refine zC fun a' c' hc1 hc2=>?_|(apply GJ.a;exact rfl;intro hg)|(apply GJ.o;exact rfl;intro hg)
    refine OpOk.load rfl rfl (Go.E.Ld.rs hrs (by rw [Int.toNat_natCast];exact q1)) ?_
    repeat first|exact zE|refine zP ?_|refine zB fun b=>?_|refine zC fun a' c' hc1 hc2=>?_|(apply GJ.a;exact rfl;intro hg)|(apply GJ.o;exact rfl;intro hg)
    rw [bang hz]
    repeat first|exact zE|refine zP ?_|refine zB fun b=>?_|refine zC fun a' c' hc1 hc2=>?_|(apply GJ.a;exact rfl;intro hg)|(apply GJ.o;exact rfl;intro hg)
    refine LoopOk.at (ι:=Nat × Option Addr × Nat) Keep.z (fun (j,a1,c1)=>[(77,.int .i64 (j:Int)),(11,.slice a1 (j+1) c1)]) (fun (j,a1,c1)=>.sl a1 (j+1) c1 3 1 (intV ((z+1)::(row.take j).map fun y=>zA5 gr y+1))::.sl (some ⟨bX,0,none⟩) d.next.length d.next.length 3 1 (intV (out++List.replicate (d.next.length-i) 0))::.obj bM (mapG str nV M cM)::.sl ag d.next.length cg 3 1 (intV gr)::own) (fun (j,a1,c1)=>j≤row.length∧j+1≤c1∧c1≤maxLen) (fun (j,a1,c1)=>row.length-j) (0,some ⟨b,0,none⟩,1) ?_ Sub.z Sup.z ?_
    ·exact ⟨Nat.zero_le _,Nat.le_refl _,by unfold maxLen;omega⟩
    rintro ⟨j,a1,c1⟩ ⟨n1,n2,n3⟩
    dsimp only [List.cons_append,List.nil_append] at n1 n2 n3 ⊢
    have htl:(intV ((z+1)::(row.take j).map fun y=>zA5 gr y+1)).length=j+1:=by rw [zAO];simp;omega
    by_cases hj:j<row.length
    ·obtain ⟨y,hy⟩:∃ y,row[j]?=some y:=⟨_,List.getElem?_eq_getElem hj⟩
     have hby:=bang hy
     have hyto:=ho.to row (List.mem_of_getElem? hrow) y (List.mem_of_getElem? hy)
     have htk:row.take (j+1)=row.take j++[y]:=by rw [List.take_add_one,hy];rfl
     have happ:intV ((z+1)::(row.take j).map fun y=>zA5 gr y+1)++[.int .i64 (zA5 gr y+1)]=intV ((z+1)::(row.take (j+1)).map fun y=>zA5 gr y+1):=by rw [htk];simp [intV]
     by_cases hy0:y<0
     ·have hgy:zA5 gr y=y:=by unfold zA5;rw [if_neg (by omega)]
      rw [hgy] at happ
      repeat first|exact zE|refine zP ?_|refine zB fun b=>?_|refine zC fun a' c' hc1 hc2=>?_|(apply GJ.a;exact rfl;intro hg)|(apply GJ.o;exact rfl;intro hg)
      rw [hby,happ]
      repeat first|exact zE|refine zP ?_|refine zB fun b=>?_|refine zC fun a' c' hc1 hc2=>?_|(apply GJ.a;exact rfl;intro hg)|(apply GJ.o;exact rfl;intro hg)
      repeat first|exact zE|refine zP ?_|refine zB fun b=>?_|refine zC fun a' c' hc1 hc2=>?_|(apply GJ.a;exact rfl;intro hg)|(apply GJ.o;exact rfl;intro hg)
      refine Wk.id ⟨(j+1,a',c'),⟨rfl,?_⟩,?_,Sub.z,Sup.z⟩
      all_goals try dsimp only
      ·exact ⟨by omega,hc1,hc2⟩
      ·omega
     ·obtain ⟨u,rfl⟩:∃ u:Nat,y=(u:Int):=⟨y.toNat,by omega⟩
      obtain ⟨x,hx⟩:∃ x,gr[u]?=some x:=⟨_,List.getElem?_eq_getElem (by omega)⟩
      have hgy:zA5 gr (u:Int)=x:=by unfold zA5;rw [if_pos (by omega),Int.toNat_natCast,zB9 hx]
      have hxl:=j1.ok.low u (by omega)
      have hxh:=j1.hi u (by omega)
      rw [zB9 hx] at hxl hxh
      have hbx:=bang hx
      rw [hgy] at happ
      repeat first|exact zE|refine zP ?_|refine zB fun b=>?_|refine zC fun a' c' hc1 hc2=>?_|(apply GJ.a;exact rfl;intro hg)|(apply GJ.o;exact rfl;intro hg)
      rw [hby,hbx]
      refine ⟨⟨by omega,by omega⟩,?_⟩
      repeat first|exact zE|refine zP ?_|refine zB fun b=>?_|refine zC fun a' c' hc1 hc2=>?_|(apply GJ.a;exact rfl;intro hg)|(apply GJ.o;exact rfl;intro hg)
      rw [happ]
      repeat first|exact zE|refine zP ?_|refine zB fun b=>?_|refine zC fun a' c' hc1 hc2=>?_|(apply GJ.a;exact rfl;intro hg)|(apply GJ.o;exact rfl;intro hg)
      repeat first|exact zE|refine zP ?_|refine zB fun b=>?_|refine zC fun a' c' hc1 hc2=>?_|(apply GJ.a;exact rfl;intro hg)|(apply GJ.o;exact rfl;intro hg)
      refine Wk.id ⟨(j+1,a',c'),⟨rfl,?_⟩,?_,Sub.z,Sup.z⟩
      all_goals try dsimp only
      ·exact ⟨by omega,hc1,hc2⟩
      ·omega
    ·obtain rfl:j=row.length:=by omega
     rw [List.take_length] at *
     have hkey:(z+1)::row.map (fun y=>zA5 gr y+1)=keyA d gr i:=by unfold keyA;rw [hrow,hzg];rfl
     rw [hkey] at *
     repeat first|exact zE|refine zP ?_|refine zB fun b=>?_|refine zC fun a' c' hc1 hc2=>?_|(apply GJ.a;exact rfl;intro hg)|(apply GJ.o;exact rfl;intro hg)
     have hkr:Rds ro (.sl a1 (row.length+1) c1 3 1 (intV (keyA d gr i))::.sl (some ⟨bX,0,none⟩) d.next.length d.next.length 3 1 (intV (out++List.replicate (d.next.length-i) 0))::.obj bM (mapG str nV M cM)::.sl ag d.next.length cg 3 1 (intV gr)::own) a1 (row.length+1) c1 1 ((keyA d gr i).map (Value.int .i64)):=Rds.hasSl n2 n3 (by show (intV _).length=_;rw [zAO,hka.2];omega)
     refine zFG (l:=keyA d gr i) hkr (by rw [hka.2];omega) (by omega) hka.1 ?_
     have hkl:(keyT (keyA d gr i)).length≤maxLen:=by rw [zCm,hka.2];unfold maxLen;omega
     have hgk:=k3.at' _ hka.1
     repeat first|exact zE|refine zP ?_|refine zB fun b=>?_|refine zC fun a' c' hc1 hc2=>?_|(apply GJ.a;exact rfl;intro hg)|(apply GJ.o;exact rfl;intro hg)
     refine OpOk.lookupOkG (kt:=9) (et:=3) (kv:=str) (vv:=nV) (k:=keyT (keyA d gr i)) (z:=.int .i64 0) rfl rfl (by kernel_rfl) (KeyEnc.text (by kernel_rfl)) k3.map hkl (by kernel_rfl) ?_
     rw [hgk]
     cases hidx:seen.idxOf? (keyA d gr i) with
     | some u =>
       rw [hidx] at k4
       dsimp only at k4
       simp only [Option.map_some,Option.getD_some,Option.isSome_some,nV]
       repeat first|exact zE|refine zP ?_|refine zB fun b=>?_|refine zC fun a' c' hc1 hc2=>?_|(apply GJ.a;exact rfl;intro hg)|(apply GJ.o;exact rfl;intro hg)
       refine OpOk.storeSlAt' (k:=i) rfl rfl rfl rfl (by rw [Int.toNat_natCast]) (by omega) ?_
       rw [hss]
       repeat first|exact zE|refine zP ?_|refine zB fun b=>?_|refine zC fun a' c' hc1 hc2=>?_|(apply GJ.a;exact rfl;intro hg)|(apply GJ.o;exact rfl;intro hg)
       repeat first|exact zE|refine zP ?_|refine zB fun b=>?_|refine zC fun a' c' hc1 hc2=>?_|(apply GJ.a;exact rfl;intro hg)|(apply GJ.o;exact rfl;intro hg)
       refine Wk.id ⟨(i+1,out++[(u:Int)],seen,M,cM),⟨rfl,?_⟩,?_,Sub.z,Sup.z⟩
       all_goals try dsimp only
       ·exact ⟨by omega,by simp [k2],k3,k4⟩
       ·omega
     | none =>
       rw [hidx] at k4
       dsimp only at k4
       have hpush:=k3.push (by omega) hka.1 (Nat.le_of_eq hka.2) hidx cM
       have hMl:=k3.len
       simp only [Option.map_none,Option.getD_none,Option.isSome_none]
       repeat first|exact zE|refine zP ?_|refine zB fun b=>?_|refine zC fun a' c' hc1 hc2=>?_|(apply GJ.a;exact rfl;intro hg)|(apply GJ.o;exact rfl;intro hg)
       refine OpOk.lenG (kv:=str) (vv:=nV) (et:=3) (kt:=9) rfl (by kernel_rfl) ?_
       rw [hMl]
       repeat first|exact zE|refine zP ?_|refine zB fun b=>?_|refine zC fun a' c' hc1 hc2=>?_|(apply GJ.a;exact rfl;intro hg)|(apply GJ.o;exact rfl;intro hg)
       refine zFG (l:=keyA d gr i) hkr (by rw [hka.2];omega) (by omega) hka.1 ?_
       repeat first|exact zE|refine zP ?_|refine zB fun b=>?_|refine zC fun a' c' hc1 hc2=>?_|(apply GJ.a;exact rfl;intro hg)|(apply GJ.o;exact rfl;intro hg)
       refine OpOk.mapUpdateG (kt:=9) (et:=3) (kv:=str) (vv:=nV) (k:=keyT (keyA d gr i)) (v:=seen.length) rfl rfl rfl (by kernel_rfl) (KeyEnc.text (by kernel_rfl)) k3.map hkl (fun c2=>?_)
       repeat first|exact zE|refine zP ?_|refine zB fun b=>?_|refine zC fun a' c' hc1 hc2=>?_|(apply GJ.a;exact rfl;intro hg)|(apply GJ.o;exact rfl;intro hg)
       refine OpOk.storeSlAt' (k:=i) rfl rfl rfl rfl (by rw [Int.toNat_natCast]) (by omega) ?_
       rw [hss]
       repeat first|exact zE|refine zP ?_|refine zB fun b=>?_|refine zC fun a' c' hc1 hc2=>?_|(apply GJ.a;exact rfl;intro hg)|(apply GJ.o;exact rfl;intro hg)
       repeat first|exact zE|refine zP ?_|refine zB fun b=>?_|refine zC fun a' c' hc1 hc2=>?_|(apply GJ.a;exact rfl;intro hg)|(apply GJ.o;exact rfl;intro hg)
       refine Wk.id ⟨(i+1,out++[(seen.length:Int)],seen++[keyA d gr i],putG M cM (keyT (keyA d gr i)) seen.length,c2),⟨rfl,?_⟩,?_,Sub.z,Sup.z⟩
       all_goals try dsimp only
       ·exact ⟨by omega,by simp [k2],hpush,k4⟩
       ·omega
  ·obtain rfl:i=d.next.length:=by omega
   rw [Nat.sub_self,refA] at k4
   subst k4
   rw [Nat.sub_self,List.replicate_zero,List.append_nil]
   have hMl:=k3.len
   dsimp only at hdone hnext
   repeat first|exact zE|refine zP ?_|refine zB fun b=>?_|refine zC fun a' c' hc1 hc2=>?_|(apply GJ.a;exact rfl;intro hg)|(apply GJ.o;exact rfl;intro hg)
   refine OpOk.lenG (kv:=str) (vv:=nV) (et:=3) (kt:=9) rfl (by kernel_rfl) ?_
   rw [hMl]
   repeat first|exact zE|refine zP ?_|refine zB fun b=>?_|refine zC fun a' c' hc1 hc2=>?_|(apply GJ.a;exact rfl;intro hg)|(apply GJ.o;exact rfl;intro hg)
   by_cases he:seen.length=m
   ·have hfin:=hdone he
    subst hfin
    repeat first|exact zE|refine zP ?_|refine zB fun b=>?_|refine zC fun a' c' hc1 hc2=>?_|(apply GJ.a;exact rfl;intro hg)|(apply GJ.o;exact rfl;intro hg)
    exact Wk.outS Sup.z (.refl _) (hk _ _ (Nat.le_refl _) (by unfold maxLen;omega))
   ·have hnx:=hnext he
    repeat first|exact zE|refine zP ?_|refine zB fun b=>?_|refine zC fun a' c' hc1 hc2=>?_|(apply GJ.a;exact rfl;intro hg)|(apply GJ.o;exact rfl;intro hg)
    refine OpOk.lenG (kv:=str) (vv:=nV) (et:=3) (kt:=9) rfl (by kernel_rfl) ?_
    rw [hMl]
    repeat first|exact zE|refine zP ?_|refine zB fun b=>?_|refine zC fun a' c' hc1 hc2=>?_|(apply GJ.a;exact rfl;intro hg)|(apply GJ.o;exact rfl;intro hg)
    refine Wk.id ⟨(f,seen.length,out,some ⟨bX,0,none⟩,d.next.length),⟨rfl,?_⟩,?_,Sub.z,Sup.z⟩
    all_goals try dsimp only
    ·exact ⟨hnx,Nat.le_refl _,by unfold maxLen;omega⟩
    ·omega
end
section
variable {ro:Ro}{own r:Chs}{K:Value→Ro→Chs→Prop}{g:Chunk→Chs}
end
theorem zL2 {l:List Bool}{i:Nat} (h:i<l.length):l[((i:Nat):Int).toNat]! = getB l i:=getB_get h
theorem zGH (n:Nat):List.replicate n (Value.bool false)=zAh (List.replicate n false):=by simp [zAh]
theorem zJa {a:DfaA}{s:Nat}{row:List Int} (h:a.next[s]?=some row):rowA a s=row:=by unfold rowA;rw [h];rfl
theorem zIZ {w:Nat}{a:DfaA} (ho:zAt w a) {s:Nat}{row:List Int} (h:a.next[s]?=some row) {k:Nat}{z:Int} (hz:row[k]?=some z):z=-1∨∃ u:Nat,z=(u:Int)∧u<a.next.length:=by
 rcases ho.to row (List.mem_of_getElem? h) z (List.mem_of_getElem? hz) with h1|⟨h1,h2⟩
 ·exact .inl h1
 ·exact .inr ⟨z.toNat,by omega,by omega⟩
theorem zNj {m:List Bool}{s:Nat} (h:s<m.length) (v:Bool):getB (m.set s v) s=v:=by rw [zBh h,if_pos rfl]
section
variable {ro:Ro}{own r:Chs}{K:Value→Ro→Chs→Prop}{g:Chunk→Chs}
set_option maxHeartbeats 4000000 in
theorem aends_ok {q w:Nat}{D:DfaA} (hq:DAt ro q D) (ho:zAt w D) (hs:SurA w D) (hn:D.next.length≤1024)
  (hk:∀ b,K (.slice (some ⟨b,0,none⟩) D.next.length D.next.length) ro (.sl (some ⟨b,0,none⟩) D.next.length D.next.length 4 1 (zAh (zBt D))::own)):CallOk Tryz.prog 36 #[ptr' q] ro own K:=by
 obtain ⟨an,cn,aa,ca,hsv,hd⟩:=hq.rd
 have hN:=hd.ldN
 have hrs:=hd.rs
 refine CallOk.intro (args:=[_]) (rs:=[_]) T_ok Tryz.func36 Tryz.call36 rfl rfl (by kernel_rfl) rfl rfl ?_
 repeat first|exact zE|refine zP ?_|refine zB fun b=>?_|refine zC fun a' c' hc1 hc2=>?_|(apply GJ.a;exact rfl;intro hg)|(apply GJ.o;exact rfl;intro hg)
 refine zBP hq ?_
 repeat first|exact zE|refine zP ?_|refine zB fun b=>?_|refine zC fun a' c' hc1 hc2=>?_|(apply GJ.a;exact rfl;intro hg)|(apply GJ.o;exact rfl;intro hg)
 rw [Int.toNat_natCast,zGH]
 obtain ⟨bO,hbO⟩:∃ z:Nat,z=b:=⟨_,rfl⟩
 subst hbO
 have hI:(List.replicate D.next.length false).length=D.next.length∧∀ t,getB (List.replicate D.next.length false) t=true→zA2 D t:=⟨by simp,fun t h=>by
  unfold getB at h
  rw [List.getElem?_replicate] at h
  split at h<;>cases h⟩
 generalize List.replicate D.next.length false=m0 at *
 refine LoopOk.at (ι:=Bool × List Bool) Keep.z (fun (ch,m)=>[(4,.bool ch)]) (fun (ch,m)=>.sl (some ⟨bO,0,none⟩) D.next.length D.next.length 4 1 (zAh m)::own) (fun (ch,m)=>m.length=D.next.length∧(∀ t,getB m t=true→zA2 D t)∧(ch=false→m=zBt D)) (fun (ch,m)=>2*(D.next.length-cntB m)+(bif ch then 1 else 0)) (true,m0) ?_ Sub.z Sup.z ?_
 ·exact ⟨hI.1,hI.2,fun h=>by cases h⟩
 clear hI m0
 rintro ⟨ch,m⟩ ⟨i1,i2,i3⟩
 dsimp only [List.cons_append,List.nil_append] at i1 i2 i3 ⊢
 have hmv:=zAV m
 cases ch with
 | false =>
   rw [i3 rfl]
   repeat first|exact zE|refine zP ?_|refine zB fun b=>?_|refine zC fun a' c' hc1 hc2=>?_|(apply GJ.a;exact rfl;intro hg)|(apply GJ.o;exact rfl;intro hg)
   exact Wk.id (hk bO)
 | true =>
   have hL0:=LivR.start i1 i2
   clear i2 i3
   obtain ⟨m0,hm0⟩:∃ m0,m0=m:=⟨_,rfl⟩
   rw [←hm0] at hL0 i1
   repeat first|exact zE|refine zP ?_|refine zB fun b=>?_|refine zC fun a' c' hc1 hc2=>?_|(apply GJ.a;exact rfl;intro hg)|(apply GJ.o;exact rfl;intro hg)
   refine LoopOk.at (ι:=Nat × Bool × List Bool) Keep.z (fun (s,ch,m)=>[(14,.int .i64 (s:Int)),(4,.bool ch)]) (fun (s,ch,m)=>.sl (some ⟨bO,0,none⟩) D.next.length D.next.length 4 1 (zAh m)::own) (fun (s,ch,m)=>s≤D.next.length∧LivR D m0 m ch s) (fun (s,ch,m)=>D.next.length-s) (0,false,m) ?_ Sub.z Sup.z ?_
   ·exact ⟨Nat.zero_le _,by rw [hm0] at hL0 ⊢;exact hL0⟩
   clear hL0 hmv
   rintro ⟨s,ch,m⟩ ⟨j1,j2⟩
   dsimp only [List.cons_append,List.nil_append] at j1 j2 ⊢
   have hml:=j2.len
   have hmv:=zAV m
   by_cases hsl:s<D.next.length
   ·have hge:=zL2 (l:=m) (i:=s) (by omega)
    cases hp:getB m s with
    | true =>
      rw [hp] at hge
      repeat (first|exact zE|refine zP ?_|refine zB (fun b=>?_)|refine zC (fun a' c' hc1 hc2=>?_))
      rw [hge]
      repeat first|exact zE|refine zP ?_|refine zB fun b=>?_|refine zC fun a' c' hc1 hc2=>?_|(apply GJ.a;exact rfl;intro hg)|(apply GJ.o;exact rfl;intro hg)
      refine Wk.id ⟨(s+1,ch,m),⟨rfl,?_⟩,?_,Sub.z,Sup.z⟩
      all_goals try dsimp only
      ·exact ⟨by omega,j2.has hp⟩
      ·omega
    | false =>
      rw [hp] at hge
      obtain ⟨row,hrow⟩:∃ row,D.next[s]?=some row:=⟨_,List.getElem?_eq_getElem hsl⟩
      obtain ⟨ar,cr,q1,q2⟩:=hd.rows s row hrow
      have hput:=j2.put ho hs hsl hp
      rw [zJa hrow] at hput
      have hrl:=q2.le
      have hrm:=q2.max
      unfold maxLen at hrm
      repeat (first|exact zE|refine zP ?_|refine zB (fun b=>?_)|refine zC (fun a' c' hc1 hc2=>?_))
      rw [hge]
      repeat first|exact zE|refine zP ?_|refine zB fun b=>?_|refine zC fun a' c' hc1 hc2=>?_|(apply GJ.a;exact rfl;intro hg)|(apply GJ.o;exact rfl;intro hg)
      refine zCr hq ?_
      repeat first|exact zE|refine zP ?_|refine zB fun b=>?_|refine zC fun a' c' hc1 hc2=>?_|(apply GJ.a;exact rfl;intro hg)|(apply GJ.o;exact rfl;intro hg)
      refine OpOk.storeSlAt' (k:=s) rfl rfl rfl rfl (by rw [Int.toNat_natCast]) (by omega) ?_
      rw [zBo]
      repeat first|exact zE|refine zP ?_|refine zB fun b=>?_|refine zC fun a' c' hc1 hc2=>?_|(apply GJ.a;exact rfl;intro hg)|(apply GJ.o;exact rfl;intro hg)
      refine OpOk.load rfl rfl (Go.E.Ld.rs hrs (by rw [Int.toNat_natCast];exact q1)) ?_
      repeat first|exact zE|refine zP ?_|refine zB fun b=>?_|refine zC fun a' c' hc1 hc2=>?_|(apply GJ.a;exact rfl;intro hg)|(apply GJ.o;exact rfl;intro hg)
      refine LoopOk.at (ι:=Nat × Bool) Keep.z (fun (k,v)=>[(35,.int .i64 (k:Int))]) (fun (k,v)=>.sl (some ⟨bO,0,none⟩) D.next.length D.next.length 4 1 (zAh (m.set s v))::own) (fun (k,v)=>k≤row.length∧v=(zAD D (s:Int)||anyR m (row.take k))) (fun (k,v)=>row.length-k) (0,zAD D (s:Int)) ?_ Sub.z Sup.z ?_
      ·exact ⟨Nat.zero_le _,by simp [anyR]⟩
      rintro ⟨k,v⟩ ⟨k1,k2⟩
      dsimp only [List.cons_append,List.nil_append] at k1 k2 ⊢
      have hsv:=zAV (m.set s v)
      rw [List.length_set] at hsv
      have hml2:(m.set s v).length=D.next.length:=by rw [List.length_set];exact hml
      have hb1:=(zL2 (l:=m.set s v) (i:=s) (by rw [List.length_set];omega)).trans (zNj (by omega) v)
      by_cases hk:k<row.length
      ·obtain ⟨z,hz⟩:∃ z,row[k]?=some z:=⟨_,List.getElem?_eq_getElem hk⟩
       have hbz:=bang hz
       have htk:row.take (k+1)=row.take k++[z]:=by rw [List.take_add_one,hz];rfl
       have hnx:(zAD D (s:Int)||anyR m (row.take (k+1)))=(v||(decide (0≤z)&&getB m z.toNat)):=by rw [htk,zNZ,←Bool.or_assoc,←k2]
       cases v with
       | true =>
         repeat (first|exact zE|refine zP ?_|refine zB (fun b=>?_)|refine zC (fun a' c' hc1 hc2=>?_))
         rw [hbz,hb1]
         repeat first|exact zE|refine zP ?_|refine zB fun b=>?_|refine zC fun a' c' hc1 hc2=>?_|(apply GJ.a;exact rfl;intro hg)|(apply GJ.o;exact rfl;intro hg)
         refine OpOk.storeSlAt' (k:=s) rfl rfl rfl rfl (by rw [Int.toNat_natCast]) (by omega) ?_
         rw [zBo,List.set_set]
         repeat first|exact zE|refine zP ?_|refine zB fun b=>?_|refine zC fun a' c' hc1 hc2=>?_|(apply GJ.a;exact rfl;intro hg)|(apply GJ.o;exact rfl;intro hg)
         refine Wk.id ⟨(k+1,true),⟨rfl,?_⟩,?_,Sub.z,Sup.z⟩
         all_goals try dsimp only
         ·exact ⟨by omega,by rw [hnx];rfl⟩
         ·omega
       | false =>
         rw [Bool.false_or] at hnx
         rcases zIZ ho hrow hz with rfl|⟨u,rfl,hu⟩
         ·repeat (first|exact zE|refine zP ?_|refine zB (fun b=>?_)|refine zC (fun a' c' hc1 hc2=>?_))
          rw [hbz,hb1]
          repeat first|exact zE|refine zP ?_|refine zB fun b=>?_|refine zC fun a' c' hc1 hc2=>?_|(apply GJ.a;exact rfl;intro hg)|(apply GJ.o;exact rfl;intro hg)
          refine OpOk.storeSlAt' (k:=s) rfl rfl rfl rfl (by rw [Int.toNat_natCast]) (by omega) ?_
          rw [zBo,List.set_set]
          repeat first|exact zE|refine zP ?_|refine zB fun b=>?_|refine zC fun a' c' hc1 hc2=>?_|(apply GJ.a;exact rfl;intro hg)|(apply GJ.o;exact rfl;intro hg)
          refine Wk.id ⟨(k+1,false),⟨rfl,?_⟩,?_,Sub.z,Sup.z⟩
          all_goals try dsimp only
          ·exact ⟨by omega,by rw [hnx];rfl⟩
          ·omega
         ·have hb2:=zL2 (l:=m.set s false) (i:=u) (by rw [List.length_set];omega)
          have hgu:getB (m.set s false) u=getB m u:=by
           rw [zBh (by omega)]
           split
           ·rename_i e;rw [e,hp]
           ·rfl
          rw [hgu] at hb2
          rw [Int.toNat_natCast,decide_eq_true (by omega),Bool.true_and] at hnx
          generalize getB m u=y at *
          repeat (first|exact zE|refine zP ?_|refine zB (fun b=>?_)|refine zC (fun a' c' hc1 hc2=>?_))
          rw [hbz,hb1]
          repeat (first|exact zE|refine zP ?_|refine zB (fun b=>?_)|refine zC (fun a' c' hc1 hc2=>?_))
          rw [hb2]
          repeat first|exact zE|refine zP ?_|refine zB fun b=>?_|refine zC fun a' c' hc1 hc2=>?_|(apply GJ.a;exact rfl;intro hg)|(apply GJ.o;exact rfl;intro hg)
          refine OpOk.storeSlAt' (k:=s) rfl rfl rfl rfl (by rw [Int.toNat_natCast]) (by omega) ?_
          rw [zBo,List.set_set]
          repeat first|exact zE|refine zP ?_|refine zB fun b=>?_|refine zC fun a' c' hc1 hc2=>?_|(apply GJ.a;exact rfl;intro hg)|(apply GJ.o;exact rfl;intro hg)
          refine Wk.id ⟨(k+1,y),⟨rfl,?_⟩,?_,Sub.z,Sup.z⟩
          all_goals try dsimp only
          ·exact ⟨by omega,by rw [hnx]⟩
          ·omega
      ·obtain rfl:k=row.length:=by omega
       rw [List.take_length] at k2
       rw [←k2] at hput
       cases ch with
       | true =>
         repeat first|exact zE|refine zP ?_|refine zB fun b=>?_|refine zC fun a' c' hc1 hc2=>?_|(apply GJ.a;exact rfl;intro hg)|(apply GJ.o;exact rfl;intro hg)
         refine Wk.id ⟨(s+1,true,m.set s v),⟨rfl,?_⟩,?_,Sub.z,Sup.z⟩
         all_goals try dsimp only
         ·exact ⟨by omega,hput⟩
         ·omega
       | false =>
         rw [Bool.false_or] at hput
         repeat (first|exact zE|refine zP ?_|refine zB (fun b=>?_)|refine zC (fun a' c' hc1 hc2=>?_))
         rw [hb1]
         repeat first|exact zE|refine zP ?_|refine zB fun b=>?_|refine zC fun a' c' hc1 hc2=>?_|(apply GJ.a;exact rfl;intro hg)|(apply GJ.o;exact rfl;intro hg)
         refine Wk.id ⟨(s+1,v,m.set s v),⟨rfl,?_⟩,?_,Sub.z,Sup.z⟩
         all_goals try dsimp only
         ·exact ⟨by omega,hput⟩
         ·omega
   ·obtain rfl:s=D.next.length:=by omega
    have hcm:=zE0 m
    have hc0:=zE0 m0
    repeat first|exact zE|refine zP ?_|refine zB fun b=>?_|refine zC fun a' c' hc1 hc2=>?_|(apply GJ.a;exact rfl;intro hg)|(apply GJ.o;exact rfl;intro hg)
    refine Wk.id ⟨(ch,m),⟨rfl,?_⟩,?_,Sub.z,Sup.z⟩
    all_goals try dsimp only
    ·exact ⟨hml,j2.sound,fun h=>by subst h;exact j2.fin ho hs (Nat.le_refl _)⟩
    ·cases ch with
     | true=>have:=j2.go rfl;rw [←hm0];simp only [cond_true];omega
     | false=>rw [(j2.stay rfl).1,←hm0];simp only [cond_true,cond_false];omega
set_option maxHeartbeats 4000000 in
theorem amet_ok {q:Nat}{D:DfaA} (hq:DAt ro q D) (hL:zDl D)
  (hk:∀ b,K (.slice (some ⟨b,0,none⟩) D.next.length D.next.length) ro (.sl (some ⟨b,0,none⟩) D.next.length D.next.length 4 1 (zAh (List.replicate D.next.length true))::own)):CallOk Tryz.prog 37 #[ptr' q] ro own K:=by
 obtain ⟨an,cn,aa,ca,hsv,hd⟩:=hq.rd
 have hN:=hd.ldN
 have hrs:=hd.rs
 obtain ⟨w,hw6,ho,hs,_,_⟩:=hL.ok
 have hpos:=hL.pos
 have hn:=hL.le
 refine CallOk.intro (args:=[_]) (rs:=[_]) T_ok Tryz.func37 Tryz.call37 rfl rfl (by kernel_rfl) rfl rfl ?_
 repeat first|exact zE|refine zP ?_|refine zB fun b=>?_|refine zC fun a' c' hc1 hc2=>?_|(apply GJ.a;exact rfl;intro hg)|(apply GJ.o;exact rfl;intro hg)
 refine zBP hq ?_
 repeat first|exact zE|refine zP ?_|refine zB fun b=>?_|refine zC fun a' c' hc1 hc2=>?_|(apply GJ.a;exact rfl;intro hg)|(apply GJ.o;exact rfl;intro hg)
 rw [Int.toNat_natCast,zGH]
 obtain ⟨bO,hbO⟩:∃ z:Nat,z=b:=⟨_,rfl⟩
 subst hbO
 refine zBP hq ?_
 repeat first|exact zE|refine zP ?_|refine zB fun b=>?_|refine zC fun a' c' hc1 hc2=>?_|(apply GJ.a;exact rfl;intro hg)|(apply GJ.o;exact rfl;intro hg)
 refine OpOk.storeSlAt' (k:=0) rfl rfl rfl rfl rfl (by rw [zAV];simp;omega) ?_
 rw [zBo]
 obtain ⟨hM0,hc0⟩:=MetD.start hpos
 have hzl:((List.replicate D.next.length false).set 0 true).length=D.next.length:=by simp
 generalize (List.replicate D.next.length false).set 0 true=m0 at *
 repeat first|exact zE|refine zP ?_|refine zB fun b=>?_|refine zC fun a' c' hc1 hc2=>?_|(apply GJ.a;exact rfl;intro hg)|(apply GJ.o;exact rfl;intro hg)
 obtain ⟨bW,hbW⟩:∃ z:Nat,z=b:=⟨_,rfl⟩
 subst hbW
 refine LoopOk.at (ι:=List Nat × List Bool × Option Addr × Nat) Keep.z (fun (w,m,ad,cp)=>[(4,.slice ad w.length cp)]) (fun (w,m,ad,cp)=>.sl ad w.length cp 3 1 (zAq w)::.sl (some ⟨bO,0,none⟩) D.next.length D.next.length 4 1 (zAh m)::own) (fun (w,m,ad,cp)=>MetD D m w∧w.length≤cntB m∧w.length≤cp∧cp≤maxLen) (fun (w,m,ad,cp)=>2*(D.next.length-cntB m)+w.length) ([0],m0,some ⟨bW,0,none⟩,1) ?_ Sub.z Sup.z ?_
 ·exact ⟨hM0,by simp [hc0],Nat.le_refl _,by unfold maxLen;decide⟩
 clear hM0 hc0 hzl
 rintro ⟨wk,m,ad,cp⟩ ⟨i1,i2,i3,i4⟩
 dsimp only [List.cons_append,List.nil_append] at i1 i2 i3 i4 ⊢
 have hml:=i1.len
 have hmv:=zAV m
 have hcm:=zE0 m
 have hwl:(zAq wk).length=wk.length:=by simp [zAq]
 by_cases h0:wk.length=0
 ·obtain rfl:=List.eq_nil_of_length_eq_zero h0
  rw [i1.fin hL]
  repeat first|exact zE|refine zP ?_|refine zB fun b=>?_|refine zC fun a' c' hc1 hc2=>?_|(apply GJ.a;exact rfl;intro hg)|(apply GJ.o;exact rfl;intro hg)
  exact Wk.outS Sup.z (.refl _) (hk bO)
 ·obtain ⟨wk',s,rfl⟩:∃ w' i,wk=w'++[i]:=⟨wk.dropLast,wk.getLast (by intro e;subst e;simp at h0),(List.dropLast_concat_getLast _).symm⟩
  rw [List.length_append,List.length_singleton] at i2 i3 h0 hwl ⊢
  have hgi:(zAq (wk'++[s]))[wk'.length]?=some (.int .i64 (s:Int)):=by simp [zAq]
  have hsh:(zAq (wk'++[s])).take (wk'.length*1)=zAq wk':=by
   rw [Nat.mul_one]
   simp only [zAq,List.map_append]
   rw [List.take_left' (List.length_map _)]
  have hR0:=i1.pop
  obtain ⟨hsl,hsm⟩:=hR0.here
  obtain ⟨row,hrow⟩:∃ row,D.next[s]?=some row:=⟨_,List.getElem?_eq_getElem hsl⟩
  obtain ⟨ar,cr,q1,q2⟩:=hd.rows s row hrow
  have hra:=zJa hrow
  have hrl:=q2.le
  have hrm:=q2.max
  unfold maxLen at hrm
  obtain ⟨C,hC⟩:∃ C,C=2*(D.next.length-cntB m)+wk'.length:=⟨_,rfl⟩
  repeat first|exact zE|refine zP ?_|refine zB fun b=>?_|refine zC fun a' c' hc1 hc2=>?_|(apply GJ.a;exact rfl;intro hg)|(apply GJ.o;exact rfl;intro hg)
  refine OpOk.load rfl rfl (Ld.slAt' (k:=wk'.length) (by congr 1;omega) hgi) ?_
  repeat first|exact zE|refine zP ?_|refine zB fun b=>?_|refine zC fun a' c' hc1 hc2=>?_|(apply GJ.a;exact rfl;intro hg)|(apply GJ.o;exact rfl;intro hg)
  refine OpOk.shrink (a:=ad) (m:=wk'.length) (Nat.le_succ _) ?_
  rw [hsh]
  refine OpOk.load rfl rfl (Go.E.Ld.rs hrs (by rw [Int.toNat_natCast];exact q1)) ?_
  repeat first|exact zE|refine zP ?_|refine zB fun b=>?_|refine zC fun a' c' hc1 hc2=>?_|(apply GJ.a;exact rfl;intro hg)|(apply GJ.o;exact rfl;intro hg)
  have hc0:∀ s,cutA ad (Int.toNat 0) cp s=ad:=fun s=>zI4 ad cp s
  rw [hc0,show (((wk'.length+1:Nat):Int)-1).toNat-Int.toNat 0=wk'.length by omega,show cp-Int.toNat 0=cp from rfl]
  refine LoopOk.at (ι:=Nat × List Nat × List Bool × Option Addr × Nat) Keep.z (fun (k,w,m,ad,cp)=>[(40,.int .i64 (k:Int)),(4,.slice ad w.length cp)]) (fun (k,w,m,ad,cp)=>.sl ad w.length cp 3 1 (zAq w)::.sl (some ⟨bO,0,none⟩) D.next.length D.next.length 4 1 (zAh m)::own) (fun (k,w,m,ad,cp)=>k≤row.length∧MetR D m w s k∧w.length≤cntB m∧2*(D.next.length-cntB m)+w.length≤C∧w.length≤cp∧cp≤maxLen) (fun (k,w,m,ad,cp)=>row.length-k) (0,wk',m,ad,cp) ?_ Sub.z Sup.z ?_
  ·exact ⟨Nat.zero_le _,hR0,by omega,by omega,by omega,i4⟩
  clear i1 hR0 i3 i4 hgi hsh hwl hmv hml
  rintro ⟨k,wk2,m2,ad2,cp2⟩ ⟨j1,j2,j3,j4,j5,j6⟩
  dsimp only [List.cons_append,List.nil_append] at j1 j2 j3 j4 j5 j6 ⊢
  have hml:=j2.len
  have hmv:=zAV m2
  have hcm2:=zE0 m2
  have hwl:(zAq wk2).length=wk2.length*1:=by simp [zAq]
  by_cases hkl:k<row.length
  ·obtain ⟨z,hz⟩:∃ z,row[k]?=some z:=⟨_,List.getElem?_eq_getElem hkl⟩
   have hbz:=bang hz
   have hz':(rowA D s)[k]?=some z:=by rw [hra];exact hz
   rcases zIZ ho hrow hz with rfl|⟨u,rfl,hu⟩
   ·repeat (first|exact zE|refine zP ?_|refine zB (fun b=>?_)|refine zC (fun a' c' hc1 hc2=>?_))
    rw [hbz]
    repeat first|exact zE|refine zP ?_|refine zB fun b=>?_|refine zC fun a' c' hc1 hc2=>?_|(apply GJ.a;exact rfl;intro hg)|(apply GJ.o;exact rfl;intro hg)
    refine Wk.id ⟨(k+1,wk2,m2,ad2,cp2),⟨rfl,?_⟩,?_,Sub.z,Sup.z⟩
    all_goals try dsimp only
    ·exact ⟨by omega,j2.skip hz' (fun h=>by omega),j3,j4,j5,j6⟩
    ·omega
   ·have hb2:=zL2 (l:=m2) (i:=u) (by omega)
    cases hp:getB m2 u with
    | true =>
      rw [hp] at hb2
      repeat (first|exact zE|refine zP ?_|refine zB (fun b=>?_)|refine zC (fun a' c' hc1 hc2=>?_))
      rw [hbz]
      repeat (first|exact zE|refine zP ?_|refine zB (fun b=>?_)|refine zC (fun a' c' hc1 hc2=>?_))
      rw [hb2]
      repeat first|exact zE|refine zP ?_|refine zB fun b=>?_|refine zC fun a' c' hc1 hc2=>?_|(apply GJ.a;exact rfl;intro hg)|(apply GJ.o;exact rfl;intro hg)
      refine Wk.id ⟨(k+1,wk2,m2,ad2,cp2),⟨rfl,?_⟩,?_,Sub.z,Sup.z⟩
      all_goals try dsimp only
      ·exact ⟨by omega,j2.skip hz' (fun h=>by rw [Int.toNat_natCast];exact hp),j3,j4,j5,j6⟩
      ·omega
    | false =>
      rw [hp] at hb2
      have hcs:=zFV (m:=m2) (k:=u) (by omega) hp
      have hcm3:=zE0 (m2.set u true)
      rw [List.length_set] at hcm3
      have hpu:=j2.push hz' hu
      have hsn:zAq wk2++[.int .i64 (u:Int)]=zAq (wk2++[u]):=by simp [zAq]
      have hnl:wk2.length+1=(wk2++[u]).length:=by simp
      repeat (first|exact zE|refine zP ?_|refine zB (fun b=>?_)|refine zC (fun a' c' hc1 hc2=>?_))
      rw [hbz]
      repeat (first|exact zE|refine zP ?_|refine zB (fun b=>?_)|refine zC (fun a' c' hc1 hc2=>?_))
      rw [hb2]
      repeat first|exact zE|refine zP ?_|refine zB fun b=>?_|refine zC fun a' c' hc1 hc2=>?_|(apply GJ.a;exact rfl;intro hg)|(apply GJ.o;exact rfl;intro hg)
      refine OpOk.storeSlAt' (k:=u) rfl rfl rfl rfl (by rw [Int.toNat_natCast]) (by omega) ?_
      rw [zBo]
      repeat first|exact zE|refine zP ?_|refine zB fun b=>?_|refine zC fun a' c' hc1 hc2=>?_|(apply GJ.a;exact rfl;intro hg)|(apply GJ.o;exact rfl;intro hg)
      rw [hsn]
      rw [hnl] at hc1 ⊢
      repeat first|exact zE|refine zP ?_|refine zB fun b=>?_|refine zC fun a' c' hc1 hc2=>?_|(apply GJ.a;exact rfl;intro hg)|(apply GJ.o;exact rfl;intro hg)
      refine Wk.id ⟨(k+1,wk2++[u],m2.set u true,a',c'),⟨rfl,?_⟩,?_,Sub.z,Sup.z⟩
      all_goals try dsimp only
      ·exact ⟨by omega,hpu,by omega,by omega,hc1,hc2⟩
      ·omega
  ·obtain rfl:k=row.length:=by omega
   repeat first|exact zE|refine zP ?_|refine zB fun b=>?_|refine zC fun a' c' hc1 hc2=>?_|(apply GJ.a;exact rfl;intro hg)|(apply GJ.o;exact rfl;intro hg)
   refine Wk.id ⟨(wk2,m2,ad2,cp2),⟨rfl,?_⟩,?_,Sub.z,Sup.z⟩
   all_goals try dsimp only
   ·exact ⟨j2.fin (by rw [hra];exact Nat.le_refl _),j3,j5,j6⟩
   ·omega
end
theorem zHv (C:List Nat) (k c:Nat):(clsV C).set k (.int .u8 (c:Int))=clsV (C.set k c):=by simp [clsV,List.map_set]
theorem zI9 (n:Nat):List.replicate n (Value.int .u8 0)=clsV (List.replicate n 0):=by simp [clsV]
theorem u8_ofNat {d:Nat} (h:d<256):u8 (UInt8.ofNat d)=.int .u8 (d:Int):=by unfold u8;rw [UInt8.toNat_ofNat_of_lt' h]
section
variable {ro:Ro}{own r:Chs}{K:Value→Ro→Chs→Prop}{g:Chunk→Chs}
theorem zFT {q:Nat}{d:DfaA}{w:Nat}{s x:Int}{c:Nat} (hx:x=(c:Int)) (hD:DAt ro q d) (ho:zAt w d) (hc:c<256) (hk:K (.int .i64 (zAb d s c)) ro own):CallOk Tryz.prog 30 #[ptr' q,.int .i64 s,.int .u8 x] ro own K:=by
 subst hx
 exact zFq hD ho hc hk
set_option maxHeartbeats 4000000 in
theorem aback_ok {a:DfaA}{i c n:Nat}{fr:List Int}{bs wk:List Nat}{W:List (List UInt8)}{af ab:Option Addr}{cf cb j0 s0:Nat}{w0:List UInt8} (hF:Rs ro af n cf 1 (intV fr)) (hB:Rs ro ab n cb 1 (clsV bs)) (h:BfsI a i c fr bs wk W) (hj:wk[j0]?=some s0) (hw:W[j0]?=some w0) (hn:a.next.length=n) (hn2:n≤1024)
  (hk:∀ a' c',w0.length≤1024→K (.slice a' w0.length c') ro (.sl a' w0.length c' 5 1 (w0.map u8)::own)):CallOk Tryz.prog 29 #[.slice af n cf,.slice ab n cb,.int .i64 (s0:Int)] ro own K:=by
 have hwk:=h.wkl
 have hjl:=(List.getElem?_eq_some_iff.1 hj).1
 have hfm:=hF.max
 have hfl:=hF.le
 have hbm:=hB.max
 have hbl:=hB.le
 unfold maxLen at hfm hbm
 have hfr:=h.frl
 have hbs:=h.bsl
 refine CallOk.intro (args:=[_,_,_]) (rs:=[_]) T_ok Tryz.func29 Tryz.call29 rfl rfl (by kernel_rfl) rfl rfl ?_
 repeat first|exact zE|refine zP ?_|refine zB fun b=>?_|refine zC fun a' c' hc1 hc2=>?_|(apply GJ.a;exact rfl;intro hg)|(apply GJ.o;exact rfl;intro hg)
 refine LoopOk.at (ι:=Nat × Nat × List UInt8 × List UInt8 × Option Addr × Nat) Keep.z (fun (j,s,w,o,ao,co)=>[(2,.int .i64 (s:Int)),(7,.slice ao o.length co)]) (fun (j,s,w,o,ao,co)=>.sl ao o.length co 5 1 (o.map u8)::own) (fun (j,s,w,o,ao,co)=>wk[j]?=some s∧W[j]?=some w∧w++o=w0∧o.length+j≤j0∧o.length≤co∧co≤maxLen) (fun (j,s,w,o,ao,co)=>j) (j0,s0,w0,[],none,0) ?_ Sub.z Sup.z ?_
 ·exact ⟨hj,hw,by simp,by simp,Nat.le_refl _,Nat.zero_le _⟩
 clear hj hw
 rintro ⟨j,s,w,o,ao,co⟩ ⟨i1,i2,i3,i4,i5,i6⟩
 dsimp only [List.cons_append,List.nil_append] at i1 i2 i3 i4 i5 i6 ⊢
 have hsn:=(h.run j s w i1 i2).1
 rcases h.par j s w i1 i2 with ⟨p1,p2,p3⟩|⟨p,q,d,v,p1,p2,p3,p4,p5,p6,p7⟩
 ·have hb1:=bang p2
  subst p3
  rw [List.nil_append] at i3
  subst i3
  repeat first|exact zE|refine zP ?_|refine zB fun b=>?_|refine zC fun a' c' hc1 hc2=>?_|(apply GJ.a;exact rfl;intro hg)|(apply GJ.o;exact rfl;intro hg)
  exact Wk.outS Sup.z (.refl _) (hk ao co (by omega))
 ·have hb1:=bang p4
  have hb2:=bang p5
  have hq:=(h.run p q v p2 p3).1
  have hcons:Value.int .u8 (d:Int)::o.map u8=(UInt8.ofNat d::o).map u8:=by rw [List.map_cons,u8_ofNat p6]
  have hl1:1+o.length=(UInt8.ofNat d::o).length:=by simp;omega
  have hol:(o.map u8).length=o.length:=by simp
  repeat (first|exact zE|refine zP ?_|refine zB (fun b=>?_)|refine zC (fun a' c' hc1 hc2=>?_))
  rw [hb1]
  repeat first|exact zE|refine zP ?_|refine zB fun b=>?_|refine zC fun a' c' hc1 hc2=>?_|(apply GJ.a;exact rfl;intro hg)|(apply GJ.o;exact rfl;intro hg)
  rw [hb2]
  rw [List.singleton_append,hcons]
  rw [hl1] at hc1 ⊢
  repeat first|exact zE|refine zP ?_|refine zB fun b=>?_|refine zC fun a' c' hc1 hc2=>?_|(apply GJ.a;exact rfl;intro hg)|(apply GJ.o;exact rfl;intro hg)
  refine Wk.id ⟨(p,q,v,UInt8.ofNat d::o,a',c'),⟨rfl,?_⟩,?_,Sub.z,Sup.z⟩
  all_goals try dsimp only
  ·exact ⟨p2,p3,by rw [←i3,p7];simp,by simp;omega,hc1,hc2⟩
  ·omega
set_option maxHeartbeats 4000000 in
theorem zIF {q:Nat}{D:DfaA} (hq:DAt ro q D) (hL:zDl D) (hk0:zDf D=none→K (.tuple #[.slice none 0 0,.bool false]) ro own)
  (hk1:∀ ro' a c s,Le ro ro'→zDf D=some s→s.length≤1024→Rs ro' a s.length c 1 (s.map u8)→K (.tuple #[.slice a s.length c,.bool true]) ro' own):CallOk Tryz.prog 11 #[ptr' q] ro own K:=by
 obtain ⟨w,hw6,ho,hs,_,_⟩:=hL.ok
 have hpos:=hL.pos
 have hn:=hL.le
 unfold zDf at hk0 hk1
 rw [if_neg (by omega)] at hk0 hk1
 obtain ⟨N,hN⟩:∃ N,N=D.next.length:=⟨_,rfl⟩
 refine CallOk.intro (args:=[_]) (rs:=[_,_]) T_ok Tryz.func11 Tryz.call11 rfl rfl (by kernel_rfl) rfl rfl ?_
 repeat first|exact zE|refine zP ?_|refine zB fun b=>?_|refine zC fun a' c' hc1 hc2=>?_|(apply GJ.a;exact rfl;intro hg)|(apply GJ.o;exact rfl;intro hg)
 refine zBP hq ?_
 repeat first|exact zE|refine zP ?_|refine zB fun b=>?_|refine zC fun a' c' hc1 hc2=>?_|(apply GJ.a;exact rfl;intro hg)|(apply GJ.o;exact rfl;intro hg)
 refine zBP hq ?_
 repeat first|exact zE|refine zP ?_|refine zB fun b=>?_|refine zC fun a' c' hc1 hc2=>?_|(apply GJ.a;exact rfl;intro hg)|(apply GJ.o;exact rfl;intro hg)
 refine AllOk.at (ι:=Nat × Nat) (fun (b,c)=>[(0,ptr' q),(4,.slice (some ⟨b,0,none⟩) (D.next.length:Int).toNat (D.next.length:Int).toNat),(5,.slice (some ⟨c,0,none⟩) (D.next.length:Int).toNat (D.next.length:Int).toNat)]) (fun (b,c)=>.sl (some ⟨b,0,none⟩) (D.next.length:Int).toNat (D.next.length:Int).toNat 3 1 (List.replicate (D.next.length:Int).toNat (Value.int .i64 0))::.sl (some ⟨c,0,none⟩) (D.next.length:Int).toNat (D.next.length:Int).toNat 5 1 (List.replicate (D.next.length:Int).toNat (Value.int .u8 0))::own) (fun _=>True) ?_ (fun ⟨bF,bB⟩ _=>?_)
 ·repeat' (first|with_reducible exact vFo.nil|((with_reducible refine vFo.cons ?_ ?_);refine vOne.at (by rfl) ?_)|((with_reducible refine vFo.leaf ?_);exact ⟨rfl,(_,_),Sub.z,Sup.z,trivial⟩)|(show Stop (OpOk _ _ _ _ _ _ _);refine Stop.mk ?_)|(show Stop (CallOk _ _ _ _ _ _);refine Stop.mk ?_)|(show CallOk _ _ _ _ _ _;refine zBP hq ?_)|(show OpOk _ _ _ _ _ _ _;refine zB (fun b=>?_))|refine vFo.stop Sup.z ?_)
 dsimp only
 rw [Int.toNat_natCast,zCI,zI9,←hN]
 have hL0:(List.replicate N (-2:Int)).length=N:=by simp
 obtain ⟨L,hLd⟩:∃ L,L=List.replicate N (-2:Int):=⟨_,rfl⟩
 rw [←hLd] at hL0
 have hB0:(List.replicate N 0).length=N:=by simp
 obtain ⟨B0,hBd⟩:∃ B:List Nat,B=List.replicate N 0:=⟨_,rfl⟩
 rw [←hBd] at hB0 ⊢
 repeat first|exact zE|refine zP ?_|refine zB fun b=>?_|refine zC fun a' c' hc1 hc2=>?_|(apply GJ.a;exact rfl;intro hg)|(apply GJ.o;exact rfl;intro hg)
 refine LoopOk.at (ι:=Nat) Keep.z (fun k=>[(23,.int .i64 (k:Int))]) (fun k=>.sl (some ⟨bF,0,none⟩) N N 3 1 (intV (L.take k++List.replicate (N-k) 0))::.sl (some ⟨bB,0,none⟩) N N 5 1 (clsV B0)::own) (fun k=>k≤N) (fun k=>N-k) 0 ?_ Sub.z Sup.z ?_
 ·exact Nat.zero_le _
 intro k k1
 dsimp only [List.cons_append,List.nil_append] at k1 ⊢
 have hfl:=zK2 (z:=(0:Int)) hL0 k1
 have hfv:=zAO (L.take k++List.replicate (N-k) 0)
 by_cases hkN:k<N
 ·have hgv:L[k]?=some (-2):=by rw [hLd,List.getElem?_replicate,if_pos hkN]
  have hfs:=zHn (z:=(0:Int)) hL0 hgv
  repeat first|exact zE|refine zP ?_|refine zB fun b=>?_|refine zC fun a' c' hc1 hc2=>?_|(apply GJ.a;exact rfl;intro hg)|(apply GJ.o;exact rfl;intro hg)
  refine OpOk.storeSlAt' (k:=k) rfl rfl rfl rfl (by rw [Int.toNat_natCast]) (by omega) ?_
  rw [zAz,hfs]
  repeat first|exact zE|refine zP ?_|refine zB fun b=>?_|refine zC fun a' c' hc1 hc2=>?_|(apply GJ.a;exact rfl;intro hg)|(apply GJ.o;exact rfl;intro hg)
  refine Wk.id ⟨k+1,⟨rfl,?_⟩,?_,Sub.z,Sup.z⟩
  all_goals try dsimp only
  ·omega
  ·omega
 ·obtain rfl:N=k:=by omega
  rw [List.take_of_length_le (by omega),Nat.sub_self,List.replicate_zero,List.append_nil]
  have hlv:=zAO L
  repeat first|exact zE|refine zP ?_|refine zB fun b=>?_|refine zC fun a' c' hc1 hc2=>?_|(apply GJ.a;exact rfl;intro hg)|(apply GJ.o;exact rfl;intro hg)
  refine OpOk.storeSlAt' (k:=0) rfl rfl rfl rfl rfl (by omega) ?_
  rw [zAz]
  have hI0:=BfsI.start hpos
  rw [←hN,←hLd,←hBd] at hI0 hk0 hk1
  generalize L.set 0 (-1)=fr0 at *
  clear hLd hBd hfl hfv hlv
  obtain ⟨Z,hZ⟩:∃ Z,Z=bfsL D (N+1) 0 fr0 B0 [0]:=⟨_,rfl⟩
  rw [←hZ] at hk0 hk1
  repeat first|exact zE|refine zP ?_|refine zB fun b=>?_|refine zC fun a' c' hc1 hc2=>?_|(apply GJ.a;exact rfl;intro hg)|(apply GJ.o;exact rfl;intro hg)
  obtain ⟨bW,hbW⟩:∃ z:Nat,z=b:=⟨_,rfl⟩
  subst hbW
  refine LoopOk.at (ι:=Nat × List Int × List Nat × List Nat × List (List UInt8) × Option Addr × Nat) Keep.z (fun (i,fr,bs,wk,W,ad,cp)=>[(8,.int .i64 (i:Int)),(7,.slice ad wk.length cp)]) (fun (i,fr,bs,wk,W,ad,cp)=>.sl ad wk.length cp 3 1 (zAq wk)::.sl (some ⟨bF,0,none⟩) N N 3 1 (intV fr)::.sl (some ⟨bB,0,none⟩) N N 5 1 (clsV bs)::own) (fun (i,fr,bs,wk,W,ad,cp)=>BfsI D i 0 fr bs wk W∧bfsL D (N+1-i) i fr bs wk=Z∧i≤wk.length∧wk.length≤cp∧cp≤maxLen) (fun (i,fr,bs,wk,W,ad,cp)=>N+1-i) (0,fr0,B0,[0],[[]],some ⟨bW,0,none⟩,1) ?_ Sub.z Sup.z ?_
  ·exact ⟨hI0,hZ.symm,Nat.zero_le _,Nat.le_refl _,by unfold maxLen;decide⟩
  clear hI0 hZ fr0 hL0 hB0 B0
  rintro ⟨i,fr,bs,wk,W,ad,cp⟩ ⟨i1,i2,i3,i4,i5⟩
  dsimp only [List.cons_append,List.nil_append] at i1 i2 i3 i4 i5 ⊢
  have hwk:=i1.wkl
  have hfl:=i1.frl
  have hbl:=i1.bsl
  have hfv:=zAO fr
  have hbv:=zA0 bs
  have hwv:=zDx wk
  obtain ⟨F,hF⟩:∃ F,N+1-i=F+1:=⟨N-i,by omega⟩
  rw [hF,bfsL] at i2
  by_cases hil:i<wk.length
  ·obtain ⟨s,hsi⟩:∃ s,wk[i]?=some s:=⟨_,List.getElem?_eq_getElem hil⟩
   obtain ⟨w0,hwi⟩:∃ x,W[i]?=some x:=⟨_,List.getElem?_eq_getElem (show i<W.length by rw [i1.len];exact hil)⟩
   have hsn:=(i1.run i s w0 hsi hwi).1
   have hbs:=bang hsi
   rw [hsi] at i2
   dsimp only at i2
   by_cases he:zAD D (s:Int)=true
   ·rw [if_pos he] at i2
    subst i2
    dsimp only at hk1
    rw [zH2 i1 (N+1) i s w0 [] (by omega) hsi hwi,List.append_nil] at hk1
    repeat first|exact zE|refine zP ?_|refine zB fun b=>?_|refine zC fun a' c' hc1 hc2=>?_|(apply GJ.a;exact rfl;intro hg)|(apply GJ.o;exact rfl;intro hg)
    rw [hbs]
    refine zCr hq ?_
    rw [he]
    repeat first|exact zE|refine zP ?_|refine zB fun b=>?_|refine zC fun a' c' hc1 hc2=>?_|(apply GJ.a;exact rfl;intro hg)|(apply GJ.o;exact rfl;intro hg)
    refine CallOk.freeze (c:=.sl (some ⟨bF,0,none⟩) _ _ _ _ _) Take.auto (fun ro2 hl2 hc2=>?_)
    refine CallOk.freeze (c:=.sl (some ⟨bB,0,none⟩) _ _ _ _ _) Take.auto (fun ro3 hl3 hc3=>?_)
    refine aback_ok (Rs.up (Rs.last hc2)) (Rs.last hc3) i1 hsi hwi hN.symm (by omega) (fun a' c' hw10=>?_)
    repeat first|exact zE|refine zP ?_|refine zB fun b=>?_|refine zC fun a' c' hc1 hc2=>?_|(apply GJ.a;exact rfl;intro hg)|(apply GJ.o;exact rfl;intro hg)
    refine Wk.freeze (c:=.sl a' _ _ _ _ _) Take.auto (fun ro4 hl4 hc4=>?_)
    exact Wk.outS Sup.z (.refl _) (hk1 ro4 a' c' w0 ((hl2.trans hl3).trans hl4) rfl hw10 (Rs.last hc4))
   ·rw [if_neg he] at i2
    rw [Bool.not_eq_true] at he
    obtain ⟨R,hR⟩:∃ R,R=bfsC D s 256 0 fr bs wk:=⟨_,rfl⟩
    rw [←hR] at i2
    repeat first|exact zE|refine zP ?_|refine zB fun b=>?_|refine zC fun a' c' hc1 hc2=>?_|(apply GJ.a;exact rfl;intro hg)|(apply GJ.o;exact rfl;intro hg)
    rw [hbs]
    refine zCr hq ?_
    rw [he]
    repeat first|exact zE|refine zP ?_|refine zB fun b=>?_|refine zC fun a' c' hc1 hc2=>?_|(apply GJ.a;exact rfl;intro hg)|(apply GJ.o;exact rfl;intro hg)
    refine LoopOk.at (ι:=Nat × List Int × List Nat × List Nat × List (List UInt8) × Option Addr × Nat) Keep.z (fun (c,fr,bs,wk,W,ad,cp)=>[(50,.int .i64 (c:Int)),(7,.slice ad wk.length cp)]) (fun (c,fr,bs,wk,W,ad,cp)=>.sl ad wk.length cp 3 1 (zAq wk)::.sl (some ⟨bF,0,none⟩) N N 3 1 (intV fr)::.sl (some ⟨bB,0,none⟩) N N 5 1 (clsV bs)::own) (fun (c,fr,bs,wk,W,ad,cp)=>c≤256∧BfsI D i c fr bs wk W∧bfsC D s (256-c) c fr bs wk=R∧wk[i]?=some s∧wk.length≤cp∧cp≤maxLen) (fun (c,fr,bs,wk,W,ad,cp)=>256-c) (0,fr,bs,wk,W,ad,cp) ?_ Sub.z Sup.z ?_
    ·exact ⟨Nat.zero_le _,i1,hR.symm,hsi,i4,i5⟩
    clear i1 i3 i4 i5 hwk hfl hbl hfv hbv hwv hil hsi hwi hbs hR
    rintro ⟨c,fr,bs,wk,W,ad,cp⟩ ⟨c1,c2,c3,c4,c5,c6⟩
    dsimp only [List.cons_append,List.nil_append] at c1 c2 c3 c4 c5 c6 ⊢
    have hwk:=c2.wkl
    have hfl:=c2.frl
    have hbl:=c2.bsl
    have hfv:=zAO fr
    have hbv:=zA0 bs
    have hwv:=zDx wk
    have hbs:=bang c4
    have hil:=(List.getElem?_eq_some_iff.1 c4).1
    by_cases hc:c<256
    ·rw [show 256-c=(256-(c+1))+1 by omega,bfsC] at c3
     have hsk:=c2.skip c4 hc ho
     rcases zAE ho (s:Int) hc with hz|⟨u,hz,hu⟩
     ·rw [hz] at c3 hsk
      rw [if_neg (fun h=>h.1 rfl)] at c3
      have hsk:=hsk (fun h=>h.1 rfl)
      repeat first|exact zE|refine zP ?_|refine zB fun b=>?_|refine zC fun a' c' hc1 hc2=>?_|(apply GJ.a;exact rfl;intro hg)|(apply GJ.o;exact rfl;intro hg)
      refine zFT (w:=w) (c:=c) (by omega) hq ho hc ?_
      rw [hz]
      repeat first|exact zE|refine zP ?_|refine zB fun b=>?_|refine zC fun a' c' hc1 hc2=>?_|(apply GJ.a;exact rfl;intro hg)|(apply GJ.o;exact rfl;intro hg)
      refine Wk.id ⟨(c+1,fr,bs,wk,W,ad,cp),⟨rfl,?_⟩,?_,Sub.z,Sup.z⟩
      all_goals try dsimp only
      ·exact ⟨by omega,hsk,c3,c4,c5,c6⟩
      ·omega
     ·obtain ⟨f,hf⟩:∃ f,fr[u]?=some f:=⟨_,List.getElem?_eq_getElem (by omega)⟩
      have hbf:=bang hf
      rw [hz,Int.toNat_natCast,hf,Option.getD_some] at c3 hsk
      by_cases hf2:f=-2
      ·subst hf2
       rw [if_pos ⟨by omega,rfl⟩] at c3
       obtain ⟨w1,hw1⟩:∃ x,W[i]?=some x:=⟨_,List.getElem?_eq_getElem (show i<W.length by rw [c2.len];exact hil)⟩
       have hpu:=c2.put c4 hw1 hc hu hz hf
       have hsn2:zAq wk++[.int .i64 (u:Int)]=zAq (wk++[u]):=by simp [zAq]
       have hnl:wk.length+1=(wk++[u]).length:=by simp
       have hwk2:=hpu.wkl
       rw [←hnl] at hwk2
       repeat first|exact zE|refine zP ?_|refine zB fun b=>?_|refine zC fun a' c' hc1 hc2=>?_|(apply GJ.a;exact rfl;intro hg)|(apply GJ.o;exact rfl;intro hg)
       refine zFT (w:=w) (c:=c) (by omega) hq ho hc ?_
       rw [hz]
       repeat (first|exact zE|refine zP ?_|refine zB (fun b=>?_)|refine zC (fun a' c' hc1 hc2=>?_))
       rw [hbf]
       repeat first|exact zE|refine zP ?_|refine zB fun b=>?_|refine zC fun a' c' hc1 hc2=>?_|(apply GJ.a;exact rfl;intro hg)|(apply GJ.o;exact rfl;intro hg)
       refine OpOk.storeSlAt' (k:=u) rfl rfl rfl rfl (by rw [Int.toNat_natCast]) (by omega) ?_
       rw [zAz]
       repeat first|exact zE|refine zP ?_|refine zB fun b=>?_|refine zC fun a' c' hc1 hc2=>?_|(apply GJ.a;exact rfl;intro hg)|(apply GJ.o;exact rfl;intro hg)
       refine OpOk.storeSlAt' (k:=u) rfl rfl rfl rfl (by rw [Int.toNat_natCast]) (by omega) ?_
       rw [show ((c:Nat):Int) % 256=(c:Int) by omega,zHv]
       repeat first|exact zE|refine zP ?_|refine zB fun b=>?_|refine zC fun a' c' hc1 hc2=>?_|(apply GJ.a;exact rfl;intro hg)|(apply GJ.o;exact rfl;intro hg)
       rw [hsn2]
       rw [hnl] at hc1 ⊢
       repeat first|exact zE|refine zP ?_|refine zB fun b=>?_|refine zC fun a' c' hc1 hc2=>?_|(apply GJ.a;exact rfl;intro hg)|(apply GJ.o;exact rfl;intro hg)
       refine Wk.id ⟨(c+1,fr.set u (s:Int),bs.set u c,wk++[u],W++[w1++[UInt8.ofNat c]],a',c'),⟨rfl,?_⟩,?_,Sub.z,Sup.z⟩
       all_goals try dsimp only
       ·exact ⟨by omega,hpu,c3,zAf c4,hc1,hc2⟩
       ·omega
      ·rw [if_neg (fun h=>hf2 h.2)] at c3
       have hsk:=hsk (fun h=>hf2 h.2)
       repeat first|exact zE|refine zP ?_|refine zB fun b=>?_|refine zC fun a' c' hc1 hc2=>?_|(apply GJ.a;exact rfl;intro hg)|(apply GJ.o;exact rfl;intro hg)
       refine zFT (w:=w) (c:=c) (by omega) hq ho hc ?_
       rw [hz]
       repeat (first|exact zE|refine zP ?_|refine zB (fun b=>?_)|refine zC (fun a' c' hc1 hc2=>?_))
       rw [hbf]
       repeat first|exact zE|refine zP ?_|refine zB fun b=>?_|refine zC fun a' c' hc1 hc2=>?_|(apply GJ.a;exact rfl;intro hg)|(apply GJ.o;exact rfl;intro hg)
       refine Wk.id ⟨(c+1,fr,bs,wk,W,ad,cp),⟨rfl,?_⟩,?_,Sub.z,Sup.z⟩
       all_goals try dsimp only
       ·exact ⟨by omega,hsk,c3,c4,c5,c6⟩
       ·omega
    ·obtain rfl:c=256:=by omega
     rw [Nat.sub_self,bfsC] at c3
     rw [←c3] at i2
     repeat first|exact zE|refine zP ?_|refine zB fun b=>?_|refine zC fun a' c' hc1 hc2=>?_|(apply GJ.a;exact rfl;intro hg)|(apply GJ.o;exact rfl;intro hg)
     refine Wk.id ⟨(i+1,fr,bs,wk,W,ad,cp),⟨rfl,?_⟩,?_,Sub.z,Sup.z⟩
     all_goals try dsimp only
     ·exact ⟨c2.next,by rw [show N+1-(i+1)=F by omega];exact i2,by omega,c5,c6⟩
     ·omega
  ·rw [List.getElem?_eq_none (by omega)] at i2
   dsimp only at i2
   subst i2
   repeat first|exact zE|refine zP ?_|refine zB fun b=>?_|refine zC fun a' c' hc1 hc2=>?_|(apply GJ.a;exact rfl;intro hg)|(apply GJ.o;exact rfl;intro hg)
   exact Wk.outS Sup.z (.refl _) (hk0 rfl)
end
theorem any_drop {m:List Bool}{row:List Int}{k:Nat}{z:Int} (h:row[k]?=some z):anyR m (row.drop k)=((decide (0≤z)&&getB m z.toNat)||anyR m (row.drop (k+1))):=by
 obtain ⟨hk,e⟩:=List.getElem?_eq_some_iff.1 h
 rw [List.drop_eq_getElem_cons hk,e];rfl
theorem zM2 {a:DfaA}{s:Nat} (hs:s<a.next.length):(((List.range a.next.length).drop s).all fun s=>!(zAD a (s:Int))||!(anyR (zBt a) (rowA a s)))=((!(zAD a (s:Int))||!(anyR (zBt a) (rowA a s)))&&(((List.range a.next.length).drop (s+1)).all fun s=>!(zAD a (s:Int))||!(anyR (zBt a) (rowA a s)))):=by
 rw [List.drop_eq_getElem_cons (by simpa using hs),List.getElem_range,List.all_cons]
section
variable {ro:Ro}{own r:Chs}{K:Value→Ro→Chs→Prop}{g:Chunk→Chs}
set_option maxHeartbeats 4000000 in
theorem zKJ {q:Nat}{D:DfaA} (hq:DAt ro q D) (hL:zDl D) (hk:K (.bool (prefA D)) ro own):CallOk Tryz.prog 15 #[ptr' q] ro own K:=by
 obtain ⟨an,cn,aa,ca,hsv,hd⟩:=hq.rd
 have hN:=hd.ldN
 have hrs:=hd.rs
 obtain ⟨w,hw6,ho,hs,_,_⟩:=hL.ok
 have hpos:=hL.pos
 have hn:=hL.le
 have hll:=zFE ho
 obtain ⟨P,hP⟩:∃ P,P=prefA D:=⟨_,rfl⟩
 rw [←hP] at hk
 refine CallOk.intro (args:=[_]) (rs:=[_]) T_ok Tryz.func15 Tryz.call15 rfl rfl (by kernel_rfl) rfl rfl ?_
 repeat first|exact zE|refine zP ?_|refine zB fun b=>?_|refine zC fun a' c' hc1 hc2=>?_|(apply GJ.a;exact rfl;intro hg)|(apply GJ.o;exact rfl;intro hg)
 refine aends_ok hq ho hs hn (fun bO=>?_)
 have hlv:=zAV (zBt D)
 repeat first|exact zE|refine zP ?_|refine zB fun b=>?_|refine zC fun a' c' hc1 hc2=>?_|(apply GJ.a;exact rfl;intro hg)|(apply GJ.o;exact rfl;intro hg)
 refine LoopOk.at (ι:=Nat) Keep.z (fun s=>[(11,.int .i64 (s:Int))]) (fun s=>.sl (some ⟨bO,0,none⟩) D.next.length D.next.length 4 1 (zAh (zBt D))::own) (fun s=>s≤D.next.length∧(((List.range D.next.length).drop s).all fun s=>!(zAD D (s:Int))||!(anyR (zBt D) (rowA D s)))=P) (fun s=>D.next.length-s) 0 ?_ Sub.z Sup.z ?_
 ·exact ⟨Nat.zero_le _,by rw [List.drop_zero,hP];rfl⟩
 rintro s ⟨i1,i2⟩
 dsimp only [List.cons_append,List.nil_append] at i1 i2 ⊢
 by_cases hsl:s<D.next.length
 ·rw [zM2 hsl] at i2
  cases he:zAD D (s:Int) with
  | false =>
    rw [he,Bool.not_false,Bool.true_or,Bool.true_and] at i2
    repeat first|exact zE|refine zP ?_|refine zB fun b=>?_|refine zC fun a' c' hc1 hc2=>?_|(apply GJ.a;exact rfl;intro hg)|(apply GJ.o;exact rfl;intro hg)
    refine zCr hq ?_
    rw [he]
    repeat first|exact zE|refine zP ?_|refine zB fun b=>?_|refine zC fun a' c' hc1 hc2=>?_|(apply GJ.a;exact rfl;intro hg)|(apply GJ.o;exact rfl;intro hg)
    refine Wk.id ⟨s+1,⟨rfl,?_⟩,?_,Sub.z,Sup.z⟩
    all_goals try dsimp only
    ·exact ⟨by omega,i2⟩
    ·omega
  | true =>
    rw [he,Bool.not_true,Bool.false_or] at i2
    obtain ⟨row,hrow⟩:∃ row,D.next[s]?=some row:=⟨_,List.getElem?_eq_getElem hsl⟩
    obtain ⟨ar,cr,q1,q2⟩:=hd.rows s row hrow
    rw [zJa hrow] at i2
    have hrl:=q2.le
    have hrm:=q2.max
    unfold maxLen at hrm
    have hml:=List.length_replicate (n:=D.next.length) (a:=true)
    have hb1:=(zL2 (l:=List.replicate D.next.length true) (i:=s) (by omega)).trans (show getB (List.replicate D.next.length true) s=true by unfold getB;rw [List.getElem?_replicate,if_pos hsl];rfl)
    have hmv:=zAV (List.replicate D.next.length true)
    repeat first|exact zE|refine zP ?_|refine zB fun b=>?_|refine zC fun a' c' hc1 hc2=>?_|(apply GJ.a;exact rfl;intro hg)|(apply GJ.o;exact rfl;intro hg)
    refine zCr hq ?_
    rw [he]
    repeat first|exact zE|refine zP ?_|refine zB fun b=>?_|refine zC fun a' c' hc1 hc2=>?_|(apply GJ.a;exact rfl;intro hg)|(apply GJ.o;exact rfl;intro hg)
    refine amet_ok hq hL (fun bM=>?_)
    repeat (first|exact zE|refine zP ?_|refine zB (fun b=>?_)|refine zC (fun a' c' hc1 hc2=>?_))
    rw [hb1]
    repeat first|exact zE|refine zP ?_|refine zB fun b=>?_|refine zC fun a' c' hc1 hc2=>?_|(apply GJ.a;exact rfl;intro hg)|(apply GJ.o;exact rfl;intro hg)
    refine OpOk.load rfl rfl (Go.E.Ld.rs hrs (by rw [Int.toNat_natCast];exact q1)) ?_
    repeat first|exact zE|refine zP ?_|refine zB fun b=>?_|refine zC fun a' c' hc1 hc2=>?_|(apply GJ.a;exact rfl;intro hg)|(apply GJ.o;exact rfl;intro hg)
    refine LoopOk.at (ι:=Nat) Keep.z (fun k=>[(34,.int .i64 (k:Int))]) (fun k=>.sl (some ⟨bO,0,none⟩) D.next.length D.next.length 4 1 (zAh (zBt D))::own) (fun k=>k≤row.length∧anyR (zBt D) (row.drop k)=anyR (zBt D) row) (fun k=>row.length-k) 0 ?_ Sub.z Sup.z ?_
    ·exact ⟨Nat.zero_le _,by rw [List.drop_zero]⟩
    rintro k ⟨k1,k2⟩
    dsimp only [List.cons_append,List.nil_append] at k1 k2 ⊢
    by_cases hkl:k<row.length
    ·obtain ⟨z,hz⟩:∃ z,row[k]?=some z:=⟨_,List.getElem?_eq_getElem hkl⟩
     have hbz:=bang hz
     rw [any_drop hz] at k2
     rcases zIZ ho hrow hz with rfl|⟨u,rfl,hu⟩
     ·rw [decide_eq_false (by omega),Bool.false_and,Bool.false_or] at k2
      repeat (first|exact zE|refine zP ?_|refine zB (fun b=>?_)|refine zC (fun a' c' hc1 hc2=>?_))
      rw [hbz]
      repeat first|exact zE|refine zP ?_|refine zB fun b=>?_|refine zC fun a' c' hc1 hc2=>?_|(apply GJ.a;exact rfl;intro hg)|(apply GJ.o;exact rfl;intro hg)
      refine Wk.id ⟨k+1,⟨rfl,?_⟩,?_,Sub.z,Sup.z⟩
      all_goals try dsimp only
      ·exact ⟨by omega,k2⟩
      ·omega
     ·have hb2:=zL2 (l:=zBt D) (i:=u) (by omega)
      rw [decide_eq_true (by omega),Bool.true_and,Int.toNat_natCast] at k2
      cases hp:getB (zBt D) u with
      | true =>
        rw [hp] at hb2 k2
        rw [Bool.true_or] at k2
        rw [←k2,Bool.not_true,Bool.false_and] at i2
        subst i2
        repeat (first|exact zE|refine zP ?_|refine zB (fun b=>?_)|refine zC (fun a' c' hc1 hc2=>?_))
        rw [hbz]
        repeat first|exact zE|refine zP ?_|refine zB fun b=>?_|refine zC fun a' c' hc1 hc2=>?_|(apply GJ.a;exact rfl;intro hg)|(apply GJ.o;exact rfl;intro hg)
        exact Wk.outS Sup.z (.refl _) hk
      | false =>
        rw [hp] at hb2 k2
        rw [Bool.false_or] at k2
        repeat (first|exact zE|refine zP ?_|refine zB (fun b=>?_)|refine zC (fun a' c' hc1 hc2=>?_))
        rw [hbz]
        repeat (first|exact zE|refine zP ?_|refine zB (fun b=>?_)|refine zC (fun a' c' hc1 hc2=>?_))
        rw [hb2]
        repeat first|exact zE|refine zP ?_|refine zB fun b=>?_|refine zC fun a' c' hc1 hc2=>?_|(apply GJ.a;exact rfl;intro hg)|(apply GJ.o;exact rfl;intro hg)
        refine Wk.id ⟨k+1,⟨rfl,?_⟩,?_,Sub.z,Sup.z⟩
        all_goals try dsimp only
        ·exact ⟨by omega,k2⟩
        ·omega
    ·obtain rfl:k=row.length:=by omega
     rw [List.drop_length] at k2
     rw [←k2] at i2
     rw [show anyR (zBt D) []=false from rfl,Bool.not_false,Bool.true_and] at i2
     repeat first|exact zE|refine zP ?_|refine zB fun b=>?_|refine zC fun a' c' hc1 hc2=>?_|(apply GJ.a;exact rfl;intro hg)|(apply GJ.o;exact rfl;intro hg)
     refine Wk.id ⟨s+1,⟨rfl,?_⟩,?_,Sub.z,Sup.z⟩
     all_goals try dsimp only
     ·exact ⟨by omega,i2⟩
     ·omega
 ·obtain rfl:s=D.next.length:=by omega
  rw [List.drop_eq_nil_of_le (by simp)] at i2
  subst i2
  repeat first|exact zE|refine zP ?_|refine zB fun b=>?_|refine zC fun a' c' hc1 hc2=>?_|(apply GJ.a;exact rfl;intro hg)|(apply GJ.o;exact rfl;intro hg)
  exact Wk.outS Sup.z (.refl _) hk
end
def twoV (p:Nat × Nat):Value:=.agg #[.int .u8 (p.1:Int),.int .u8 (p.2:Int)]
def okT (p:Nat × Nat):Prop:=(Lit.int .u8 (p.1:Int)).wf=true∧(Lit.int .u8 (p.2:Int)).wf=true
def nU (n:Nat):Value:=.int .u8 (n:Int)
theorem okT_of {x y:Nat} (hx:x<256) (hy:y<256):okT (x,y):=by
 have h:∀ z:Nat,z<256→(Lit.int .u8 (z:Int)).wf=true:=fun z hz=>by
  show (decide (IntKind.u8.min≤(z:Int))&&decide ((z:Int)≤IntKind.u8.max))=true
  rw [show IntKind.u8.min=0 by decide,show IntKind.u8.max=255 by decide,decide_eq_true (by omega),decide_eq_true (by omega)]
  rfl
 exact ⟨h x hx,h y hy⟩
theorem zHw (C:List Nat):(clsV C).all (fun u=>u.oneCell')=true:=by rw [List.all_eq_true];intro u hu;obtain ⟨c,_,rfl⟩:=List.mem_map.1 hu;rfl
theorem zLH:KeyEnc Tryz.prog 153 twoV okT:=(KeyEnc.two (q:=.u8) (e:=5) (deep_law_gate (by kernel_rfl) (by decide +kernel) (by decide +kernel) (by kernel_rfl) (by kernel_rfl)) (by kernel_rfl) (by decide +kernel) (by kernel_rfl) (by kernel_rfl) (by kernel_rfl) (by kernel_rfl)).comap (fun p:Nat × Nat=>((p.1:Int),(p.2:Int))) (fun a b h=>Prod.ext (Int.ofNat.inj (Prod.mk.inj h).1) (Int.ofNat.inj (Prod.mk.inj h).2))
theorem zCX {κ:Type} [DecidableEq κ] [b:BEq κ] [LawfulBEq κ] (l:List κ) (x:κ):@List.idxOf? κ instBEqOfDecidableEq x l=l.idxOf? x:=by
 unfold List.idxOf?
 congr 1
 funext y
 rw [Bool.eq_iff_iff]
 exact (@beq_iff_eq κ instBEqOfDecidableEq _ y x).trans beq_iff_eq.symm
section
variable {ro:Ro}{own r:Chs}{K:Value→Ro→Chs→Prop}{g:Chunk→Chs}
set_option maxHeartbeats 8000000 in
theorem zOd {q1 q2 w1 w2:Nat}{A B:DfaA} (h1:DAt ro q1 A) (h2:DAt ro q2 B) (o1:zAt w1 A) (o2:zAt w2 B) (hw1:w1≤256) (hw2:w2≤256)
  (hk:∀ ro' a c,Le ro ro'→Rs ro' a (zCo A B).2.length c 1 (clsV (zCo A B).2)→K (.tuple #[.agg (clsV (zCo A B).1).toArray,.slice a (zCo A B).2.length c]) ro' own):CallOk Tryz.prog 69 #[ptr' q1,ptr' q2] ro own K:=by
 obtain ⟨an,cn,aa,ca,hsv,hd⟩:=h1.rd
 obtain ⟨an2,cn2,aa2,ca2,hsv2,hd2⟩:=h2.rd
 refine CallOk.intro (args:=[_,_]) (rs:=[_,_]) T_ok Tryz.func69 Tryz.call69 rfl rfl (by kernel_rfl) rfl rfl ?_
 obtain ⟨R,hR⟩:∃ R,R=zCn A B 256 0 [] [] []:=⟨_,rfl⟩
 unfold zCo at hk
 rw [←hR] at hk
 repeat first|exact zE|refine zP ?_|refine zB fun b=>?_|refine zC fun a' c' hc1 hc2=>?_|(apply GJ.a;exact rfl;intro hg)|(apply GJ.o;exact rfl;intro hg)
 rename_i bR
 obtain ⟨bO,hbO⟩:∃ z:Nat,z=b:=⟨_,rfl⟩
 subst hbO
 rw [zI9]
 refine OpOk.makeMapG (kv:=twoV) (vv:=nU) (fun bM=>?_)
 repeat first|exact zE|refine zP ?_|refine zB fun b=>?_|refine zC fun a' c' hc1 hc2=>?_|(apply GJ.a;exact rfl;intro hg)|(apply GJ.o;exact rfl;intro hg)
 refine LoopOk.at (ι:=Nat × List (Nat × Nat) × List Nat × List Nat × Option Addr × Nat × List ((Nat × Nat) × Nat × Nat) × Nat) Keep.z (fun (c,seen,out,first,fa,fc,M,cM)=>[(14,.int .i64 (c:Int)),(7,.slice fa first.length fc)]) (fun (c,seen,out,first,fa,fc,M,cM)=>.sl fa first.length fc 5 1 (clsV first)::.obj bM (mapG twoV nU M cM)::.blk bO 79 (clsV (out++List.replicate (256-c) 0))::.blk bR 79 (clsV (List.replicate 256 0))::own) (fun (c,seen,out,first,fa,fc,M,cM)=>c≤256∧zKM A B c seen out first∧zCn A B (256-c) c seen out first=R∧NumM okT seen M∧first.length≤fc∧fc≤maxLen∧first.length≤c) (fun (c,seen,out,first,fa,fc,M,cM)=>256-c) (0,[],[],[],none,0,[],0) ?_ Sub.z Sup.z ?_
 ·exact ⟨Nat.zero_le _,⟨rfl,rfl,fun d hd=>by omega,fun k e h=>by simp at h⟩,hR.symm,NumM.nil,Nat.le_refl _,Nat.zero_le _,Nat.le_refl _⟩
 clear hR
 rintro ⟨c,seen,out,first,fa,fc,M,cM⟩ ⟨i1,i2,i3,i4,i5,i6,i7⟩
 dsimp only [List.cons_append,List.nil_append] at i1 i2 i3 i4 i5 i6 i7 ⊢
 have hol:=i2.olen
 have hfn:=i2.flen
 have hrl:(clsV (out++List.replicate (256-c) 0)).length=256:=by rw [zA0,List.length_append,List.length_replicate];omega
 by_cases hc:c<256
 ·obtain ⟨ha1,ha2⟩:=zI8 o1 hc
  obtain ⟨hb1,hb2⟩:=zI8 o2 hc
  have hCa:=hd.ldC c _ ha2
  have hCb:=hd2.ldC c _ hb2
  repeat first|exact zE|refine zP ?_|refine zB fun b=>?_|refine zC fun a' c' hc1 hc2=>?_|(apply GJ.a;exact rfl;intro hg)|(apply GJ.o;exact rfl;intro hg)
  refine QOk.load rfl rfl (hCa.ldE (by simp)) ?_
  repeat (first|exact zE|refine wkU ?_|(show QOk _ _ _ _ _ _ _;refine QOk.build rfl rfl Nf.auto ?_)|(show GJ _ _ _ _ _ _ _;first|with_reducible refine GJ.neF ?_|with_reducible refine GJ.neT ?_)|(show Br _ _ _;with_reducible refine Br.ne ?_)|refine zB (fun b=>?_)|refine zC (fun a' c' hc1 hc2=>?_)|(apply GJ.a;exact rfl;intro hg)|(apply GJ.o;exact rfl;intro hg))
  refine QOk.load rfl rfl (hCb.ldE (by simp)) ?_
  repeat (first|exact zE|refine wkU ?_|(show QOk _ _ _ _ _ _ _;refine QOk.build rfl rfl Nf.auto ?_)|(show GJ _ _ _ _ _ _ _;first|with_reducible refine GJ.neF ?_|with_reducible refine GJ.neT ?_)|(show Br _ _ _;with_reducible refine Br.ne ?_)|refine zB (fun b=>?_)|refine zC (fun a' c' hc1 hc2=>?_)|(apply GJ.a;exact rfl;intro hg)|(apply GJ.o;exact rfl;intro hg))
  refine QOk.buildK (ps:=[(0,.tmp 22),(1,.tmp 28)]) [.int .u8 (clsA A c:Int),.int .u8 (clsA B c:Int)] rfl (by kernel_rfl) ?_
  repeat (first|exact zE|refine wkU ?_|(show QOk _ _ _ _ _ _ _;refine QOk.build rfl rfl Nf.auto ?_)|(show GJ _ _ _ _ _ _ _;first|with_reducible refine GJ.neF ?_|with_reducible refine GJ.neT ?_)|(show Br _ _ _;with_reducible refine Br.ne ?_)|refine zB (fun b=>?_)|refine zC (fun a' c' hc1 hc2=>?_)|(apply GJ.a;exact rfl;intro hg)|(apply GJ.o;exact rfl;intro hg))
  repeat first|exact zE|refine zP ?_|refine zB fun b=>?_|refine zC fun a' c' hc1 hc2=>?_|(apply GJ.a;exact rfl;intro hg)|(apply GJ.o;exact rfl;intro hg)
  have hkey:keyJ A B c=(clsA A c,clsA B c):=rfl
  have hok:okT (clsA A c,clsA B c):=okT_of (by omega) (by omega)
  have hat:=i4.at' (clsA A c,clsA B c)
  rw [zCX] at hat
  rw [show 256-c=(256-(c+1))+1 by omega,zCn,hkey] at i3
  have hj1:=zFm (a:=A) (b:=B) 1 c seen out first i2
  rw [zCn,hkey] at hj1
  refine OpOk.lookupOkG (kt:=153) (et:=5) (kv:=twoV) (vv:=nU) (k:=(clsA A c,clsA B c)) (z:=.int .u8 0) rfl rfl (by kernel_rfl) zLH i4.map hok (by kernel_rfl) ?_
  rw [hat]
  cases hidx:seen.idxOf? (clsA A c,clsA B c) with
  | some n =>
    rw [hidx] at i3 hj1
    dsimp only at i3 hj1
    rw [zCn] at hj1
    have hnl:=(List.getElem?_eq_some_iff.1 (zHh hidx)).1
    simp only [Option.map_some,Option.getD_some,Option.isSome_some,nU]
    repeat first|exact zE|refine zP ?_|refine zB fun b=>?_|refine zC fun a' c' hc1 hc2=>?_|(apply GJ.a;exact rfl;intro hg)|(apply GJ.o;exact rfl;intro hg)
    refine OpOk.storeAt rfl rfl rfl rfl (by rw [hrl];simp;omega) ?_
    rw [show 0+((c:Nat):Int).toNat*1=c by simp,zHv,zD7 hol hc]
    repeat first|exact zE|refine zP ?_|refine zB fun b=>?_|refine zC fun a' c' hc1 hc2=>?_|(apply GJ.a;exact rfl;intro hg)|(apply GJ.o;exact rfl;intro hg)
    refine Wk.id ⟨(c+1,seen,out++[n],first,fa,fc,M,cM),⟨rfl,?_⟩,?_,Sub.z,Sup.z⟩
    all_goals try dsimp only
    ·exact ⟨by omega,hj1,i3,i4,i5,i6,by omega⟩
    ·omega
  | none =>
    rw [hidx] at i3 hj1
    dsimp only at i3 hj1
    rw [zCn] at hj1
    simp only [Option.map_none,Option.getD_none,Option.isSome_none]
    have hcl:clsV first++[.int .u8 (c:Int)]=clsV (first++[c]):=by simp [clsV]
    have hnl:first.length+1=(first++[c]).length:=by simp
    have hfv:=zA0 first
    repeat first|exact zE|refine zP ?_|refine zB fun b=>?_|refine zC fun a' c' hc1 hc2=>?_|(apply GJ.a;exact rfl;intro hg)|(apply GJ.o;exact rfl;intro hg)
    rw [show ((first.length:Nat):Int) % 256=(seen.length:Int) by omega]
    refine OpOk.mapUpdateG (kt:=153) (et:=5) (kv:=twoV) (vv:=nU) (k:=(clsA A c,clsA B c)) (v:=seen.length) rfl rfl rfl (by kernel_rfl) zLH i4.map hok (fun cM3=>?_)
    have hpu:=i4.push hok (by rw [zCX];exact hidx) cM
    generalize putG M cM (clsA A c,clsA B c) seen.length=M3 at *
    repeat first|exact zE|refine zP ?_|refine zB fun b=>?_|refine zC fun a' c' hc1 hc2=>?_|(apply GJ.a;exact rfl;intro hg)|(apply GJ.o;exact rfl;intro hg)
    rw [show ((c:Nat):Int) % 256=(c:Int) by omega,hcl]
    rw [hnl] at hc1 ⊢
    refine OpOk.storeAt rfl rfl rfl rfl (by rw [hrl];simp;omega) ?_
    rw [show 0+((c:Nat):Int).toNat*1=c by simp,zHv,zD7 hol hc]
    repeat first|exact zE|refine zP ?_|refine zB fun b=>?_|refine zC fun a' c' hc1 hc2=>?_|(apply GJ.a;exact rfl;intro hg)|(apply GJ.o;exact rfl;intro hg)
    refine Wk.id ⟨(c+1,seen++[(clsA A c,clsA B c)],out++[seen.length],first++[c],a',c',M3,cM3),⟨rfl,?_⟩,?_,Sub.z,Sup.z⟩
    all_goals try dsimp only
    ·exact ⟨by omega,hj1,i3,hpu,hc1,hc2,by rw [←hnl];omega⟩
    ·omega
 ·obtain rfl:c=256:=by omega
  rw [Nat.sub_self,zCn] at i3
  rw [←i3] at hk
  dsimp only at hk
  rw [Nat.sub_self,List.replicate_zero,List.append_nil]
  rw [Nat.sub_self,List.replicate_zero,List.append_nil] at hrl
  repeat first|exact zE|refine zP ?_|refine zB fun b=>?_|refine zC fun a' c' hc1 hc2=>?_|(apply GJ.a;exact rfl;intro hg)|(apply GJ.o;exact rfl;intro hg)
  refine OpOk.loadRow rfl rfl LdN.hasBlk hrl ?_
  repeat first|exact zE|refine zP ?_|refine zB fun b=>?_|refine zC fun a' c' hc1 hc2=>?_|(apply GJ.a;exact rfl;intro hg)|(apply GJ.o;exact rfl;intro hg)
  refine OpOk.storeRow rfl rfl rfl hrl (by rw [zA0];simp) (zHw out) ?_
  repeat first|exact zE|refine zP ?_|refine zB fun b=>?_|refine zC fun a' c' hc1 hc2=>?_|(apply GJ.a;exact rfl;intro hg)|(apply GJ.o;exact rfl;intro hg)
  refine RetOk.of (T:=T) (RL.row rfl rfl LdN.hasBlk hrl (RL.tmp rfl RL.nil)) ?_
  refine Wk.freeze (c:=.sl fa _ _ _ _ _) Take.auto (fun ro2 hl2 hc2=>?_)
  exact Wk.outS Sup.z (.refl _) (hk ro2 fa fc hl2 (Rs.last hc2))
end
end Go.Proofs.YtmaennnkaoollaaGreatDoor
end
