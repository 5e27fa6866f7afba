/- Texts of a walk, one behind the other. -/
import Derived.Test.YtficlekgjbnniaaGreatDoorMg8
import Derived.Test.YtficlekgjbnniaaGreatDoorMg9
set_option linter.unusedVariables false
set_option linter.unusedSimpArgs false
set_option linter.unusedSectionVars false
set_option maxRecDepth 10000
section
namespace Go.E
open Go
theorem KeyEnc.comap {P:Program}{kt:TypeId}{κ κ':Type}{kv:κ→Value}{ok:κ→Prop} (E:KeyEnc P kt kv ok) (f:κ'→κ) (hf:∀ a b,f a=f b→a=b):KeyEnc P kt (fun k=>kv (f k)) (fun k=>ok (f k)) where
 check k hk w em:=E.check (f k) hk w em
 search w k hk es he:=E.search w (f k) hk es (fun e h=>by
  obtain ⟨j,h1,h2⟩:=he e h
  exact ⟨f j,h1,h2⟩)
 stays k hk w:=E.stays (f k) hk w
 inj a b h:=hf a b (E.inj _ _ h)
end Go.E
namespace Go.Proofs.YtficlekgjbnniaaGreatDoor
open Go Go.E
theorem anyR_snoc (m:List Bool) (l:List Int) (z:Int):anyR m (l++[z])=(anyR m l||(decide (0≤z)&&getB m z.toNat)):=by
 unfold anyR;rw [List.any_append];simp
theorem cntB_le' (l:List Bool):cntB l≤l.length:=by unfold cntB;exact List.count_le_length
structure MetR (a:DfaA) (m:List Bool) (wk:List Nat) (s k:Nat):Prop where
 len:m.length=a.next.length
 zero:getB m 0=true
 in':∀ t∈wk,t<a.next.length∧getB m t=true
 here:s<a.next.length∧getB m s=true
 closed:∀ t,getB m t=true→t∉wk→t≠s→∀ z∈rowA a t,0≤z→getB m z.toNat=true
 row:∀ z∈(rowA a s).take k,0≤z→getB m z.toNat=true
section
variable {a:DfaA}{m:List Bool}{wk:List Nat}{s k:Nat}
theorem MetD.pop (h:MetD a m (wk++[s])):MetR a m wk s 0 :=
 ⟨h.len,h.zero,fun t ht=>h.in' t (by simp [ht]),h.in' s (by simp),fun t h1 h2 h3=>h.closed t h1 (by simp [h2,h3]),by simp⟩
theorem MetR.fin (h:MetR a m wk s k) (hk:(rowA a s).length≤k):MetD a m wk :=
 ⟨h.len,h.zero,h.in',fun t h1 h2 z hz h0=>by
  by_cases e:t=s
  ·subst e
   exact h.row z (by rw [List.take_of_length_le hk];exact hz) h0
  ·exact h.closed t h1 h2 e z hz h0⟩
theorem MetR.skip (h:MetR a m wk s k) {z:Int} (hz:(rowA a s)[k]?=some z) (hg:0≤z→getB m z.toNat=true):MetR a m wk s (k+1) :=
 ⟨h.len,h.zero,h.in',h.here,h.closed,fun y hy h0=>by
  rw [List.take_add_one,hz,List.mem_append] at hy
  rcases hy with hy|hy
  ·exact h.row y hy h0
  ·simp at hy;subst hy;exact hg h0⟩
theorem MetR.push (h:MetR a m wk s k) {u:Nat} (hz:(rowA a s)[k]?=some (u:Int)) (hu:u<a.next.length):MetR a (m.set u true) (wk++[u]) s (k+1):=by
 have hl:u<m.length:=by rw [h.len];exact hu
 have up:∀ t,getB m t=true→getB (m.set u true) t=true:=fun t ht=>by
  rw [getB_put' hl];split
  ·rfl
  ·exact ht
 refine ⟨by rw [List.length_set,h.len],up 0 h.zero,fun t ht=>?_,⟨h.here.1,up s h.here.2⟩,fun t h1 h2 h3 z hz' h0=>?_,fun y hy h0=>?_⟩
 ·rw [List.mem_append,List.mem_singleton] at ht
  rcases ht with ht|rfl
  ·exact ⟨(h.in' t ht).1,up t (h.in' t ht).2⟩
  ·exact ⟨hu,by rw [getB_put' hl,if_pos rfl]⟩
 ·rw [List.mem_append,List.mem_singleton,not_or] at h2
  rw [getB_put' hl,if_neg h2.2] at h1
  exact up _ (h.closed t h1 h2.1 h3 z hz' h0)
 ·rw [List.take_add_one,hz,List.mem_append] at hy
  rcases hy with hy|hy
  ·exact up _ (h.row y hy h0)
  ·simp at hy;subst hy
   rw [Int.toNat_natCast,getB_put' hl,if_pos rfl]
theorem MetD.start (hp:0<a.next.length):MetD a ((List.replicate a.next.length false).set 0 true) [0]∧cntB ((List.replicate a.next.length false).set 0 true)=1:=by
 have h0:getB (List.replicate a.next.length false) 0=false:=by
  unfold getB;rw [List.getElem?_replicate,if_pos hp];rfl
 have hl:0<(List.replicate a.next.length false).length:=by simpa using hp
 refine ⟨⟨by simp,by rw [getB_put' hl,if_pos rfl],fun s hs=>?_,fun s h1 h2=>?_⟩,?_⟩
 ·rw [List.mem_singleton] at hs;subst hs
  exact ⟨hp,by rw [getB_put' hl,if_pos rfl]⟩
 ·rw [List.mem_singleton] at h2
  rw [getB_put' hl,if_neg h2] at h1
  unfold getB at h1
  rw [List.getElem?_replicate] at h1
  split at h1<;>cases h1
 ·rw [cntB_put' hl h0]
  unfold cntB
  rw [List.count_replicate];simp
end
structure NumM {κ:Type} [DecidableEq κ] (ok:κ→Prop) (seen:List κ) (M:List (κ × Nat × Nat)):Prop where
 map:MapOk ok M
 at':∀ k,getG M k=seen.idxOf? k
section
variable {κ:Type} [DecidableEq κ] {ok:κ→Prop}{seen:List κ}{M:List (κ × Nat × Nat)}
theorem NumM.nil:NumM ok ([]:List κ) []:=⟨MapOk.nil,fun k=>rfl⟩
theorem idxG_snoc (s:List κ) (l x:κ):(s++[l]).idxOf? x=(s.idxOf? x).or (if x=l then some s.length else none):=by
 unfold List.idxOf?
 rw [List.findIdx?_append,List.findIdx?_cons]
 by_cases e:x=l
 ·subst e;simp
 ·have:(l == x)=false:=by simpa using fun h=>e h.symm
  rw [this,if_neg e];simp
theorem NumM.push (h:NumM ok seen M) {k:κ} (hk:ok k) (hn:seen.idxOf? k=none) (c:Nat):NumM ok (seen++[k]) (putG M c k seen.length):=by
 refine ⟨h.map.put hk c _,fun x=>?_⟩
 rw [getG_putG,idxG_snoc]
 by_cases e:x=k
 ·subst e
  rw [if_pos rfl,hn,if_pos rfl];rfl
 ·rw [if_neg e,h.at' x,if_neg e]
  cases seen.idxOf? x<;>rfl
end
theorem put_keys {κ ν:Type} [DecidableEq κ]:∀ {l:List (κ × ν × Nat)}{c:Nat}{k:κ}{v:ν}{z:κ},z∈(putG l c k v).map (·.1)↔z=k∨z∈l.map (·.1)
 | [],c,k,v,z=>by simp [putG]
 | p::r,c,k,v,z=>by
   rw [putG]
   split
   ·rename_i e
    simp [e]
   ·rw [List.map_cons,List.mem_cons,put_keys,List.map_cons,List.mem_cons]
    constructor
    ·rintro (h|h|h)
     ·exact .inr (.inl h)
     ·exact .inl h
     ·exact .inr (.inr h)
    ·rintro (h|h|h)
     ·exact .inr (.inl h)
     ·exact .inl h
     ·exact .inr (.inr h)
structure LvM (a:DfaA) (now:List Bool) (M:List (Int × Bool × Nat)) (c:Nat):Prop where
 map:MapOk (fun _=>True) M
 born:BornOk M c
 keys:∀ z:Int,z∈M.map (·.1)↔0≤z∧z.toNat<a.next.length∧getB now z.toNat=true
structure LvR (a:DfaA) (S:List (Int × Bool × Nat)) (s:Int) (k:Nat) (N:List (Int × Bool × Nat)) (c:Nat):Prop where
 map:MapOk (fun _=>True) N
 born:BornOk N c
 keys:∀ z:Int,z∈N.map (·.1)↔0≤z∧getB (liveA a) z.toNat=true∧((∃ p∈S,z∈rowA a p.1.toNat)∨z∈(rowA a s.toNat).take k)
section
variable {w:Nat}{a:DfaA}{now:List Bool}{M N S:List (Int × Bool × Nat)}{c c' k:Nat}{s:Int}
theorem LvR.nil (a:DfaA):LvR a [] 0 0 [] 0:=⟨MapOk.nil,BornOk.nil,fun z=>by simp⟩
theorem LvR.into (h:LvR a S 0 0 N c) (s:Int):LvR a S s 0 N c:=⟨h.map,h.born,fun z=>by rw [h.keys];simp⟩
theorem LvR.out (h:LvR a S s k N c) {p:Int × Bool × Nat} (hp:p.1=s) (hk:(rowA a s.toNat).length≤k):LvR a (S++[p]) 0 0 N c:=⟨h.map,h.born,fun z=>by
 rw [h.keys,List.take_of_length_le hk]
 subst hp
 simp only [List.take_zero,List.not_mem_nil,or_false,List.mem_append,List.mem_singleton]
 constructor
 ·rintro ⟨h1,h2,⟨q,h3,h4⟩|h3⟩
  ·exact ⟨h1,h2,q,.inl h3,h4⟩
  ·exact ⟨h1,h2,p,.inr rfl,h3⟩
 ·rintro ⟨h1,h2,q,h3|rfl,h4⟩
  ·exact ⟨h1,h2,.inl ⟨q,h3,h4⟩⟩
  ·exact ⟨h1,h2,.inr h4⟩⟩
theorem LvR.skip (h:LvR a S s k N c) {z:Int} (hz:(rowA a s.toNat)[k]?=some z) (hg:¬(0≤z∧getB (liveA a) z.toNat=true)):LvR a S s (k+1) N c:=⟨h.map,h.born,fun y=>by
 rw [h.keys,List.take_add_one,hz]
 constructor
 ·rintro ⟨h1,h2,h3⟩
  refine ⟨h1,h2,h3.imp id (fun h=>?_)⟩
  rw [List.mem_append];exact .inl h
 ·rintro ⟨h1,h2,h3⟩
  refine ⟨h1,h2,?_⟩
  rcases h3 with h3|h3
  ·exact .inl h3
  ·rw [List.mem_append] at h3
   rcases h3 with h3|h3
   ·exact .inr h3
   ·simp at h3;subst h3;exact absurd ⟨h1,h2⟩ hg⟩
theorem LvR.put (h:LvR a S s k N c) {z:Int} (hz:(rowA a s.toNat)[k]?=some z) (h0:0≤z) (hg:getB (liveA a) z.toNat=true) {c':Nat}{v:Bool} (hb:BornOk (putG N c z v) c'):LvR a S s (k+1) (putG N c z v) c':=⟨h.map.put trivial c v,hb,fun y=>by
 rw [put_keys,h.keys,List.take_add_one,hz]
 constructor
 ·rintro (rfl|⟨h1,h2,h3⟩)
  ·exact ⟨h0,hg,.inr (by simp)⟩
  ·refine ⟨h1,h2,h3.imp id (fun h=>?_)⟩
   rw [List.mem_append];exact .inl h
 ·rintro ⟨h1,h2,h3⟩
  rcases h3 with h3|h3
  ·exact .inr ⟨h1,h2,.inl h3⟩
  ·rw [List.mem_append] at h3
   rcases h3 with h3|h3
   ·exact .inr ⟨h1,h2,.inr h3⟩
   ·simp at h3;exact .inl h3⟩
theorem nextV_get (a:DfaA) (now:List Bool) (t:Nat):getB (nextV a now) t=true↔t<a.next.length∧getB (liveA a) t=true∧∃ s,s<a.next.length∧getB now s=true∧(t:Int)∈rowA a s:=by
 unfold nextV getB
 rw [List.getElem?_map]
 by_cases ht:t<a.next.length
 ·rw [List.getElem?_range ht,Option.map_some,Option.getD_some]
  simp only [Bool.and_eq_true,List.any_eq_true,List.mem_range,decide_eq_true_eq]
  constructor
  ·rintro ⟨h1,s,h2,h3,z,h4,rfl⟩
   exact ⟨ht,h1,s,h2,h3,h4⟩
  ·rintro ⟨_,h1,s,h2,h3,h4⟩
   exact ⟨h1,s,h2,h3,_,h4,rfl⟩
 ·rw [List.getElem?_eq_none (by simpa using ht)]
  simp [ht]
theorem LvR.fin (ho:DfaOk w a) (h:LvR a S 0 0 N c) (hM:LvM a now M c') (hS:∀ p,p∈S↔p∈M):LvM a (nextV a now) N c:=⟨h.map,h.born,fun z=>by
 rw [h.keys]
 constructor
 ·rintro ⟨h1,h2,⟨p,h3,h4⟩|h3⟩
  ·have hk:=(hM.keys p.1).1 (List.mem_map.2 ⟨p,(hS p).1 h3,rfl⟩)
   have hzl:z.toNat<a.next.length:=by
    have hg:=getB_lt h2
    rwa [liveA_len ho] at hg
   refine ⟨h1,hzl,(nextV_get a now _).2 ⟨hzl,h2,p.1.toNat,hk.2.1,hk.2.2,?_⟩⟩
   rwa [Int.toNat_of_nonneg h1]
  ·simp at h3
 ·rintro ⟨h1,h2,h3⟩
  obtain ⟨q1,q2,s,q3,q4,q5⟩:=(nextV_get a now _).1 h3
  have hk:=(hM.keys (s:Int)).2 ⟨by omega,by rwa [Int.toNat_natCast],by rwa [Int.toNat_natCast]⟩
  obtain ⟨p,hp,e⟩:=List.mem_map.1 hk
  refine ⟨h1,q2,.inl ⟨p,(hS p).2 hp,?_⟩⟩
  rw [e,Int.toNat_natCast]
  rwa [Int.toNat_of_nonneg h1] at q5⟩
theorem LvM.empty (hl:now.length=a.next.length) (h:LvM a now M c):M.length=0↔now.any id=false:=by
 constructor
 ·intro h0
  have hM:M=[]:=List.eq_nil_of_length_eq_zero h0
  rw [List.any_eq_false]
  intro b hb hb2
  obtain ⟨i,hi,e⟩:=List.getElem_of_mem hb
  have:=(h.keys (i:Int)).2 ⟨by omega,by rw [Int.toNat_natCast];omega,by
   unfold getB;rw [Int.toNat_natCast,List.getElem?_eq_getElem hi,e];exact hb2⟩
  rw [hM] at this;simp at this
 ·intro h0
  cases hM:M with
  | nil=>rfl
  | cons p r =>
    have:=(h.keys p.1).1 (by rw [hM];simp)
    rw [List.any_eq_false] at h0
    have hg:=this.2.2
    unfold getB at hg
    rw [List.getElem?_eq_getElem (by omega),Option.getD_some] at hg
    exact absurd hg (h0 _ (List.getElem_mem _))
theorem endV_fin (hM:LvM a now M c) (hS:∀ p,p∈S↔p∈M):(S.any fun p=>endsA a p.1)=endV a now:=by
 rw [Bool.eq_iff_iff]
 unfold endV
 simp only [List.any_eq_true,List.mem_range,Bool.and_eq_true]
 constructor
 ·rintro ⟨p,hp,he⟩
  have hk:=(hM.keys p.1).1 (List.mem_map.2 ⟨p,(hS p).1 hp,rfl⟩)
  exact ⟨p.1.toNat,hk.2.1,hk.2.2,by rwa [Int.toNat_of_nonneg hk.1]⟩
 ·rintro ⟨s,h1,h2,h3⟩
  have hk:=(hM.keys (s:Int)).2 ⟨by omega,by rwa [Int.toNat_natCast],by rwa [Int.toNat_natCast]⟩
  obtain ⟨p,hp,e⟩:=List.mem_map.1 hk
  exact ⟨p,(hS p).2 hp,by rw [e];exact h3⟩
theorem LvM.start (hp:0<a.next.length) (c:Nat) (hb:BornOk (putG [] c (0:Int) true) c'):LvM a ((List.replicate a.next.length false).set 0 true) (putG [] c 0 true) c' :=
 ⟨MapOk.nil.put trivial c true,hb,fun z=>by
  rw [put_keys]
  have hl:0<(List.replicate a.next.length false).length:=by simpa using hp
  rw [getB_put' hl]
  constructor
  ·rintro (rfl|h)
   ·exact ⟨Int.le_refl _,hp,by rw [show Int.toNat 0=0 from rfl,if_pos rfl]⟩
   ·simp at h
  ·rintro ⟨h1,h2,h3⟩
   split at h3
   ·left;omega
   ·unfold getB at h3
    rw [List.getElem?_replicate] at h3
    split at h3<;>cases h3⟩
theorem nextV_len (a:DfaA) (now:List Bool):(nextV a now).length=a.next.length:=by simp [nextV]
end
theorem key_byte (n:Nat):(Value.int .u8 ((n % 256:Nat):Int))=u8 (UInt8.ofNat n):=by unfold u8;rw [UInt8.toNat_ofNat']
section
variable {ro:Ro}{own r:Chs}{K:Value→Ro→Chs→Prop}{g:Chunk→Chs}
theorem key_ok {a:Option Addr}{n c:Nat}{l:List Int} (hr:Rds ro own a n c 1 (l.map (Value.int .i64))) (hl:l.length=n) (hn:n≤1000000) (ha:AdmK l) (hk:K (str (keyT l)) ro own):CallOk Tryz.prog 62 #[.slice a n c] ro own K:=by
 subst hl
 have hm:=hr.max
 have hle:=hr.le
 unfold maxLen at hm
 refine CallOk.intro (args:=[_]) (rs:=[_]) T_ok Tryz.func62 Tryz.call62 rfl rfl (by kernel_rfl) rfl rfl ?_
 repeat first|exact zE|refine zP ?_|refine zB fun b=>?_|refine zC fun a' c' hc1 hc2=>?_|(apply GJ.a;exact rfl;intro hg)|(apply GJ.o;exact rfl;intro hg)
 refine LoopOk.at (ι:=Nat × Option Addr × Nat) Keep.z (fun (i,ab,cb)=>[(12,.int .i64 (i:Int)),(3,.slice ab (2*i) cb)]) (fun (i,ab,cb)=>.sl ab (2*i) cb 5 1 ((keyT (l.take i)).map u8)::own) (fun (i,ab,cb)=>i≤l.length∧2*i≤cb∧cb≤maxLen) (fun (i,ab,cb)=>l.length-i) (0,some ⟨b,0,none⟩,2*l.length) ?_ Sub.z Sup.z ?_
 ·exact ⟨Nat.zero_le _,Nat.zero_le _,by unfold maxLen;omega⟩
 rintro ⟨i,ab,cb⟩ ⟨i1,i2,i3⟩
 dsimp only [List.cons_append,List.nil_append] at i1 i2 i3 ⊢
 by_cases hi:i<l.length
 ·obtain ⟨z,hz⟩:∃ z,l[i]?=some z:=⟨_,List.getElem?_eq_getElem hi⟩
  have hzb:l[((i:Nat):Int).toNat]! = z:=by rw [Int.toNat_natCast,List.getElem!_eq_getElem?_getD,hz];rfl
  have hza:=ha z (List.mem_of_getElem? hz)
  have htk:l.take (i+1)=l.take i++[z]:=by rw [List.take_add_one,hz];rfl
  have hkl:(keyT (l.take i)).length=2*i:=by rw [keyT_len,List.length_take];omega
  repeat first|exact zE|refine zP ?_|refine zB fun b=>?_|refine zC fun a' c' hc1 hc2=>?_|(apply GJ.a;exact rfl;intro hg)|(apply GJ.o;exact rfl;intro hg)
  have hap:((keyT (l.take i)).map u8)++[.int .u8 (l[(i:Int).toNat]! / 2 ^ Int.toNat 8 % 256),.int .u8 (l[(i:Int).toNat]! % 256)]=(keyT (l.take (i+1))).map u8:=by
   obtain ⟨z,rfl⟩:∃ k:Nat,z=(k:Int):=⟨z.toNat,by omega⟩
   rw [htk,keyT_snoc,List.map_append,hzb]
   have e1:Value.int .u8 ((z:Int) / 2 ^ Int.toNat 8 % 256)=u8 (UInt8.ofNat ((z:Int).toNat / 256)):=by rw [←key_byte];rfl
   have e2:Value.int .u8 ((z:Int) % 256)=u8 (UInt8.ofNat (z:Int).toNat):=by rw [←key_byte];rfl
   rw [e1,e2];rfl
  rw [hap,show 2*i+2=2*(i+1) by omega]
  rw [show 2*i+2=2*(i+1) by omega] at hc1
  repeat first|exact zE|refine zP ?_|refine zB fun b=>?_|refine zC fun a' c' hc1 hc2=>?_|(apply GJ.a;exact rfl;intro hg)|(apply GJ.o;exact rfl;intro hg)
  refine Wk.id ⟨(i+1,a',c'),⟨rfl,?_⟩,?_,Sub.z,Sup.z⟩
  all_goals try dsimp only
  ·exact ⟨by omega,hc1,hc2⟩
  ·omega
 ·obtain rfl:i=l.length:=by omega
  rw [List.take_length] at *
  have hkl:=keyT_len l
  repeat first|exact zE|refine zP ?_|refine zB fun b=>?_|refine zC fun a' c' hc1 hc2=>?_|(apply GJ.a;exact rfl;intro hg)|(apply GJ.o;exact rfl;intro hg)
  exact Wk.outS Sup.z (.refl _) hk
end
structure AlvI (d:DfaA) (m0 m:List Bool) (ch:Bool) (P:Nat→Int→Prop):Prop where
 len:m.length=d.next.length
 acc:∀ i,getB d.acc i=true→getB m i=true
 live:∀ i,getB m i=true→getB (liveA d) i=true
 same:ch=false→m=m0
 less:ch=true→m.count false<m0.count false
 cl:ch=false→∀ s z,P s z→0≤z→getB m z.toNat=true→getB m s=true
theorem getB_some {m:List Bool}{i:Nat}{q:Bool} (h:m[i]?=some q):getB m i=q:=by unfold getB;rw [h];rfl
theorem getB_set {m:List Bool}{i j:Nat} (hi:i<m.length):getB (m.set i true) j=if j=i then true else getB m j:=by
 unfold getB
 by_cases e:j=i
 ·subst e;rw [List.getElem?_set_self hi,if_pos rfl];rfl
 ·rw [List.getElem?_set_ne (fun h=>e h.symm),if_neg e]
theorem AlvI.skip {d:DfaA}{m0 m:List Bool}{ch:Bool}{P Q:Nat→Int→Prop} (h:AlvI d m0 m ch P) (hq:ch=false→∀ s z,Q s z→P s z∨(0≤z→getB m z.toNat=true→getB m s=true)):AlvI d m0 m ch Q :=
 ⟨h.len,h.acc,h.live,h.same,h.less,fun hc s z hs h0 hz=>(hq hc s z hs).elim (fun h1=>h.cl hc s z h1 h0 hz) (fun h1=>h1 h0 hz)⟩
theorem AlvI.put {w:Nat}{d:DfaA}{m0 m:List Bool}{ch:Bool}{P Q:Nat→Int→Prop}{i:Nat}{z:Int} (ho:DfaOk w d) (h:AlvI d m0 m ch P) (hz:z∈d.next[i]?.getD []) (h0:0≤z) (hmz:getB m z.toNat=true) (hi:m[i]?=some false):AlvI d m0 (m.set i true) true Q:=by
 have hil:=(List.getElem?_eq_some_iff.1 hi).1
 refine ⟨by rw [List.length_set,h.len],fun j hj=>?_,fun j hj=>?_,(fun e=>by cases e),fun _=>?_,(fun e=>by cases e)⟩
 ·rw [getB_set hil]
  split
  ·rfl
  ·exact h.acc j hj
 ·rw [getB_set hil] at hj
  by_cases e:j=i
  ·subst e
   exact liveA_closed ho j z hz h0 (h.live _ hmz)
  ·rw [if_neg e] at hj;exact h.live j hj
 ·have:=count_set m i hi
  cases ch with
  | true=>have:=h.less rfl;omega
  | false=>have:=h.same rfl;subst this;omega
section
variable {ro:Ro}{own r:Chs}{K:Value→Ro→Chs→Prop}{g:Chunk→Chs}
theorem cloneB_ok {a:Option Addr}{n c:Nat}{cs:List Value} (hr:Rs ro a n c 1 cs) (h1:∀ u∈cs,u.oneCell'=true) (hn:n≤100000000) (hk:∀ a' c',n≤c'→c'≤maxLen→K (.slice a' n c') ro (.sl a' n c' 4 1 cs::own)) :
  CallOk Tryz.prog 79 #[.slice a n c] ro own K:=by
 have hln:=hr.len
 have hle:=hr.le
 refine CallOk.given (fun hsat=>?_)
 refine CallOk.intro (args:=[_]) (rs:=[_]) T_ok Tryz.func79 Tryz.call79 rfl rfl (by kernel_rfl) rfl rfl ?_
 repeat (first|exact zE|refine wkG ?_|refine zB (fun b=>?_)|refine zC (fun a' c' hc1 hc2=>?_)|(show GJ _ _ _ _ _ _ _;first|(apply GJ.a;exact rfl;intro hg)|(apply GJ.o;exact rfl;intro hg)|refine GJ.t omAuto ?_|refine GJ.f omAuto ?_|refine GJ.ft omAuto ?_|refine GJ.ff omAuto ?_))
 refine Br.cases (fun hc=>?_) (fun hc=>?_)
 ·subst hc
  have hn0:=hr.nilN hsat
  subst hn0
  obtain rfl:cs=[]:=List.eq_nil_of_length_eq_zero (by omega)
  repeat (first|exact zE|refine wkG ?_|refine zB (fun b=>?_)|refine zC (fun a' c' hc1 hc2=>?_)|(show GJ _ _ _ _ _ _ _;first|(apply GJ.a;exact rfl;intro hg)|(apply GJ.o;exact rfl;intro hg)|refine GJ.t omAuto ?_|refine GJ.f omAuto ?_|refine GJ.ft omAuto ?_|refine GJ.ff omAuto ?_))
  exact Wk.outS (Sup.nilc (Sup.all _)) (.refl _) (hk none 0 (Nat.le_refl _) (Nat.zero_le _))
 ·repeat (first|exact zE|refine wkG ?_|refine zB (fun b=>?_)|refine zC (fun a' c' hc1 hc2=>?_)|(show GJ _ _ _ _ _ _ _;first|(apply GJ.a;exact rfl;intro hg)|(apply GJ.o;exact rfl;intro hg)|refine GJ.t omAuto ?_|refine GJ.f omAuto ?_|refine GJ.ft omAuto ?_|refine GJ.ff omAuto ?_))
  exact Wk.id (hk _ _ (by omega) (by omega))
set_option maxHeartbeats 4000000 in
theorem dalive_ok {q w:Nat}{d:DfaA} (hD:DAt ro q d) (ho:DfaOk w d) (hn:d.next.length≤4096)
  (hk:∀ a c,d.next.length≤c→c≤maxLen→K (.slice a d.next.length c) ro (.sl a d.next.length c 4 1 (boolsV (liveA d))::own)):CallOk Tryz.prog 65 #[ptr' q] ro own K:=by
 obtain ⟨an,cn,aa,ca,hs,hd⟩:=hD.rd
 have hN:=hd.ldN
 have hA:=hd.ldA
 have hrs:=hd.rs
 have hal:=ho.acc
 have hcm:=hrs.max
 have hcl:=hrs.le
 unfold maxLen at hcm
 refine CallOk.intro (args:=[_]) (rs:=[_]) T_ok Tryz.func65 Tryz.call65 rfl rfl (by kernel_rfl) rfl rfl ?_
 repeat first|exact zE|refine zP ?_|refine zB fun b=>?_|refine zC fun a' c' hc1 hc2=>?_|(apply GJ.a;exact rfl;intro hg)|(apply GJ.o;exact rfl;intro hg)
 refine cloneB_ok hd.ra (fun u hu=>by obtain ⟨b,_,rfl⟩:=List.mem_map.1 hu;rfl) (by omega) (fun ao co h1 h2=>?_)
 rw [hal] at h1 ⊢
 repeat first|exact zE|refine zP ?_|refine zB fun b=>?_|refine zC fun a' c' hc1 hc2=>?_|(apply GJ.a;exact rfl;intro hg)|(apply GJ.o;exact rfl;intro hg)
 refine LoopOk.at (ι:=List Bool × Bool) Keep.z (fun (m,ch)=>[(4,.bool ch)]) (fun (m,ch)=>.sl ao d.next.length co 4 1 (boolsV m)::own) (fun (m,ch)=>m.length=d.next.length∧(∀ i,getB d.acc i=true→getB m i=true)∧(∀ i,getB m i=true→getB (liveA d) i=true)∧(ch=false→ClosedA d m)) (fun (m,ch)=>2*m.count false+(if ch then 1 else 0)) (d.acc,true) ?_ Sub.z Sup.z ?_
 ·exact ⟨hal,fun _ h=>h,liveA_acc ho,(fun e=>by cases e)⟩
 rintro ⟨m,ch⟩ ⟨j1,j2,j3,j4⟩
 dsimp only [List.cons_append,List.nil_append] at j1 j2 j3 j4 ⊢
 cases ch with
 | false =>
   have hfin:=alive_fin ho j1 j2 j3 (j4 rfl)
   subst hfin
   repeat first|exact zE|refine zP ?_|refine zB fun b=>?_|refine zC fun a' c' hc1 hc2=>?_|(apply GJ.a;exact rfl;intro hg)|(apply GJ.o;exact rfl;intro hg)
   exact Wk.id (hk _ _ h1 h2)
 | true =>
   repeat first|exact zE|refine zP ?_|refine zB fun b=>?_|refine zC fun a' c' hc1 hc2=>?_|(apply GJ.a;exact rfl;intro hg)|(apply GJ.o;exact rfl;intro hg)
   refine LoopOk.at (ι:=Nat × List Bool × Bool) Keep.z (fun (i,m',ch)=>[(20,.int .i64 (i:Int)),(4,.bool ch)]) (fun (i,m',ch)=>.sl ao d.next.length co 4 1 (boolsV m')::own) (fun (i,m',ch)=>i≤d.next.length∧AlvI d m m' ch (fun s z=>s<i∧z∈d.next[s]?.getD [])) (fun (i,m',ch)=>d.next.length-i) (0,m,false) ?_ Sub.z Sup.z ?_
   ·exact ⟨Nat.zero_le _,j1,j2,j3,fun _=>rfl,fun e=>(by cases e),fun _ s z h=>absurd h.1 (Nat.not_lt_zero _)⟩
   rintro ⟨i,m',ch⟩ ⟨i1,i2⟩
   dsimp only [List.cons_append,List.nil_append] at i1 i2 ⊢
   by_cases hi:i<d.next.length
   ·obtain ⟨row,hrow⟩:∃ row,d.next[i]?=some row:=⟨_,List.getElem?_eq_getElem hi⟩
    obtain ⟨ar,cr,q1,q2⟩:=hd.rows i row hrow
    have hrm:=q2.max
    have hrl:=q2.le
    unfold maxLen at hrm
    repeat first|exact zE|refine zP ?_|refine zB fun b=>?_|refine zC fun a' c' hc1 hc2=>?_|(apply GJ.a;exact rfl;intro hg)|(apply GJ.o;exact rfl;intro hg)
    refine OpOk.load rfl rfl (Go.E.Ld.rs hrs (by rw [Int.toNat_natCast];exact q1)) ?_
    repeat first|exact zE|refine zP ?_|refine zB fun b=>?_|refine zC fun a' c' hc1 hc2=>?_|(apply GJ.a;exact rfl;intro hg)|(apply GJ.o;exact rfl;intro hg)
    refine LoopOk.at (ι:=Nat × List Bool × Bool) Keep.z (fun (j,m',ch)=>[(27,.int .i64 (j:Int)),(4,.bool ch)]) (fun (j,m',ch)=>.sl ao d.next.length co 4 1 (boolsV m')::own) (fun (j,m',ch)=>j≤row.length∧AlvI d m m' ch (fun s z=>(s<i∧z∈d.next[s]?.getD [])∨(s=i∧z∈row.take j))) (fun (j,m',ch)=>row.length-j) (0,m',ch) ?_ Sub.z Sup.z ?_
    ·exact ⟨Nat.zero_le _,i2.skip fun _ s z h=>.inl (h.elim id fun h=>by simp at h)⟩
    clear i2
    rintro ⟨j,m',ch⟩ ⟨k1,k2⟩
    dsimp only [List.cons_append,List.nil_append] at k1 k2 ⊢
    by_cases hj:j<row.length
    ·obtain ⟨z,hz⟩:∃ z,row[j]?=some z:=⟨_,List.getElem?_eq_getElem hj⟩
     have hzr:row[((j:Nat):Int).toNat]! = z:=by rw [Int.toNat_natCast,List.getElem!_eq_getElem?_getD,hz];rfl
     have hzto:=ho.to row (List.mem_of_getElem? hrow) z (List.mem_of_getElem? hz)
     have htk:row.take (j+1)=row.take j++[z]:=by rw [List.take_add_one,hz];rfl
     obtain ⟨p,hp⟩:∃ p,m'[i]?=some p:=⟨_,List.getElem?_eq_getElem (by rw [k2.len];exact hi)⟩
     have hgp:(boolsV m')[i]?=some (.bool p):=by simp [boolsV,hp]
     have hnx:(0≤z→getB m' z.toNat=true→getB m' i=true)→AlvI d m m' ch (fun s y=>(s<i∧y∈d.next[s]?.getD [])∨(s=i∧y∈row.take (j+1))):=fun hh=>k2.skip fun _ s y h=>by
      rcases h with h|⟨h,h2⟩
      ·exact .inl (.inl h)
      ·rw [htk,List.mem_append,List.mem_singleton] at h2
       rcases h2 with h2|rfl
       ·exact .inl (.inr ⟨h,h2⟩)
       ·subst h;exact .inr hh
     cases p with
     | true =>
       repeat first|exact zE|refine zP ?_|refine zB fun b=>?_|refine zC fun a' c' hc1 hc2=>?_|(apply GJ.a;exact rfl;intro hg)|(apply GJ.o;exact rfl;intro hg)
       refine OpOk.load rfl rfl (Ld.slAt' (k:=i) (by rw [Int.toNat_natCast]) hgp) ?_
       repeat first|exact zE|refine zP ?_|refine zB fun b=>?_|refine zC fun a' c' hc1 hc2=>?_|(apply GJ.a;exact rfl;intro hg)|(apply GJ.o;exact rfl;intro hg)
       repeat first|exact zE|refine zP ?_|refine zB fun b=>?_|refine zC fun a' c' hc1 hc2=>?_|(apply GJ.a;exact rfl;intro hg)|(apply GJ.o;exact rfl;intro hg)
       refine Wk.id ⟨(j+1,m',ch),⟨rfl,?_⟩,?_,Sub.z,Sup.z⟩
       all_goals try dsimp only
       ·exact ⟨by omega,hnx (fun _ _=>getB_some hp)⟩
       ·omega
     | false =>
       by_cases hz0:z<0
       ·repeat first|exact zE|refine zP ?_|refine zB fun b=>?_|refine zC fun a' c' hc1 hc2=>?_|(apply GJ.a;exact rfl;intro hg)|(apply GJ.o;exact rfl;intro hg)
        refine OpOk.load rfl rfl (Ld.slAt' (k:=i) (by rw [Int.toNat_natCast]) hgp) ?_
        repeat first|exact zE|refine zP ?_|refine zB fun b=>?_|refine zC fun a' c' hc1 hc2=>?_|(apply GJ.a;exact rfl;intro hg)|(apply GJ.o;exact rfl;intro hg)
        repeat first|exact zE|refine zP ?_|refine zB fun b=>?_|refine zC fun a' c' hc1 hc2=>?_|(apply GJ.a;exact rfl;intro hg)|(apply GJ.o;exact rfl;intro hg)
        refine Wk.id ⟨(j+1,m',ch),⟨rfl,?_⟩,?_,Sub.z,Sup.z⟩
        all_goals try dsimp only
        ·exact ⟨by omega,hnx (fun h=>by omega)⟩
        ·omega
       obtain ⟨u,rfl⟩:∃ u:Nat,z=(u:Int):=⟨z.toNat,by omega⟩
       obtain ⟨p2,hp2⟩:∃ p,m'[u]?=some p:=⟨_,List.getElem?_eq_getElem (by rw [k2.len];omega)⟩
       have hgp2:(boolsV m')[u]?=some (.bool p2):=by simp [boolsV,hp2]
       have hlm:=(boolsV_len m').trans k2.len
       cases p2 with
       | false =>
         repeat first|exact zE|refine zP ?_|refine zB fun b=>?_|refine zC fun a' c' hc1 hc2=>?_|(apply GJ.a;exact rfl;intro hg)|(apply GJ.o;exact rfl;intro hg)
         refine OpOk.load rfl rfl (Ld.slAt' (k:=i) (by rw [Int.toNat_natCast]) hgp) ?_
         repeat first|exact zE|refine zP ?_|refine zB fun b=>?_|refine zC fun a' c' hc1 hc2=>?_|(apply GJ.a;exact rfl;intro hg)|(apply GJ.o;exact rfl;intro hg)
         refine OpOk.load rfl rfl (Ld.slAt' (k:=u) (by rw [hzr];rfl) hgp2) ?_
         repeat first|exact zE|refine zP ?_|refine zB fun b=>?_|refine zC fun a' c' hc1 hc2=>?_|(apply GJ.a;exact rfl;intro hg)|(apply GJ.o;exact rfl;intro hg)
         repeat first|exact zE|refine zP ?_|refine zB fun b=>?_|refine zC fun a' c' hc1 hc2=>?_|(apply GJ.a;exact rfl;intro hg)|(apply GJ.o;exact rfl;intro hg)
         refine Wk.id ⟨(j+1,m',ch),⟨rfl,?_⟩,?_,Sub.z,Sup.z⟩
         all_goals try dsimp only
         ·exact ⟨by omega,hnx (fun _ h=>by rw [Int.toNat_natCast,getB_some hp2] at h;cases h)⟩
         ·omega
       | true =>
         have hpu:=k2.put (Q:=fun s y=>(s<i∧y∈d.next[s]?.getD [])∨(s=i∧y∈row.take (j+1))) ho (i:=i) (z:=(u:Int)) (by rw [hrow];exact List.mem_of_getElem? hz) (by omega) (by rw [Int.toNat_natCast];exact getB_some hp2) hp
         repeat first|exact zE|refine zP ?_|refine zB fun b=>?_|refine zC fun a' c' hc1 hc2=>?_|(apply GJ.a;exact rfl;intro hg)|(apply GJ.o;exact rfl;intro hg)
         refine OpOk.load rfl rfl (Ld.slAt' (k:=i) (by rw [Int.toNat_natCast]) hgp) ?_
         repeat first|exact zE|refine zP ?_|refine zB fun b=>?_|refine zC fun a' c' hc1 hc2=>?_|(apply GJ.a;exact rfl;intro hg)|(apply GJ.o;exact rfl;intro hg)
         refine OpOk.load rfl rfl (Ld.slAt' (k:=u) (by rw [hzr];rfl) hgp2) ?_
         repeat first|exact zE|refine zP ?_|refine zB fun b=>?_|refine zC fun a' c' hc1 hc2=>?_|(apply GJ.a;exact rfl;intro hg)|(apply GJ.o;exact rfl;intro hg)
         refine OpOk.storeSlAt' (k:=i) rfl rfl rfl rfl (by rw [Int.toNat_natCast]) (by rw [hlm];exact hi) ?_
         rw [boolsV_set]
         repeat first|exact zE|refine zP ?_|refine zB fun b=>?_|refine zC fun a' c' hc1 hc2=>?_|(apply GJ.a;exact rfl;intro hg)|(apply GJ.o;exact rfl;intro hg)
         repeat first|exact zE|refine zP ?_|refine zB fun b=>?_|refine zC fun a' c' hc1 hc2=>?_|(apply GJ.a;exact rfl;intro hg)|(apply GJ.o;exact rfl;intro hg)
         refine Wk.id ⟨(j+1,m'.set i true,true),⟨rfl,?_⟩,?_,Sub.z,Sup.z⟩
         all_goals try dsimp only
         ·exact ⟨by omega,hpu⟩
         ·omega
    ·obtain rfl:j=row.length:=by omega
     rw [List.take_length] at k2
     repeat first|exact zE|refine zP ?_|refine zB fun b=>?_|refine zC fun a' c' hc1 hc2=>?_|(apply GJ.a;exact rfl;intro hg)|(apply GJ.o;exact rfl;intro hg)
     repeat first|exact zE|refine zP ?_|refine zB fun b=>?_|refine zC fun a' c' hc1 hc2=>?_|(apply GJ.a;exact rfl;intro hg)|(apply GJ.o;exact rfl;intro hg)
     refine Wk.id ⟨(i+1,m',ch),⟨rfl,?_⟩,?_,Sub.z,Sup.z⟩
     all_goals try dsimp only
     ·refine ⟨by omega,k2.skip fun _ s y h=>.inl ?_⟩
      by_cases e:s=i
      ·subst e
       have h2:=h.2
       rw [hrow] at h2
       exact .inr ⟨rfl,h2⟩
      ·exact .inl ⟨by omega,h.2⟩
     ·omega
   ·obtain rfl:i=d.next.length:=by omega
    repeat first|exact zE|refine zP ?_|refine zB fun b=>?_|refine zC fun a' c' hc1 hc2=>?_|(apply GJ.a;exact rfl;intro hg)|(apply GJ.o;exact rfl;intro hg)
    repeat first|exact zE|refine zP ?_|refine zB fun b=>?_|refine zC fun a' c' hc1 hc2=>?_|(apply GJ.a;exact rfl;intro hg)|(apply GJ.o;exact rfl;intro hg)
    refine Wk.id ⟨(m',ch),⟨rfl,?_⟩,?_,Sub.z,Sup.z⟩
    all_goals try dsimp only
    ·refine ⟨i2.len,i2.acc,i2.live,fun hc s z hz h0 hm=>i2.cl hc s z ⟨next_lt hz,hz⟩ h0 hm⟩
    ·cases ch with
     | true=>have:=i2.less rfl;simp only [if_true];omega
     | false=>have:=i2.same rfl;subst this;simp
end
def nV (k:Nat):Value:=.int .i64 (k:Int)
def intV (l:List Int):List Value:=l.map (Value.int .i64)
theorem intV_len (l:List Int):(intV l).length=l.length:=by simp [intV]
theorem intV_set (l:List Int) (k:Nat) (z:Int):(intV l).set k (.int .i64 z)=intV (l.set k z):=by simp [intV,List.map_set]
theorem intV_zero (n:Nat):List.replicate n (Value.int .i64 0)=intV (List.replicate n 0):=by simp [intV]
theorem fill_set {α:Type}{L:List α}{n i:Nat}{v z:α} (hL:L.length=n) (hv:L[i]?=some v):(L.take i++List.replicate (n-i) z).set i v=L.take (i+1)++List.replicate (n-(i+1)) z:=by
 have hi:=(List.getElem?_eq_some_iff.1 hv).1
 have hl:(L.take i).length=i:=by simp;omega
 rw [List.set_append_right _ _ (by omega),hl,Nat.sub_self,show n-i=(n-(i+1))+1 by omega,List.replicate_succ,List.set_cons_zero,List.take_add_one,hv]
 simp
theorem fill_same {α:Type}{L:List α}{n i:Nat}{z:α} (hL:L.length=n) (hv:L[i]?=some z):L.take i++List.replicate (n-i) z=L.take (i+1)++List.replicate (n-(i+1)) z:=by
 have hi:=(List.getElem?_eq_some_iff.1 hv).1
 rw [show n-i=(n-(i+1))+1 by omega,List.replicate_succ,List.take_add_one,hv]
 simp
theorem fill_len {α:Type}{L:List α}{n i:Nat}{z:α} (hL:L.length=n) (hi:i≤n):(L.take i++List.replicate (n-i) z).length=n:=by simp;omega
theorem snoc_set {α:Type}{out:List α}{i n:Nat}{v z:α} (hl:out.length=i) (hi:i<n):(out++List.replicate (n-i) z).set i v=(out++[v])++List.replicate (n-(i+1)) z:=by
 rw [List.set_append_right _ _ (by omega),hl,Nat.sub_self,show n-i=(n-(i+1))+1 by omega,List.replicate_succ,List.set_cons_zero]
 simp
theorem full_le {d:DfaA}{m:Nat}{g:List Int} (hl:g.length=d.next.length) (hm:FullG d m g):m≤d.next.length:=by
 have h1:∀ x∈(List.range m).map (fun k:Nat=>(k:Int)),x∈g:=fun x hx=>by
  obtain ⟨k,hk,rfl⟩:=List.mem_map.1 hx
  obtain ⟨s,h1,_,h2⟩:=hm.all k (List.mem_range.1 hk)
  unfold getI' at h2
  rw [List.getElem?_eq_getElem (by rw [hl];exact h1),Option.getD_some] at h2
  exact h2▸List.getElem_mem _
 have h3:((List.range m).map (fun k:Nat=>(k:Int))).Nodup:=List.pairwise_map.2 (List.nodup_range.imp fun {x y} h e=>h (by omega))
 have:=nodup_le h3 h1
 rw [List.length_map,List.length_range,hl] at this;exact this
theorem bang {α:Type} [Inhabited α] {l:List α}{i:Nat}{x:α} (h:l[i]?=some x):l[((i:Nat):Int).toNat]! = x:=by
 rw [Int.toNat_natCast,List.getElem!_eq_getElem?_getD,h];rfl
structure GrpI (d:DfaA) (f m:Nat) (g:List Int):Prop where
 ok:GrpOk d g
 full:m=0∨FullG d m g
 fuel:d.next.length<f+m
 fin:grpL d f m g=grpA d
 hi:∀ s,s<d.next.length→getI' g s≤4096
theorem GrpI.start {w:Nat}{d:DfaA} (h:DfaOk w d) (hs:SurA w d):GrpI d (d.next.length+1) 0 (grp0 d):=by
 refine ⟨grp0_ok h hs,.inl rfl,by omega,rfl,fun s hs1=>?_⟩
 unfold getI' grp0
 rw [List.getElem?_map,List.getElem?_range hs1]
 show (if _ then (if _ then (1:Int) else 0) else -1)≤4096
 split
 ·split<;>omega
 ·omega
theorem GrpI.pos {d:DfaA}{f m:Nat}{g:List Int} (h:GrpI d f m g):∃ k,f=k+1:=by
 have hm:m≤d.next.length:=h.full.elim (fun e=>by omega) (full_le h.ok.len)
 have:=h.fuel
 exact ⟨f-1,by omega⟩
theorem GrpI.done {d:DfaA}{f m:Nat}{g:List Int} (h:GrpI d (f+1) m g) (he:(refA d g d.next.length 0 [] []).1.length=m):(refA d g d.next.length 0 [] []).2=grpA d:=by
 have:=h.fin
 rwa [grpL,if_pos he] at this
theorem GrpI.next {w:Nat}{d:DfaA}{f m:Nat}{g:List Int} (ho:DfaOk w d) (hs:SurA w d) (hn4:d.next.length≤4096) (h:GrpI d (f+1) m g) (he:¬(refA d g d.next.length 0 [] []).1.length=m):GrpI d f (refA d g d.next.length 0 [] []).1.length (refA d g d.next.length 0 [] []).2:=by
 have hf:=h.fin
 rw [grpL,if_neg he] at hf
 have hn:=ref_all d g
 generalize refA d g d.next.length 0 [] []=r at *
 obtain ⟨o1,o2,o3⟩:=h.ok.ref ho hs hn
 have hfu:=h.fuel
 have hle:=full_le o1.len o2
 refine ⟨o1,.inr o2,?_,hf,fun s hs1=>by have:=o2.lt s hs1;omega⟩
 rcases h.full with hm|hm
 ·omega
 ·have:=(stable_round h.ok hm hn).1;omega
theorem getI_some {g:List Int}{s:Nat}{z:Int} (h:g[s]?=some z):getI' g s=z:=by unfold getI';rw [h];rfl
theorem keyA_adm {w:Nat}{d:DfaA}{f m:Nat}{g:List Int} (ho:DfaOk w d) (h:GrpI d f m g) {i:Nat} (hi:i<d.next.length):AdmK (keyA d g i)∧(keyA d g i).length=w+1:=by
 have hr:=List.getElem?_eq_getElem hi
 have hat:∀ z:Int,(z=-1∨(0≤z∧z<d.next.length))→-1≤grpAt g z∧grpAt g z≤4096:=fun z hz=>by
  unfold grpAt
  split
  ·exact ⟨h.ok.low _ (by omega),h.hi _ (by omega)⟩
  ·omega
 refine ⟨fun z hz=>?_,?_⟩
 ·unfold keyA at hz
  rw [hr,Option.getD_some] at hz
  rcases List.mem_cons.1 hz with rfl|hz
  ·have:=h.ok.low i hi;have:=h.hi i hi;omega
  ·obtain ⟨y,hy,rfl⟩:=List.mem_map.1 hz
   have:=hat y (ho.to _ (List.getElem_mem hi) y hy)
   omega
 ·unfold keyA
  rw [hr,Option.getD_some,List.length_cons,List.length_map,ho.row _ (List.getElem_mem hi)]
section
variable {ro:Ro}{own r:Chs}{K:Value→Ro→Chs→Prop}{g:Chunk→Chs}
set_option maxHeartbeats 8000000 in
theorem dgroups_ok {q w:Nat}{d:DfaA} (hD:DAt ro q d) (ho:DfaOk w d) (hs:SurA w d) (hn:d.next.length≤4096) (hw:w≤256)
  (hk:∀ a c,d.next.length≤c→c≤maxLen→K (.slice a d.next.length c) ro (.sl a d.next.length c 3 1 (intV (grpA d))::own)):CallOk Tryz.prog 47 #[ptr' q] ro own K:=by
 obtain ⟨an,cn,aa,ca,hsv,hd⟩:=hD.rd
 have hN:=hd.ldN
 have hA:=hd.ldA
 have hrs:=hd.rs
 have hra:=hd.ra
 have hal:=ho.acc
 have hll:=liveA_len ho
 have hg0:(grp0 d).length=d.next.length:=by simp [grp0]
 have hcm:=hrs.max
 have hcl:=hrs.le
 unfold maxLen at hcm
 refine CallOk.intro (args:=[_]) (rs:=[_]) T_ok Tryz.func47 Tryz.call47 rfl rfl (by kernel_rfl) rfl rfl ?_
 repeat first|exact zE|refine zP ?_|refine zB fun b=>?_|refine zC fun a' c' hc1 hc2=>?_|(apply GJ.a;exact rfl;intro hg)|(apply GJ.o;exact rfl;intro hg)
 refine dalive_ok hD ho hn (fun al cl l1 l2=>?_)
 repeat first|exact zE|refine zP ?_|refine zB fun b=>?_|refine zC fun a' c' hc1 hc2=>?_|(apply GJ.a;exact rfl;intro hg)|(apply GJ.o;exact rfl;intro hg)
 refine dlen_ok hD ?_
 repeat first|exact zE|refine zP ?_|refine zB fun b=>?_|refine zC fun a' c' hc1 hc2=>?_|(apply GJ.a;exact rfl;intro hg)|(apply GJ.o;exact rfl;intro hg)
 rw [Int.toNat_natCast,intV_zero]
 refine LoopOk.at (ι:=Nat) Keep.z (fun i=>[(23,.int .i64 (i:Int))]) (fun i=>.sl (some ⟨b,0,none⟩) d.next.length d.next.length 3 1 (intV ((grp0 d).take i++List.replicate (d.next.length-i) 0))::.sl al d.next.length cl 4 1 (boolsV (liveA d))::own) (fun i=>i≤d.next.length) (fun i=>d.next.length-i) 0 ?_ Sub.z Sup.z ?_
 ·exact Nat.zero_le _
 rintro i i1
 dsimp only [List.cons_append,List.nil_append] at i1 ⊢
 have hfl:=fill_len (z:=(0:Int)) hg0 i1
 have hfv:=intV_len ((grp0 d).take i++List.replicate (d.next.length-i) 0)
 by_cases hi:i<d.next.length
 ·obtain ⟨p,hp⟩:∃ p,(liveA d)[i]?=some p:=⟨_,List.getElem?_eq_getElem (by omega)⟩
  obtain ⟨e,he⟩:∃ p,d.acc[i]?=some p:=⟨_,List.getElem?_eq_getElem (by omega)⟩
  have hgp:(boolsV (liveA d))[i]?=some (.bool p):=by simp [boolsV,hp]
  have hge:(d.acc.map Value.bool)[i]?=some (.bool e):=by simp [he]
  have hgv:(grp0 d)[i]?=some (if p then (if e then 1 else 0) else -1):=by
   unfold grp0
   rw [List.getElem?_map,List.getElem?_range hi,Option.map_some,getB_some hp,getB_some he]
  cases p with
  | false =>
    have hfs:=fill_set (z:=(0:Int)) hg0 hgv
    repeat first|exact zE|refine zP ?_|refine zB fun b=>?_|refine zC fun a' c' hc1 hc2=>?_|(apply GJ.a;exact rfl;intro hg)|(apply GJ.o;exact rfl;intro hg)
    rw [bang hp]
    repeat first|exact zE|refine zP ?_|refine zB fun b=>?_|refine zC fun a' c' hc1 hc2=>?_|(apply GJ.a;exact rfl;intro hg)|(apply GJ.o;exact rfl;intro hg)
    refine OpOk.storeSlAt' (k:=i) rfl rfl rfl rfl (by rw [Int.toNat_natCast]) (by omega) ?_
    rw [intV_set,show (-1:Int)=(if false=true then (if e=true then 1 else 0) else -1) from rfl,hfs]
    repeat first|exact zE|refine zP ?_|refine zB fun b=>?_|refine zC fun a' c' hc1 hc2=>?_|(apply GJ.a;exact rfl;intro hg)|(apply GJ.o;exact rfl;intro hg)
    repeat first|exact zE|refine zP ?_|refine zB fun b=>?_|refine zC fun a' c' hc1 hc2=>?_|(apply GJ.a;exact rfl;intro hg)|(apply GJ.o;exact rfl;intro hg)
    refine Wk.id ⟨i+1,⟨rfl,?_⟩,?_,Sub.z,Sup.z⟩
    all_goals try dsimp only
    ·omega
    ·omega
  | true =>
    repeat first|exact zE|refine zP ?_|refine zB fun b=>?_|refine zC fun a' c' hc1 hc2=>?_|(apply GJ.a;exact rfl;intro hg)|(apply GJ.o;exact rfl;intro hg)
    rw [bang hp]
    repeat first|exact zE|refine zP ?_|refine zB fun b=>?_|refine zC fun a' c' hc1 hc2=>?_|(apply GJ.a;exact rfl;intro hg)|(apply GJ.o;exact rfl;intro hg)
    rw [bang he]
    cases e with
    | true =>
      have hfs:=fill_set (z:=(0:Int)) hg0 hgv
      repeat first|exact zE|refine zP ?_|refine zB fun b=>?_|refine zC fun a' c' hc1 hc2=>?_|(apply GJ.a;exact rfl;intro hg)|(apply GJ.o;exact rfl;intro hg)
      refine OpOk.storeSlAt' (k:=i) rfl rfl rfl rfl (by rw [Int.toNat_natCast]) (by omega) ?_
      rw [intV_set,show (1:Int)=(if true=true then (if true=true then 1 else 0) else -1) from rfl,hfs]
      repeat first|exact zE|refine zP ?_|refine zB fun b=>?_|refine zC fun a' c' hc1 hc2=>?_|(apply GJ.a;exact rfl;intro hg)|(apply GJ.o;exact rfl;intro hg)
      repeat first|exact zE|refine zP ?_|refine zB fun b=>?_|refine zC fun a' c' hc1 hc2=>?_|(apply GJ.a;exact rfl;intro hg)|(apply GJ.o;exact rfl;intro hg)
      refine Wk.id ⟨i+1,⟨rfl,?_⟩,?_,Sub.z,Sup.z⟩
      all_goals try dsimp only
      ·omega
      ·omega
    | false =>
      have hfs:=fill_same (n:=d.next.length) (z:=(0:Int)) hg0 hgv
      rw [hfs]
      repeat first|exact zE|refine zP ?_|refine zB fun b=>?_|refine zC fun a' c' hc1 hc2=>?_|(apply GJ.a;exact rfl;intro hg)|(apply GJ.o;exact rfl;intro hg)
      repeat first|exact zE|refine zP ?_|refine zB fun b=>?_|refine zC fun a' c' hc1 hc2=>?_|(apply GJ.a;exact rfl;intro hg)|(apply GJ.o;exact rfl;intro hg)
      refine Wk.id ⟨i+1,⟨rfl,?_⟩,?_,Sub.z,Sup.z⟩
      all_goals try dsimp only
      ·omega
      ·omega
 ·obtain rfl:i=d.next.length:=by omega
  rw [List.take_of_length_le (by omega),Nat.sub_self,List.replicate_zero,List.append_nil] at *
  repeat first|exact zE|refine zP ?_|refine zB fun b=>?_|refine zC fun a' c' hc1 hc2=>?_|(apply GJ.a;exact rfl;intro hg)|(apply GJ.o;exact rfl;intro hg)
  refine LoopOk.at (ι:=Nat × Nat × List Int × Option Addr × Nat) Keep.z (fun (f,m,gr,ag,cg)=>[(6,.int .i64 (m:Int)),(4,.slice ag d.next.length cg)]) (fun (f,m,gr,ag,cg)=>.sl ag d.next.length cg 3 1 (intV gr)::own) (fun (f,m,gr,ag,cg)=>GrpI d f m gr∧d.next.length≤cg∧cg≤maxLen) (fun (f,m,gr,ag,cg)=>f) (d.next.length+1,0,grp0 d,some ⟨b,0,none⟩,d.next.length) ?_ Sub.z Sup.z ?_
  ·exact ⟨GrpI.start ho hs,Nat.le_refl _,by unfold maxLen;omega⟩
  rintro ⟨f,m,gr,ag,cg⟩ ⟨j1,j2,j3⟩
  dsimp only [List.cons_append,List.nil_append] at j1 j2 j3 ⊢
  obtain ⟨f,rfl⟩:=j1.pos
  have hgl:=j1.ok.len
  repeat first|exact zE|refine zP ?_|refine zB fun b=>?_|refine zC fun a' c' hc1 hc2=>?_|(apply GJ.a;exact rfl;intro hg)|(apply GJ.o;exact rfl;intro hg)
  refine OpOk.makeMapG (kv:=str) (vv:=nV) (fun bM=>?_)
  repeat first|exact zE|refine zP ?_|refine zB fun b=>?_|refine zC fun a' c' hc1 hc2=>?_|(apply GJ.a;exact rfl;intro hg)|(apply GJ.o;exact rfl;intro hg)
  rw [Int.toNat_natCast,intV_zero]
  obtain ⟨bX,hbX⟩:∃ z:Nat,z=b:=⟨_,rfl⟩
  subst hbX
  have hR:refA d gr (d.next.length-0) 0 [] []=refA d gr d.next.length 0 [] []:=rfl
  obtain ⟨R,hRR⟩:∃ R,refA d gr d.next.length 0 [] []=R:=⟨_,rfl⟩
  rw [hRR] at hR
  have hdone:=j1.done
  have hnext:=j1.next ho hs hn
  rw [hRR] at hdone hnext
  refine LoopOk.at (ι:=Nat × List Int × List (List Int) × List (List UInt8 × Nat × Nat) × Nat) Keep.z (fun (i,out,seen,M,cM)=>[(56,.int .i64 (i:Int))]) (fun (i,out,seen,M,cM)=>.sl (some ⟨bX,0,none⟩) d.next.length d.next.length 3 1 (intV (out++List.replicate (d.next.length-i) 0))::.obj bM (mapG str nV M cM)::.sl ag d.next.length cg 3 1 (intV gr)::own) (fun (i,out,seen,M,cM)=>i≤d.next.length∧out.length=i∧KeyM (w+1) seen M∧refA d gr (d.next.length-i) i seen out=R) (fun (i,out,seen,M,cM)=>d.next.length-i) (0,[],[],[],0) ?_ Sub.z Sup.z ?_
  ·exact ⟨Nat.zero_le _,rfl,KeyM.nil _,hR⟩
  rintro ⟨i,out,seen,M,cM⟩ ⟨k1,k2,k3,k4⟩
  dsimp only [List.cons_append,List.nil_append] at k1 k2 k3 k4 ⊢
  by_cases hi:i<d.next.length
  ·obtain ⟨row,hrow⟩:∃ row,d.next[i]?=some row:=⟨_,List.getElem?_eq_getElem hi⟩
   obtain ⟨ar,cr,q1,q2⟩:=hd.rows i row hrow
   obtain ⟨z,hz⟩:∃ z,gr[i]?=some z:=⟨_,List.getElem?_eq_getElem (by omega)⟩
   have hzl:=j1.ok.low i hi
   have hzh:=j1.hi i hi
   have hzg:=getI_some hz
   have hbz:=bang hz
   have hka:=keyA_adm ho j1 hi
   have hrm:=q2.max
   have hrl:=q2.le
   have hrw:=ho.row row (List.mem_of_getElem? hrow)
   unfold maxLen at hrm
   have hss:∀ v:Int,(intV (out++List.replicate (d.next.length-i) 0)).set i (.int .i64 v)=intV ((out++[v])++List.replicate (d.next.length-(i+1)) 0):=fun v=>by rw [intV_set,snoc_set k2 hi]
   have hol:(intV (out++List.replicate (d.next.length-i) 0)).length=d.next.length:=by rw [intV_len];simp;omega
   rw [show d.next.length-i=(d.next.length-(i+1))+1 by omega,refA,hzg] at k4
   rw [hzg] at hzl hzh
   by_cases h1:z=-1
   ·rw [if_pos h1] at k4
    subst h1
    repeat first|exact zE|refine zP ?_|refine zB fun b=>?_|refine zC fun a' c' hc1 hc2=>?_|(apply GJ.a;exact rfl;intro hg)|(apply GJ.o;exact rfl;intro hg)
    refine OpOk.load rfl rfl (Go.E.Ld.rs hrs (by rw [Int.toNat_natCast];exact q1)) ?_
    repeat first|exact zE|refine zP ?_|refine zB fun b=>?_|refine zC fun a' c' hc1 hc2=>?_|(apply GJ.a;exact rfl;intro hg)|(apply GJ.o;exact rfl;intro hg)
    rw [bang hz]
    repeat first|exact zE|refine zP ?_|refine zB fun b=>?_|refine zC fun a' c' hc1 hc2=>?_|(apply GJ.a;exact rfl;intro hg)|(apply GJ.o;exact rfl;intro hg)
    refine OpOk.storeSlAt' (k:=i) rfl rfl rfl rfl (by rw [Int.toNat_natCast]) (by omega) ?_
    rw [hss]
    repeat first|exact zE|refine zP ?_|refine zB fun b=>?_|refine zC fun a' c' hc1 hc2=>?_|(apply GJ.a;exact rfl;intro hg)|(apply GJ.o;exact rfl;intro hg)
    repeat first|exact zE|refine zP ?_|refine zB fun b=>?_|refine zC fun a' c' hc1 hc2=>?_|(apply GJ.a;exact rfl;intro hg)|(apply GJ.o;exact rfl;intro hg)
    refine Wk.id ⟨(i+1,out++[-1],seen,M,cM),⟨rfl,?_⟩,?_,Sub.z,Sup.z⟩
    all_goals try dsimp only
    ·exact ⟨by omega,by simp [k2],k3,k4⟩
    ·omega
   ·rw [if_neg h1] at k4
    repeat first|exact zE|refine zP ?_|refine zB fun b=>?_|refine zC fun a' c' hc1 hc2=>?_|(apply GJ.a;exact rfl;intro hg)|(apply GJ.o;exact rfl;intro hg)
    refine OpOk.load rfl rfl (Go.E.Ld.rs hrs (by rw [Int.toNat_natCast];exact q1)) ?_
    repeat first|exact zE|refine zP ?_|refine zB fun b=>?_|refine zC fun a' c' hc1 hc2=>?_|(apply GJ.a;exact rfl;intro hg)|(apply GJ.o;exact rfl;intro hg)
    rw [bang hz]
    repeat first|exact zE|refine zP ?_|refine zB fun b=>?_|refine zC fun a' c' hc1 hc2=>?_|(apply GJ.a;exact rfl;intro hg)|(apply GJ.o;exact rfl;intro hg)
    refine LoopOk.at (ι:=Nat × Option Addr × Nat) Keep.z (fun (j,a1,c1)=>[(77,.int .i64 (j:Int)),(11,.slice a1 (j+1) c1)]) (fun (j,a1,c1)=>.sl a1 (j+1) c1 3 1 (intV ((z+1)::(row.take j).map fun y=>grpAt gr y+1))::.sl (some ⟨bX,0,none⟩) d.next.length d.next.length 3 1 (intV (out++List.replicate (d.next.length-i) 0))::.obj bM (mapG str nV M cM)::.sl ag d.next.length cg 3 1 (intV gr)::own) (fun (j,a1,c1)=>j≤row.length∧j+1≤c1∧c1≤maxLen) (fun (j,a1,c1)=>row.length-j) (0,some ⟨b,0,none⟩,1) ?_ Sub.z Sup.z ?_
    ·exact ⟨Nat.zero_le _,Nat.le_refl _,by unfold maxLen;omega⟩
    rintro ⟨j,a1,c1⟩ ⟨n1,n2,n3⟩
    dsimp only [List.cons_append,List.nil_append] at n1 n2 n3 ⊢
    have htl:(intV ((z+1)::(row.take j).map fun y=>grpAt gr y+1)).length=j+1:=by rw [intV_len];simp;omega
    by_cases hj:j<row.length
    ·obtain ⟨y,hy⟩:∃ y,row[j]?=some y:=⟨_,List.getElem?_eq_getElem hj⟩
     have hby:=bang hy
     have hyto:=ho.to row (List.mem_of_getElem? hrow) y (List.mem_of_getElem? hy)
     have htk:row.take (j+1)=row.take j++[y]:=by rw [List.take_add_one,hy];rfl
     have happ:intV ((z+1)::(row.take j).map fun y=>grpAt gr y+1)++[.int .i64 (grpAt gr y+1)]=intV ((z+1)::(row.take (j+1)).map fun y=>grpAt gr y+1):=by rw [htk];simp [intV]
     by_cases hy0:y<0
     ·have hgy:grpAt gr y=y:=by unfold grpAt;rw [if_neg (by omega)]
      rw [hgy] at happ
      repeat first|exact zE|refine zP ?_|refine zB fun b=>?_|refine zC fun a' c' hc1 hc2=>?_|(apply GJ.a;exact rfl;intro hg)|(apply GJ.o;exact rfl;intro hg)
      rw [hby,happ]
      repeat first|exact zE|refine zP ?_|refine zB fun b=>?_|refine zC fun a' c' hc1 hc2=>?_|(apply GJ.a;exact rfl;intro hg)|(apply GJ.o;exact rfl;intro hg)
      repeat first|exact zE|refine zP ?_|refine zB fun b=>?_|refine zC fun a' c' hc1 hc2=>?_|(apply GJ.a;exact rfl;intro hg)|(apply GJ.o;exact rfl;intro hg)
      refine Wk.id ⟨(j+1,a',c'),⟨rfl,?_⟩,?_,Sub.z,Sup.z⟩
      all_goals try dsimp only
      ·exact ⟨by omega,hc1,hc2⟩
      ·omega
     ·obtain ⟨u,rfl⟩:∃ u:Nat,y=(u:Int):=⟨y.toNat,by omega⟩
      obtain ⟨x,hx⟩:∃ x,gr[u]?=some x:=⟨_,List.getElem?_eq_getElem (by omega)⟩
      have hgy:grpAt gr (u:Int)=x:=by unfold grpAt;rw [if_pos (by omega),Int.toNat_natCast,getI_some hx]
      have hxl:=j1.ok.low u (by omega)
      have hxh:=j1.hi u (by omega)
      rw [getI_some hx] at hxl hxh
      have hbx:=bang hx
      rw [hgy] at happ
      repeat first|exact zE|refine zP ?_|refine zB fun b=>?_|refine zC fun a' c' hc1 hc2=>?_|(apply GJ.a;exact rfl;intro hg)|(apply GJ.o;exact rfl;intro hg)
      rw [hby,hbx]
      refine ⟨⟨by omega,by omega⟩,?_⟩
      repeat first|exact zE|refine zP ?_|refine zB fun b=>?_|refine zC fun a' c' hc1 hc2=>?_|(apply GJ.a;exact rfl;intro hg)|(apply GJ.o;exact rfl;intro hg)
      rw [happ]
      repeat first|exact zE|refine zP ?_|refine zB fun b=>?_|refine zC fun a' c' hc1 hc2=>?_|(apply GJ.a;exact rfl;intro hg)|(apply GJ.o;exact rfl;intro hg)
      repeat first|exact zE|refine zP ?_|refine zB fun b=>?_|refine zC fun a' c' hc1 hc2=>?_|(apply GJ.a;exact rfl;intro hg)|(apply GJ.o;exact rfl;intro hg)
      refine Wk.id ⟨(j+1,a',c'),⟨rfl,?_⟩,?_,Sub.z,Sup.z⟩
      all_goals try dsimp only
      ·exact ⟨by omega,hc1,hc2⟩
      ·omega
    ·obtain rfl:j=row.length:=by omega
     rw [List.take_length] at *
     have hkey:(z+1)::row.map (fun y=>grpAt gr y+1)=keyA d gr i:=by unfold keyA;rw [hrow,hzg];rfl
     rw [hkey] at *
     repeat first|exact zE|refine zP ?_|refine zB fun b=>?_|refine zC fun a' c' hc1 hc2=>?_|(apply GJ.a;exact rfl;intro hg)|(apply GJ.o;exact rfl;intro hg)
     have hkr:Rds ro (.sl a1 (row.length+1) c1 3 1 (intV (keyA d gr i))::.sl (some ⟨bX,0,none⟩) d.next.length d.next.length 3 1 (intV (out++List.replicate (d.next.length-i) 0))::.obj bM (mapG str nV M cM)::.sl ag d.next.length cg 3 1 (intV gr)::own) a1 (row.length+1) c1 1 ((keyA d gr i).map (Value.int .i64)):=Rds.hasSl n2 n3 (by show (intV _).length=_;rw [intV_len,hka.2];omega)
     refine key_ok (l:=keyA d gr i) hkr (by rw [hka.2];omega) (by omega) hka.1 ?_
     have hkl:(keyT (keyA d gr i)).length≤maxLen:=by rw [keyT_len,hka.2];unfold maxLen;omega
     have hgk:=k3.at' _ hka.1
     repeat first|exact zE|refine zP ?_|refine zB fun b=>?_|refine zC fun a' c' hc1 hc2=>?_|(apply GJ.a;exact rfl;intro hg)|(apply GJ.o;exact rfl;intro hg)
     refine OpOk.lookupOkG (kt:=9) (et:=3) (kv:=str) (vv:=nV) (k:=keyT (keyA d gr i)) (z:=.int .i64 0) rfl rfl (by kernel_rfl) (KeyEnc.text (by kernel_rfl)) k3.map hkl (by kernel_rfl) ?_
     rw [hgk]
     cases hidx:seen.idxOf? (keyA d gr i) with
     | some u =>
       rw [hidx] at k4
       dsimp only at k4
       simp only [Option.map_some,Option.getD_some,Option.isSome_some,nV]
       repeat first|exact zE|refine zP ?_|refine zB fun b=>?_|refine zC fun a' c' hc1 hc2=>?_|(apply GJ.a;exact rfl;intro hg)|(apply GJ.o;exact rfl;intro hg)
       refine OpOk.storeSlAt' (k:=i) rfl rfl rfl rfl (by rw [Int.toNat_natCast]) (by omega) ?_
       rw [hss]
       repeat first|exact zE|refine zP ?_|refine zB fun b=>?_|refine zC fun a' c' hc1 hc2=>?_|(apply GJ.a;exact rfl;intro hg)|(apply GJ.o;exact rfl;intro hg)
       repeat first|exact zE|refine zP ?_|refine zB fun b=>?_|refine zC fun a' c' hc1 hc2=>?_|(apply GJ.a;exact rfl;intro hg)|(apply GJ.o;exact rfl;intro hg)
       refine Wk.id ⟨(i+1,out++[(u:Int)],seen,M,cM),⟨rfl,?_⟩,?_,Sub.z,Sup.z⟩
       all_goals try dsimp only
       ·exact ⟨by omega,by simp [k2],k3,k4⟩
       ·omega
     | none =>
       rw [hidx] at k4
       dsimp only at k4
       have hpush:=k3.push (by omega) hka.1 (Nat.le_of_eq hka.2) hidx cM
       have hMl:=k3.len
       simp only [Option.map_none,Option.getD_none,Option.isSome_none]
       repeat first|exact zE|refine zP ?_|refine zB fun b=>?_|refine zC fun a' c' hc1 hc2=>?_|(apply GJ.a;exact rfl;intro hg)|(apply GJ.o;exact rfl;intro hg)
       refine OpOk.lenG (kv:=str) (vv:=nV) (et:=3) (kt:=9) rfl (by kernel_rfl) ?_
       rw [hMl]
       repeat first|exact zE|refine zP ?_|refine zB fun b=>?_|refine zC fun a' c' hc1 hc2=>?_|(apply GJ.a;exact rfl;intro hg)|(apply GJ.o;exact rfl;intro hg)
       refine key_ok (l:=keyA d gr i) hkr (by rw [hka.2];omega) (by omega) hka.1 ?_
       repeat first|exact zE|refine zP ?_|refine zB fun b=>?_|refine zC fun a' c' hc1 hc2=>?_|(apply GJ.a;exact rfl;intro hg)|(apply GJ.o;exact rfl;intro hg)
       refine OpOk.mapUpdateG (kt:=9) (et:=3) (kv:=str) (vv:=nV) (k:=keyT (keyA d gr i)) (v:=seen.length) rfl rfl rfl (by kernel_rfl) (KeyEnc.text (by kernel_rfl)) k3.map hkl (fun c2=>?_)
       repeat first|exact zE|refine zP ?_|refine zB fun b=>?_|refine zC fun a' c' hc1 hc2=>?_|(apply GJ.a;exact rfl;intro hg)|(apply GJ.o;exact rfl;intro hg)
       refine OpOk.storeSlAt' (k:=i) rfl rfl rfl rfl (by rw [Int.toNat_natCast]) (by omega) ?_
       rw [hss]
       repeat first|exact zE|refine zP ?_|refine zB fun b=>?_|refine zC fun a' c' hc1 hc2=>?_|(apply GJ.a;exact rfl;intro hg)|(apply GJ.o;exact rfl;intro hg)
       repeat first|exact zE|refine zP ?_|refine zB fun b=>?_|refine zC fun a' c' hc1 hc2=>?_|(apply GJ.a;exact rfl;intro hg)|(apply GJ.o;exact rfl;intro hg)
       refine Wk.id ⟨(i+1,out++[(seen.length:Int)],seen++[keyA d gr i],putG M cM (keyT (keyA d gr i)) seen.length,c2),⟨rfl,?_⟩,?_,Sub.z,Sup.z⟩
       all_goals try dsimp only
       ·exact ⟨by omega,by simp [k2],hpush,k4⟩
       ·omega
  ·obtain rfl:i=d.next.length:=by omega
   rw [Nat.sub_self,refA] at k4
   subst k4
   rw [Nat.sub_self,List.replicate_zero,List.append_nil]
   have hMl:=k3.len
   dsimp only at hdone hnext
   repeat first|exact zE|refine zP ?_|refine zB fun b=>?_|refine zC fun a' c' hc1 hc2=>?_|(apply GJ.a;exact rfl;intro hg)|(apply GJ.o;exact rfl;intro hg)
   refine OpOk.lenG (kv:=str) (vv:=nV) (et:=3) (kt:=9) rfl (by kernel_rfl) ?_
   rw [hMl]
   repeat first|exact zE|refine zP ?_|refine zB fun b=>?_|refine zC fun a' c' hc1 hc2=>?_|(apply GJ.a;exact rfl;intro hg)|(apply GJ.o;exact rfl;intro hg)
   by_cases he:seen.length=m
   ·have hfin:=hdone he
    subst hfin
    repeat first|exact zE|refine zP ?_|refine zB fun b=>?_|refine zC fun a' c' hc1 hc2=>?_|(apply GJ.a;exact rfl;intro hg)|(apply GJ.o;exact rfl;intro hg)
    exact Wk.outS Sup.z (.refl _) (hk _ _ (Nat.le_refl _) (by unfold maxLen;omega))
   ·have hnx:=hnext he
    repeat first|exact zE|refine zP ?_|refine zB fun b=>?_|refine zC fun a' c' hc1 hc2=>?_|(apply GJ.a;exact rfl;intro hg)|(apply GJ.o;exact rfl;intro hg)
    refine OpOk.lenG (kv:=str) (vv:=nV) (et:=3) (kt:=9) rfl (by kernel_rfl) ?_
    rw [hMl]
    repeat first|exact zE|refine zP ?_|refine zB fun b=>?_|refine zC fun a' c' hc1 hc2=>?_|(apply GJ.a;exact rfl;intro hg)|(apply GJ.o;exact rfl;intro hg)
    refine Wk.id ⟨(f,seen.length,out,some ⟨bX,0,none⟩,d.next.length),⟨rfl,?_⟩,?_,Sub.z,Sup.z⟩
    all_goals try dsimp only
    ·exact ⟨hnx,Nat.le_refl _,by unfold maxLen;omega⟩
    ·omega
end
section
variable {ro:Ro}{own r:Chs}{K:Value→Ro→Chs→Prop}{g:Chunk→Chs}
theorem rhas_ok {s:SetD}{c:Nat} (hs:SetIn s) (hc:c<256) (hk:K (.bool (s.has c)) ro own):CallOk Tryz.prog 52 #[.agg (setV s).toArray,.int .u8 (c:Int)] ro own K:=by
 have hw:=hs (c / 64)
 have hd:s.w (c / 64) / 2 ^ (c % 64)<18446744073709551616:=Nat.lt_of_le_of_lt (Nat.div_le_self _ _) hw
 have e:(c:Int) / 64=((c / 64:Nat):Int):=by omega
 refine CallOk.intro (args:=[_,_]) (rs:=[_]) T_ok Tryz.func52 Tryz.call52 rfl rfl (by kernel_rfl) rfl rfl ?_
 repeat first|exact zE|refine zP ?_|refine zB fun b=>?_|refine zC fun a' c' hc1 hc2=>?_|(apply GJ.a;exact rfl;intro hg)|(apply GJ.o;exact rfl;intro hg)
 rw [e]
 refine OpOk.load rfl rfl (Ld.setAt s rfl (k:=c / 64) (by omega) (by omega)) ?_
 repeat first|exact zE|refine zP ?_|refine zB fun b=>?_|refine zC fun a' c' hc1 hc2=>?_|(apply GJ.a;exact rfl;intro hg)|(apply GJ.o;exact rfl;intro hg)
 rw [show (c:Int) % 64=((c % 64:Nat):Int) by omega,shrN]
 generalize hq:s.w (c / 64) / 2 ^ (c % 64)=q at hd ⊢
 refine ⟨by omega,?_⟩
 repeat first|exact zE|refine zP ?_|refine zB fun b=>?_|refine zC fun a' c' hc1 hc2=>?_|(apply GJ.a;exact rfl;intro hg)|(apply GJ.o;exact rfl;intro hg)
 refine Wk.outV Sup.z hk (congrArg Value.bool ?_)
 rw [SetD.has,←testBit_div,hq,Bool.eq_iff_iff,decide_eq_true_iff,decide_eq_true_iff]
 omega
end
theorem bangB {l:List Bool}{i:Nat} (h:i<l.length):l[((i:Nat):Int).toNat]! = getB l i:=getB_get h
theorem range_map_get {n i:Nat} (p:Nat→Bool) (h:i<n):((List.range n).map p)[i]?=some (p i):=by
 rw [List.getElem?_map,List.getElem?_range h];rfl
theorem fillB_set {L:List Bool}{n i:Nat}{v z:Bool} (hL:L.length=n) (hv:L[i]?=some v):(L.take i++List.replicate (n-i) z).set i v=L.take (i+1)++List.replicate (n-(i+1)) z:=by
 have hi:=(List.getElem?_eq_some_iff.1 hv).1
 have hl:(L.take i).length=i:=by simp;omega
 rw [List.set_append_right _ _ (by omega),hl,Nat.sub_self,show n-i=(n-(i+1))+1 by omega,List.replicate_succ,List.set_cons_zero,List.take_add_one,hv]
 simp
theorem mixB_set {L O:List Bool}{n i:Nat}{v:Bool} (hL:L.length=n) (hO:O.length=n) (hv:L[i]?=some v):(L.take i++O.drop i).set i v=L.take (i+1)++O.drop (i+1):=by
 have hi:=(List.getElem?_eq_some_iff.1 hv).1
 have hl:(L.take i).length=i:=by simp;omega
 rw [List.set_append_right _ _ (by omega),hl,Nat.sub_self,List.drop_eq_getElem_cons (by omega),List.set_cons_zero,List.take_add_one,hv]
 simp
theorem mixB_get {L O:List Bool}{n i:Nat} (hL:L.length=n) (hO:O.length=n) (hi:i<n):getB (L.take i++O.drop i) i=getB O i:=by
 have hl:(L.take i).length=i:=by simp;omega
 unfold getB
 rw [List.getElem?_append_right (by omega),hl,Nat.sub_self,List.getElem?_drop,Nat.add_zero]
theorem mixB_len {L O:List Bool}{n i:Nat} (hL:L.length=n) (hO:O.length=n) (hi:i≤n):(L.take i++O.drop i).length=n:=by simp;omega
theorem fill_lenB {L:List Bool}{n i:Nat}{z:Bool} (hL:L.length=n) (hi:i≤n):(L.take i++List.replicate (n-i) z).length=n:=by simp;omega
theorem fillB_same {L:List Bool}{n i:Nat}{z:Bool} (hL:L.length=n) (hv:L[i]?=some z):L.take i++List.replicate (n-i) z=L.take (i+1)++List.replicate (n-(i+1)) z:=by
 have hi:=(List.getElem?_eq_some_iff.1 hv).1
 rw [show n-i=(n-(i+1))+1 by omega,List.replicate_succ,List.take_add_one,hv]
 simp
theorem bools_zero (n:Nat):List.replicate n (Value.bool false)=boolsV (List.replicate n false):=by simp [boolsV]
structure EndsC (n:RgD):Prop where
 run:∀ {ro:Ro}{own:Chs}{K:Value→Ro→Chs→Prop}{v:List Value}{t:List UInt8}{ab af:Option Addr}{cb cf:Nat}{m:List Bool},RgOk ro n v→wrongD n=0→Bys ro ab t.length cb t→t.length≤100000→Rs ro af (t.length+1) cf 1 (boolsV m) →
  (∀ ro' a' c',Le ro ro'→Rs ro' a' (t.length+1) c' 1 (boolsV (endsR t n m))→K (.slice a' (t.length+1) c') ro' own) →
  CallOk Tryz.prog 34 #[.agg v.toArray,.slice ab t.length cb,.slice af (t.length+1) cf] ro own K
set_option maxHeartbeats 8000000 in
theorem rrep_ok {n:RgD} (ih:EndsC n) {ro:Ro}{own:Chs}{K:Value→Ro→Chs→Prop}{v:List Value}{z:SetD}{lo hi:Int}{t:List UInt8}{ab af:Option Addr}{cb cf:Nat}{m:List Bool} (hv:RgOk ro (.mk 5 z [n] lo hi) v) (hw:wrongD n=0) (hlh:0≤lo∧lo≤256∧hi≤256∧(hi<0∨lo≤hi)) (hb:Bys ro ab t.length cb t) (ht:t.length≤100000) (hm:Rs ro af (t.length+1) cf 1 (boolsV m))
  (hk:∀ ro' a' c',Le ro ro'→Rs ro' a' (t.length+1) c' 1 (boolsV (moreR (endsR t n) t.length (mostR lo hi t.length) (noneR t.length) (itR (endsR t n) lo.toNat m)))→K (.slice a' (t.length+1) c') ro' own) :
  CallOk Tryz.prog 53 #[.agg v.toArray,.slice ab t.length cb,.slice af (t.length+1) cf] ro own K:=by
 rw [RgOk] at hv
 obtain ⟨ad,cp,cs,rfl,hs,hrs,hks⟩:=hv
 have hle:=hrs.le
 have hmx:=hrs.max
 have hbm:=hb.max
 have hbl:=hb.le
 unfold maxLen at hmx hbm
 have hvv:=hks.get (i:=0) rfl
 obtain ⟨ak,ck,hvk⟩:=hvv.cells
 rw [hvk] at hvv
 obtain ⟨A,rfl⟩:∃ A:Nat,lo=(A:Int):=⟨lo.toNat,by omega⟩
 rw [Int.toNat_natCast] at hk
 generalize hF:endsR t n=F at hk
 refine CallOk.intro (args:=[_,_,_]) (rs:=[_]) T_ok Tryz.func53 Tryz.call53 rfl rfl (by kernel_rfl) rfl rfl ?_
 repeat first|exact zE|refine zP ?_|refine zB fun b=>?_|refine zC fun a' c' hc1 hc2=>?_|(apply GJ.a;exact rfl;intro hg)|(apply GJ.o;exact rfl;intro hg)
 refine LoopOk.auto (ι:=Nat × List Bool × Option Addr × Nat) Keep.z (fun (i,mi,am,cm)=>[(8,.int .i64 (i:Int)),(7,.slice am (t.length+1) cm)]) (fun (i,mi,am,cm)=>.blk b 26 (nodeV 5 z ad 1 cp (A:Int) hi)::own) (fun (i,mi,am,cm) ro2=>i≤A∧Rs ro2 am (t.length+1) cm 1 (boolsV mi)∧itR F (A-i) mi=itR F A m) (fun (i,mi,am,cm)=>A-i) (0,m,af,cf) ?_ Sub.z Sup.z ?_
 ·exact ⟨Nat.zero_le _,hm,rfl⟩
 rintro ⟨i,mi,am,cm⟩ ro2 hl2 ⟨i1,i2,i3⟩
 dsimp only [List.cons_append,List.nil_append] at i1 i2 i3 ⊢
 by_cases hi0:i<A
 ·rw [show A-i=(A-(i+1))+1 by omega,itR] at i3
  repeat first|exact zE|refine zP ?_|refine zB fun b=>?_|refine zC fun a' c' hc1 hc2=>?_|(apply GJ.a;exact rfl;intro hg)|(apply GJ.o;exact rfl;intro hg)
  refine OpOk.loadRow rfl rfl (LdN.at (k:=0) hrs hvk) rfl ?_
  repeat first|exact zE|refine zP ?_|refine zB fun b=>?_|refine zC fun a' c' hc1 hc2=>?_|(apply GJ.a;exact rfl;intro hg)|(apply GJ.o;exact rfl;intro hg)
  refine ih.run (hvv.le hl2) hw (Rs.up hb) ht i2 (fun ro3 a3 c3 hl3 hr3=>?_)
  rw [hF] at hr3
  repeat first|exact zE|refine zP ?_|refine zB fun b=>?_|refine zC fun a' c' hc1 hc2=>?_|(apply GJ.a;exact rfl;intro hg)|(apply GJ.o;exact rfl;intro hg)
  repeat first|exact zE|refine zP ?_|refine zB fun b=>?_|refine zC fun a' c' hc1 hc2=>?_|(apply GJ.a;exact rfl;intro hg)|(apply GJ.o;exact rfl;intro hg)
  refine Wk.id ⟨(i+1,F mi,a3,c3),?_,?_,Sub.z,Sup.z⟩
  all_goals try dsimp only
  ·exact ⟨by omega,hr3,i3⟩
  ·omega
 ·obtain rfl:i=A:=by omega
  rw [Nat.sub_self,itR] at i3
  rw [←i3] at hk
  by_cases hc:0≤hi∧hi-(i:Int)<t.length+1
  ·obtain ⟨N,hN⟩:∃ N:Nat,(N:Int)=hi-(i:Int):=⟨(hi-(i:Int)).toNat,by omega⟩
   have hmN:mostR (i:Int) hi t.length=N:=by unfold mostR;rw [if_pos hc];omega
   rw [hmN] at hk
   repeat first|exact zE|refine zP ?_|refine zB fun b=>?_|refine zC fun a' c' hc1 hc2=>?_|(apply GJ.a;exact rfl;intro hg)|(apply GJ.o;exact rfl;intro hg)
   rw [show ((t.length:Int)+1).toNat=t.length+1 by omega,bools_zero]
   obtain ⟨bO,hbO⟩:∃ z:Nat,z=b:=⟨_,rfl⟩
   subst hbO
   obtain ⟨Z,hZ⟩:∃ Z,Z=moreR F t.length N (noneR t.length) mi:=⟨_,rfl⟩
   rw [←hZ] at hk
   refine LoopOk.auto (ι:=Nat × List Bool × List Bool × Option Addr × Nat) Keep.z (fun (j,o,e,am,cm)=>[(11,.int .i64 (j:Int)),(7,.slice am (t.length+1) cm)]) (fun (j,o,e,am,cm)=>.sl (some ⟨bO,0,none⟩) (t.length+1) (t.length+1) 4 1 (boolsV o)::.blk b 26 (nodeV 5 z ad 1 cp (i:Int) hi)::own) (fun (j,o,e,am,cm) ro3=>o.length=t.length+1∧Rs ro3 am (t.length+1) cm 1 (boolsV e)∧((j≤N∧moreR F t.length (N-j) o e=Z)∨(j=N+1∧o=Z))) (fun (j,o,e,am,cm)=>N+1-j) (0,noneR t.length,mi,am,cm) ?_ Sub.z Sup.z ?_
   ·exact ⟨by simp [noneR],i2,.inl ⟨Nat.zero_le _,hZ.symm⟩⟩
   clear i2 am cm
   rintro ⟨j,o,e,am,cm⟩ ro3 hl3 ⟨i2,j2,j3⟩
   dsimp only [List.cons_append,List.nil_append] at i2 j2 j3 ⊢
   have hel:e.length=t.length+1:=by have:=j2.n1;rwa [boolsV_len] at this
   by_cases hj:j≤N
   ·have j3:moreR F t.length (N-j) o e=Z:=by rcases j3 with ⟨_,h⟩|⟨h,_⟩<;>first|exact h|omega
    obtain ⟨Q,hQ⟩:∃ Q,Q=orR o e t.length:=⟨_,rfl⟩
    have hQl:Q.length=t.length+1:=by rw [hQ];exact orR_len _ _ _
    repeat first|exact zE|refine zP ?_|refine zB fun b=>?_|refine zC fun a' c' hc1 hc2=>?_|(apply GJ.a;exact rfl;intro hg)|(apply GJ.o;exact rfl;intro hg)
    refine LoopOk.at (ι:=Nat) Keep.z (fun k=>[(12,.int .i64 (k:Int))]) (fun k=>.sl (some ⟨bO,0,none⟩) (t.length+1) (t.length+1) 4 1 (boolsV (Q.take k++o.drop k))::.blk b 26 (nodeV 5 z ad 1 cp (i:Int) hi)::own) (fun k=>k≤t.length+1) (fun k=>t.length+1-k) 0 ?_ Sub.z Sup.z ?_
    ·exact Nat.zero_le _
    rintro k k1
    dsimp only [List.cons_append,List.nil_append] at k1 ⊢
    have hml2:=mixB_len hQl i2 k1
    have hbl2:=(boolsV_len (Q.take k++o.drop k)).trans hml2
    by_cases hkl:k≤t.length
    ·have hQk:Q[k]?=some (getB o k||getB e k):=by rw [hQ];exact range_map_get _ (by omega)
     have hms:=mixB_set hQl i2 hQk
     have hgo:=(bangB (l:=Q.take k++o.drop k) (i:=k) (by omega)).trans (mixB_get hQl i2 (by omega))
     have hge:=bangB (l:=e) (i:=k) (by omega)
     generalize getB o k=p at hms hgo
     generalize getB e k=p2 at hms hge
     cases p with
     | true =>
       repeat first|exact zE|refine zP ?_|refine zB fun b=>?_|refine zC fun a' c' hc1 hc2=>?_|(apply GJ.a;exact rfl;intro hg)|(apply GJ.o;exact rfl;intro hg)
       rw [hgo]
       repeat first|exact zE|refine zP ?_|refine zB fun b=>?_|refine zC fun a' c' hc1 hc2=>?_|(apply GJ.a;exact rfl;intro hg)|(apply GJ.o;exact rfl;intro hg)
       refine OpOk.storeSlAt' (k:=k) rfl rfl rfl rfl (by rw [Int.toNat_natCast]) (by omega) ?_
       have hms2:(Q.take k++o.drop k).set k true=Q.take (k+1)++o.drop (k+1):=hms
       rw [boolsV_set,hms2]
       repeat first|exact zE|refine zP ?_|refine zB fun b=>?_|refine zC fun a' c' hc1 hc2=>?_|(apply GJ.a;exact rfl;intro hg)|(apply GJ.o;exact rfl;intro hg)
       repeat first|exact zE|refine zP ?_|refine zB fun b=>?_|refine zC fun a' c' hc1 hc2=>?_|(apply GJ.a;exact rfl;intro hg)|(apply GJ.o;exact rfl;intro hg)
       refine Wk.id ⟨k+1,⟨rfl,?_⟩,?_,Sub.z,Sup.z⟩
       all_goals try dsimp only
       ·omega
       ·omega
     | false =>
       repeat first|exact zE|refine zP ?_|refine zB fun b=>?_|refine zC fun a' c' hc1 hc2=>?_|(apply GJ.a;exact rfl;intro hg)|(apply GJ.o;exact rfl;intro hg)
       rw [hgo]
       repeat first|exact zE|refine zP ?_|refine zB fun b=>?_|refine zC fun a' c' hc1 hc2=>?_|(apply GJ.a;exact rfl;intro hg)|(apply GJ.o;exact rfl;intro hg)
       rw [hge]
       repeat first|exact zE|refine zP ?_|refine zB fun b=>?_|refine zC fun a' c' hc1 hc2=>?_|(apply GJ.a;exact rfl;intro hg)|(apply GJ.o;exact rfl;intro hg)
       refine OpOk.storeSlAt' (k:=k) rfl rfl rfl rfl (by rw [Int.toNat_natCast]) (by omega) ?_
       rw [boolsV_set,hms]
       repeat first|exact zE|refine zP ?_|refine zB fun b=>?_|refine zC fun a' c' hc1 hc2=>?_|(apply GJ.a;exact rfl;intro hg)|(apply GJ.o;exact rfl;intro hg)
       repeat first|exact zE|refine zP ?_|refine zB fun b=>?_|refine zC fun a' c' hc1 hc2=>?_|(apply GJ.a;exact rfl;intro hg)|(apply GJ.o;exact rfl;intro hg)
       refine Wk.id ⟨k+1,⟨rfl,?_⟩,?_,Sub.z,Sup.z⟩
       all_goals try dsimp only
       ·omega
       ·omega
    ·obtain rfl:k=t.length+1:=by omega
     have e2:Q.take (t.length+1)++o.drop (t.length+1)=Q:=by
      rw [List.take_of_length_le (by omega),List.drop_eq_nil_of_le (by omega),List.append_nil]
     rw [e2]
     by_cases hjN:j<N
     ·rw [show N-j=(N-(j+1))+1 by omega,moreR,←hQ] at j3
      repeat first|exact zE|refine zP ?_|refine zB fun b=>?_|refine zC fun a' c' hc1 hc2=>?_|(apply GJ.a;exact rfl;intro hg)|(apply GJ.o;exact rfl;intro hg)
      refine OpOk.loadRow rfl rfl (LdN.at (k:=0) hrs hvk) rfl ?_
      repeat first|exact zE|refine zP ?_|refine zB fun b=>?_|refine zC fun a' c' hc1 hc2=>?_|(apply GJ.a;exact rfl;intro hg)|(apply GJ.o;exact rfl;intro hg)
      refine ih.run ((hvv.le hl2).le hl3) hw (Rs.up (Rs.up (ro':=ro2) hb)) ht j2 (fun ro4 a4 c4 hl4 hr4=>?_)
      rw [hF] at hr4
      repeat first|exact zE|refine zP ?_|refine zB fun b=>?_|refine zC fun a' c' hc1 hc2=>?_|(apply GJ.a;exact rfl;intro hg)|(apply GJ.o;exact rfl;intro hg)
      repeat first|exact zE|refine zP ?_|refine zB fun b=>?_|refine zC fun a' c' hc1 hc2=>?_|(apply GJ.a;exact rfl;intro hg)|(apply GJ.o;exact rfl;intro hg)
      refine Wk.id ⟨(j+1,Q,F e,a4,c4),?_,?_,Sub.z,Sup.z⟩
      all_goals try dsimp only
      ·exact ⟨hQl,hr4,.inl ⟨by omega,j3⟩⟩
      ·omega
     ·obtain rfl:j=N:=by omega
      rw [Nat.sub_self,moreR,←hQ] at j3
      repeat first|exact zE|refine zP ?_|refine zB fun b=>?_|refine zC fun a' c' hc1 hc2=>?_|(apply GJ.a;exact rfl;intro hg)|(apply GJ.o;exact rfl;intro hg)
      repeat first|exact zE|refine zP ?_|refine zB fun b=>?_|refine zC fun a' c' hc1 hc2=>?_|(apply GJ.a;exact rfl;intro hg)|(apply GJ.o;exact rfl;intro hg)
      refine Wk.id ⟨(j+1,Q,e,am,cm),?_,?_,Sub.z,Sup.z⟩
      all_goals try dsimp only
      ·exact ⟨hQl,j2,.inr ⟨rfl,j3⟩⟩
      ·omega
   ·have j3:o=Z:=by rcases j3 with ⟨h,_⟩|⟨_,h⟩<;>first|exact h|omega
    subst j3
    repeat first|exact zE|refine zP ?_|refine zB fun b=>?_|refine zC fun a' c' hc1 hc2=>?_|(apply GJ.a;exact rfl;intro hg)|(apply GJ.o;exact rfl;intro hg)
    refine Wk.freeze (c:=.sl (some ⟨bO,0,none⟩) _ _ _ _ _) Take.auto (fun ro4 hl4 hc4=>?_)
    exact Wk.outS Sup.z (.refl _) (hk ro4 _ _ ((hl2.trans hl3).trans hl4) (Rs.last hc4))
  ·obtain ⟨N,hN⟩:∃ N:Nat,N=t.length+1:=⟨_,rfl⟩
   have hmN:mostR (i:Int) hi t.length=N:=by unfold mostR;rw [if_neg hc,hN]
   rw [hmN] at hk
   repeat first|exact zE|refine zP ?_|refine zB fun b=>?_|refine zC fun a' c' hc1 hc2=>?_|(apply GJ.a;exact rfl;intro hg)|(apply GJ.o;exact rfl;intro hg)
   rw [show ((t.length:Int)+1).toNat=t.length+1 by omega,bools_zero]
   obtain ⟨bO,hbO⟩:∃ z:Nat,z=b:=⟨_,rfl⟩
   subst hbO
   obtain ⟨Z,hZ⟩:∃ Z,Z=moreR F t.length N (noneR t.length) mi:=⟨_,rfl⟩
   rw [←hZ] at hk
   refine LoopOk.auto (ι:=Nat × List Bool × List Bool × Option Addr × Nat) Keep.z (fun (j,o,e,am,cm)=>[(11,.int .i64 (j:Int)),(7,.slice am (t.length+1) cm)]) (fun (j,o,e,am,cm)=>.sl (some ⟨bO,0,none⟩) (t.length+1) (t.length+1) 4 1 (boolsV o)::.blk b 26 (nodeV 5 z ad 1 cp (i:Int) hi)::own) (fun (j,o,e,am,cm) ro3=>o.length=t.length+1∧Rs ro3 am (t.length+1) cm 1 (boolsV e)∧((j≤N∧moreR F t.length (N-j) o e=Z)∨(j=N+1∧o=Z))) (fun (j,o,e,am,cm)=>N+1-j) (0,noneR t.length,mi,am,cm) ?_ Sub.z Sup.z ?_
   ·exact ⟨by simp [noneR],i2,.inl ⟨Nat.zero_le _,hZ.symm⟩⟩
   clear i2 am cm
   rintro ⟨j,o,e,am,cm⟩ ro3 hl3 ⟨i2,j2,j3⟩
   dsimp only [List.cons_append,List.nil_append] at i2 j2 j3 ⊢
   have hel:e.length=t.length+1:=by have:=j2.n1;rwa [boolsV_len] at this
   by_cases hj:j≤N
   ·have j3:moreR F t.length (N-j) o e=Z:=by rcases j3 with ⟨_,h⟩|⟨h,_⟩<;>first|exact h|omega
    obtain ⟨Q,hQ⟩:∃ Q,Q=orR o e t.length:=⟨_,rfl⟩
    have hQl:Q.length=t.length+1:=by rw [hQ];exact orR_len _ _ _
    repeat first|exact zE|refine zP ?_|refine zB fun b=>?_|refine zC fun a' c' hc1 hc2=>?_|(apply GJ.a;exact rfl;intro hg)|(apply GJ.o;exact rfl;intro hg)
    refine LoopOk.at (ι:=Nat) Keep.z (fun k=>[(12,.int .i64 (k:Int))]) (fun k=>.sl (some ⟨bO,0,none⟩) (t.length+1) (t.length+1) 4 1 (boolsV (Q.take k++o.drop k))::.blk b 26 (nodeV 5 z ad 1 cp (i:Int) hi)::own) (fun k=>k≤t.length+1) (fun k=>t.length+1-k) 0 ?_ Sub.z Sup.z ?_
    ·exact Nat.zero_le _
    rintro k k1
    dsimp only [List.cons_append,List.nil_append] at k1 ⊢
    have hml2:=mixB_len hQl i2 k1
    have hbl2:=(boolsV_len (Q.take k++o.drop k)).trans hml2
    by_cases hkl:k≤t.length
    ·have hQk:Q[k]?=some (getB o k||getB e k):=by rw [hQ];exact range_map_get _ (by omega)
     have hms:=mixB_set hQl i2 hQk
     have hgo:=(bangB (l:=Q.take k++o.drop k) (i:=k) (by omega)).trans (mixB_get hQl i2 (by omega))
     have hge:=bangB (l:=e) (i:=k) (by omega)
     generalize getB o k=p at hms hgo
     generalize getB e k=p2 at hms hge
     cases p with
     | true =>
       repeat first|exact zE|refine zP ?_|refine zB fun b=>?_|refine zC fun a' c' hc1 hc2=>?_|(apply GJ.a;exact rfl;intro hg)|(apply GJ.o;exact rfl;intro hg)
       rw [hgo]
       repeat first|exact zE|refine zP ?_|refine zB fun b=>?_|refine zC fun a' c' hc1 hc2=>?_|(apply GJ.a;exact rfl;intro hg)|(apply GJ.o;exact rfl;intro hg)
       refine OpOk.storeSlAt' (k:=k) rfl rfl rfl rfl (by rw [Int.toNat_natCast]) (by omega) ?_
       have hms2:(Q.take k++o.drop k).set k true=Q.take (k+1)++o.drop (k+1):=hms
       rw [boolsV_set,hms2]
       repeat first|exact zE|refine zP ?_|refine zB fun b=>?_|refine zC fun a' c' hc1 hc2=>?_|(apply GJ.a;exact rfl;intro hg)|(apply GJ.o;exact rfl;intro hg)
       repeat first|exact zE|refine zP ?_|refine zB fun b=>?_|refine zC fun a' c' hc1 hc2=>?_|(apply GJ.a;exact rfl;intro hg)|(apply GJ.o;exact rfl;intro hg)
       refine Wk.id ⟨k+1,⟨rfl,?_⟩,?_,Sub.z,Sup.z⟩
       all_goals try dsimp only
       ·omega
       ·omega
     | false =>
       repeat first|exact zE|refine zP ?_|refine zB fun b=>?_|refine zC fun a' c' hc1 hc2=>?_|(apply GJ.a;exact rfl;intro hg)|(apply GJ.o;exact rfl;intro hg)
       rw [hgo]
       repeat first|exact zE|refine zP ?_|refine zB fun b=>?_|refine zC fun a' c' hc1 hc2=>?_|(apply GJ.a;exact rfl;intro hg)|(apply GJ.o;exact rfl;intro hg)
       rw [hge]
       repeat first|exact zE|refine zP ?_|refine zB fun b=>?_|refine zC fun a' c' hc1 hc2=>?_|(apply GJ.a;exact rfl;intro hg)|(apply GJ.o;exact rfl;intro hg)
       refine OpOk.storeSlAt' (k:=k) rfl rfl rfl rfl (by rw [Int.toNat_natCast]) (by omega) ?_
       rw [boolsV_set,hms]
       repeat first|exact zE|refine zP ?_|refine zB fun b=>?_|refine zC fun a' c' hc1 hc2=>?_|(apply GJ.a;exact rfl;intro hg)|(apply GJ.o;exact rfl;intro hg)
       repeat first|exact zE|refine zP ?_|refine zB fun b=>?_|refine zC fun a' c' hc1 hc2=>?_|(apply GJ.a;exact rfl;intro hg)|(apply GJ.o;exact rfl;intro hg)
       refine Wk.id ⟨k+1,⟨rfl,?_⟩,?_,Sub.z,Sup.z⟩
       all_goals try dsimp only
       ·omega
       ·omega
    ·obtain rfl:k=t.length+1:=by omega
     have e2:Q.take (t.length+1)++o.drop (t.length+1)=Q:=by
      rw [List.take_of_length_le (by omega),List.drop_eq_nil_of_le (by omega),List.append_nil]
     rw [e2]
     by_cases hjN:j<N
     ·rw [show N-j=(N-(j+1))+1 by omega,moreR,←hQ] at j3
      repeat first|exact zE|refine zP ?_|refine zB fun b=>?_|refine zC fun a' c' hc1 hc2=>?_|(apply GJ.a;exact rfl;intro hg)|(apply GJ.o;exact rfl;intro hg)
      refine OpOk.loadRow rfl rfl (LdN.at (k:=0) hrs hvk) rfl ?_
      repeat first|exact zE|refine zP ?_|refine zB fun b=>?_|refine zC fun a' c' hc1 hc2=>?_|(apply GJ.a;exact rfl;intro hg)|(apply GJ.o;exact rfl;intro hg)
      refine ih.run ((hvv.le hl2).le hl3) hw (Rs.up (Rs.up (ro':=ro2) hb)) ht j2 (fun ro4 a4 c4 hl4 hr4=>?_)
      rw [hF] at hr4
      repeat first|exact zE|refine zP ?_|refine zB fun b=>?_|refine zC fun a' c' hc1 hc2=>?_|(apply GJ.a;exact rfl;intro hg)|(apply GJ.o;exact rfl;intro hg)
      repeat first|exact zE|refine zP ?_|refine zB fun b=>?_|refine zC fun a' c' hc1 hc2=>?_|(apply GJ.a;exact rfl;intro hg)|(apply GJ.o;exact rfl;intro hg)
      refine Wk.id ⟨(j+1,Q,F e,a4,c4),?_,?_,Sub.z,Sup.z⟩
      all_goals try dsimp only
      ·exact ⟨hQl,hr4,.inl ⟨by omega,j3⟩⟩
      ·omega
     ·obtain rfl:j=N:=by omega
      rw [Nat.sub_self,moreR,←hQ] at j3
      repeat first|exact zE|refine zP ?_|refine zB fun b=>?_|refine zC fun a' c' hc1 hc2=>?_|(apply GJ.a;exact rfl;intro hg)|(apply GJ.o;exact rfl;intro hg)
      repeat first|exact zE|refine zP ?_|refine zB fun b=>?_|refine zC fun a' c' hc1 hc2=>?_|(apply GJ.a;exact rfl;intro hg)|(apply GJ.o;exact rfl;intro hg)
      refine Wk.id ⟨(j+1,Q,e,am,cm),?_,?_,Sub.z,Sup.z⟩
      all_goals try dsimp only
      ·exact ⟨hQl,j2,.inr ⟨rfl,j3⟩⟩
      ·omega
   ·have j3:o=Z:=by rcases j3 with ⟨h,_⟩|⟨_,h⟩<;>first|exact h|omega
    subst j3
    repeat first|exact zE|refine zP ?_|refine zB fun b=>?_|refine zC fun a' c' hc1 hc2=>?_|(apply GJ.a;exact rfl;intro hg)|(apply GJ.o;exact rfl;intro hg)
    refine Wk.freeze (c:=.sl (some ⟨bO,0,none⟩) _ _ _ _ _) Take.auto (fun ro4 hl4 hc4=>?_)
    exact Wk.outS Sup.z (.refl _) (hk ro4 _ _ ((hl2.trans hl3).trans hl4) (Rs.last hc4))
theorem rowA_at {a:DfaA}{s:Nat}{row:List Int} (h:a.next[s]?=some row):rowA a s=row:=by unfold rowA;rw [h];rfl
theorem row_ent {w:Nat}{a:DfaA} (ho:DfaOk w a) {s:Nat}{row:List Int} (h:a.next[s]?=some row) {k:Nat}{z:Int} (hz:row[k]?=some z):z=-1∨∃ u:Nat,z=(u:Int)∧u<a.next.length:=by
 rcases ho.to row (List.mem_of_getElem? h) z (List.mem_of_getElem? hz) with h1|⟨h1,h2⟩
 ·exact .inl h1
 ·exact .inr ⟨z.toNat,by omega,by omega⟩
theorem getB_self {m:List Bool}{s:Nat} (h:s<m.length) (v:Bool):getB (m.set s v) s=v:=by rw [getB_put' h,if_pos rfl]
section
variable {ro:Ro}{own r:Chs}{K:Value→Ro→Chs→Prop}{g:Chunk→Chs}
set_option maxHeartbeats 4000000 in
theorem aends_ok {q w:Nat}{D:DfaA} (hq:DAt ro q D) (ho:DfaOk w D) (hs:SurA w D) (hn:D.next.length≤1024)
  (hk:∀ b,K (.slice (some ⟨b,0,none⟩) D.next.length D.next.length) ro (.sl (some ⟨b,0,none⟩) D.next.length D.next.length 4 1 (boolsV (liveA D))::own)):CallOk Tryz.prog 35 #[ptr' q] ro own K:=by
 obtain ⟨an,cn,aa,ca,hsv,hd⟩:=hq.rd
 have hN:=hd.ldN
 have hrs:=hd.rs
 refine CallOk.intro (args:=[_]) (rs:=[_]) T_ok Tryz.func35 Tryz.call35 rfl rfl (by kernel_rfl) rfl rfl ?_
 repeat first|exact zE|refine zP ?_|refine zB fun b=>?_|refine zC fun a' c' hc1 hc2=>?_|(apply GJ.a;exact rfl;intro hg)|(apply GJ.o;exact rfl;intro hg)
 refine dlen_ok hq ?_
 repeat first|exact zE|refine zP ?_|refine zB fun b=>?_|refine zC fun a' c' hc1 hc2=>?_|(apply GJ.a;exact rfl;intro hg)|(apply GJ.o;exact rfl;intro hg)
 rw [Int.toNat_natCast,bools_zero]
 obtain ⟨bO,hbO⟩:∃ z:Nat,z=b:=⟨_,rfl⟩
 subst hbO
 have hI:(List.replicate D.next.length false).length=D.next.length∧∀ t,getB (List.replicate D.next.length false) t=true→LiveA D t:=⟨by simp,fun t h=>by
  unfold getB at h
  rw [List.getElem?_replicate] at h
  split at h<;>cases h⟩
 generalize List.replicate D.next.length false=m0 at *
 refine LoopOk.at (ι:=Bool × List Bool) Keep.z (fun (ch,m)=>[(4,.bool ch)]) (fun (ch,m)=>.sl (some ⟨bO,0,none⟩) D.next.length D.next.length 4 1 (boolsV m)::own) (fun (ch,m)=>m.length=D.next.length∧(∀ t,getB m t=true→LiveA D t)∧(ch=false→m=liveA D)) (fun (ch,m)=>2*(D.next.length-cntB m)+(bif ch then 1 else 0)) (true,m0) ?_ Sub.z Sup.z ?_
 ·exact ⟨hI.1,hI.2,fun h=>by cases h⟩
 clear hI m0
 rintro ⟨ch,m⟩ ⟨i1,i2,i3⟩
 dsimp only [List.cons_append,List.nil_append] at i1 i2 i3 ⊢
 have hmv:=boolsV_len m
 cases ch with
 | false =>
   rw [i3 rfl]
   repeat first|exact zE|refine zP ?_|refine zB fun b=>?_|refine zC fun a' c' hc1 hc2=>?_|(apply GJ.a;exact rfl;intro hg)|(apply GJ.o;exact rfl;intro hg)
   exact Wk.id (hk bO)
 | true =>
   have hL0:=LivR.start i1 i2
   clear i2 i3
   obtain ⟨m0,hm0⟩:∃ m0,m0=m:=⟨_,rfl⟩
   rw [←hm0] at hL0 i1
   repeat first|exact zE|refine zP ?_|refine zB fun b=>?_|refine zC fun a' c' hc1 hc2=>?_|(apply GJ.a;exact rfl;intro hg)|(apply GJ.o;exact rfl;intro hg)
   refine LoopOk.at (ι:=Nat × Bool × List Bool) Keep.z (fun (s,ch,m)=>[(14,.int .i64 (s:Int)),(4,.bool ch)]) (fun (s,ch,m)=>.sl (some ⟨bO,0,none⟩) D.next.length D.next.length 4 1 (boolsV m)::own) (fun (s,ch,m)=>s≤D.next.length∧LivR D m0 m ch s) (fun (s,ch,m)=>D.next.length-s) (0,false,m) ?_ Sub.z Sup.z ?_
   ·exact ⟨Nat.zero_le _,by rw [hm0] at hL0 ⊢;exact hL0⟩
   clear hL0 hmv
   rintro ⟨s,ch,m⟩ ⟨j1,j2⟩
   dsimp only [List.cons_append,List.nil_append] at j1 j2 ⊢
   have hml:=j2.len
   have hmv:=boolsV_len m
   by_cases hsl:s<D.next.length
   ·have hge:=bangB (l:=m) (i:=s) (by omega)
    cases hp:getB m s with
    | true =>
      rw [hp] at hge
      repeat (first|exact zE|refine zP ?_|refine zB (fun b=>?_)|refine zC (fun a' c' hc1 hc2=>?_))
      rw [hge]
      repeat first|exact zE|refine zP ?_|refine zB fun b=>?_|refine zC fun a' c' hc1 hc2=>?_|(apply GJ.a;exact rfl;intro hg)|(apply GJ.o;exact rfl;intro hg)
      refine Wk.id ⟨(s+1,ch,m),⟨rfl,?_⟩,?_,Sub.z,Sup.z⟩
      all_goals try dsimp only
      ·exact ⟨by omega,j2.has hp⟩
      ·omega
    | false =>
      rw [hp] at hge
      obtain ⟨row,hrow⟩:∃ row,D.next[s]?=some row:=⟨_,List.getElem?_eq_getElem hsl⟩
      obtain ⟨ar,cr,q1,q2⟩:=hd.rows s row hrow
      have hput:=j2.put ho hs hsl hp
      rw [rowA_at hrow] at hput
      have hrl:=q2.le
      have hrm:=q2.max
      unfold maxLen at hrm
      repeat (first|exact zE|refine zP ?_|refine zB (fun b=>?_)|refine zC (fun a' c' hc1 hc2=>?_))
      rw [hge]
      repeat first|exact zE|refine zP ?_|refine zB fun b=>?_|refine zC fun a' c' hc1 hc2=>?_|(apply GJ.a;exact rfl;intro hg)|(apply GJ.o;exact rfl;intro hg)
      refine dends_ok hq ?_
      repeat first|exact zE|refine zP ?_|refine zB fun b=>?_|refine zC fun a' c' hc1 hc2=>?_|(apply GJ.a;exact rfl;intro hg)|(apply GJ.o;exact rfl;intro hg)
      refine OpOk.storeSlAt' (k:=s) rfl rfl rfl rfl (by rw [Int.toNat_natCast]) (by omega) ?_
      rw [boolsV_set]
      repeat first|exact zE|refine zP ?_|refine zB fun b=>?_|refine zC fun a' c' hc1 hc2=>?_|(apply GJ.a;exact rfl;intro hg)|(apply GJ.o;exact rfl;intro hg)
      refine OpOk.load rfl rfl (Go.E.Ld.rs hrs (by rw [Int.toNat_natCast];exact q1)) ?_
      repeat first|exact zE|refine zP ?_|refine zB fun b=>?_|refine zC fun a' c' hc1 hc2=>?_|(apply GJ.a;exact rfl;intro hg)|(apply GJ.o;exact rfl;intro hg)
      refine LoopOk.at (ι:=Nat × Bool) Keep.z (fun (k,v)=>[(35,.int .i64 (k:Int))]) (fun (k,v)=>.sl (some ⟨bO,0,none⟩) D.next.length D.next.length 4 1 (boolsV (m.set s v))::own) (fun (k,v)=>k≤row.length∧v=(endsA D (s:Int)||anyR m (row.take k))) (fun (k,v)=>row.length-k) (0,endsA D (s:Int)) ?_ Sub.z Sup.z ?_
      ·exact ⟨Nat.zero_le _,by simp [anyR]⟩
      rintro ⟨k,v⟩ ⟨k1,k2⟩
      dsimp only [List.cons_append,List.nil_append] at k1 k2 ⊢
      have hsv:=boolsV_len (m.set s v)
      rw [List.length_set] at hsv
      have hml2:(m.set s v).length=D.next.length:=by rw [List.length_set];exact hml
      have hb1:=(bangB (l:=m.set s v) (i:=s) (by rw [List.length_set];omega)).trans (getB_self (by omega) v)
      by_cases hk:k<row.length
      ·obtain ⟨z,hz⟩:∃ z,row[k]?=some z:=⟨_,List.getElem?_eq_getElem hk⟩
       have hbz:=bang hz
       have htk:row.take (k+1)=row.take k++[z]:=by rw [List.take_add_one,hz];rfl
       have hnx:(endsA D (s:Int)||anyR m (row.take (k+1)))=(v||(decide (0≤z)&&getB m z.toNat)):=by rw [htk,anyR_snoc,←Bool.or_assoc,←k2]
       cases v with
       | true =>
         repeat (first|exact zE|refine zP ?_|refine zB (fun b=>?_)|refine zC (fun a' c' hc1 hc2=>?_))
         rw [hbz,hb1]
         repeat first|exact zE|refine zP ?_|refine zB fun b=>?_|refine zC fun a' c' hc1 hc2=>?_|(apply GJ.a;exact rfl;intro hg)|(apply GJ.o;exact rfl;intro hg)
         refine OpOk.storeSlAt' (k:=s) rfl rfl rfl rfl (by rw [Int.toNat_natCast]) (by omega) ?_
         rw [boolsV_set,List.set_set]
         repeat first|exact zE|refine zP ?_|refine zB fun b=>?_|refine zC fun a' c' hc1 hc2=>?_|(apply GJ.a;exact rfl;intro hg)|(apply GJ.o;exact rfl;intro hg)
         refine Wk.id ⟨(k+1,true),⟨rfl,?_⟩,?_,Sub.z,Sup.z⟩
         all_goals try dsimp only
         ·exact ⟨by omega,by rw [hnx];rfl⟩
         ·omega
       | false =>
         rw [Bool.false_or] at hnx
         rcases row_ent ho hrow hz with rfl|⟨u,rfl,hu⟩
         ·repeat (first|exact zE|refine zP ?_|refine zB (fun b=>?_)|refine zC (fun a' c' hc1 hc2=>?_))
          rw [hbz,hb1]
          repeat first|exact zE|refine zP ?_|refine zB fun b=>?_|refine zC fun a' c' hc1 hc2=>?_|(apply GJ.a;exact rfl;intro hg)|(apply GJ.o;exact rfl;intro hg)
          refine OpOk.storeSlAt' (k:=s) rfl rfl rfl rfl (by rw [Int.toNat_natCast]) (by omega) ?_
          rw [boolsV_set,List.set_set]
          repeat first|exact zE|refine zP ?_|refine zB fun b=>?_|refine zC fun a' c' hc1 hc2=>?_|(apply GJ.a;exact rfl;intro hg)|(apply GJ.o;exact rfl;intro hg)
          refine Wk.id ⟨(k+1,false),⟨rfl,?_⟩,?_,Sub.z,Sup.z⟩
          all_goals try dsimp only
          ·exact ⟨by omega,by rw [hnx];rfl⟩
          ·omega
         ·have hb2:=bangB (l:=m.set s false) (i:=u) (by rw [List.length_set];omega)
          have hgu:getB (m.set s false) u=getB m u:=by
           rw [getB_put' (by omega)]
           split
           ·rename_i e;rw [e,hp]
           ·rfl
          rw [hgu] at hb2
          rw [Int.toNat_natCast,decide_eq_true (by omega),Bool.true_and] at hnx
          generalize getB m u=y at *
          repeat (first|exact zE|refine zP ?_|refine zB (fun b=>?_)|refine zC (fun a' c' hc1 hc2=>?_))
          rw [hbz,hb1]
          repeat (first|exact zE|refine zP ?_|refine zB (fun b=>?_)|refine zC (fun a' c' hc1 hc2=>?_))
          rw [hb2]
          repeat first|exact zE|refine zP ?_|refine zB fun b=>?_|refine zC fun a' c' hc1 hc2=>?_|(apply GJ.a;exact rfl;intro hg)|(apply GJ.o;exact rfl;intro hg)
          refine OpOk.storeSlAt' (k:=s) rfl rfl rfl rfl (by rw [Int.toNat_natCast]) (by omega) ?_
          rw [boolsV_set,List.set_set]
          repeat first|exact zE|refine zP ?_|refine zB fun b=>?_|refine zC fun a' c' hc1 hc2=>?_|(apply GJ.a;exact rfl;intro hg)|(apply GJ.o;exact rfl;intro hg)
          refine Wk.id ⟨(k+1,y),⟨rfl,?_⟩,?_,Sub.z,Sup.z⟩
          all_goals try dsimp only
          ·exact ⟨by omega,by rw [hnx]⟩
          ·omega
      ·obtain rfl:k=row.length:=by omega
       rw [List.take_length] at k2
       rw [←k2] at hput
       cases ch with
       | true =>
         repeat first|exact zE|refine zP ?_|refine zB fun b=>?_|refine zC fun a' c' hc1 hc2=>?_|(apply GJ.a;exact rfl;intro hg)|(apply GJ.o;exact rfl;intro hg)
         refine Wk.id ⟨(s+1,true,m.set s v),⟨rfl,?_⟩,?_,Sub.z,Sup.z⟩
         all_goals try dsimp only
         ·exact ⟨by omega,hput⟩
         ·omega
       | false =>
         rw [Bool.false_or] at hput
         repeat (first|exact zE|refine zP ?_|refine zB (fun b=>?_)|refine zC (fun a' c' hc1 hc2=>?_))
         rw [hb1]
         repeat first|exact zE|refine zP ?_|refine zB fun b=>?_|refine zC fun a' c' hc1 hc2=>?_|(apply GJ.a;exact rfl;intro hg)|(apply GJ.o;exact rfl;intro hg)
         refine Wk.id ⟨(s+1,v,m.set s v),⟨rfl,?_⟩,?_,Sub.z,Sup.z⟩
         all_goals try dsimp only
         ·exact ⟨by omega,hput⟩
         ·omega
   ·obtain rfl:s=D.next.length:=by omega
    have hcm:=cntB_le' m
    have hc0:=cntB_le' m0
    repeat first|exact zE|refine zP ?_|refine zB fun b=>?_|refine zC fun a' c' hc1 hc2=>?_|(apply GJ.a;exact rfl;intro hg)|(apply GJ.o;exact rfl;intro hg)
    refine Wk.id ⟨(ch,m),⟨rfl,?_⟩,?_,Sub.z,Sup.z⟩
    all_goals try dsimp only
    ·exact ⟨hml,j2.sound,fun h=>by subst h;exact j2.fin ho hs (Nat.le_refl _)⟩
    ·cases ch with
     | true=>have:=j2.go rfl;rw [←hm0];simp only [cond_true];omega
     | false=>rw [(j2.stay rfl).1,←hm0];simp only [cond_true,cond_false];omega
set_option maxHeartbeats 4000000 in
theorem amet_ok {q:Nat}{D:DfaA} (hq:DAt ro q D) (hL:LeastA D)
  (hk:∀ b,K (.slice (some ⟨b,0,none⟩) D.next.length D.next.length) ro (.sl (some ⟨b,0,none⟩) D.next.length D.next.length 4 1 (boolsV (List.replicate D.next.length true))::own)):CallOk Tryz.prog 36 #[ptr' q] ro own K:=by
 obtain ⟨an,cn,aa,ca,hsv,hd⟩:=hq.rd
 have hN:=hd.ldN
 have hrs:=hd.rs
 obtain ⟨w,hw6,ho,hs,_,_⟩:=hL.ok
 have hpos:=hL.pos
 have hn:=hL.le
 refine CallOk.intro (args:=[_]) (rs:=[_]) T_ok Tryz.func36 Tryz.call36 rfl rfl (by kernel_rfl) rfl rfl ?_
 repeat first|exact zE|refine zP ?_|refine zB fun b=>?_|refine zC fun a' c' hc1 hc2=>?_|(apply GJ.a;exact rfl;intro hg)|(apply GJ.o;exact rfl;intro hg)
 refine dlen_ok hq ?_
 repeat first|exact zE|refine zP ?_|refine zB fun b=>?_|refine zC fun a' c' hc1 hc2=>?_|(apply GJ.a;exact rfl;intro hg)|(apply GJ.o;exact rfl;intro hg)
 rw [Int.toNat_natCast,bools_zero]
 obtain ⟨bO,hbO⟩:∃ z:Nat,z=b:=⟨_,rfl⟩
 subst hbO
 refine dlen_ok hq ?_
 repeat first|exact zE|refine zP ?_|refine zB fun b=>?_|refine zC fun a' c' hc1 hc2=>?_|(apply GJ.a;exact rfl;intro hg)|(apply GJ.o;exact rfl;intro hg)
 refine OpOk.storeSlAt' (k:=0) rfl rfl rfl rfl rfl (by rw [boolsV_len];simp;omega) ?_
 rw [boolsV_set]
 obtain ⟨hM0,hc0⟩:=MetD.start hpos
 have hzl:((List.replicate D.next.length false).set 0 true).length=D.next.length:=by simp
 generalize (List.replicate D.next.length false).set 0 true=m0 at *
 repeat first|exact zE|refine zP ?_|refine zB fun b=>?_|refine zC fun a' c' hc1 hc2=>?_|(apply GJ.a;exact rfl;intro hg)|(apply GJ.o;exact rfl;intro hg)
 obtain ⟨bW,hbW⟩:∃ z:Nat,z=b:=⟨_,rfl⟩
 subst hbW
 refine LoopOk.at (ι:=List Nat × List Bool × Option Addr × Nat) Keep.z (fun (w,m,ad,cp)=>[(4,.slice ad w.length cp)]) (fun (w,m,ad,cp)=>.sl ad w.length cp 3 1 (natsV w)::.sl (some ⟨bO,0,none⟩) D.next.length D.next.length 4 1 (boolsV m)::own) (fun (w,m,ad,cp)=>MetD D m w∧w.length≤cntB m∧w.length≤cp∧cp≤maxLen) (fun (w,m,ad,cp)=>2*(D.next.length-cntB m)+w.length) ([0],m0,some ⟨bW,0,none⟩,1) ?_ Sub.z Sup.z ?_
 ·exact ⟨hM0,by simp [hc0],Nat.le_refl _,by unfold maxLen;decide⟩
 clear hM0 hc0 hzl
 rintro ⟨wk,m,ad,cp⟩ ⟨i1,i2,i3,i4⟩
 dsimp only [List.cons_append,List.nil_append] at i1 i2 i3 i4 ⊢
 have hml:=i1.len
 have hmv:=boolsV_len m
 have hcm:=cntB_le' m
 have hwl:(natsV wk).length=wk.length:=by simp [natsV]
 by_cases h0:wk.length=0
 ·obtain rfl:=List.eq_nil_of_length_eq_zero h0
  rw [i1.fin hL]
  repeat first|exact zE|refine zP ?_|refine zB fun b=>?_|refine zC fun a' c' hc1 hc2=>?_|(apply GJ.a;exact rfl;intro hg)|(apply GJ.o;exact rfl;intro hg)
  exact Wk.outS Sup.z (.refl _) (hk bO)
 ·obtain ⟨wk',s,rfl⟩:∃ w' i,wk=w'++[i]:=⟨wk.dropLast,wk.getLast (by intro e;subst e;simp at h0),(List.dropLast_concat_getLast _).symm⟩
  rw [List.length_append,List.length_singleton] at i2 i3 h0 hwl ⊢
  have hgi:(natsV (wk'++[s]))[wk'.length]?=some (.int .i64 (s:Int)):=by simp [natsV]
  have hsh:(natsV (wk'++[s])).take (wk'.length*1)=natsV wk':=by
   rw [Nat.mul_one]
   simp only [natsV,List.map_append]
   rw [List.take_left' (List.length_map _)]
  have hR0:=i1.pop
  obtain ⟨hsl,hsm⟩:=hR0.here
  obtain ⟨row,hrow⟩:∃ row,D.next[s]?=some row:=⟨_,List.getElem?_eq_getElem hsl⟩
  obtain ⟨ar,cr,q1,q2⟩:=hd.rows s row hrow
  have hra:=rowA_at hrow
  have hrl:=q2.le
  have hrm:=q2.max
  unfold maxLen at hrm
  obtain ⟨C,hC⟩:∃ C,C=2*(D.next.length-cntB m)+wk'.length:=⟨_,rfl⟩
  repeat first|exact zE|refine zP ?_|refine zB fun b=>?_|refine zC fun a' c' hc1 hc2=>?_|(apply GJ.a;exact rfl;intro hg)|(apply GJ.o;exact rfl;intro hg)
  refine OpOk.load rfl rfl (Ld.slAt' (k:=wk'.length) (by congr 1;omega) hgi) ?_
  repeat first|exact zE|refine zP ?_|refine zB fun b=>?_|refine zC fun a' c' hc1 hc2=>?_|(apply GJ.a;exact rfl;intro hg)|(apply GJ.o;exact rfl;intro hg)
  refine OpOk.shrink (a:=ad) (m:=wk'.length) (Nat.le_succ _) ?_
  rw [hsh]
  refine OpOk.load rfl rfl (Go.E.Ld.rs hrs (by rw [Int.toNat_natCast];exact q1)) ?_
  repeat first|exact zE|refine zP ?_|refine zB fun b=>?_|refine zC fun a' c' hc1 hc2=>?_|(apply GJ.a;exact rfl;intro hg)|(apply GJ.o;exact rfl;intro hg)
  have hc0:∀ s,cutA ad (Int.toNat 0) cp s=ad:=fun s=>cutA_zero ad cp s
  rw [hc0,show (((wk'.length+1:Nat):Int)-1).toNat-Int.toNat 0=wk'.length by omega,show cp-Int.toNat 0=cp from rfl]
  refine LoopOk.at (ι:=Nat × List Nat × List Bool × Option Addr × Nat) Keep.z (fun (k,w,m,ad,cp)=>[(40,.int .i64 (k:Int)),(4,.slice ad w.length cp)]) (fun (k,w,m,ad,cp)=>.sl ad w.length cp 3 1 (natsV w)::.sl (some ⟨bO,0,none⟩) D.next.length D.next.length 4 1 (boolsV m)::own) (fun (k,w,m,ad,cp)=>k≤row.length∧MetR D m w s k∧w.length≤cntB m∧2*(D.next.length-cntB m)+w.length≤C∧w.length≤cp∧cp≤maxLen) (fun (k,w,m,ad,cp)=>row.length-k) (0,wk',m,ad,cp) ?_ Sub.z Sup.z ?_
  ·exact ⟨Nat.zero_le _,hR0,by omega,by omega,by omega,i4⟩
  clear i1 hR0 i3 i4 hgi hsh hwl hmv hml
  rintro ⟨k,wk2,m2,ad2,cp2⟩ ⟨j1,j2,j3,j4,j5,j6⟩
  dsimp only [List.cons_append,List.nil_append] at j1 j2 j3 j4 j5 j6 ⊢
  have hml:=j2.len
  have hmv:=boolsV_len m2
  have hcm2:=cntB_le' m2
  have hwl:(natsV wk2).length=wk2.length*1:=by simp [natsV]
  by_cases hkl:k<row.length
  ·obtain ⟨z,hz⟩:∃ z,row[k]?=some z:=⟨_,List.getElem?_eq_getElem hkl⟩
   have hbz:=bang hz
   have hz':(rowA D s)[k]?=some z:=by rw [hra];exact hz
   rcases row_ent ho hrow hz with rfl|⟨u,rfl,hu⟩
   ·repeat (first|exact zE|refine zP ?_|refine zB (fun b=>?_)|refine zC (fun a' c' hc1 hc2=>?_))
    rw [hbz]
    repeat first|exact zE|refine zP ?_|refine zB fun b=>?_|refine zC fun a' c' hc1 hc2=>?_|(apply GJ.a;exact rfl;intro hg)|(apply GJ.o;exact rfl;intro hg)
    refine Wk.id ⟨(k+1,wk2,m2,ad2,cp2),⟨rfl,?_⟩,?_,Sub.z,Sup.z⟩
    all_goals try dsimp only
    ·exact ⟨by omega,j2.skip hz' (fun h=>by omega),j3,j4,j5,j6⟩
    ·omega
   ·have hb2:=bangB (l:=m2) (i:=u) (by omega)
    cases hp:getB m2 u with
    | true =>
      rw [hp] at hb2
      repeat (first|exact zE|refine zP ?_|refine zB (fun b=>?_)|refine zC (fun a' c' hc1 hc2=>?_))
      rw [hbz]
      repeat (first|exact zE|refine zP ?_|refine zB (fun b=>?_)|refine zC (fun a' c' hc1 hc2=>?_))
      rw [hb2]
      repeat first|exact zE|refine zP ?_|refine zB fun b=>?_|refine zC fun a' c' hc1 hc2=>?_|(apply GJ.a;exact rfl;intro hg)|(apply GJ.o;exact rfl;intro hg)
      refine Wk.id ⟨(k+1,wk2,m2,ad2,cp2),⟨rfl,?_⟩,?_,Sub.z,Sup.z⟩
      all_goals try dsimp only
      ·exact ⟨by omega,j2.skip hz' (fun h=>by rw [Int.toNat_natCast];exact hp),j3,j4,j5,j6⟩
      ·omega
    | false =>
      rw [hp] at hb2
      have hcs:=cntB_put' (m:=m2) (k:=u) (by omega) hp
      have hcm3:=cntB_le' (m2.set u true)
      rw [List.length_set] at hcm3
      have hpu:=j2.push hz' hu
      have hsn:natsV wk2++[.int .i64 (u:Int)]=natsV (wk2++[u]):=by simp [natsV]
      have hnl:wk2.length+1=(wk2++[u]).length:=by simp
      repeat (first|exact zE|refine zP ?_|refine zB (fun b=>?_)|refine zC (fun a' c' hc1 hc2=>?_))
      rw [hbz]
      repeat (first|exact zE|refine zP ?_|refine zB (fun b=>?_)|refine zC (fun a' c' hc1 hc2=>?_))
      rw [hb2]
      repeat first|exact zE|refine zP ?_|refine zB fun b=>?_|refine zC fun a' c' hc1 hc2=>?_|(apply GJ.a;exact rfl;intro hg)|(apply GJ.o;exact rfl;intro hg)
      refine OpOk.storeSlAt' (k:=u) rfl rfl rfl rfl (by rw [Int.toNat_natCast]) (by omega) ?_
      rw [boolsV_set]
      repeat first|exact zE|refine zP ?_|refine zB fun b=>?_|refine zC fun a' c' hc1 hc2=>?_|(apply GJ.a;exact rfl;intro hg)|(apply GJ.o;exact rfl;intro hg)
      rw [hsn]
      rw [hnl] at hc1 ⊢
      repeat first|exact zE|refine zP ?_|refine zB fun b=>?_|refine zC fun a' c' hc1 hc2=>?_|(apply GJ.a;exact rfl;intro hg)|(apply GJ.o;exact rfl;intro hg)
      refine Wk.id ⟨(k+1,wk2++[u],m2.set u true,a',c'),⟨rfl,?_⟩,?_,Sub.z,Sup.z⟩
      all_goals try dsimp only
      ·exact ⟨by omega,hpu,by omega,by omega,hc1,hc2⟩
      ·omega
  ·obtain rfl:k=row.length:=by omega
   repeat first|exact zE|refine zP ?_|refine zB fun b=>?_|refine zC fun a' c' hc1 hc2=>?_|(apply GJ.a;exact rfl;intro hg)|(apply GJ.o;exact rfl;intro hg)
   refine Wk.id ⟨(wk2,m2,ad2,cp2),⟨rfl,?_⟩,?_,Sub.z,Sup.z⟩
   all_goals try dsimp only
   ·exact ⟨j2.fin (by rw [hra];exact Nat.le_refl _),j3,j5,j6⟩
   ·omega
end
theorem clsV_set (C:List Nat) (k c:Nat):(clsV C).set k (.int .u8 (c:Int))=clsV (C.set k c):=by simp [clsV,List.map_set]
theorem clsV_zero (n:Nat):List.replicate n (Value.int .u8 0)=clsV (List.replicate n 0):=by simp [clsV]
theorem u8_ofNat {d:Nat} (h:d<256):u8 (UInt8.ofNat d)=.int .u8 (d:Int):=by unfold u8;rw [UInt8.toNat_ofNat_of_lt' h]
section
variable {ro:Ro}{own r:Chs}{K:Value→Ro→Chs→Prop}{g:Chunk→Chs}
theorem dstepY_ok {q:Nat}{d:DfaA}{w:Nat}{s x:Int}{c:Nat} (hx:x=(c:Int)) (hD:DAt ro q d) (ho:DfaOk w d) (hc:c<256) (hk:K (.int .i64 (stepA d s c)) ro own):CallOk Tryz.prog 22 #[ptr' q,.int .i64 s,.int .u8 x] ro own K:=by
 subst hx
 exact dstep_ok hD ho hc hk
set_option maxHeartbeats 4000000 in
theorem aback_ok {a:DfaA}{i c n:Nat}{fr:List Int}{bs wk:List Nat}{W:List (List UInt8)}{af ab:Option Addr}{cf cb j0 s0:Nat}{w0:List UInt8} (hF:Rs ro af n cf 1 (intV fr)) (hB:Rs ro ab n cb 1 (clsV bs)) (h:BfsI a i c fr bs wk W) (hj:wk[j0]?=some s0) (hw:W[j0]?=some w0) (hn:a.next.length=n) (hn2:n≤1024)
  (hk:∀ a' c',w0.length≤1024→K (.slice a' w0.length c') ro (.sl a' w0.length c' 5 1 (w0.map u8)::own)):CallOk Tryz.prog 33 #[.slice af n cf,.slice ab n cb,.int .i64 (s0:Int)] ro own K:=by
 have hwk:=h.wkl
 have hjl:=(List.getElem?_eq_some_iff.1 hj).1
 have hfm:=hF.max
 have hfl:=hF.le
 have hbm:=hB.max
 have hbl:=hB.le
 unfold maxLen at hfm hbm
 have hfr:=h.frl
 have hbs:=h.bsl
 refine CallOk.intro (args:=[_,_,_]) (rs:=[_]) T_ok Tryz.func33 Tryz.call33 rfl rfl (by kernel_rfl) rfl rfl ?_
 repeat first|exact zE|refine zP ?_|refine zB fun b=>?_|refine zC fun a' c' hc1 hc2=>?_|(apply GJ.a;exact rfl;intro hg)|(apply GJ.o;exact rfl;intro hg)
 refine LoopOk.at (ι:=Nat × Nat × List UInt8 × List UInt8 × Option Addr × Nat) Keep.z (fun (j,s,w,o,ao,co)=>[(2,.int .i64 (s:Int)),(7,.slice ao o.length co)]) (fun (j,s,w,o,ao,co)=>.sl ao o.length co 5 1 (o.map u8)::own) (fun (j,s,w,o,ao,co)=>wk[j]?=some s∧W[j]?=some w∧w++o=w0∧o.length+j≤j0∧o.length≤co∧co≤maxLen) (fun (j,s,w,o,ao,co)=>j) (j0,s0,w0,[],none,0) ?_ Sub.z Sup.z ?_
 ·exact ⟨hj,hw,by simp,by simp,Nat.le_refl _,Nat.zero_le _⟩
 clear hj hw
 rintro ⟨j,s,w,o,ao,co⟩ ⟨i1,i2,i3,i4,i5,i6⟩
 dsimp only [List.cons_append,List.nil_append] at i1 i2 i3 i4 i5 i6 ⊢
 have hsn:=(h.run j s w i1 i2).1
 rcases h.par j s w i1 i2 with ⟨p1,p2,p3⟩|⟨p,q,d,v,p1,p2,p3,p4,p5,p6,p7⟩
 ·have hb1:=bang p2
  subst p3
  rw [List.nil_append] at i3
  subst i3
  repeat first|exact zE|refine zP ?_|refine zB fun b=>?_|refine zC fun a' c' hc1 hc2=>?_|(apply GJ.a;exact rfl;intro hg)|(apply GJ.o;exact rfl;intro hg)
  exact Wk.outS Sup.z (.refl _) (hk ao co (by omega))
 ·have hb1:=bang p4
  have hb2:=bang p5
  have hq:=(h.run p q v p2 p3).1
  have hcons:Value.int .u8 (d:Int)::o.map u8=(UInt8.ofNat d::o).map u8:=by rw [List.map_cons,u8_ofNat p6]
  have hl1:1+o.length=(UInt8.ofNat d::o).length:=by simp;omega
  have hol:(o.map u8).length=o.length:=by simp
  repeat (first|exact zE|refine zP ?_|refine zB (fun b=>?_)|refine zC (fun a' c' hc1 hc2=>?_))
  rw [hb1]
  repeat first|exact zE|refine zP ?_|refine zB fun b=>?_|refine zC fun a' c' hc1 hc2=>?_|(apply GJ.a;exact rfl;intro hg)|(apply GJ.o;exact rfl;intro hg)
  rw [hb2]
  rw [List.singleton_append,hcons]
  rw [hl1] at hc1 ⊢
  repeat first|exact zE|refine zP ?_|refine zB fun b=>?_|refine zC fun a' c' hc1 hc2=>?_|(apply GJ.a;exact rfl;intro hg)|(apply GJ.o;exact rfl;intro hg)
  refine Wk.id ⟨(p,q,v,UInt8.ofNat d::o,a',c'),⟨rfl,?_⟩,?_,Sub.z,Sup.z⟩
  all_goals try dsimp only
  ·exact ⟨p2,p3,by rw [←i3,p7];simp,by simp;omega,hc1,hc2⟩
  ·omega
set_option maxHeartbeats 4000000 in
theorem ashort_ok {q:Nat}{D:DfaA} (hq:DAt ro q D) (hL:LeastA D) (hk0:shortA D=none→K (.tuple #[.slice none 0 0,.bool false]) ro own)
  (hk1:∀ ro' a c s,Le ro ro'→shortA D=some s→s.length≤1024→Rs ro' a s.length c 1 (s.map u8)→K (.tuple #[.slice a s.length c,.bool true]) ro' own):CallOk Tryz.prog 11 #[ptr' q] ro own K:=by
 obtain ⟨w,hw6,ho,hs,_,_⟩:=hL.ok
 have hpos:=hL.pos
 have hn:=hL.le
 unfold shortA at hk0 hk1
 rw [if_neg (by omega)] at hk0 hk1
 obtain ⟨N,hN⟩:∃ N,N=D.next.length:=⟨_,rfl⟩
 refine CallOk.intro (args:=[_]) (rs:=[_,_]) T_ok Tryz.func11 Tryz.call11 rfl rfl (by kernel_rfl) rfl rfl ?_
 repeat first|exact zE|refine zP ?_|refine zB fun b=>?_|refine zC fun a' c' hc1 hc2=>?_|(apply GJ.a;exact rfl;intro hg)|(apply GJ.o;exact rfl;intro hg)
 refine dlen_ok hq ?_
 repeat first|exact zE|refine zP ?_|refine zB fun b=>?_|refine zC fun a' c' hc1 hc2=>?_|(apply GJ.a;exact rfl;intro hg)|(apply GJ.o;exact rfl;intro hg)
 refine dlen_ok hq ?_
 repeat first|exact zE|refine zP ?_|refine zB fun b=>?_|refine zC fun a' c' hc1 hc2=>?_|(apply GJ.a;exact rfl;intro hg)|(apply GJ.o;exact rfl;intro hg)
 refine AllOk.at (ι:=Nat × Nat) (fun (b,c)=>[(0,ptr' q),(4,.slice (some ⟨b,0,none⟩) (D.next.length:Int).toNat (D.next.length:Int).toNat),(5,.slice (some ⟨c,0,none⟩) (D.next.length:Int).toNat (D.next.length:Int).toNat)]) (fun (b,c)=>.sl (some ⟨b,0,none⟩) (D.next.length:Int).toNat (D.next.length:Int).toNat 3 1 (List.replicate (D.next.length:Int).toNat (Value.int .i64 0))::.sl (some ⟨c,0,none⟩) (D.next.length:Int).toNat (D.next.length:Int).toNat 5 1 (List.replicate (D.next.length:Int).toNat (Value.int .u8 0))::own) (fun _=>True) ?_ (fun ⟨bF,bB⟩ _=>?_)
 ·repeat' (first|with_reducible exact vFo.nil|((with_reducible refine vFo.cons ?_ ?_);refine vOne.at (by rfl) ?_)|((with_reducible refine vFo.leaf ?_);exact ⟨rfl,(_,_),Sub.z,Sup.z,trivial⟩)|refine vFo.stop Sup.z ?_|(show Stop (OpOk _ _ _ _ _ _ _);refine Stop.mk ?_)|(show Stop (CallOk _ _ _ _ _ _);refine Stop.mk ?_)|refine zB (fun b=>?_)|refine dlen_ok hq ?_)
 dsimp only
 rw [Int.toNat_natCast,intV_zero,clsV_zero,←hN]
 have hL0:(List.replicate N (-2:Int)).length=N:=by simp
 obtain ⟨L,hLd⟩:∃ L,L=List.replicate N (-2:Int):=⟨_,rfl⟩
 rw [←hLd] at hL0
 have hB0:(List.replicate N 0).length=N:=by simp
 obtain ⟨B0,hBd⟩:∃ B:List Nat,B=List.replicate N 0:=⟨_,rfl⟩
 rw [←hBd] at hB0 ⊢
 repeat first|exact zE|refine zP ?_|refine zB fun b=>?_|refine zC fun a' c' hc1 hc2=>?_|(apply GJ.a;exact rfl;intro hg)|(apply GJ.o;exact rfl;intro hg)
 refine LoopOk.at (ι:=Nat) Keep.z (fun k=>[(23,.int .i64 (k:Int))]) (fun k=>.sl (some ⟨bF,0,none⟩) N N 3 1 (intV (L.take k++List.replicate (N-k) 0))::.sl (some ⟨bB,0,none⟩) N N 5 1 (clsV B0)::own) (fun k=>k≤N) (fun k=>N-k) 0 ?_ Sub.z Sup.z ?_
 ·exact Nat.zero_le _
 intro k k1
 dsimp only [List.cons_append,List.nil_append] at k1 ⊢
 have hfl:=fill_len (z:=(0:Int)) hL0 k1
 have hfv:=intV_len (L.take k++List.replicate (N-k) 0)
 by_cases hkN:k<N
 ·have hgv:L[k]?=some (-2):=by rw [hLd,List.getElem?_replicate,if_pos hkN]
  have hfs:=fill_set (z:=(0:Int)) hL0 hgv
  repeat first|exact zE|refine zP ?_|refine zB fun b=>?_|refine zC fun a' c' hc1 hc2=>?_|(apply GJ.a;exact rfl;intro hg)|(apply GJ.o;exact rfl;intro hg)
  refine OpOk.storeSlAt' (k:=k) rfl rfl rfl rfl (by rw [Int.toNat_natCast]) (by omega) ?_
  rw [intV_set,hfs]
  repeat first|exact zE|refine zP ?_|refine zB fun b=>?_|refine zC fun a' c' hc1 hc2=>?_|(apply GJ.a;exact rfl;intro hg)|(apply GJ.o;exact rfl;intro hg)
  refine Wk.id ⟨k+1,⟨rfl,?_⟩,?_,Sub.z,Sup.z⟩
  all_goals try dsimp only
  ·omega
  ·omega
 ·obtain rfl:N=k:=by omega
  rw [List.take_of_length_le (by omega),Nat.sub_self,List.replicate_zero,List.append_nil]
  have hlv:=intV_len L
  repeat first|exact zE|refine zP ?_|refine zB fun b=>?_|refine zC fun a' c' hc1 hc2=>?_|(apply GJ.a;exact rfl;intro hg)|(apply GJ.o;exact rfl;intro hg)
  refine OpOk.storeSlAt' (k:=0) rfl rfl rfl rfl rfl (by omega) ?_
  rw [intV_set]
  have hI0:=BfsI.start hpos
  rw [←hN,←hLd,←hBd] at hI0 hk0 hk1
  generalize L.set 0 (-1)=fr0 at *
  clear hLd hBd hfl hfv hlv
  obtain ⟨Z,hZ⟩:∃ Z,Z=bfsL D (N+1) 0 fr0 B0 [0]:=⟨_,rfl⟩
  rw [←hZ] at hk0 hk1
  repeat first|exact zE|refine zP ?_|refine zB fun b=>?_|refine zC fun a' c' hc1 hc2=>?_|(apply GJ.a;exact rfl;intro hg)|(apply GJ.o;exact rfl;intro hg)
  obtain ⟨bW,hbW⟩:∃ z:Nat,z=b:=⟨_,rfl⟩
  subst hbW
  refine LoopOk.at (ι:=Nat × List Int × List Nat × List Nat × List (List UInt8) × Option Addr × Nat) Keep.z (fun (i,fr,bs,wk,W,ad,cp)=>[(8,.int .i64 (i:Int)),(7,.slice ad wk.length cp)]) (fun (i,fr,bs,wk,W,ad,cp)=>.sl ad wk.length cp 3 1 (natsV wk)::.sl (some ⟨bF,0,none⟩) N N 3 1 (intV fr)::.sl (some ⟨bB,0,none⟩) N N 5 1 (clsV bs)::own) (fun (i,fr,bs,wk,W,ad,cp)=>BfsI D i 0 fr bs wk W∧bfsL D (N+1-i) i fr bs wk=Z∧i≤wk.length∧wk.length≤cp∧cp≤maxLen) (fun (i,fr,bs,wk,W,ad,cp)=>N+1-i) (0,fr0,B0,[0],[[]],some ⟨bW,0,none⟩,1) ?_ Sub.z Sup.z ?_
  ·exact ⟨hI0,hZ.symm,Nat.zero_le _,Nat.le_refl _,by unfold maxLen;decide⟩
  clear hI0 hZ fr0 hL0 hB0 B0
  rintro ⟨i,fr,bs,wk,W,ad,cp⟩ ⟨i1,i2,i3,i4,i5⟩
  dsimp only [List.cons_append,List.nil_append] at i1 i2 i3 i4 i5 ⊢
  have hwk:=i1.wkl
  have hfl:=i1.frl
  have hbl:=i1.bsl
  have hfv:=intV_len fr
  have hbv:=clsV_len bs
  have hwv:=natsV_len wk
  obtain ⟨F,hF⟩:∃ F,N+1-i=F+1:=⟨N-i,by omega⟩
  rw [hF,bfsL] at i2
  by_cases hil:i<wk.length
  ·obtain ⟨s,hsi⟩:∃ s,wk[i]?=some s:=⟨_,List.getElem?_eq_getElem hil⟩
   obtain ⟨w0,hwi⟩:∃ x,W[i]?=some x:=⟨_,List.getElem?_eq_getElem (show i<W.length by rw [i1.len];exact hil)⟩
   have hsn:=(i1.run i s w0 hsi hwi).1
   have hbs:=bang hsi
   rw [hsi] at i2
   dsimp only at i2
   by_cases he:endsA D (s:Int)=true
   ·rw [if_pos he] at i2
    subst i2
    dsimp only at hk1
    rw [back_ok i1 (N+1) i s w0 [] (by omega) hsi hwi,List.append_nil] at hk1
    repeat first|exact zE|refine zP ?_|refine zB fun b=>?_|refine zC fun a' c' hc1 hc2=>?_|(apply GJ.a;exact rfl;intro hg)|(apply GJ.o;exact rfl;intro hg)
    rw [hbs]
    refine dends_ok hq ?_
    rw [he]
    repeat first|exact zE|refine zP ?_|refine zB fun b=>?_|refine zC fun a' c' hc1 hc2=>?_|(apply GJ.a;exact rfl;intro hg)|(apply GJ.o;exact rfl;intro hg)
    refine CallOk.freeze (c:=.sl (some ⟨bF,0,none⟩) _ _ _ _ _) Take.auto (fun ro2 hl2 hc2=>?_)
    refine CallOk.freeze (c:=.sl (some ⟨bB,0,none⟩) _ _ _ _ _) Take.auto (fun ro3 hl3 hc3=>?_)
    refine aback_ok (Rs.up (Rs.last hc2)) (Rs.last hc3) i1 hsi hwi hN.symm (by omega) (fun a' c' hw10=>?_)
    repeat first|exact zE|refine zP ?_|refine zB fun b=>?_|refine zC fun a' c' hc1 hc2=>?_|(apply GJ.a;exact rfl;intro hg)|(apply GJ.o;exact rfl;intro hg)
    refine Wk.freeze (c:=.sl a' _ _ _ _ _) Take.auto (fun ro4 hl4 hc4=>?_)
    exact Wk.outS Sup.z (.refl _) (hk1 ro4 a' c' w0 ((hl2.trans hl3).trans hl4) rfl hw10 (Rs.last hc4))
   ·rw [if_neg he] at i2
    rw [Bool.not_eq_true] at he
    obtain ⟨R,hR⟩:∃ R,R=bfsC D s 256 0 fr bs wk:=⟨_,rfl⟩
    rw [←hR] at i2
    repeat first|exact zE|refine zP ?_|refine zB fun b=>?_|refine zC fun a' c' hc1 hc2=>?_|(apply GJ.a;exact rfl;intro hg)|(apply GJ.o;exact rfl;intro hg)
    rw [hbs]
    refine dends_ok hq ?_
    rw [he]
    repeat first|exact zE|refine zP ?_|refine zB fun b=>?_|refine zC fun a' c' hc1 hc2=>?_|(apply GJ.a;exact rfl;intro hg)|(apply GJ.o;exact rfl;intro hg)
    refine LoopOk.at (ι:=Nat × List Int × List Nat × List Nat × List (List UInt8) × Option Addr × Nat) Keep.z (fun (c,fr,bs,wk,W,ad,cp)=>[(50,.int .i64 (c:Int)),(7,.slice ad wk.length cp)]) (fun (c,fr,bs,wk,W,ad,cp)=>.sl ad wk.length cp 3 1 (natsV wk)::.sl (some ⟨bF,0,none⟩) N N 3 1 (intV fr)::.sl (some ⟨bB,0,none⟩) N N 5 1 (clsV bs)::own) (fun (c,fr,bs,wk,W,ad,cp)=>c≤256∧BfsI D i c fr bs wk W∧bfsC D s (256-c) c fr bs wk=R∧wk[i]?=some s∧wk.length≤cp∧cp≤maxLen) (fun (c,fr,bs,wk,W,ad,cp)=>256-c) (0,fr,bs,wk,W,ad,cp) ?_ Sub.z Sup.z ?_
    ·exact ⟨Nat.zero_le _,i1,hR.symm,hsi,i4,i5⟩
    clear i1 i3 i4 i5 hwk hfl hbl hfv hbv hwv hil hsi hwi hbs hR
    rintro ⟨c,fr,bs,wk,W,ad,cp⟩ ⟨c1,c2,c3,c4,c5,c6⟩
    dsimp only [List.cons_append,List.nil_append] at c1 c2 c3 c4 c5 c6 ⊢
    have hwk:=c2.wkl
    have hfl:=c2.frl
    have hbl:=c2.bsl
    have hfv:=intV_len fr
    have hbv:=clsV_len bs
    have hwv:=natsV_len wk
    have hbs:=bang c4
    have hil:=(List.getElem?_eq_some_iff.1 c4).1
    by_cases hc:c<256
    ·rw [show 256-c=(256-(c+1))+1 by omega,bfsC] at c3
     have hsk:=c2.skip c4 hc ho
     rcases step_to ho (s:Int) hc with hz|⟨u,hz,hu⟩
     ·rw [hz] at c3 hsk
      rw [if_neg (fun h=>h.1 rfl)] at c3
      have hsk:=hsk (fun h=>h.1 rfl)
      repeat first|exact zE|refine zP ?_|refine zB fun b=>?_|refine zC fun a' c' hc1 hc2=>?_|(apply GJ.a;exact rfl;intro hg)|(apply GJ.o;exact rfl;intro hg)
      refine dstepY_ok (w:=w) (c:=c) (by omega) hq ho hc ?_
      rw [hz]
      repeat first|exact zE|refine zP ?_|refine zB fun b=>?_|refine zC fun a' c' hc1 hc2=>?_|(apply GJ.a;exact rfl;intro hg)|(apply GJ.o;exact rfl;intro hg)
      refine Wk.id ⟨(c+1,fr,bs,wk,W,ad,cp),⟨rfl,?_⟩,?_,Sub.z,Sup.z⟩
      all_goals try dsimp only
      ·exact ⟨by omega,hsk,c3,c4,c5,c6⟩
      ·omega
     ·obtain ⟨f,hf⟩:∃ f,fr[u]?=some f:=⟨_,List.getElem?_eq_getElem (by omega)⟩
      have hbf:=bang hf
      rw [hz,Int.toNat_natCast,hf,Option.getD_some] at c3 hsk
      by_cases hf2:f=-2
      ·subst hf2
       rw [if_pos ⟨by omega,rfl⟩] at c3
       obtain ⟨w1,hw1⟩:∃ x,W[i]?=some x:=⟨_,List.getElem?_eq_getElem (show i<W.length by rw [c2.len];exact hil)⟩
       have hpu:=c2.put c4 hw1 hc hu hz hf
       have hsn2:natsV wk++[.int .i64 (u:Int)]=natsV (wk++[u]):=by simp [natsV]
       have hnl:wk.length+1=(wk++[u]).length:=by simp
       have hwk2:=hpu.wkl
       rw [←hnl] at hwk2
       repeat first|exact zE|refine zP ?_|refine zB fun b=>?_|refine zC fun a' c' hc1 hc2=>?_|(apply GJ.a;exact rfl;intro hg)|(apply GJ.o;exact rfl;intro hg)
       refine dstepY_ok (w:=w) (c:=c) (by omega) hq ho hc ?_
       rw [hz]
       repeat (first|exact zE|refine zP ?_|refine zB (fun b=>?_)|refine zC (fun a' c' hc1 hc2=>?_))
       rw [hbf]
       repeat first|exact zE|refine zP ?_|refine zB fun b=>?_|refine zC fun a' c' hc1 hc2=>?_|(apply GJ.a;exact rfl;intro hg)|(apply GJ.o;exact rfl;intro hg)
       refine OpOk.storeSlAt' (k:=u) rfl rfl rfl rfl (by rw [Int.toNat_natCast]) (by omega) ?_
       rw [intV_set]
       repeat first|exact zE|refine zP ?_|refine zB fun b=>?_|refine zC fun a' c' hc1 hc2=>?_|(apply GJ.a;exact rfl;intro hg)|(apply GJ.o;exact rfl;intro hg)
       refine OpOk.storeSlAt' (k:=u) rfl rfl rfl rfl (by rw [Int.toNat_natCast]) (by omega) ?_
       rw [show ((c:Nat):Int) % 256=(c:Int) by omega,clsV_set]
       repeat first|exact zE|refine zP ?_|refine zB fun b=>?_|refine zC fun a' c' hc1 hc2=>?_|(apply GJ.a;exact rfl;intro hg)|(apply GJ.o;exact rfl;intro hg)
       rw [hsn2]
       rw [hnl] at hc1 ⊢
       repeat first|exact zE|refine zP ?_|refine zB fun b=>?_|refine zC fun a' c' hc1 hc2=>?_|(apply GJ.a;exact rfl;intro hg)|(apply GJ.o;exact rfl;intro hg)
       refine Wk.id ⟨(c+1,fr.set u (s:Int),bs.set u c,wk++[u],W++[w1++[UInt8.ofNat c]],a',c'),⟨rfl,?_⟩,?_,Sub.z,Sup.z⟩
       all_goals try dsimp only
       ·exact ⟨by omega,hpu,c3,snoc_old c4,hc1,hc2⟩
       ·omega
      ·rw [if_neg (fun h=>hf2 h.2)] at c3
       have hsk:=hsk (fun h=>hf2 h.2)
       repeat first|exact zE|refine zP ?_|refine zB fun b=>?_|refine zC fun a' c' hc1 hc2=>?_|(apply GJ.a;exact rfl;intro hg)|(apply GJ.o;exact rfl;intro hg)
       refine dstepY_ok (w:=w) (c:=c) (by omega) hq ho hc ?_
       rw [hz]
       repeat (first|exact zE|refine zP ?_|refine zB (fun b=>?_)|refine zC (fun a' c' hc1 hc2=>?_))
       rw [hbf]
       repeat first|exact zE|refine zP ?_|refine zB fun b=>?_|refine zC fun a' c' hc1 hc2=>?_|(apply GJ.a;exact rfl;intro hg)|(apply GJ.o;exact rfl;intro hg)
       refine Wk.id ⟨(c+1,fr,bs,wk,W,ad,cp),⟨rfl,?_⟩,?_,Sub.z,Sup.z⟩
       all_goals try dsimp only
       ·exact ⟨by omega,hsk,c3,c4,c5,c6⟩
       ·omega
    ·obtain rfl:c=256:=by omega
     rw [Nat.sub_self,bfsC] at c3
     rw [←c3] at i2
     repeat first|exact zE|refine zP ?_|refine zB fun b=>?_|refine zC fun a' c' hc1 hc2=>?_|(apply GJ.a;exact rfl;intro hg)|(apply GJ.o;exact rfl;intro hg)
     refine Wk.id ⟨(i+1,fr,bs,wk,W,ad,cp),⟨rfl,?_⟩,?_,Sub.z,Sup.z⟩
     all_goals try dsimp only
     ·exact ⟨c2.next,by rw [show N+1-(i+1)=F by omega];exact i2,by omega,c5,c6⟩
     ·omega
  ·rw [List.getElem?_eq_none (by omega)] at i2
   dsimp only at i2
   subst i2
   repeat first|exact zE|refine zP ?_|refine zB fun b=>?_|refine zC fun a' c' hc1 hc2=>?_|(apply GJ.a;exact rfl;intro hg)|(apply GJ.o;exact rfl;intro hg)
   exact Wk.outS Sup.z (.refl _) (hk0 rfl)
theorem aempty_ok {q:Nat}{D:DfaA} (hq:DAt ro q D) (hL:LeastA D) (hk:∀ ro',Le ro ro'→K (.bool (shortA D).isNone) ro' own):CallOk Tryz.prog 12 #[ptr' q] ro own K:=by
 refine CallOk.intro (args:=[_]) (rs:=[_]) T_ok Tryz.func12 Tryz.call12 rfl rfl (by kernel_rfl) rfl rfl ?_
 repeat first|exact zE|refine zP ?_|refine zB fun b=>?_|refine zC fun a' c' hc1 hc2=>?_|(apply GJ.a;exact rfl;intro hg)|(apply GJ.o;exact rfl;intro hg)
 refine ashort_ok hq hL (fun h=>?_) (fun ro2 a c s hl h h4 hr=>?_)
 ·repeat first|exact zE|refine zP ?_|refine zB fun b=>?_|refine zC fun a' c' hc1 hc2=>?_|(apply GJ.a;exact rfl;intro hg)|(apply GJ.o;exact rfl;intro hg)
  rw [h] at hk
  exact Wk.id (hk ro (Le.refl _))
 ·repeat first|exact zE|refine zP ?_|refine zB fun b=>?_|refine zC fun a' c' hc1 hc2=>?_|(apply GJ.a;exact rfl;intro hg)|(apply GJ.o;exact rfl;intro hg)
  rw [h] at hk
  exact Wk.id (hk ro2 hl)
theorem anull_ok {q:Nat}{D:DfaA} (hq:DAt ro q D) (hk:K (.bool (endsA D 0)) ro own):CallOk Tryz.prog 13 #[ptr' q] ro own K:=by
 refine CallOk.intro (args:=[_]) (rs:=[_]) T_ok Tryz.func13 Tryz.call13 rfl rfl (by kernel_rfl) rfl rfl ?_
 repeat first|exact zE|refine zP ?_|refine zB fun b=>?_|refine zC fun a' c' hc1 hc2=>?_|(apply GJ.a;exact rfl;intro hg)|(apply GJ.o;exact rfl;intro hg)
 refine dends_ok hq ?_
 repeat first|exact zE|refine zP ?_|refine zB fun b=>?_|refine zC fun a' c' hc1 hc2=>?_|(apply GJ.a;exact rfl;intro hg)|(apply GJ.o;exact rfl;intro hg)
 exact Wk.id hk
end
end Go.Proofs.YtficlekgjbnniaaGreatDoor
end
