/- Texts of a walk, one behind the other. -/
import Derived.Shelf.Strconv.Itoa3
import Derived.Shelf.Strings.Search3
import Derived.Ground.NamesProg
import Derived.Test.YtnapjcnfgdkmcaaGreatDoorMg2
import Derived.Test.YtnapjcnfgdkmcaaGreatDoorMg3
import Derived.Test.YtnapjcnfgdkmcaaGreatDoorMg4
set_option linter.unusedVariables false
set_option linter.unusedSimpArgs false
set_option linter.unusedSectionVars false
set_option maxRecDepth 10000
section
namespace Go.Proofs.YtnapjcnfgdkmcaaGreatDoor
open Go Go.E
def zCG:List zAh→List zA5→List (Nat × Nat × Nat × Nat)→Chs
 | d::ds,a::xs,k::ks=>zCb d a k++zCG ds xs ks
 | _,_,_=>[]
def NodesClip (ds:List zAh) (xs:List zA5):Prop:=∀ (i:Nat) (d:zAh) (x:zA5),ds[i]?=some d→xs[i]?=some x→zIw d x
theorem NodesClip.snoc {ds:List zAh}{xs:List zA5}{d:zAh}{x:zA5} (h:NodesClip ds xs) (hl:xs.length=ds.length) (hx:zIw d x):NodesClip (ds++[d]) (xs++[x]):=fun i d' x' h1 h2=>by
 rcases Nat.lt_or_ge i ds.length with hi|hi
 ·rw [List.getElem?_append_left hi] at h1
  rw [List.getElem?_append_left (by omega)] at h2
  exact h i d' x' h1 h2
 ·rw [List.getElem?_append_right hi] at h1
  rw [List.getElem?_append_right (by omega)] at h2
  have h3:i-ds.length=0:=by have:=(List.getElem?_eq_some_iff.1 h1).1;simp at this;omega
  rw [h3] at h1
  rw [hl,h3] at h2
  simp at h1 h2
  subst h1;subst h2;exact hx
def zGw (s:zAd) (a:zAp) (ks:List (Nat × Nat × Nat × Nat)):Chs :=
 .sl a.na s.nodes.length a.nc 40 18 (zA4 s.nodes a.xs)::.sl a.da s.defs.length a.dc 44 2 (zCL s.defs)::zCG s.nodes a.xs ks
theorem zF5 {d:zAh}{x:zA5}{k:Nat × Nat × Nat × Nat} (ds:List zAh):∀ (xs:List zA5) (ks:List (Nat × Nat × Nat × Nat)),xs.length=ds.length→ks.length=ds.length→zCG (ds++[d]) (xs++[x]) (ks++[k])=zCG ds xs ks++zCb d x k:=by
 induction ds with
 | nil =>
   intro xs ks h1 h2
   obtain rfl:=List.eq_nil_of_length_eq_zero h1
   obtain rfl:=List.eq_nil_of_length_eq_zero h2
   show zCb d x k++[]=[]++zCb d x k
   rw [List.append_nil,List.nil_append]
 | cons d0 ds ih =>
   intro xs ks h1 h2
   cases xs with
   | nil=>simp at h1
   | cons x0 xs =>
     cases ks with
     | nil=>simp at h2
     | cons k0 ks =>
       show zCb d0 x0 k0++zCG (ds++[d]) (xs++[x]) (ks++[k])=zCb d0 x0 k0++zCG ds xs ks++zCb d x k
       rw [ih xs ks (by simpa using h1) (by simpa using h2),List.append_assoc]
theorem zD3 {d:zAh}{x:zA5} (ds:List zAh):∀ (xs:List zA5),xs.length=ds.length→zA4 (ds++[d]) (xs++[x])=zA4 ds xs++zAl d x:=by
 induction ds with
 | nil =>
   intro xs h1
   obtain rfl:=List.eq_nil_of_length_eq_zero h1
   show zAl d x++[]=[]++zAl d x
   rw [List.append_nil,List.nil_append]
 | cons d0 ds ih =>
   intro xs h1
   cases xs with
   | nil=>simp at h1
   | cons x0 xs =>
     show zAl d0 x0++zA4 (ds++[d]) (xs++[x])=zAl d0 x0++zA4 ds xs++zAl d x
     rw [ih xs (by simpa using h1),List.append_assoc]
structure zDg (d:zAh):Prop where
 kids:d.kids.length≤100000000
 last:d.last.length≤100000000
 fields:d.fields.length≤100000000
 cases:d.cases.length≤100000000
section
variable {ro:Ro}{own r:Chs}{K:Value→Ro→Chs→Prop}{g:Chunk→Chs}
set_option maxHeartbeats 1000000 in
theorem zHl {s:zAd}{a:zAp} (ho:SpecOk ro s a) (hn:s.nodes.length≤100000∧s.defs.length≤100000) (hs:∀ d∈s.nodes,zDg d)
  (hk:∀ a' ks,a'.xs.length=s.nodes.length→ks.length=s.nodes.length→NodesClip s.nodes a'.xs→a'.nc≤maxLen→a'.dc≤maxLen→K (.agg (zAf s a').toArray) ro (zGw s a' ks++own)):CallOk Tryz.prog 90 #[.agg (zAf s a).toArray] ro own K:=by
 have hr1:=ho.nodes
 have hr2:=ho.defs
 have hlen:=ho.len
 refine CallOk.intro (args:=[_]) (rs:=[_]) T_ok Tryz.func90 Tryz.call90 rfl rfl (by kernel_rfl) rfl rfl ?_
 repeat first|exact zE|refine wkG ?_|refine zB fun b=>?_|refine zC fun a' c' hc1 hc2=>?_|(show GJ _ _ _ _ _ _ _;first|(apply GJ.a;exact rfl;intro hg)|(apply GJ.o;exact rfl;intro hg)|refine GJ.t zO ?_|refine GJ.f zO ?_|refine GJ.ft zO ?_|refine GJ.ff zO ?_)
 refine zIi hr2 (zId _) (by omega) (fun da dc h1 h2=>?_)
 repeat first|exact zE|refine wkG ?_|refine zB fun b=>?_|refine zC fun a' c' hc1 hc2=>?_|(show GJ _ _ _ _ _ _ _;first|(apply GJ.a;exact rfl;intro hg)|(apply GJ.o;exact rfl;intro hg)|refine GJ.t zO ?_|refine GJ.f zO ?_|refine GJ.ft zO ?_|refine GJ.ff zO ?_)
 rename_i b0 b1
 refine LoopOk.at (ι:=Nat × List zA5 × List (Nat × Nat × Nat × Nat) × Option Addr × Nat × Nat × List Value × Chs) Keep.z (fun (i,xs,ks,na,n1,nc,cs,cl)=>[(13,.int .i64 (i:Int))]) (fun (i,xs,ks,na,n1,nc,cs,cl)=>.blk b 25 [.slice na n1 nc,.slice da s.defs.length dc]::.sl na n1 nc 40 18 cs::.sl da s.defs.length dc 44 2 (zCL s.defs)::.blk b1 25 [.slice none 0 0,.slice none 0 0]::.blk b0 25 (zAf s a)::(cl++own)) (fun (i,xs,ks,na,n1,nc,cs,cl)=>i≤s.nodes.length∧n1=i∧xs.length=i∧ks.length=i∧n1≤nc∧nc≤maxLen∧cs=zA4 (s.nodes.take i) xs∧cl.Perm (zCG (s.nodes.take i) xs ks)∧NodesClip (s.nodes.take i) xs) (fun (i,xs,ks,na,n1,nc,cs,cl)=>s.nodes.length-i) (0,[],[],none,0,0,[],[]) ?_ Sub.z Sup.z ?_
 ·exact ⟨by omega,rfl,rfl,rfl,by omega,by omega,by simp [zA4],by simp [zCG],fun i d x h=>by simp at h⟩
 rintro ⟨i,xs,ks,na,n1,nc,cs,cl⟩ ⟨i1,rfl,i3,i4,i5,i6,rfl,i8,i9⟩
 dsimp only [List.cons_append,List.nil_append] at i1 i3 i4 i5 i6 i8 i9 ⊢
 repeat first|exact zE|refine wkG ?_|refine zB fun b=>?_|refine zC fun a' c' hc1 hc2=>?_|(show GJ _ _ _ _ _ _ _;first|(apply GJ.a;exact rfl;intro hg)|(apply GJ.o;exact rfl;intro hg)|refine GJ.t zO ?_|refine GJ.f zO ?_|refine GJ.ft zO ?_|refine GJ.ff zO ?_)
 refine Br.cases (fun hd=>?_) (fun hd=>?_)
 ·obtain ⟨d,hd1⟩:∃ d,s.nodes[n1]?=some d:=⟨_,List.getElem?_eq_getElem (by omega)⟩
  obtain ⟨x,hx1⟩:∃ x,a.xs[n1]?=some x:=⟨_,List.getElem?_eq_getElem (by omega)⟩
  have hno:=ho.each _ d x hd1 hx1
  have hdrop:=zAj _ _ _ _ _ hd1 hx1
  have hsm:=hs d (List.mem_of_getElem? hd1)
  have htk:s.nodes.take (n1+1)=s.nodes.take n1++[d]:=by rw [List.take_add_one,hd1];rfl
  have hsm1:=hsm.kids
  have hsm2:=hsm.last
  have hsm3:=hsm.fields
  have hsm4:=hsm.cases
  repeat first|exact zE|refine wkG ?_|refine zB fun b=>?_|refine zC fun a' c' hc1 hc2=>?_|(show GJ _ _ _ _ _ _ _;first|(apply GJ.a;exact rfl;intro hg)|(apply GJ.o;exact rfl;intro hg)|refine GJ.t zO ?_|refine GJ.f zO ?_|refine GJ.ft zO ?_|refine GJ.ff zO ?_)
  rw [Int.toNat_natCast]
  refine OpOk.loadRow rfl rfl (LdN.at hr1 hdrop) rfl ?_
  repeat first|exact zE|refine wkG ?_|refine zB fun b=>?_|refine zC fun a' c' hc1 hc2=>?_|(show GJ _ _ _ _ _ _ _;first|(apply GJ.a;exact rfl;intro hg)|(apply GJ.o;exact rfl;intro hg)|refine GJ.t zO ?_|refine GJ.f zO ?_|refine GJ.ft zO ?_|refine GJ.ff zO ?_)
  refine Bs.all ?_
  repeat first|exact zE|refine wkG ?_|refine zB fun b=>?_|refine zC fun a' c' hc1 hc2=>?_|(show GJ _ _ _ _ _ _ _;first|(apply GJ.a;exact rfl;intro hg)|(apply GJ.o;exact rfl;intro hg)|refine GJ.t zO ?_|refine GJ.f zO ?_|refine GJ.ft zO ?_|refine GJ.ff zO ?_)
  refine own_ok hno ⟨hsm1,hsm2,hsm3,hsm4⟩ (fun x' k hcl=>?_)
  dsimp only [zCb,List.cons_append,List.nil_append]
  repeat first|exact zE|refine wkG ?_|refine zB fun b=>?_|refine zC fun a' c' hc1 hc2=>?_|(show GJ _ _ _ _ _ _ _;first|(apply GJ.a;exact rfl;intro hg)|(apply GJ.o;exact rfl;intro hg)|refine GJ.t zO ?_|refine GJ.f zO ?_|refine GJ.ft zO ?_|refine GJ.ff zO ?_)
  refine Wk.id ⟨(n1+1,xs++[x'],ks++[k],_,_,_,_,zCb d x' k++cl),⟨rfl,?_⟩,?_,Sub.z,Sup.z⟩
  all_goals try dsimp only
  ·refine ⟨by omega,rfl,by simp [i3],by simp [i4],by omega,by omega,?_,?_,?_⟩
   ·rw [htk,zD3 _ _ (by simp;omega)];rfl
   ·rw [htk,zF5 _ _ _ (by simp;omega) (by simp;omega)]
    exact ((i8.append_left _).trans List.perm_append_comm)
   ·rw [htk];exact i9.snoc (by simp;omega) hcl
  ·omega
 ·obtain rfl:n1=s.nodes.length:=by omega
  rw [List.take_length] at i8 i9 ⊢
  repeat first|exact zE|refine wkG ?_|refine zB fun b=>?_|refine zC fun a' c' hc1 hc2=>?_|(show GJ _ _ _ _ _ _ _;first|(apply GJ.a;exact rfl;intro hg)|(apply GJ.o;exact rfl;intro hg)|refine GJ.t zO ?_|refine GJ.f zO ?_|refine GJ.ft zO ?_|refine GJ.ff zO ?_)
  refine Wk.outS (own1:=.sl na s.nodes.length nc 40 18 (zA4 s.nodes xs)::.sl da s.defs.length dc 44 2 (zCL s.defs)::(cl++own)) Sup.z ?_ (hk ⟨na,nc,da,dc,xs⟩ ks i3 i4 i9 i6 h2)
  exact ((i8.append_right own).cons _).cons _
end
theorem NodeOk.made {ro:Ro}{d:zAh}{a:zA5}{k:Nat × Nat × Nat × Nat} (hc:zIw d a) (h:∀ c∈zCb d a k,c.holds ro):NodeOk ro d a:=by
 have h1:=Rs.last (h (.sl a.ka d.kids.length k.1 3 1 (zAs d.kids)) (by simp [zCb]))
 have h2:=Rs.last (h (.sl a.la d.last.length k.2.1 4 1 (zBf d.last)) (by simp [zCb]))
 have h3:=Rs.last (h (.sl a.fa d.fields.length k.2.2.1 47 5 (zA0 d.fields)) (by simp [zCb]))
 have h4:=Rs.last (h (.sl a.ca d.cases.length k.2.2.2 97 2 (zAu d.cases)) (by simp [zCb]))
 exact ⟨hc.kids▸h1.clip,hc.last▸h2.clip,hc.fields▸h3.clip,hc.cases▸h4.clip⟩
theorem NodeOk.le {ro ro':Ro}{d:zAh}{a:zA5} (h:NodeOk ro d a) (hl:Le ro ro'):NodeOk ro' d a:=⟨h.kids.up,h.last.up,h.fields.up,h.cases.up⟩
theorem zG8:∀ (ds:List zAh) (xs:List zA5) (ks:List (Nat × Nat × Nat × Nat)) (i:Nat) (d:zAh) (x:zA5),ks.length=ds.length→ds[i]?=some d→xs[i]?=some x→∃ k,∀ c∈zCb d x k,c∈zCG ds xs ks:=by
 intro ds
 induction ds with
 | nil=>intro xs ks i d x _ h;simp at h
 | cons d0 ds ih =>
   intro xs ks i d x hl h1 h2
   cases xs with
   | nil=>simp at h2
   | cons x0 xs =>
     cases ks with
     | nil=>simp at hl
     | cons k0 ks =>
       cases i with
       | zero =>
         simp at h1 h2;subst h1;subst h2
         exact ⟨k0,fun c hc=>List.mem_append.2 (.inl hc)⟩
       | succ i =>
         obtain ⟨k,hk⟩:=ih xs ks i d x (by simpa using hl) (by simpa using h1) (by simpa using h2)
         exact ⟨k,fun c hc=>List.mem_append.2 (.inr (hk c hc))⟩
theorem SpecOk.made {ro:Ro}{s:zAd}{a:zAp}{ks:List (Nat × Nat × Nat × Nat)} (h1:a.xs.length=s.nodes.length) (h2:ks.length=s.nodes.length) (hc:NodesClip s.nodes a.xs) (h:∀ c∈zGw s a ks,c.holds ro):SpecOk ro s a :=
 ⟨h1,Rs.last (h (.sl a.na s.nodes.length a.nc 40 18 (zA4 s.nodes a.xs)) (by simp [zGw])),fun i d x g1 g2=>by
  obtain ⟨k,hk⟩:=zG8 _ _ _ i d x h2 g1 g2
  exact NodeOk.made (k:=k) (hc i d x g1 g2) (fun c hc=>h c (by simp [zGw,hk c hc])),Rs.last (h (.sl a.da s.defs.length a.dc 44 2 (zCL s.defs)) (by simp [zGw]))⟩
section
variable {ro:Ro}{own r:Chs}{K:Value→Ro→Chs→Prop}{g:Chunk→Chs}
theorem own_last {d:zAh}{a:zA5} (ho:NodeOk ro d a) (hs:zDg d) (hk:∀ ro' a',Le ro ro'→NodeOk ro' d a'→K (.agg (zAl d a').toArray) ro' own):CallOk Tryz.prog 117 #[.agg (zAl d a).toArray] ro own K :=
 CallOk.lastly (Q:=fun v l=>∃ a' k,zIw d a'∧v=.agg (zAl d a').toArray∧l=zCb d a' k) (own_ok ho ⟨hs.kids,hs.last,hs.fields,hs.cases⟩ (fun a' k hc=>⟨rfl,_,rfl,a',k,hc,rfl,rfl⟩)) (fun ro' v l hl hh ⟨a',k,hc,hv,he⟩=>by
  subst hv;subst he
  exact hk ro' a' hl (NodeOk.made hc hh))
theorem zF0 {s:zAd}{a:zAp} (ho:SpecOk ro s a) (hn:s.nodes.length≤100000∧s.defs.length≤100000) (hs:∀ d∈s.nodes,zDg d) (hk:∀ ro' a',Le ro ro'→SpecOk ro' s a'→K (.agg (zAf s a').toArray) ro' own) :
  CallOk Tryz.prog 90 #[.agg (zAf s a).toArray] ro own K :=
 CallOk.lastly (Q:=fun v l=>∃ a' ks,a'.xs.length=s.nodes.length∧ks.length=s.nodes.length∧NodesClip s.nodes a'.xs∧v=.agg (zAf s a').toArray∧l=zGw s a' ks) (zHl ho hn hs (fun a' ks h1 h2 h3 _ _=>⟨rfl,_,rfl,a',ks,h1,h2,h3,rfl,rfl⟩)) (fun ro' v l hl hh ⟨a',ks,h1,h2,h3,hv,he⟩=>by
  subst hv;subst he
  exact hk ro' a' hl (SpecOk.made h1 h2 h3 hh))
structure BuildOk (ro:Ro) (s:zAd) (a:zAp):Prop where
 len:a.xs.length=s.nodes.length
 each:∀ (i:Nat) (d:zAh) (x:zA5),s.nodes[i]?=some d→a.xs[i]?=some x→NodeOk ro d x
 nc:s.nodes.length≤a.nc∧a.nc≤maxLen
 dc:s.defs.length≤a.dc∧a.dc≤maxLen
end
def fatV (l:List TokD) (s:PS):Nat:=if s.code=0 then 0 else (l[s.fat]?.getD endT).a
def zBy (la:Option Addr) (lc:Nat) (l:List TokD) (s:PS) (a:zAp):List Value:=[.slice la l.length lc,.int .i64 (s.at':Int),.slice a.na s.nodes.length a.nc,.slice a.da s.defs.length a.dc,.int .i64 (s.code:Int),.int .i64 (fatV l s:Int)]
structure ToksOk (ro:Ro) (la:Option Addr) (lc:Nat) (l:List TokD):Prop where
 rs:Rs ro la l.length lc 3 (zDh l)
 pos:0<l.length
 last:∀ (i:Nat) (t:TokD),l[i]?=some t→(t.kind=5↔i+1=l.length)
 le:l.length≤8193
 text:∀ t∈l,t.text.length≤65536
theorem ToksOk.up {ro ro':Ro}{la:Option Addr}{lc:Nat}{l:List TokD} (h:ToksOk ro la lc l) (hl:Le ro ro'):ToksOk ro' la lc l:=⟨Rs.up h.rs,h.pos,h.last,h.le,h.text⟩
structure RdOk (ro:Ro) (l:List TokD) (s:PS) (a:zAp):Prop where
 at':s.at'<l.length
 fat:s.fat<l.length
 code:s.code≤1000
 build:BuildOk ro ⟨s.nodes,s.defs⟩ a
 sm:∀ d∈s.nodes,zDg d
 nn:s.nodes.length≤2048
 nd:s.defs.length≤64
theorem Nf.self:∀ l:List Value,Nf l l
 | []=>Nf.nil
 | x::l=>Nf.cons x (Nf.self l)
section
variable {ro ro':Ro}{l:List TokD}{s:PS}{a:zAp}{la:Option Addr}{lc:Nat}
theorem RdOk.up (h:RdOk ro l s a) (hl:Le ro ro'):RdOk ro' l s a:=⟨h.at',h.fat,h.code,⟨h.build.len,fun i d x h1 h2=>(h.build.each i d x h1 h2).le hl,h.build.nc,h.build.dc⟩,h.sm,h.nn,h.nd⟩
theorem RdOk.wrong (h:RdOk ro l s a) (e:Nat) (he:e≤1000):RdOk ro l (zAg e s) a:=by
 unfold zAg
 split
 ·exact ⟨h.at',h.at',he,h.build,h.sm,h.nn,h.nd⟩
 ·exact h
theorem zEu (ht:ToksOk ro la lc l) (h:RdOk ro l s a):∃ i,(if s.code=0 then s.at' else l.length-1)=i∧l[i]?=some (zAy (zAa l) s):=by
 unfold zAy zAa
 by_cases hc:s.code=0
 ·rw [if_pos hc,if_pos hc]
  refine ⟨_,rfl,?_⟩
  dsimp only
  rw [List.getElem?_eq_getElem h.at'];rfl
 ·rw [if_neg hc,if_neg hc]
  refine ⟨_,rfl,?_⟩
  dsimp only
  have hp:=ht.pos
  rw [List.getLast?_eq_getElem?,List.getElem?_eq_getElem (by omega)];rfl
theorem zD0 (ht:ToksOk ro la lc l) (h:RdOk ro l s a):zAy (zAa l) s∈l:=by
 obtain ⟨i,_,hi⟩:=zEu ht h
 exact List.mem_of_getElem? hi
theorem RdOk.step (ht:ToksOk ro la lc l) (h:RdOk ro l s a) (hk:(zAy (zAa l) s).kind≠5):RdOk ro l (zC2 s) a:=by
 obtain ⟨i,e,hi⟩:=zEu ht h
 have hl:=(List.getElem?_eq_some_iff.1 hi).1
 have h5:=mt (ht.last i _ hi).2 hk
 refine ⟨?_,h.fat,h.code,h.build,h.sm,h.nn,h.nd⟩
 show s.at'+1<l.length
 have:=h.at'
 split at e<;>omega
end
section
variable {ro:Ro}{own q:Chs}{K:Value→Ro→Chs→Prop}{l:List TokD}{s:PS}{a:zAp}{la:Option Addr}{lc r:Nat}
abbrev rdC (r:Nat) (la:Option Addr) (lc:Nat) (l:List TokD) (s:PS) (a:zAp):Chunk:=.blk r 109 (zBy la lc l s a)
theorem zAX (h:RdOk ro l s a) (ht:Take own (rdC r la lc l s a) q) (hk:K (.bool (decide (s.code=0))) ro (rdC r la lc l s a::q)):CallOk Tryz.prog 57 #[ptr' r] ro own K:=by
 refine CallOk.perm ht.perm ?_
 have e:decide ((s.code:Int)=0)=decide (s.code=0):=decide_eq_decide.2 (by omega)
 refine CallOk.intro (args:=[_]) (rs:=[_]) T_ok Tryz.func57 Tryz.call57 rfl rfl (by kernel_rfl) rfl rfl ?_
 repeat first|exact zE|refine zP ?_|refine zB fun b=>?_|refine zC fun a' c' hc1 hc2=>?_|(apply GJ.a;exact rfl;intro hg)|(apply GJ.o;exact rfl;intro hg)
 rw [e]
 exact Wk.id hk
theorem zAN (hT:ToksOk ro la lc l) (h:RdOk ro l s a) (ht:Take own (rdC r la lc l s a) q) (hk:K (.agg (zAy (zAa l) s).v.toArray) ro (rdC r la lc l s a::q)):CallOk Tryz.prog 58 #[ptr' r] ro own K:=by
 refine CallOk.perm ht.perm ?_
 have hr:=hT.rs
 have hle:=hr.le
 have hmx:=hr.max
 unfold maxLen at hmx
 have hp:=hT.pos
 have hat:=h.at'
 have hl2:=hT.le
 obtain ⟨i,hi,hti⟩:=zEu hT h
 generalize zAy (zAa l) s=t at *
 have hdr:=zDS l i t hti
 obtain ⟨tk,ta,tt⟩:=t
 dsimp only [TokD.v] at hdr hk ⊢
 refine CallOk.intro (args:=[_]) (rs:=[_]) T_ok Tryz.func58 Tryz.call58 rfl rfl (by kernel_rfl) rfl rfl ?_
 repeat first|exact zE|refine zP ?_|refine zB fun b=>?_|refine zC fun a' c' hc1 hc2=>?_|(apply GJ.a;exact rfl;intro hg)|(apply GJ.o;exact rfl;intro hg)
 refine zAX h Take.auto ?_
 by_cases hc:s.code=0
 ·rw [if_pos hc] at hi
  subst hi
  repeat first|exact zE|refine zP ?_|refine zB fun b=>?_|refine zC fun a' c' hc1 hc2=>?_|(apply GJ.a;exact rfl;intro hg)|(apply GJ.o;exact rfl;intro hg)
  refine QOk.loadRow rfl rfl (LdN.atR (own:=q) (Rs.rds (own:=q) (ro':=ro) hr) hdr (by rw [Int.toNat_natCast])) rfl ?_
  repeat first|exact zE|refine zP ?_|refine zB fun b=>?_|refine zC fun a' c' hc1 hc2=>?_|(apply GJ.a;exact rfl;intro hg)|(apply GJ.o;exact rfl;intro hg)
  exact Wk.outS Sup.z (.refl _) hk
 ·rw [if_neg hc] at hi
  subst hi
  repeat first|exact zE|refine zP ?_|refine zB fun b=>?_|refine zC fun a' c' hc1 hc2=>?_|(apply GJ.a;exact rfl;intro hg)|(apply GJ.o;exact rfl;intro hg)
  refine QOk.loadRow rfl rfl (LdN.atR (own:=q) (Rs.rds (own:=q) (ro':=ro) hr) hdr (by rw [show ((l.length:Int)-1).toNat=l.length-1 by omega])) rfl ?_
  repeat first|exact zE|refine zP ?_|refine zB fun b=>?_|refine zC fun a' c' hc1 hc2=>?_|(apply GJ.a;exact rfl;intro hg)|(apply GJ.o;exact rfl;intro hg)
  exact Wk.outS Sup.z (.refl _) hk
theorem zBx {e:Nat} (he:e≠0) (hT:ToksOk ro la lc l) (h:RdOk ro l s a) (ht:Take own (rdC r la lc l s a) q) (hk:K (.tuple #[]) ro (rdC r la lc l (zAg e s) a::q)):CallOk Tryz.prog 89 #[ptr' r,.int .i64 (e:Int)] ro own K:=by
 refine CallOk.perm ht.perm ?_
 refine CallOk.intro (args:=[_,_]) (rs:=[]) T_ok Tryz.func89 Tryz.call89 rfl rfl (by kernel_rfl) rfl rfl ?_
 by_cases hc:s.code=0
 ·have hw:zBy la lc l (zAg e s) a=[.slice la l.length lc,.int .i64 (s.at':Int),.slice a.na s.nodes.length a.nc,.slice a.da s.defs.length a.dc,.int .i64 (e:Int),.int .i64 ((zAy (zAa l) s).a:Int)]:=by
   unfold zAg zAy zAa zBy fatV
   rw [if_pos hc,if_pos hc]
   dsimp only
   rw [if_neg he]
  unfold rdC at hk
  rw [hw] at hk
  repeat first|exact zE|refine zP ?_|refine zB fun b=>?_|refine zC fun a' c' hc1 hc2=>?_|(apply GJ.a;exact rfl;intro hg)|(apply GJ.o;exact rfl;intro hg)
  refine zAN hT h Take.auto ?_
  generalize zAy (zAa l) s=z at *
  obtain ⟨tk,ta,tt⟩:=z
  dsimp only [TokD.v] at hk ⊢
  unfold rdC zBy
  repeat first|exact zE|refine zP ?_|refine zB fun b=>?_|refine zC fun a' c' hc1 hc2=>?_|(apply GJ.a;exact rfl;intro hg)|(apply GJ.o;exact rfl;intro hg)
  refine OpOk.storePart (o:=0+4) (vs:=[.int .i64 (e:Int),.int .i64 (ta:Int)]) rfl rfl rfl rfl rfl (by show 0+4+2≤6;decide) (cs':=[.slice la l.length lc,.int .i64 (s.at':Int),.slice a.na s.nodes.length a.nc,.slice a.da s.defs.length a.dc,.int .i64 (e:Int),.int .i64 (ta:Int)]) (Nf.self _) ?_
  repeat first|exact zE|refine zP ?_|refine zB fun b=>?_|refine zC fun a' c' hc1 hc2=>?_|(apply GJ.a;exact rfl;intro hg)|(apply GJ.o;exact rfl;intro hg)
  exact Wk.outS Sup.z (.refl _) hk
 ·have hw:zAg e s=s:=by unfold zAg;rw [if_neg hc]
  rw [hw] at hk
  repeat first|exact zE|refine zP ?_|refine zB fun b=>?_|refine zC fun a' c' hc1 hc2=>?_|(apply GJ.a;exact rfl;intro hg)|(apply GJ.o;exact rfl;intro hg)
  exact Wk.outS Sup.z (.refl _) hk
theorem ris_ok {k:Nat}{t:List UInt8} (hT:ToksOk ro la lc l) (h:RdOk ro l s a) (ht:Take own (rdC r la lc l s a) q) (hk:K (.bool (isP (zAa l) k t s)) ro (rdC r la lc l s a::q)):CallOk Tryz.prog 112 #[ptr' r,.int .i64 (k:Int),str t] ro own K:=by
 refine CallOk.perm ht.perm ?_
 refine CallOk.intro (args:=[_,_,_]) (rs:=[_]) T_ok Tryz.func112 Tryz.call112 rfl rfl (by kernel_rfl) rfl rfl ?_
 repeat first|exact zE|refine zP ?_|refine zB fun b=>?_|refine zC fun a' c' hc1 hc2=>?_|(apply GJ.a;exact rfl;intro hg)|(apply GJ.o;exact rfl;intro hg)
 refine zAN hT h Take.auto ?_
 unfold isP at hk
 generalize zAy (zAa l) s=z at *
 obtain ⟨tk,ta,tt⟩:=z
 dsimp only [TokD.v] at hk ⊢
 rw [←show decide ((tk:Int)=(k:Int))=decide (tk=k) from decide_eq_decide.2 (by omega)] at hk
 repeat first|exact zE|refine zP ?_|refine zB fun b=>?_|refine zC fun a' c' hc1 hc2=>?_|(apply GJ.a;exact rfl;intro hg)|(apply GJ.o;exact rfl;intro hg)
 exact Wk.outS Sup.z (.refl _) hk
theorem zGt {r:Nat}:rdC r la lc l (zC2 s) a=.blk r 109 [.slice la l.length lc,.int .i64 ((s.at':Int)+1),.slice a.na s.nodes.length a.nc,.slice a.da s.defs.length a.dc,.int .i64 (s.code:Int),.int .i64 (fatV l s:Int)]:=rfl
theorem zHs {k:Nat}{t:List UInt8} (hk5:k≠5) (hT:ToksOk ro la lc l) (h:RdOk ro l s a) (ht:Take own (rdC r la lc l s a) q) (hk:RdOk ro l (eatP (zAa l) k t s).2 a→K (.bool (eatP (zAa l) k t s).1) ro (rdC r la lc l (eatP (zAa l) k t s).2 a::q)):CallOk Tryz.prog 131 #[ptr' r,.int .i64 (k:Int),str t] ro own K:=by
 refine CallOk.perm ht.perm ?_
 refine CallOk.intro (args:=[_,_,_]) (rs:=[_]) T_ok Tryz.func131 Tryz.call131 rfl rfl (by kernel_rfl) rfl rfl ?_
 repeat first|exact zE|refine zP ?_|refine zB fun b=>?_|refine zC fun a' c' hc1 hc2=>?_|(apply GJ.a;exact rfl;intro hg)|(apply GJ.o;exact rfl;intro hg)
 refine ris_ok hT h Take.auto ?_
 unfold eatP at hk
 have hstep:=h.step hT
 have hi:isP (zAa l) k t s=true→(zAy (zAa l) s).kind=k:=fun hi=>by
  unfold isP at hi
  rw [Bool.and_eq_true,decide_eq_true_eq] at hi
  exact hi.1
 cases hc:isP (zAa l) k t s with
 | false =>
   rw [hc,if_neg (by decide)] at hk
   repeat first|exact zE|refine zP ?_|refine zB fun b=>?_|refine zC fun a' c' hc1 hc2=>?_|(apply GJ.a;exact rfl;intro hg)|(apply GJ.o;exact rfl;intro hg)
   exact Wk.outS Sup.z (.refl _) (hk h)
 | true =>
   rw [hc,if_pos rfl] at hk
   have hk:=hk (hstep (by rw [hi hc];exact hk5))
   dsimp only at hk
   rw [zGt] at hk
   have hat:=h.at'
   have hl2:=hT.le
   unfold rdC zBy
   repeat first|exact zE|refine zP ?_|refine zB fun b=>?_|refine zC fun a' c' hc1 hc2=>?_|(apply GJ.a;exact rfl;intro hg)|(apply GJ.o;exact rfl;intro hg)
   exact Wk.outS Sup.z (.refl _) hk
theorem zFS {t:List UInt8} (hT:ToksOk ro la lc l) (h:RdOk ro l s a) (ht:Take own (rdC r la lc l s a) q) (hk:RdOk ro l (zA3 (zAa l) t s).2 a→K (.bool (zA3 (zAa l) t s).1) ro (rdC r la lc l (zA3 (zAa l) t s).2 a::q)):CallOk Tryz.prog 110 #[ptr' r,str t] ro own K:=by
 refine CallOk.perm ht.perm ?_
 refine CallOk.intro (args:=[_,_]) (rs:=[_]) T_ok Tryz.func110 Tryz.call110 rfl rfl (by kernel_rfl) rfl rfl ?_
 repeat first|exact zE|refine zP ?_|refine zB fun b=>?_|refine zC fun a' c' hc1 hc2=>?_|(apply GJ.a;exact rfl;intro hg)|(apply GJ.o;exact rfl;intro hg)
 refine zHs (k:=4) (by decide) hT h Take.auto (fun h2=>?_)
 repeat first|exact zE|refine zP ?_|refine zB fun b=>?_|refine zC fun a' c' hc1 hc2=>?_|(apply GJ.a;exact rfl;intro hg)|(apply GJ.o;exact rfl;intro hg)
 exact Wk.outS Sup.z (.refl _) (hk h2)
theorem rword_ok {t:List UInt8} (hT:ToksOk ro la lc l) (h:RdOk ro l s a) (ht:Take own (rdC r la lc l s a) q) (hk:RdOk ro l (kwP (zAa l) t s).2 a→K (.bool (kwP (zAa l) t s).1) ro (rdC r la lc l (kwP (zAa l) t s).2 a::q)):CallOk Tryz.prog 135 #[ptr' r,str t] ro own K:=by
 refine CallOk.perm ht.perm ?_
 refine CallOk.intro (args:=[_,_]) (rs:=[_]) T_ok Tryz.func135 Tryz.call135 rfl rfl (by kernel_rfl) rfl rfl ?_
 repeat first|exact zE|refine zP ?_|refine zB fun b=>?_|refine zC fun a' c' hc1 hc2=>?_|(apply GJ.a;exact rfl;intro hg)|(apply GJ.o;exact rfl;intro hg)
 refine zHs (k:=1) (by decide) hT h Take.auto (fun h2=>?_)
 repeat first|exact zE|refine zP ?_|refine zB fun b=>?_|refine zC fun a' c' hc1 hc2=>?_|(apply GJ.a;exact rfl;intro hg)|(apply GJ.o;exact rfl;intro hg)
 exact Wk.outS Sup.z (.refl _) (hk h2)
theorem rmust_ok {t:List UInt8} (hT:ToksOk ro la lc l) (h:RdOk ro l s a) (ht:Take own (rdC r la lc l s a) q) (hk:RdOk ro l (zAe (zAa l) t s) a→K (.tuple #[]) ro (rdC r la lc l (zAe (zAa l) t s) a::q)):CallOk Tryz.prog 86 #[ptr' r,str t] ro own K:=by
 refine CallOk.perm ht.perm ?_
 refine CallOk.intro (args:=[_,_]) (rs:=[]) T_ok Tryz.func86 Tryz.call86 rfl rfl (by kernel_rfl) rfl rfl ?_
 repeat first|exact zE|refine zP ?_|refine zB fun b=>?_|refine zC fun a' c' hc1 hc2=>?_|(apply GJ.a;exact rfl;intro hg)|(apply GJ.o;exact rfl;intro hg)
 refine zFS hT h Take.auto (fun h2=>?_)
 unfold zAe at hk
 cases hc:(zA3 (zAa l) t s).1 with
 | true =>
   rw [hc,if_pos rfl] at hk
   repeat first|exact zE|refine zP ?_|refine zB fun b=>?_|refine zC fun a' c' hc1 hc2=>?_|(apply GJ.a;exact rfl;intro hg)|(apply GJ.o;exact rfl;intro hg)
   exact Wk.outS Sup.z (.refl _) (hk h2)
 | false =>
   rw [hc,if_neg (by decide)] at hk
   have hs:(zA3 (zAa l) t s).2=s:=by
    unfold zA3 eatP at hc ⊢
    split at hc
    ·cases hc
    ·rename_i hn
     rw [if_neg hn]
   rw [hs]
   repeat first|exact zE|refine zP ?_|refine zB fun b=>?_|refine zC fun a' c' hc1 hc2=>?_|(apply GJ.a;exact rfl;intro hg)|(apply GJ.o;exact rfl;intro hg)
   refine zBx (e:=5) (by decide) hT h Take.auto ?_
   repeat first|exact zE|refine zP ?_|refine zB fun b=>?_|refine zC fun a' c' hc1 hc2=>?_|(apply GJ.a;exact rfl;intro hg)|(apply GJ.o;exact rfl;intro hg)
   exact Wk.outS Sup.z (.refl _) (hk (h.wrong 5 (by decide)))
end
end Go.Proofs.YtnapjcnfgdkmcaaGreatDoor
end
section
namespace Go.Proofs
open Go.Shelf
def Tryz.laysItoa_ren:Go.Shelf.Ren:=⟨fun|171=>51|243=>81|246=>102|283=>124|284=>125|285=>126|286=>127|129=>146|317=>145|318=>147|319=>148|320=>149|337=>160|338=>161|n=>n,fun|3=>3|9=>9|2=>2|4=>4|171=>185|0=>0|53=>33|37=>88|5=>5|173=>188|212=>204|51=>180|20=>20|213=>205|46=>164|232=>228|233=>229|n=>n,fun|17=>2|18=>4|19=>5|n=>n⟩
theorem Tryz.laysItoa:Go.Proofs.Lays.n171 Tryz.prog Tryz.laysItoa_ren:={
 mixed:=by kernel_rfl
 f129:=Tryz.func146.trans (congrArg some (by kernel_rfl))
 f171:=Tryz.func51.trans (congrArg some (by kernel_rfl))
 f243:=Tryz.func81.trans (congrArg some (by kernel_rfl))
 f246:=Tryz.func102.trans (congrArg some (by kernel_rfl))
 f283:=Tryz.func124.trans (congrArg some (by kernel_rfl))
 f284:=Tryz.func125.trans (congrArg some (by kernel_rfl))
 f285:=Tryz.func126.trans (congrArg some (by kernel_rfl))
 f286:=Tryz.func127.trans (congrArg some (by kernel_rfl))
 f317:=Tryz.func145.trans (congrArg some (by kernel_rfl))
 f318:=Tryz.func147.trans (congrArg some (by kernel_rfl))
 f319:=Tryz.func148.trans (congrArg some (by kernel_rfl))
 f320:=Tryz.func149.trans (congrArg some (by kernel_rfl))
 f337:=Tryz.func160.trans (congrArg some (by kernel_rfl))
 f338:=Tryz.func161.trans (congrArg some (by kernel_rfl))
 t0:=Tryz.underlying0
 a0:=Tryz.isAgg0
 z0:=Tryz.sizeOf0
 v0:=Tryz.zeroValue0
 t2:=Tryz.underlying2
 a2:=Tryz.isAgg2
 z2:=Tryz.sizeOf2
 v2:=Tryz.zeroValue2
 t3:=Tryz.underlying3
 a3:=Tryz.isAgg3
 z3:=Tryz.sizeOf3
 v3:=Tryz.zeroValue3
 t4:=Tryz.underlying4
 a4:=Tryz.isAgg4
 z4:=Tryz.sizeOf4
 v4:=Tryz.zeroValue4
 t5:=Tryz.underlying5
 a5:=Tryz.isAgg5
 z5:=Tryz.sizeOf5
 v5:=Tryz.zeroValue5
 t9:=Tryz.underlying9
 a9:=Tryz.isAgg9
 z9:=Tryz.sizeOf9
 v9:=Tryz.zeroValue9
 t20:=Tryz.underlying20
 a20:=Tryz.isAgg20
 z20:=Tryz.sizeOf20
 v20:=Tryz.zeroValue20
 t37:=Tryz.underlying88
 a37:=Tryz.isAgg88
 z37:=Tryz.sizeOf88
 v37:=Tryz.zeroValue88
 t46:=Tryz.underlying164
 a46:=Tryz.isAgg164
 z46:=Tryz.sizeOf164
 v46:=Tryz.zeroValue164
 t51:=Tryz.underlying180
 a51:=Tryz.isAgg180
 z51:=Tryz.sizeOf180
 v51:=Tryz.zeroValue180
 t53:=Tryz.underlying33
 a53:=Tryz.isAgg33
 z53:=Tryz.sizeOf33
 v53:=Tryz.zeroValue33
 t171:=Tryz.underlying185
 a171:=Tryz.isAgg185
 z171:=Tryz.sizeOf185
 v171:=Tryz.zeroValue185
 t173:=Tryz.underlying188
 a173:=Tryz.isAgg188
 z173:=Tryz.sizeOf188
 v173:=Tryz.zeroValue188
 t212:=Tryz.underlying204
 a212:=Tryz.isAgg204
 z212:=Tryz.sizeOf204
 v212:=Tryz.zeroValue204
 t213:=Tryz.underlying205
 a213:=Tryz.isAgg205
 z213:=Tryz.sizeOf205
 t232:=Tryz.underlying228
 a232:=Tryz.isAgg228
 z232:=Tryz.sizeOf228
 v232:=Tryz.zeroValue228
 t233:=Tryz.underlying229
 a233:=Tryz.isAgg229
 z233:=Tryz.sizeOf229
 v233:=Tryz.zeroValue229
 g17:=by kernel_rfl
 g18:=by kernel_rfl
 g19:=by kernel_rfl }
end Go.Proofs
namespace Go.Proofs
open Go.Shelf
def Tryz.laysContains_ren:Go.Shelf.Ren:=⟨fun|143=>49|144=>16|217=>97|219=>79|224=>99|225=>98|266=>121|267=>100|314=>122|n=>n,fun|3=>3|4=>4|5=>5|9=>9|46=>164|51=>180|146=>181|n=>n,fun|1=>0|n=>n⟩
theorem Tryz.laysContains:Go.Proofs.Lays.n144 Tryz.prog Tryz.laysContains_ren:={
 mixed:=by kernel_rfl
 f143:=Tryz.func49.trans (congrArg some (by kernel_rfl))
 f144:=Tryz.func16.trans (congrArg some (by kernel_rfl))
 f217:=Tryz.func97.trans (congrArg some (by kernel_rfl))
 f219:=Tryz.func79.trans (congrArg some (by kernel_rfl))
 f224:=Tryz.func99.trans (congrArg some (by kernel_rfl))
 f225:=Tryz.func98.trans (congrArg some (by kernel_rfl))
 f266:=Tryz.func121.trans (congrArg some (by kernel_rfl))
 f267:=Tryz.func100.trans (congrArg some (by kernel_rfl))
 f314:=Tryz.func122.trans (congrArg some (by kernel_rfl))
 t3:=Tryz.underlying3
 a3:=Tryz.isAgg3
 z3:=Tryz.sizeOf3
 v3:=Tryz.zeroValue3
 t4:=Tryz.underlying4
 a4:=Tryz.isAgg4
 z4:=Tryz.sizeOf4
 v4:=Tryz.zeroValue4
 t5:=Tryz.underlying5
 a5:=Tryz.isAgg5
 z5:=Tryz.sizeOf5
 v5:=Tryz.zeroValue5
 t9:=Tryz.underlying9
 a9:=Tryz.isAgg9
 z9:=Tryz.sizeOf9
 v9:=Tryz.zeroValue9
 t46:=Tryz.underlying164
 a46:=Tryz.isAgg164
 z46:=Tryz.sizeOf164
 v46:=Tryz.zeroValue164
 t51:=Tryz.underlying180
 a51:=Tryz.isAgg180
 z51:=Tryz.sizeOf180
 v51:=Tryz.zeroValue180
 t146:=Tryz.underlying181
 a146:=Tryz.isAgg181
 z146:=Tryz.sizeOf181
 v146:=Tryz.zeroValue181
 g1:=by kernel_rfl }
end Go.Proofs
namespace Go.E
open Go
theorem CallOk.ofCell {P:Program}{f:FuncId}{ro:Ro}{own:Chs}{K:Value→Ro→Chs→Prop}{args:Array Value}{v x:Value}{b:Nat} (enter:∀ args w,(callFunc f args).run P w=.ok (.enter f args) w) (hl:Ld ro own b 0 x)
  (h:∀ w:World,w.cell? ⟨b,0,none⟩=some x→Calls P f args w fun e w'=>e=.returned v∧w'=w) (hk:K v ro own):CallOk P f args ro own K :=
 CallOk.body enter fun h0 hs w hw=>(h w (by subst hw;rw [zCm];exact hl _ hs)).mono fun e w' ⟨he,hb⟩=>⟨v,he,by subst hb;exact ⟨rfl,rfl,rfl,rfl⟩,ro,own,Le.refl _,by subst hb;rw [hw];exact hs,hk⟩
end Go.E
namespace Go.Proofs.YtnapjcnfgdkmcaaGreatDoor
open Go Go.E
def MaxOk (ro:Ro):Prop:=∃ m:Int,∀ own,Ld ro own 0 0 (.int .i64 m)
theorem MaxOk.le {ro ro':Ro} (h:MaxOk ro) (hl:Le ro ro'):MaxOk ro':=by
 obtain ⟨m,hm⟩:=h
 exact ⟨m,fun own g hs=>hm own g (hs.leq ⟨hl.le⟩)⟩
theorem zCh {ro:Ro}{own:Chs}{K:Value→Ro→Chs→Prop}{z:Int} (hz:0≤z∧z<100) (hk:K (str (Lib.itoa z)) ro own):CallOk Tryz.prog 51 #[.int .i64 z] ro own K:=by
 obtain ⟨n,rfl⟩:∃ n:Nat,z=(n:Int):=⟨z.toNat,by omega⟩
 have e:Lib.itoa (n:Int)=Lib.decDigits n:=by unfold Lib.itoa;rw [if_neg (by omega),Int.toNat_natCast]
 rw [e] at hk
 refine CallOk.ofBelow Tryz.call51 (fun w=>?_) hk
 have h:=Go.Proofs.Any.strconv_Itoa_small Tryz.laysItoa n (by omega) w
 rw [show Tryz.laysItoa_ren.f 171=51 by kernel_rfl] at h
 refine h.mono fun e w' ⟨he,hb⟩=>⟨he,?_⟩
 rw [hb]
 exact Go.RowKit.Below.refl _ _
section
variable {ro:Ro}{own q:Chs}{K:Value→Ro→Chs→Prop}
theorem zFI {x y:List UInt8} (hM:MaxOk ro) (hx:x.length≤1000000) (hk:K (.bool (Lib.contains x y)) ro own):CallOk Tryz.prog 16 #[str x,str y] ro own K:=by
 obtain ⟨m,hm⟩:=hM
 refine CallOk.ofCell Tryz.call16 (hm own) (fun w hw=>?_) hk
 have h:=Go.Proofs.Any.strings_Contains Tryz.laysContains ⟨x.toArray⟩ ⟨y.toArray⟩ m w (by simp [ByteArray.size];omega) hw
 rw [show Tryz.laysContains_ren.f 144=16 by kernel_rfl] at h
 exact h
end
theorem zGJ {t:List UInt8} (h:∀ x∈fixedL,x.2.1<9→x.1≠t):zAG t=none:=by
 have h9:∀ x∈fixedL,x.2.1<9:=by decide
 unfold zAG
 rw [List.find?_eq_none.2 (fun x hx=>by
  have:=h x hx (h9 x hx)
  simpa using this)]
 rfl
def fixV:Option (Nat × Bool)→Value
 | some x=>.tuple #[.int .i64 (x.1:Int),.bool x.2,.bool true]
 | none=>.tuple #[.int .i64 0,.bool false,.bool false]
section
variable {ro:Ro}{own q:Chs}{K:Value→Ro→Chs→Prop}
set_option maxHeartbeats 4000000 in
theorem zEH {t:List UInt8} (ht:t.length≤65536) (hk:K (fixV (zAG t)) ro own):CallOk Tryz.prog 18 #[str t] ro own K:=by
 refine CallOk.intro (args:=[_]) (rs:=[_,_,_]) T_ok Tryz.func18 Tryz.call18 rfl rfl (by kernel_rfl) rfl rfl ?_
 repeat first|exact zE|refine zP ?_|refine zB fun b=>?_|refine zC fun a' c' hc1 hc2=>?_|(apply GJ.a;exact rfl;intro hg)|(apply GJ.o;exact rfl;intro hg)
 refine LoopOk.at (ι:=Nat) Keep.z (fun w=>[(5,.int .i64 (w:Int))]) (fun w=>own) (fun w=>1≤w∧w≤9∧∀ x∈fixedL,x.2.1<w→x.1≠t) (fun w=>9-w) 1 ?_ Sub.z Sup.z ?_
 ·exact ⟨Nat.le_refl _,by decide,fun x hx hlt=>by have:∀ x∈fixedL,1≤x.2.1:=by decide
                                                  have:=this x hx;omega⟩
 rintro w ⟨i1,i2,i3⟩
 dsimp only [List.cons_append,List.nil_append] at i1 i2 i3 ⊢
 obtain rfl|rfl|rfl|rfl|rfl|rfl|rfl|rfl|rfl:w=1∨w=2∨w=3∨w=4∨w=5∨w=6∨w=7∨w=8∨w=9:=by omega
 ·have hA:∀ x∈fixedL,x.2.1=1→x.1=[117,56]∨x.1=[117,56]:=by decide
  have hnx:t≠[117,56]→t≠[117,56]→∀ x∈fixedL,x.2.1<1+1→x.1≠t:=fun h1 h2 x hx hlt=>by
   by_cases hlt2:x.2.1<1
   ·exact i3 x hx hlt2
   ·rcases hA x hx (by omega) with e|e
    ·rw [e];exact fun h=>h1 h.symm
    ·rw [e];exact fun h=>h2 h.symm
  repeat first|exact zE|refine zP ?_|refine zB fun b=>?_|refine zC fun a' c' hc1 hc2=>?_|(apply GJ.a;exact rfl;intro hg)|(apply GJ.o;exact rfl;intro hg)
  refine zCh (by decide) ?_
  rw [show Lib.itoa (8*((1:Nat):Int))=[56] by decide +kernel]
  by_cases h1:t=[117,56]
  ·subst h1
   have hf:zAG [117,56]=some (1,false):=by decide +kernel
   rw [hf] at hk
   repeat (first|exact zE|refine wkB ?_|refine ⟨by decide,?_⟩|(apply GJ.a;exact rfl;intro hg)|(apply GJ.o;exact rfl;intro hg))
   exact Wk.outS Sup.z (.refl _) hk
  ·by_cases h2:t=[117,56]
   ·subst h2
    have hf:zAG [117,56]=some (1,false):=by decide +kernel
    rw [hf] at hk
    repeat (first|exact zE|refine wkB ?_|refine ⟨by decide,?_⟩|(apply GJ.a;exact rfl;intro hg)|(apply GJ.o;exact rfl;intro hg))
    exact Wk.outS Sup.z (.refl _) hk
   ·have hnx:=hnx h1 h2
    have h1':¬t=[117,56]:=h1
    repeat (first|exact zE|refine wkB ?_|refine ⟨by decide,?_⟩|(apply GJ.a;exact rfl;intro hg)|(apply GJ.o;exact rfl;intro hg))
    refine Wk.id ⟨1+1,⟨rfl,?_⟩,?_,Sub.z,Sup.z⟩
    all_goals try dsimp only
    ·exact ⟨by decide,by decide,hnx⟩
    ·decide
 ·have hA:∀ x∈fixedL,x.2.1=2→x.1=[117,49,54,98,101]∨x.1=[117,49,54,108,101]:=by decide
  have hnx:t≠[117,49,54,98,101]→t≠[117,49,54,108,101]→∀ x∈fixedL,x.2.1<2+1→x.1≠t:=fun h1 h2 x hx hlt=>by
   by_cases hlt2:x.2.1<2
   ·exact i3 x hx hlt2
   ·rcases hA x hx (by omega) with e|e
    ·rw [e];exact fun h=>h1 h.symm
    ·rw [e];exact fun h=>h2 h.symm
  repeat first|exact zE|refine zP ?_|refine zB fun b=>?_|refine zC fun a' c' hc1 hc2=>?_|(apply GJ.a;exact rfl;intro hg)|(apply GJ.o;exact rfl;intro hg)
  refine zCh (by decide) ?_
  rw [show Lib.itoa (8*((2:Nat):Int))=[49,54] by decide +kernel]
  by_cases h1:t=[117,49,54,98,101]
  ·subst h1
   have hf:zAG [117,49,54,98,101]=some (2,false):=by decide +kernel
   rw [hf] at hk
   repeat (first|exact zE|refine wkB ?_|refine ⟨by decide,?_⟩|(apply GJ.a;exact rfl;intro hg)|(apply GJ.o;exact rfl;intro hg))
   exact Wk.outS Sup.z (.refl _) hk
  ·by_cases h2:t=[117,49,54,108,101]
   ·subst h2
    have hf:zAG [117,49,54,108,101]=some (2,true):=by decide +kernel
    rw [hf] at hk
    repeat (first|exact zE|refine wkB ?_|refine ⟨by decide,?_⟩|(apply GJ.a;exact rfl;intro hg)|(apply GJ.o;exact rfl;intro hg))
    exact Wk.outS Sup.z (.refl _) hk
   ·have hnx:=hnx h1 h2
    have h1':¬t=[117,49,54,98,101]:=h1
    repeat (first|exact zE|refine wkB ?_|refine ⟨by decide,?_⟩|(apply GJ.a;exact rfl;intro hg)|(apply GJ.o;exact rfl;intro hg))
    refine Wk.id ⟨2+1,⟨rfl,?_⟩,?_,Sub.z,Sup.z⟩
    all_goals try dsimp only
    ·exact ⟨by decide,by decide,hnx⟩
    ·decide
 ·have hA:∀ x∈fixedL,x.2.1=3→x.1=[117,50,52,98,101]∨x.1=[117,50,52,108,101]:=by decide
  have hnx:t≠[117,50,52,98,101]→t≠[117,50,52,108,101]→∀ x∈fixedL,x.2.1<3+1→x.1≠t:=fun h1 h2 x hx hlt=>by
   by_cases hlt2:x.2.1<3
   ·exact i3 x hx hlt2
   ·rcases hA x hx (by omega) with e|e
    ·rw [e];exact fun h=>h1 h.symm
    ·rw [e];exact fun h=>h2 h.symm
  repeat first|exact zE|refine zP ?_|refine zB fun b=>?_|refine zC fun a' c' hc1 hc2=>?_|(apply GJ.a;exact rfl;intro hg)|(apply GJ.o;exact rfl;intro hg)
  refine zCh (by decide) ?_
  rw [show Lib.itoa (8*((3:Nat):Int))=[50,52] by decide +kernel]
  by_cases h1:t=[117,50,52,98,101]
  ·subst h1
   have hf:zAG [117,50,52,98,101]=some (3,false):=by decide +kernel
   rw [hf] at hk
   repeat (first|exact zE|refine wkB ?_|refine ⟨by decide,?_⟩|(apply GJ.a;exact rfl;intro hg)|(apply GJ.o;exact rfl;intro hg))
   exact Wk.outS Sup.z (.refl _) hk
  ·by_cases h2:t=[117,50,52,108,101]
   ·subst h2
    have hf:zAG [117,50,52,108,101]=some (3,true):=by decide +kernel
    rw [hf] at hk
    repeat (first|exact zE|refine wkB ?_|refine ⟨by decide,?_⟩|(apply GJ.a;exact rfl;intro hg)|(apply GJ.o;exact rfl;intro hg))
    exact Wk.outS Sup.z (.refl _) hk
   ·have hnx:=hnx h1 h2
    have h1':¬t=[117,50,52,98,101]:=h1
    repeat (first|exact zE|refine wkB ?_|refine ⟨by decide,?_⟩|(apply GJ.a;exact rfl;intro hg)|(apply GJ.o;exact rfl;intro hg))
    refine Wk.id ⟨3+1,⟨rfl,?_⟩,?_,Sub.z,Sup.z⟩
    all_goals try dsimp only
    ·exact ⟨by decide,by decide,hnx⟩
    ·decide
 ·have hA:∀ x∈fixedL,x.2.1=4→x.1=[117,51,50,98,101]∨x.1=[117,51,50,108,101]:=by decide
  have hnx:t≠[117,51,50,98,101]→t≠[117,51,50,108,101]→∀ x∈fixedL,x.2.1<4+1→x.1≠t:=fun h1 h2 x hx hlt=>by
   by_cases hlt2:x.2.1<4
   ·exact i3 x hx hlt2
   ·rcases hA x hx (by omega) with e|e
    ·rw [e];exact fun h=>h1 h.symm
    ·rw [e];exact fun h=>h2 h.symm
  repeat first|exact zE|refine zP ?_|refine zB fun b=>?_|refine zC fun a' c' hc1 hc2=>?_|(apply GJ.a;exact rfl;intro hg)|(apply GJ.o;exact rfl;intro hg)
  refine zCh (by decide) ?_
  rw [show Lib.itoa (8*((4:Nat):Int))=[51,50] by decide +kernel]
  by_cases h1:t=[117,51,50,98,101]
  ·subst h1
   have hf:zAG [117,51,50,98,101]=some (4,false):=by decide +kernel
   rw [hf] at hk
   repeat (first|exact zE|refine wkB ?_|refine ⟨by decide,?_⟩|(apply GJ.a;exact rfl;intro hg)|(apply GJ.o;exact rfl;intro hg))
   exact Wk.outS Sup.z (.refl _) hk
  ·by_cases h2:t=[117,51,50,108,101]
   ·subst h2
    have hf:zAG [117,51,50,108,101]=some (4,true):=by decide +kernel
    rw [hf] at hk
    repeat (first|exact zE|refine wkB ?_|refine ⟨by decide,?_⟩|(apply GJ.a;exact rfl;intro hg)|(apply GJ.o;exact rfl;intro hg))
    exact Wk.outS Sup.z (.refl _) hk
   ·have hnx:=hnx h1 h2
    have h1':¬t=[117,51,50,98,101]:=h1
    repeat (first|exact zE|refine wkB ?_|refine ⟨by decide,?_⟩|(apply GJ.a;exact rfl;intro hg)|(apply GJ.o;exact rfl;intro hg))
    refine Wk.id ⟨4+1,⟨rfl,?_⟩,?_,Sub.z,Sup.z⟩
    all_goals try dsimp only
    ·exact ⟨by decide,by decide,hnx⟩
    ·decide
 ·have hA:∀ x∈fixedL,x.2.1=5→x.1=[117,52,48,98,101]∨x.1=[117,52,48,108,101]:=by decide
  have hnx:t≠[117,52,48,98,101]→t≠[117,52,48,108,101]→∀ x∈fixedL,x.2.1<5+1→x.1≠t:=fun h1 h2 x hx hlt=>by
   by_cases hlt2:x.2.1<5
   ·exact i3 x hx hlt2
   ·rcases hA x hx (by omega) with e|e
    ·rw [e];exact fun h=>h1 h.symm
    ·rw [e];exact fun h=>h2 h.symm
  repeat first|exact zE|refine zP ?_|refine zB fun b=>?_|refine zC fun a' c' hc1 hc2=>?_|(apply GJ.a;exact rfl;intro hg)|(apply GJ.o;exact rfl;intro hg)
  refine zCh (by decide) ?_
  rw [show Lib.itoa (8*((5:Nat):Int))=[52,48] by decide +kernel]
  by_cases h1:t=[117,52,48,98,101]
  ·subst h1
   have hf:zAG [117,52,48,98,101]=some (5,false):=by decide +kernel
   rw [hf] at hk
   repeat (first|exact zE|refine wkB ?_|refine ⟨by decide,?_⟩|(apply GJ.a;exact rfl;intro hg)|(apply GJ.o;exact rfl;intro hg))
   exact Wk.outS Sup.z (.refl _) hk
  ·by_cases h2:t=[117,52,48,108,101]
   ·subst h2
    have hf:zAG [117,52,48,108,101]=some (5,true):=by decide +kernel
    rw [hf] at hk
    repeat (first|exact zE|refine wkB ?_|refine ⟨by decide,?_⟩|(apply GJ.a;exact rfl;intro hg)|(apply GJ.o;exact rfl;intro hg))
    exact Wk.outS Sup.z (.refl _) hk
   ·have hnx:=hnx h1 h2
    have h1':¬t=[117,52,48,98,101]:=h1
    repeat (first|exact zE|refine wkB ?_|refine ⟨by decide,?_⟩|(apply GJ.a;exact rfl;intro hg)|(apply GJ.o;exact rfl;intro hg))
    refine Wk.id ⟨5+1,⟨rfl,?_⟩,?_,Sub.z,Sup.z⟩
    all_goals try dsimp only
    ·exact ⟨by decide,by decide,hnx⟩
    ·decide
 ·have hA:∀ x∈fixedL,x.2.1=6→x.1=[117,52,56,98,101]∨x.1=[117,52,56,108,101]:=by decide
  have hnx:t≠[117,52,56,98,101]→t≠[117,52,56,108,101]→∀ x∈fixedL,x.2.1<6+1→x.1≠t:=fun h1 h2 x hx hlt=>by
   by_cases hlt2:x.2.1<6
   ·exact i3 x hx hlt2
   ·rcases hA x hx (by omega) with e|e
    ·rw [e];exact fun h=>h1 h.symm
    ·rw [e];exact fun h=>h2 h.symm
  repeat first|exact zE|refine zP ?_|refine zB fun b=>?_|refine zC fun a' c' hc1 hc2=>?_|(apply GJ.a;exact rfl;intro hg)|(apply GJ.o;exact rfl;intro hg)
  refine zCh (by decide) ?_
  rw [show Lib.itoa (8*((6:Nat):Int))=[52,56] by decide +kernel]
  by_cases h1:t=[117,52,56,98,101]
  ·subst h1
   have hf:zAG [117,52,56,98,101]=some (6,false):=by decide +kernel
   rw [hf] at hk
   repeat (first|exact zE|refine wkB ?_|refine ⟨by decide,?_⟩|(apply GJ.a;exact rfl;intro hg)|(apply GJ.o;exact rfl;intro hg))
   exact Wk.outS Sup.z (.refl _) hk
  ·by_cases h2:t=[117,52,56,108,101]
   ·subst h2
    have hf:zAG [117,52,56,108,101]=some (6,true):=by decide +kernel
    rw [hf] at hk
    repeat (first|exact zE|refine wkB ?_|refine ⟨by decide,?_⟩|(apply GJ.a;exact rfl;intro hg)|(apply GJ.o;exact rfl;intro hg))
    exact Wk.outS Sup.z (.refl _) hk
   ·have hnx:=hnx h1 h2
    have h1':¬t=[117,52,56,98,101]:=h1
    repeat (first|exact zE|refine wkB ?_|refine ⟨by decide,?_⟩|(apply GJ.a;exact rfl;intro hg)|(apply GJ.o;exact rfl;intro hg))
    refine Wk.id ⟨6+1,⟨rfl,?_⟩,?_,Sub.z,Sup.z⟩
    all_goals try dsimp only
    ·exact ⟨by decide,by decide,hnx⟩
    ·decide
 ·have hA:∀ x∈fixedL,x.2.1=7→x.1=[117,53,54,98,101]∨x.1=[117,53,54,108,101]:=by decide
  have hnx:t≠[117,53,54,98,101]→t≠[117,53,54,108,101]→∀ x∈fixedL,x.2.1<7+1→x.1≠t:=fun h1 h2 x hx hlt=>by
   by_cases hlt2:x.2.1<7
   ·exact i3 x hx hlt2
   ·rcases hA x hx (by omega) with e|e
    ·rw [e];exact fun h=>h1 h.symm
    ·rw [e];exact fun h=>h2 h.symm
  repeat first|exact zE|refine zP ?_|refine zB fun b=>?_|refine zC fun a' c' hc1 hc2=>?_|(apply GJ.a;exact rfl;intro hg)|(apply GJ.o;exact rfl;intro hg)
  refine zCh (by decide) ?_
  rw [show Lib.itoa (8*((7:Nat):Int))=[53,54] by decide +kernel]
  by_cases h1:t=[117,53,54,98,101]
  ·subst h1
   have hf:zAG [117,53,54,98,101]=some (7,false):=by decide +kernel
   rw [hf] at hk
   repeat (first|exact zE|refine wkB ?_|refine ⟨by decide,?_⟩|(apply GJ.a;exact rfl;intro hg)|(apply GJ.o;exact rfl;intro hg))
   exact Wk.outS Sup.z (.refl _) hk
  ·by_cases h2:t=[117,53,54,108,101]
   ·subst h2
    have hf:zAG [117,53,54,108,101]=some (7,true):=by decide +kernel
    rw [hf] at hk
    repeat (first|exact zE|refine wkB ?_|refine ⟨by decide,?_⟩|(apply GJ.a;exact rfl;intro hg)|(apply GJ.o;exact rfl;intro hg))
    exact Wk.outS Sup.z (.refl _) hk
   ·have hnx:=hnx h1 h2
    have h1':¬t=[117,53,54,98,101]:=h1
    repeat (first|exact zE|refine wkB ?_|refine ⟨by decide,?_⟩|(apply GJ.a;exact rfl;intro hg)|(apply GJ.o;exact rfl;intro hg))
    refine Wk.id ⟨7+1,⟨rfl,?_⟩,?_,Sub.z,Sup.z⟩
    all_goals try dsimp only
    ·exact ⟨by decide,by decide,hnx⟩
    ·decide
 ·have hA:∀ x∈fixedL,x.2.1=8→x.1=[117,54,52,98,101]∨x.1=[117,54,52,108,101]:=by decide
  have hnx:t≠[117,54,52,98,101]→t≠[117,54,52,108,101]→∀ x∈fixedL,x.2.1<8+1→x.1≠t:=fun h1 h2 x hx hlt=>by
   by_cases hlt2:x.2.1<8
   ·exact i3 x hx hlt2
   ·rcases hA x hx (by omega) with e|e
    ·rw [e];exact fun h=>h1 h.symm
    ·rw [e];exact fun h=>h2 h.symm
  repeat first|exact zE|refine zP ?_|refine zB fun b=>?_|refine zC fun a' c' hc1 hc2=>?_|(apply GJ.a;exact rfl;intro hg)|(apply GJ.o;exact rfl;intro hg)
  refine zCh (by decide) ?_
  rw [show Lib.itoa (8*((8:Nat):Int))=[54,52] by decide +kernel]
  by_cases h1:t=[117,54,52,98,101]
  ·subst h1
   have hf:zAG [117,54,52,98,101]=some (8,false):=by decide +kernel
   rw [hf] at hk
   repeat (first|exact zE|refine wkB ?_|refine ⟨by decide,?_⟩|(apply GJ.a;exact rfl;intro hg)|(apply GJ.o;exact rfl;intro hg))
   exact Wk.outS Sup.z (.refl _) hk
  ·by_cases h2:t=[117,54,52,108,101]
   ·subst h2
    have hf:zAG [117,54,52,108,101]=some (8,true):=by decide +kernel
    rw [hf] at hk
    repeat (first|exact zE|refine wkB ?_|refine ⟨by decide,?_⟩|(apply GJ.a;exact rfl;intro hg)|(apply GJ.o;exact rfl;intro hg))
    exact Wk.outS Sup.z (.refl _) hk
   ·have hnx:=hnx h1 h2
    have h1':¬t=[117,54,52,98,101]:=h1
    repeat (first|exact zE|refine wkB ?_|refine ⟨by decide,?_⟩|(apply GJ.a;exact rfl;intro hg)|(apply GJ.o;exact rfl;intro hg))
    refine Wk.id ⟨8+1,⟨rfl,?_⟩,?_,Sub.z,Sup.z⟩
    all_goals try dsimp only
    ·exact ⟨by decide,by decide,hnx⟩
    ·decide
 ·rw [zGJ i3] at hk
  repeat first|exact zE|refine zP ?_|refine zB fun b=>?_|refine zC fun a' c' hc1 hc2=>?_|(apply GJ.a;exact rfl;intro hg)|(apply GJ.o;exact rfl;intro hg)
  exact Wk.outS Sup.z (.refl _) hk
end
theorem zH8 (t:List UInt8):(numD t).2≤1000:=by
 unfold numD
 split
 ·decide
 ·split
  ·exact (by decide:(40:Nat)≤1000)
  ·exact Nat.zero_le _
section
variable {ro:Ro}{own q:Chs}{K:Value→Ro→Chs→Prop}{l:List TokD}{s:PS}{a:zAp}{la:Option Addr}{lc r:Nat}
theorem zEn {t:List UInt8} (hM:MaxOk ro) (ht:t.length≤65536) (hk:K (.bool (zGT t)) ro own):CallOk Tryz.prog 62 #[str t] ro own K:=by
 unfold zGT at hk
 refine CallOk.intro (args:=[_]) (rs:=[_]) T_ok Tryz.func62 Tryz.call62 rfl rfl (by kernel_rfl) rfl rfl ?_
 repeat first|exact zE|refine zP ?_|refine zB fun b=>?_|refine zC fun a' c' hc1 hc2=>?_|(apply GJ.a;exact rfl;intro hg)|(apply GJ.o;exact rfl;intro hg)
 refine ⟨by simp only [List.length_cons,List.length_nil];omega,?_⟩
 repeat first|exact zE|refine zP ?_|refine zB fun b=>?_|refine zC fun a' c' hc1 hc2=>?_|(apply GJ.a;exact rfl;intro hg)|(apply GJ.o;exact rfl;intro hg)
 refine ⟨by simp only [List.length_append,List.length_cons,List.length_nil];omega,?_⟩
 repeat first|exact zE|refine zP ?_|refine zB fun b=>?_|refine zC fun a' c' hc1 hc2=>?_|(apply GJ.a;exact rfl;intro hg)|(apply GJ.o;exact rfl;intro hg)
 refine zFI (x:=zGS) (y:=32::(t++[32])) hM (by decide) ?_
 cases hc:Lib.contains zGS (32::(t++[32])) with
 | true =>
   rw [hc,Bool.true_or] at hk
   repeat first|exact zE|refine zP ?_|refine zB fun b=>?_|refine zC fun a' c' hc1 hc2=>?_|(apply GJ.a;exact rfl;intro hg)|(apply GJ.o;exact rfl;intro hg)
   exact Wk.outS Sup.z (.refl _) hk
 | false =>
   rw [hc,Bool.false_or] at hk
   repeat first|exact zE|refine zP ?_|refine zB fun b=>?_|refine zC fun a' c' hc1 hc2=>?_|(apply GJ.a;exact rfl;intro hg)|(apply GJ.o;exact rfl;intro hg)
   refine zEH ht ?_
   cases hf:zAG t with
   | none =>
     rw [hf] at hk
     unfold fixV
     repeat first|exact zE|refine zP ?_|refine zB fun b=>?_|refine zC fun a' c' hc1 hc2=>?_|(apply GJ.a;exact rfl;intro hg)|(apply GJ.o;exact rfl;intro hg)
     exact Wk.outS Sup.z (.refl _) hk
   | some x =>
     rw [hf] at hk
     unfold fixV
     repeat first|exact zE|refine zP ?_|refine zB fun b=>?_|refine zC fun a' c' hc1 hc2=>?_|(apply GJ.a;exact rfl;intro hg)|(apply GJ.o;exact rfl;intro hg)
     exact Wk.outS Sup.z (.refl _) hk
theorem rname_ok (hM:MaxOk ro) (hT:ToksOk ro la lc l) (h:RdOk ro l s a) (ht:Take own (rdC r la lc l s a) q) (hk:RdOk ro l (zA6 (zAa l) s).2 a→K (str (zA6 (zAa l) s).1) ro (rdC r la lc l (zA6 (zAa l) s).2 a::q)):CallOk Tryz.prog 85 #[ptr' r] ro own K:=by
 refine CallOk.perm ht.perm ?_
 have hx:=hT.text _ (zD0 hT h)
 have hstep:=h.step hT
 have hat:=h.at'
 have hl2:=hT.le
 refine CallOk.intro (args:=[_]) (rs:=[_]) T_ok Tryz.func85 Tryz.call85 rfl rfl (by kernel_rfl) rfl rfl ?_
 repeat first|exact zE|refine zP ?_|refine zB fun b=>?_|refine zC fun a' c' hc1 hc2=>?_|(apply GJ.a;exact rfl;intro hg)|(apply GJ.o;exact rfl;intro hg)
 refine zAN hT h Take.auto ?_
 unfold zA6 at hk
 generalize hz:zAy (zAa l) s=z at *
 obtain ⟨tk,ta,tt⟩:=z
 dsimp only [TokD.v] at hk hx hstep ⊢
 by_cases h1:tk=1
 ·subst h1
  cases hw:zGT tt with
  | true =>
    rw [hw,if_pos (.inr rfl)] at hk
    repeat first|exact zE|refine zP ?_|refine zB fun b=>?_|refine zC fun a' c' hc1 hc2=>?_|(apply GJ.a;exact rfl;intro hg)|(apply GJ.o;exact rfl;intro hg)
    refine zEn hM hx ?_
    rw [hw]
    repeat first|exact zE|refine zP ?_|refine zB fun b=>?_|refine zC fun a' c' hc1 hc2=>?_|(apply GJ.a;exact rfl;intro hg)|(apply GJ.o;exact rfl;intro hg)
    refine zBx (e:=5) (by decide) hT h Take.auto ?_
    repeat first|exact zE|refine zP ?_|refine zB fun b=>?_|refine zC fun a' c' hc1 hc2=>?_|(apply GJ.a;exact rfl;intro hg)|(apply GJ.o;exact rfl;intro hg)
    exact Wk.outS Sup.z (.refl _) (hk (h.wrong 5 (by decide)))
  | false =>
    rw [hw,if_neg (by simp)] at hk
    have hk:=hk (hstep (by decide))
    dsimp only at hk
    rw [zGt] at hk
    repeat first|exact zE|refine zP ?_|refine zB fun b=>?_|refine zC fun a' c' hc1 hc2=>?_|(apply GJ.a;exact rfl;intro hg)|(apply GJ.o;exact rfl;intro hg)
    refine zEn hM hx ?_
    rw [hw]
    unfold rdC zBy
    repeat first|exact zE|refine zP ?_|refine zB fun b=>?_|refine zC fun a' c' hc1 hc2=>?_|(apply GJ.a;exact rfl;intro hg)|(apply GJ.o;exact rfl;intro hg)
    exact Wk.outS Sup.z (.refl _) hk
 ·rw [if_pos (.inl h1)] at hk
  repeat first|exact zE|refine zP ?_|refine zB fun b=>?_|refine zC fun a' c' hc1 hc2=>?_|(apply GJ.a;exact rfl;intro hg)|(apply GJ.o;exact rfl;intro hg)
  refine zBx (e:=5) (by decide) hT h Take.auto ?_
  repeat first|exact zE|refine zP ?_|refine zB fun b=>?_|refine zC fun a' c' hc1 hc2=>?_|(apply GJ.a;exact rfl;intro hg)|(apply GJ.o;exact rfl;intro hg)
  exact Wk.outS Sup.z (.refl _) (hk (h.wrong 5 (by decide)))
theorem rnum_ok (hT:ToksOk ro la lc l) (h:RdOk ro l s a) (ht:Take own (rdC r la lc l s a) q) (hk:RdOk ro l (numP numD (zAa l) s).2 a→K (.int .u64 ((numP numD (zAa l) s).1:Int)) ro (rdC r la lc l (numP numD (zAa l) s).2 a::q)):CallOk Tryz.prog 134 #[ptr' r] ro own K:=by
 refine CallOk.perm ht.perm ?_
 have hx:=hT.text _ (zD0 hT h)
 have hstep:=h.step hT
 have hat:=h.at'
 have hl2:=hT.le
 refine CallOk.intro (args:=[_]) (rs:=[_]) T_ok Tryz.func134 Tryz.call134 rfl rfl (by kernel_rfl) rfl rfl ?_
 repeat first|exact zE|refine zP ?_|refine zB fun b=>?_|refine zC fun a' c' hc1 hc2=>?_|(apply GJ.a;exact rfl;intro hg)|(apply GJ.o;exact rfl;intro hg)
 refine zAN hT h Take.auto ?_
 unfold numP at hk
 generalize hz:zAy (zAa l) s=z at *
 obtain ⟨tk,ta,tt⟩:=z
 dsimp only [TokD.v] at hk hx hstep ⊢
 by_cases h1:tk=2
 ·subst h1
  rw [if_neg (by simp)] at hk
  have hnc:=zH8 tt
  by_cases hn:(numD tt).2=0
  ·rw [if_neg (by simp [hn])] at hk
   have hk2:=hk (hstep (by decide))
   clear hk
   dsimp only at hk2
   rw [zGt] at hk2
   repeat first|exact zE|refine zP ?_|refine zB fun b=>?_|refine zC fun a' c' hc1 hc2=>?_|(apply GJ.a;exact rfl;intro hg)|(apply GJ.o;exact rfl;intro hg)
   refine zE5 (by omega) ?_
   generalize numD tt=nn at *
   obtain ⟨n1,n2⟩:=nn
   dsimp only at hn hk2 ⊢
   subst hn
   unfold rdC zBy
   repeat first|exact zE|refine zP ?_|refine zB fun b=>?_|refine zC fun a' c' hc1 hc2=>?_|(apply GJ.a;exact rfl;intro hg)|(apply GJ.o;exact rfl;intro hg)
   exact Wk.outS Sup.z (.refl _) hk2
  ·rw [if_pos hn] at hk
   repeat first|exact zE|refine zP ?_|refine zB fun b=>?_|refine zC fun a' c' hc1 hc2=>?_|(apply GJ.a;exact rfl;intro hg)|(apply GJ.o;exact rfl;intro hg)
   refine zE5 (by omega) ?_
   generalize numD tt=nn at *
   obtain ⟨n1,n2⟩:=nn
   dsimp only at hn hk hnc ⊢
   repeat first|exact zE|refine zP ?_|refine zB fun b=>?_|refine zC fun a' c' hc1 hc2=>?_|(apply GJ.a;exact rfl;intro hg)|(apply GJ.o;exact rfl;intro hg)
   refine zBx (e:=n2) hn hT h Take.auto ?_
   repeat first|exact zE|refine zP ?_|refine zB fun b=>?_|refine zC fun a' c' hc1 hc2=>?_|(apply GJ.a;exact rfl;intro hg)|(apply GJ.o;exact rfl;intro hg)
   exact Wk.outS Sup.z (.refl _) (hk (h.wrong n2 hnc))
 ·rw [if_pos h1] at hk
  repeat first|exact zE|refine zP ?_|refine zB fun b=>?_|refine zC fun a' c' hc1 hc2=>?_|(apply GJ.a;exact rfl;intro hg)|(apply GJ.o;exact rfl;intro hg)
  refine zBx (e:=5) (by decide) hT h Take.auto ?_
  repeat first|exact zE|refine zP ?_|refine zB fun b=>?_|refine zC fun a' c' hc1 hc2=>?_|(apply GJ.a;exact rfl;intro hg)|(apply GJ.o;exact rfl;intro hg)
  exact Wk.outS Sup.z (.refl _) (hk (h.wrong 5 (by decide)))
end
section
variable {E:PE}{s:PS}
def Keeps (s s':PS):Prop:=s'.nodes=s.nodes∧s'.defs=s.defs
theorem zBu (e:Nat):Keeps s (zAg e s):=by unfold zAg;split<;>exact ⟨rfl,rfl⟩
theorem zFb:Keeps s (zC2 s):=⟨rfl,rfl⟩
theorem zGh (k:Nat) (t:List UInt8):Keeps s (eatP E k t s).2:=by unfold eatP;split<;>exact ⟨rfl,rfl⟩
theorem zFc (t:List UInt8):Keeps s (zA3 E t s).2:=zGh 4 t
theorem keep_kw (t:List UInt8):Keeps s (kwP E t s).2:=zGh 1 t
theorem zHK (t:List UInt8):Keeps s (zAe E t s):=by unfold zAe;split;exact zFc t;exact zBu 5
theorem zHJ:Keeps s (zA6 E s).2:=by unfold zA6;split;exact zBu 5;exact zFb
theorem keep_num:Keeps s (numP numD E s).2:=by unfold numP;split;exact zBu 5;split;exact zBu _;exact zFb
end
section
variable {ro:Ro}{own q q1 q2:Chs}{K:Value→Ro→Chs→Prop}{l:List TokD}{s:PS}{a:zAp}{la:Option Addr}{lc r:Nat}
abbrev ndC (s:PS) (a:zAp):Chunk:=.sl a.na s.nodes.length a.nc 40 18 (zA4 s.nodes a.xs)
abbrev dfC (s:PS) (a:zAp):Chunk:=.sl a.da s.defs.length a.dc 44 2 (zCL s.defs)
theorem zB8 {own:Chs}{c1 c2 c3:Chunk} (t1:Take own c1 q1) (t2:Take q1 c2 q2) (t3:Take q2 c3 q):own.Perm (c1::c2::c3::q):=t1.perm.trans (.cons _ (t2.perm.trans (.cons _ t3.perm)))
theorem Keeps.cs {s':PS} (h:Keeps s s') (a:zAp):ndC s a=ndC s' a∧dfC s a=dfC s' a:=by
 unfold ndC dfC
 rw [h.1,h.2]
 exact ⟨rfl,rfl⟩
theorem zAi {t:List UInt8} (hT:ToksOk ro la lc l) (h:RdOk ro l s a) (t1:Take own (rdC r la lc l s a) q1) (t2:Take q1 (ndC s a) q2) (t3:Take q2 (dfC s a) q)
  (hk:RdOk ro l (zAe (zAa l) t s) a→K (.tuple #[]) ro (rdC r la lc l (zAe (zAa l) t s) a::ndC (zAe (zAa l) t s) a::dfC (zAe (zAa l) t s) a::q)):CallOk Tryz.prog 86 #[ptr' r,str t] ro own K:=by
 refine CallOk.perm (zB8 t1 t2 t3) ?_
 obtain ⟨e1,e2⟩:=(zHK t:Keeps s (zAe (zAa l) t s)).cs a
 refine rmust_ok hT h (Take.hit _ _) (fun h2=>?_)
 rw [e1,e2]
 exact hk h2
theorem zDr {t:List UInt8} (hT:ToksOk ro la lc l) (h:RdOk ro l s a) (t1:Take own (rdC r la lc l s a) q1) (t2:Take q1 (ndC s a) q2) (t3:Take q2 (dfC s a) q)
  (hk:RdOk ro l ((zA3 (zAa l) t s).2) a→K (.bool (zA3 (zAa l) t s).1) ro (rdC r la lc l ((zA3 (zAa l) t s).2) a::ndC ((zA3 (zAa l) t s).2) a::dfC ((zA3 (zAa l) t s).2) a::q)):CallOk Tryz.prog 110 #[ptr' r,str t] ro own K:=by
 refine CallOk.perm (zB8 t1 t2 t3) ?_
 obtain ⟨e1,e2⟩:=(zFc t:Keeps s ((zA3 (zAa l) t s).2)).cs a
 refine zFS hT h (Take.hit _ _) (fun h2=>?_)
 rw [e1,e2]
 exact hk h2
theorem zAK {t:List UInt8} (hT:ToksOk ro la lc l) (h:RdOk ro l s a) (t1:Take own (rdC r la lc l s a) q1) (t2:Take q1 (ndC s a) q2) (t3:Take q2 (dfC s a) q)
  (hk:RdOk ro l ((kwP (zAa l) t s).2) a→K (.bool (kwP (zAa l) t s).1) ro (rdC r la lc l ((kwP (zAa l) t s).2) a::ndC ((kwP (zAa l) t s).2) a::dfC ((kwP (zAa l) t s).2) a::q)):CallOk Tryz.prog 135 #[ptr' r,str t] ro own K:=by
 refine CallOk.perm (zB8 t1 t2 t3) ?_
 obtain ⟨e1,e2⟩:=(keep_kw t:Keeps s ((kwP (zAa l) t s).2)).cs a
 refine rword_ok hT h (Take.hit _ _) (fun h2=>?_)
 rw [e1,e2]
 exact hk h2
theorem zDj  (hM:MaxOk ro) (hT:ToksOk ro la lc l) (h:RdOk ro l s a) (t1:Take own (rdC r la lc l s a) q1) (t2:Take q1 (ndC s a) q2) (t3:Take q2 (dfC s a) q)
  (hk:RdOk ro l ((zA6 (zAa l) s).2) a→K (str (zA6 (zAa l) s).1) ro (rdC r la lc l ((zA6 (zAa l) s).2) a::ndC ((zA6 (zAa l) s).2) a::dfC ((zA6 (zAa l) s).2) a::q)):CallOk Tryz.prog 85 #[ptr' r] ro own K:=by
 refine CallOk.perm (zB8 t1 t2 t3) ?_
 obtain ⟨e1,e2⟩:=(zHJ:Keeps s ((zA6 (zAa l) s).2)).cs a
 refine rname_ok hM hT h (Take.hit _ _) (fun h2=>?_)
 rw [e1,e2]
 exact hk h2
theorem num3  (hT:ToksOk ro la lc l) (h:RdOk ro l s a) (t1:Take own (rdC r la lc l s a) q1) (t2:Take q1 (ndC s a) q2) (t3:Take q2 (dfC s a) q)
  (hk:RdOk ro l ((numP numD (zAa l) s).2) a→K (.int .u64 ((numP numD (zAa l) s).1:Int)) ro (rdC r la lc l ((numP numD (zAa l) s).2) a::ndC ((numP numD (zAa l) s).2) a::dfC ((numP numD (zAa l) s).2) a::q)):CallOk Tryz.prog 134 #[ptr' r] ro own K:=by
 refine CallOk.perm (zB8 t1 t2 t3) ?_
 obtain ⟨e1,e2⟩:=(keep_num:Keeps s ((numP numD (zAa l) s).2)).cs a
 refine rnum_ok hT h (Take.hit _ _) (fun h2=>?_)
 rw [e1,e2]
 exact hk h2
theorem zAF {e:Nat} (he:e≠0) (he2:e≤1000) (hT:ToksOk ro la lc l) (h:RdOk ro l s a) (t1:Take own (rdC r la lc l s a) q1) (t2:Take q1 (ndC s a) q2) (t3:Take q2 (dfC s a) q)
  (hk:RdOk ro l (zAg e s) a→K (.tuple #[]) ro (rdC r la lc l (zAg e s) a::ndC (zAg e s) a::dfC (zAg e s) a::q)):CallOk Tryz.prog 89 #[ptr' r,.int .i64 (e:Int)] ro own K:=by
 refine CallOk.perm (zB8 t1 t2 t3) ?_
 obtain ⟨e1,e2⟩:=(zBu e:Keeps s (zAg e s)).cs a
 refine zBx he hT h (Take.hit _ _) ?_
 rw [e1,e2]
 exact hk (h.wrong e he2)
theorem zFK {d:zAh}{x:zA5} (hn:s.nodes.length=2048) (hk:K (.tuple #[.int .i64 0,.int .i64 2]) ro (rdC r la lc l s a::q)):CallOk Tryz.prog 132 #[.pointer (some ⟨r,0+2,none⟩),.agg (zAl d x).toArray] ro (rdC r la lc l s a::q) K:=by
 unfold rdC zBy at hk ⊢
 refine CallOk.intro (args:=[_,_]) (rs:=[_,_]) T_ok Tryz.func132 Tryz.call132 rfl rfl (by kernel_rfl) rfl rfl ?_
 repeat first|exact zE|refine zP ?_|refine zB fun b=>?_|refine zC fun a' c' hc1 hc2=>?_|(apply GJ.a;exact rfl;intro hg)|(apply GJ.o;exact rfl;intro hg)
 exact Wk.outS Sup.z (.refl _) hk
set_option maxHeartbeats 4000000 in
theorem zIo {d:zAh}{x:zA5} (h:RdOk ro l s a) (hx:NodeOk ro d x) (hs:zDg d) (hn:s.nodes.length<2048)
  (hk:∀ ro' a',Le ro ro'→RdOk ro' l { s with nodes:=s.nodes++[d] } a'→K (.tuple #[.int .i64 (s.nodes.length:Nat),.int .i64 0]) ro' (rdC r la lc l { s with nodes:=s.nodes++[d] } a'::ndC { s with nodes:=s.nodes++[d] } a'::dfC { s with nodes:=s.nodes++[d] } a'::q)) :
  CallOk Tryz.prog 132 #[.pointer (some ⟨r,0+2,none⟩),.agg (zAl d x).toArray] ro (rdC r la lc l s a::ndC s a::dfC s a::q) K:=by
 have hb:=h.build
 have hnc:=hb.nc
 unfold rdC zBy
 refine CallOk.intro (args:=[_,_]) (rs:=[_,_]) T_ok Tryz.func132 Tryz.call132 rfl rfl (by kernel_rfl) rfl rfl ?_
 repeat first|exact zE|refine wkG ?_|refine zB fun b=>?_|refine zC fun a' c' hc1 hc2=>?_|(show GJ _ _ _ _ _ _ _;first|(apply GJ.a;exact rfl;intro hg)|(apply GJ.o;exact rfl;intro hg)|refine GJ.t zO ?_|refine GJ.f zO ?_|refine GJ.ft zO ?_|refine GJ.ff zO ?_)
 refine Bs.mk ⟨[.blk b 40 (zAl d x),.blk r 109 [.slice la l.length lc,.int .i64 (s.at':Int),.slice a.na s.nodes.length a.nc,.slice a.da s.defs.length a.dc,.int .i64 (s.code:Int),.int .i64 (fatV l s:Int)]],Sup.z,?_⟩
 repeat first|exact zE|refine wkG ?_|refine zB fun b=>?_|refine zC fun a' c' hc1 hc2=>?_|(show GJ _ _ _ _ _ _ _;first|(apply GJ.a;exact rfl;intro hg)|(apply GJ.o;exact rfl;intro hg)|refine GJ.t zO ?_|refine GJ.f zO ?_|refine GJ.ft zO ?_|refine GJ.ff zO ?_)
 refine own_last hx hs (fun ro1 x1 hl1 ho1=>?_)
 refine wkS ?_
 refine zB (fun b2=>?_)
 refine wkS ?_
 repeat first|exact zE|refine wkG ?_|refine zB fun b=>?_|refine zC fun a' c' hc1 hc2=>?_|(show GJ _ _ _ _ _ _ _;first|(apply GJ.a;exact rfl;intro hg)|(apply GJ.o;exact rfl;intro hg)|refine GJ.t zO ?_|refine GJ.f zO ?_|refine GJ.ft zO ?_|refine GJ.ff zO ?_)
 have e1:(s.nodes++[d]).length=s.nodes.length+1:=by simp
 have e2:zA4 s.nodes a.xs++flat [.agg (zAl d x1).toArray]=zA4 (s.nodes++[d]) (a.xs++[x1]):=by rw [zD3 _ _ hb.len];rfl
 have hk2:=hk ro1 ⟨a',c',a.da,a.dc,a.xs++[x1]⟩ hl1 ⟨h.at',h.fat,h.code,⟨by have:=hb.len;simp at this ⊢;omega,fun i d' x' g1 g2=>?_,⟨by dsimp only;rw [e1];exact hc1,hc2⟩,hb.dc⟩,fun d' hd'=>?_,by dsimp only;rw [e1];omega,h.nd⟩
 ·rw [e2]
  unfold rdC zBy ndC dfC at hk2
  dsimp only at hk2
  rw [e1] at hk2
  exact Wk.outV Sup.z hk2 (congrArg (fun z=>Value.tuple #[.int .i64 z,.int .i64 0]) (by omega))
 ·dsimp only at g1 g2
  rcases Nat.lt_or_ge i s.nodes.length with hi|hi
  ·rw [List.getElem?_append_left hi] at g1
   rw [List.getElem?_append_left (by rw [hb.len];exact hi)] at g2
   exact (hb.each i d' x' g1 g2).le hl1
  ·rw [List.getElem?_append_right hi] at g1
   have hbl:a.xs.length=s.nodes.length:=hb.len
   rw [List.getElem?_append_right (by omega)] at g2
   have h3:i-s.nodes.length=0:=by have:=(List.getElem?_eq_some_iff.1 g1).1;simp at this;omega
   rw [h3] at g1
   rw [hbl,h3] at g2
   simp at g1 g2
   subst g1;subst g2;exact ho1
 ·rcases List.mem_append.1 hd' with hd'|hd'
  ·exact h.sm d' hd'
  ·simp at hd';subst hd';exact hs
set_option maxHeartbeats 4000000 in
theorem zAk {d:zAh}{x:zA5} (hT:ToksOk ro la lc l) (h:RdOk ro l s a) (hx:NodeOk ro d x) (hs:zDg d) (t1:Take own (rdC r la lc l s a) q1) (t2:Take q1 (ndC s a) q2) (t3:Take q2 (dfC s a) q)
  (hk:∀ ro' a',Le ro ro'→RdOk ro' l (addP (zAa l) d s).2 a'→K (.int .i64 ((addP (zAa l) d s).1:Int)) ro' (rdC r la lc l (addP (zAa l) d s).2 a'::ndC (addP (zAa l) d s).2 a'::dfC (addP (zAa l) d s).2 a'::q)) :
  CallOk Tryz.prog 111 #[ptr' r,.agg (zAl d x).toArray] ro own K:=by
 refine CallOk.perm (zB8 t1 t2 t3) ?_
 have hnn:=h.nn
 have hlim:(zAa l).lim=2048:=rfl
 unfold addP at hk
 rw [hlim] at hk
 refine CallOk.intro (args:=[_,_]) (rs:=[_]) T_ok Tryz.func111 Tryz.call111 rfl rfl (by kernel_rfl) rfl rfl ?_
 by_cases hn:s.nodes.length=2048
 ·rw [if_pos hn] at hk
  have hk2:=hk ro a (Le.refl _) (h.wrong 2 (by decide))
  repeat first|exact zE|refine zP ?_|refine zB fun b=>?_|refine zC fun a' c' hc1 hc2=>?_|(apply GJ.a;exact rfl;intro hg)|(apply GJ.o;exact rfl;intro hg)
  refine CallOk.perm (Take.miss _ (Take.hit _ _)).perm ?_
  refine zFK hn ?_
  repeat first|exact zE|refine zP ?_|refine zB fun b=>?_|refine zC fun a' c' hc1 hc2=>?_|(apply GJ.a;exact rfl;intro hg)|(apply GJ.o;exact rfl;intro hg)
  refine zBx (e:=2) (by decide) hT h Take.auto ?_
  obtain ⟨g1,g2⟩:=(zBu (s:=s) 2).cs a
  rw [g1,g2]
  repeat first|exact zE|refine zP ?_|refine zB fun b=>?_|refine zC fun a' c' hc1 hc2=>?_|(apply GJ.a;exact rfl;intro hg)|(apply GJ.o;exact rfl;intro hg)
  exact Wk.outS Sup.z (.refl _) hk2
 ·rw [if_neg hn] at hk
  repeat first|exact zE|refine zP ?_|refine zB fun b=>?_|refine zC fun a' c' hc1 hc2=>?_|(apply GJ.a;exact rfl;intro hg)|(apply GJ.o;exact rfl;intro hg)
  refine CallOk.perm (zB8 (Take.miss _ (Take.hit _ _)) (Take.miss _ (Take.hit _ _)) (Take.miss _ (Take.hit _ _))) ?_
  refine zIo h hx hs (by omega) (fun ro' a' hl' h'=>?_)
  have hk2:=hk ro' a' hl' h'
  repeat first|exact zE|refine zP ?_|refine zB fun b=>?_|refine zC fun a' c' hc1 hc2=>?_|(apply GJ.a;exact rfl;intro hg)|(apply GJ.o;exact rfl;intro hg)
  exact Wk.outS Sup.z (.refl _) hk2
end
theorem zH7 {E:PE}{s:PS} (h:(numP numD E s).2.code=0):1≤(numP numD E s).2.at':=by
 unfold numP at h ⊢
 split
 ·rename_i hk
  rw [if_pos hk] at h
  unfold zAg at h
  split at h
  ·exact absurd h (by simp)
  ·rename_i hc;exact absurd h hc
 ·rename_i hk
  rw [if_neg hk] at h
  split
  ·rename_i he
   rw [if_pos he] at h
   unfold zAg at h
   split at h
   ·exact absurd h he
   ·rename_i hc;exact absurd h hc
  ·exact Nat.succ_pos _
def zAr:zA5:=⟨none,0,none,0,none,0,none,0⟩
section
variable {ro:Ro}{own q q1 q2:Chs}{K:Value→Ro→Chs→Prop}{l:List TokD}{s:PS}{a:zAp}{la:Option Addr}{lc r:Nat}
theorem RdOk.back (h:RdOk ro l s a):RdOk ro l (zCv s) a:=⟨by have:=h.at';show s.at'-1<l.length;omega,h.fat,h.code,h.build,h.sm,h.nn,h.nd⟩
theorem backC (h1:1≤s.at'):rdC r la lc l (zCv s) a=.blk r 109 [.slice la l.length lc,.int .i64 ((s.at':Int)-1),.slice a.na s.nodes.length a.nc,.slice a.da s.defs.length a.dc,.int .i64 (s.code:Int),.int .i64 (fatV l s:Int)]:=by
 unfold rdC zBy
 rw [show ((zCv s).at':Int)=(s.at':Int)-1 by show ((s.at'-1:Nat):Int)=_;omega]
 rfl
set_option maxHeartbeats 4000000 in
theorem zCO {d:zAh}{x:zA5} (hT:ToksOk ro la lc l) (h:RdOk ro l s a) (hx:NodeOk ro d x) (hs:zDg d) (t1:Take own (rdC r la lc l s a) q1) (t2:Take q1 (ndC s a) q2) (t3:Take q2 (dfC s a) q)
  (hk:∀ ro' a',Le ro ro'→RdOk ro' l (zB9 numD (zAa l) d s).2 a'→K (.int .i64 ((zB9 numD (zAa l) d s).1:Int)) ro' (rdC r la lc l (zB9 numD (zAa l) d s).2 a'::ndC (zB9 numD (zAa l) d s).2 a'::dfC (zB9 numD (zAa l) d s).2 a'::q)) :
  CallOk Tryz.prog 114 #[ptr' r,.agg (zAl d x).toArray] ro own K:=by
 refine CallOk.perm (zB8 t1 t2 t3) ?_
 unfold zB9 at hk
 refine CallOk.intro (args:=[_,_]) (rs:=[_]) T_ok Tryz.func114 Tryz.call114 rfl rfl (by kernel_rfl) rfl rfl ?_
 repeat first|exact zE|refine zP ?_|refine zB fun b=>?_|refine zC fun a' c' hc1 hc2=>?_|(apply GJ.a;exact rfl;intro hg)|(apply GJ.o;exact rfl;intro hg)
 refine zEp ?_
 repeat first|exact zE|refine zP ?_|refine zB fun b=>?_|refine zC fun a' c' hc1 hc2=>?_|(apply GJ.a;exact rfl;intro hg)|(apply GJ.o;exact rfl;intro hg)
 refine zAN hT h Take.auto ?_
 generalize hz:zAy (zAa l) s=z at *
 obtain ⟨tk,ta,tt⟩:=z
 dsimp only [TokD.v] at hk ⊢
 by_cases h2:tk=2
 ·subst h2
  rw [if_pos rfl] at hk
  repeat first|exact zE|refine zP ?_|refine zB fun b=>?_|refine zC fun a' c' hc1 hc2=>?_|(apply GJ.a;exact rfl;intro hg)|(apply GJ.o;exact rfl;intro hg)
  refine num3 hT h Take.auto Take.auto Take.auto (fun h1=>?_)
  generalize numP numD (zAa l) s=r1 at *
  obtain ⟨n1,s1⟩:=r1
  dsimp only at h1 hk ⊢
  repeat first|exact zE|refine zP ?_|refine zB fun b=>?_|refine zC fun a' c' hc1 hc2=>?_|(apply GJ.a;exact rfl;intro hg)|(apply GJ.o;exact rfl;intro hg)
  refine zAi (t:=[46,46]) hT h1 Take.auto Take.auto Take.auto (fun h2=>?_)
  generalize zAe (zAa l) [46,46] s1=s2 at *
  repeat first|exact zE|refine zP ?_|refine zB fun b=>?_|refine zC fun a' c' hc1 hc2=>?_|(apply GJ.a;exact rfl;intro hg)|(apply GJ.o;exact rfl;intro hg)
  refine num3 hT h2 Take.auto Take.auto Take.auto (fun h3=>?_)
  have hpos:=zH7 (E:=zAa l) (s:=s2)
  generalize numP numD (zAa l) s2=r3 at *
  obtain ⟨n3,s3⟩:=r3
  dsimp only at h3 hk hpos ⊢
  repeat first|exact zE|refine zP ?_|refine zB fun b=>?_|refine zC fun a' c' hc1 hc2=>?_|(apply GJ.a;exact rfl;intro hg)|(apply GJ.o;exact rfl;intro hg)
  refine zAX h3 Take.auto ?_
  by_cases hc:s3.code=0
  ·by_cases hr:n3<n1∨zCc d<n3
   ·rw [if_pos ⟨hc,hr⟩] at hk
    rw [decide_eq_true hc]
    have hat:=h3.at'
    have hl2:=hT.le
    unfold rdC zBy
    repeat first|exact zE|refine zP ?_|refine zB fun b=>?_|refine zC fun a' c' hc1 hc2=>?_|(apply GJ.a;exact rfl;intro hg)|(apply GJ.o;exact rfl;intro hg)
    rw [←backC (hpos hc)]
    refine zAF (e:=1) (s:=zCv s3) (by decide) (by decide) hT h3.back Take.auto Take.auto Take.auto (fun h4=>?_)
    repeat first|exact zE|refine zP ?_|refine zB fun b=>?_|refine zC fun a' c' hc1 hc2=>?_|(apply GJ.a;exact rfl;intro hg)|(apply GJ.o;exact rfl;intro hg)
    refine zAk (d:={ d with min:=n1,max:=n3 }) (x:=x) hT h4 ⟨hx.kids,hx.last,hx.fields,hx.cases⟩ ⟨hs.kids,hs.last,hs.fields,hs.cases⟩ Take.auto Take.auto Take.auto (fun ro' a' hl' h'=>?_)
    have hk2:=hk ro' a' hl' h'
    repeat first|exact zE|refine zP ?_|refine zB fun b=>?_|refine zC fun a' c' hc1 hc2=>?_|(apply GJ.a;exact rfl;intro hg)|(apply GJ.o;exact rfl;intro hg)
    exact Wk.outS Sup.z (.refl _) hk2
   ·rw [if_neg (fun h=>hr h.2)] at hk
    rw [decide_eq_true hc]
    repeat first|exact zE|refine zP ?_|refine zB fun b=>?_|refine zC fun a' c' hc1 hc2=>?_|(apply GJ.a;exact rfl;intro hg)|(apply GJ.o;exact rfl;intro hg)
    refine zAk (d:={ d with min:=n1,max:=n3 }) (x:=x) hT h3 ⟨hx.kids,hx.last,hx.fields,hx.cases⟩ ⟨hs.kids,hs.last,hs.fields,hs.cases⟩ Take.auto Take.auto Take.auto (fun ro' a' hl' h'=>?_)
    have hk2:=hk ro' a' hl' h'
    repeat first|exact zE|refine zP ?_|refine zB fun b=>?_|refine zC fun a' c' hc1 hc2=>?_|(apply GJ.a;exact rfl;intro hg)|(apply GJ.o;exact rfl;intro hg)
    exact Wk.outS Sup.z (.refl _) hk2
  ·rw [if_neg (fun h=>hc h.1)] at hk
   rw [decide_eq_false hc]
   repeat first|exact zE|refine zP ?_|refine zB fun b=>?_|refine zC fun a' c' hc1 hc2=>?_|(apply GJ.a;exact rfl;intro hg)|(apply GJ.o;exact rfl;intro hg)
   refine zAk (d:={ d with min:=n1,max:=n3 }) (x:=x) hT h3 ⟨hx.kids,hx.last,hx.fields,hx.cases⟩ ⟨hs.kids,hs.last,hs.fields,hs.cases⟩ Take.auto Take.auto Take.auto (fun ro' a' hl' h'=>?_)
   have hk2:=hk ro' a' hl' h'
   repeat first|exact zE|refine zP ?_|refine zB fun b=>?_|refine zC fun a' c' hc1 hc2=>?_|(apply GJ.a;exact rfl;intro hg)|(apply GJ.o;exact rfl;intro hg)
   exact Wk.outS Sup.z (.refl _) hk2
 ·rw [if_neg h2] at hk
  repeat first|exact zE|refine zP ?_|refine zB fun b=>?_|refine zC fun a' c' hc1 hc2=>?_|(apply GJ.a;exact rfl;intro hg)|(apply GJ.o;exact rfl;intro hg)
  refine zAk (d:={ d with max:=zCc d }) (x:=x) hT h ⟨hx.kids,hx.last,hx.fields,hx.cases⟩ ⟨hs.kids,hs.last,hs.fields,hs.cases⟩ Take.auto Take.auto Take.auto (fun ro' a' hl' h'=>?_)
  have hk2:=hk ro' a' hl' h'
  repeat first|exact zE|refine zP ?_|refine zB fun b=>?_|refine zC fun a' c' hc1 hc2=>?_|(apply GJ.a;exact rfl;intro hg)|(apply GJ.o;exact rfl;intro hg)
  exact Wk.outS Sup.z (.refl _) hk2
end
end Go.Proofs.YtnapjcnfgdkmcaaGreatDoor
end
section
namespace Go.E
open Go
theorem OpOk.after {P:Program}{op:Op}{ty:TypeId}{env:Env}{ro:Ro}{own:Chs}{K:Value→Ro→Chs→Prop} (h:OpOk P op ty env ro own (fun v ro1 own1=>∃ c r,Take own1 c r∧∀ ro',Le ro1 ro'→c.holds ro'→K v ro' r)):OpOk P op ty env ro own K :=
 ⟨fun g hg d pos af gd=>.mk fun ρ w hρ hw=>by
  obtain ⟨v,w',h1,h2,ro2,own2,hl2,hs2,c,r,ht,hK⟩:=(h.run g hg d pos af gd).run ρ w hρ hw
  obtain ⟨ro3,hl3,hc,hs3⟩:=(hs2.perm ht.perm).freeze
  exact ⟨v,w',h1,h2,ro3,r,hl2.trans hl3,hs3,hK ro3 hl3 hc⟩⟩
theorem OpOk.buildSliceF {P:Program}{T:TT} [hT:TTab P T] {ty:TypeId}{env:Env}{ro:Ro}{own:Chs}{K:Value→Ro→Chs→Prop}{t e n:Nat}{ps:List (Nat × Operand)}{vs:List Value}{s:Nat} (hv:evs env (ps.map (·.2))=some vs) (hp:ps.map (·.1)=List.range n) (ht:zB6 T t=some (e,s))
  (hn:Nat.ble (n*s) 1048576=true) (h1:vs.all (fun v=>Nat.beq v.cells.size s)=true) (hk:∀ ro' b,Le ro ro'→Rs ro' (some ⟨b,0,none⟩) n n s (flat vs)→K (.slice (some ⟨b,0,none⟩) n n) ro' own) :
  OpOk P (.buildSlice t n ps.toArray) ty env ro own K :=
 OpOk.after (OpOk.buildSlice hv hp ht hn h1 (fun b=>⟨_,_,Take.hit _ _,fun ro' hl hc=>hk ro' b hl (Rs.last hc)⟩))
end Go.E
namespace Go.Proofs.YtnapjcnfgdkmcaaGreatDoor
open Go Go.E
def exprV (x:List UInt8 × Nat × Nat):List Value:=[str x.1,.int .u64 (x.2.1:Int),.int .u64 (x.2.2:Int)]
section
variable {ro:Ro}{own q q1 q2:Chs}{K:Value→Ro→Chs→Prop}{l:List TokD}{s:PS}{a:zAp}{la:Option Addr}{lc r:Nat}
set_option maxHeartbeats 4000000 in
theorem zFU (hM:MaxOk ro) (hT:ToksOk ro la lc l) (h:RdOk ro l s a) (t1:Take own (rdC r la lc l s a) q1) (t2:Take q1 (ndC s a) q2) (t3:Take q2 (dfC s a) q)
  (hk:RdOk ro l (zC9 numD (zAa l) s).2 a→K (.agg (exprV (zC9 numD (zAa l) s).1).toArray) ro (rdC r la lc l (zC9 numD (zAa l) s).2 a::ndC (zC9 numD (zAa l) s).2 a::dfC (zC9 numD (zAa l) s).2 a::q)) :
  CallOk Tryz.prog 136 #[ptr' r] ro own K:=by
 refine CallOk.perm (zB8 t1 t2 t3) ?_
 unfold zC9 at hk
 dsimp only at hk
 refine CallOk.intro (args:=[_]) (rs:=[_]) T_ok Tryz.func136 Tryz.call136 rfl rfl (by kernel_rfl) rfl rfl ?_
 repeat first|exact zE|refine zP ?_|refine zB fun b=>?_|refine zC fun a' c' hc1 hc2=>?_|(apply GJ.a;exact rfl;intro hg)|(apply GJ.o;exact rfl;intro hg)
 refine zAi (t:=[91]) hT h Take.auto Take.auto Take.auto (fun h1=>?_)
 generalize zAe (zAa l) [91] s=s1 at *
 repeat first|exact zE|refine zP ?_|refine zB fun b=>?_|refine zC fun a' c' hc1 hc2=>?_|(apply GJ.a;exact rfl;intro hg)|(apply GJ.o;exact rfl;intro hg)
 refine zAN hT h1 Take.auto ?_
 generalize hz:zAy (zAa l) s1=z at *
 obtain ⟨tk,ta,tt⟩:=z
 dsimp only [TokD.v] at hk ⊢
 by_cases h2:tk=2
 ·subst h2
  rw [if_pos rfl] at hk
  repeat first|exact zE|refine zP ?_|refine zB fun b=>?_|refine zC fun a' c' hc1 hc2=>?_|(apply GJ.a;exact rfl;intro hg)|(apply GJ.o;exact rfl;intro hg)
  refine num3 hT h1 Take.auto Take.auto Take.auto (fun h2=>?_)
  generalize numP numD (zAa l) s1=r1 at *
  obtain ⟨n1,s2⟩:=r1
  dsimp only at h2 hk ⊢
  repeat first|exact zE|refine zP ?_|refine zB fun b=>?_|refine zC fun a' c' hc1 hc2=>?_|(apply GJ.a;exact rfl;intro hg)|(apply GJ.o;exact rfl;intro hg)
  refine zDr (t:=[42]) hT h2 Take.auto Take.auto Take.auto (fun h3=>?_)
  generalize zA3 (zAa l) [42] s2=m at *
  obtain ⟨mb,s3⟩:=m
  dsimp only at h3 hk ⊢
  cases mb with
  | false =>
    rw [if_pos rfl] at hk
    repeat first|exact zE|refine zP ?_|refine zB fun b=>?_|refine zC fun a' c' hc1 hc2=>?_|(apply GJ.a;exact rfl;intro hg)|(apply GJ.o;exact rfl;intro hg)
    refine zAi (t:=[93]) hT h3 Take.auto Take.auto Take.auto (fun g4=>?_)
    have hk2:=hk g4
    repeat first|exact zE|refine zP ?_|refine zB fun b=>?_|refine zC fun a' c' hc1 hc2=>?_|(apply GJ.a;exact rfl;intro hg)|(apply GJ.o;exact rfl;intro hg)
    exact Wk.outS Sup.z (.refl _) hk2
  | true =>
    rw [if_neg (by decide)] at hk
    by_cases h0:n1=0
    ·subst h0
     rw [if_pos rfl] at hk
     repeat first|exact zE|refine zP ?_|refine zB fun b=>?_|refine zC fun a' c' hc1 hc2=>?_|(apply GJ.a;exact rfl;intro hg)|(apply GJ.o;exact rfl;intro hg)
     refine zAF (e:=1) (by decide) (by decide) hT h3 Take.auto Take.auto Take.auto (fun h4=>?_)
     generalize zAg 1 s3=s4 at *
     repeat first|exact zE|refine zP ?_|refine zB fun b=>?_|refine zC fun a' c' hc1 hc2=>?_|(apply GJ.a;exact rfl;intro hg)|(apply GJ.o;exact rfl;intro hg)
     refine zDj hM hT h4 Take.auto Take.auto Take.auto (fun g1=>?_)
     generalize zA6 (zAa l) s4=x at *
     obtain ⟨xr,s5⟩:=x
     dsimp only at g1 hk ⊢
     repeat first|exact zE|refine zP ?_|refine zB fun b=>?_|refine zC fun a' c' hc1 hc2=>?_|(apply GJ.a;exact rfl;intro hg)|(apply GJ.o;exact rfl;intro hg)
     refine zDr (t:=[43]) hT g1 Take.auto Take.auto Take.auto (fun g2=>?_)
     generalize zA3 (zAa l) [43] s5=p at *
     obtain ⟨pb,s6⟩:=p
     dsimp only at g2 hk ⊢
     cases pb with
     | true =>
       rw [if_pos rfl] at hk
       repeat first|exact zE|refine zP ?_|refine zB fun b=>?_|refine zC fun a' c' hc1 hc2=>?_|(apply GJ.a;exact rfl;intro hg)|(apply GJ.o;exact rfl;intro hg)
       refine num3 hT g2 Take.auto Take.auto Take.auto (fun g3=>?_)
       generalize numP numD (zAa l) s6=a3 at *
       obtain ⟨n3,s7⟩:=a3
       dsimp only at g3 hk ⊢
       repeat first|exact zE|refine zP ?_|refine zB fun b=>?_|refine zC fun a' c' hc1 hc2=>?_|(apply GJ.a;exact rfl;intro hg)|(apply GJ.o;exact rfl;intro hg)
       refine zAi (t:=[93]) hT g3 Take.auto Take.auto Take.auto (fun g4=>?_)
       have hk2:=hk g4
       repeat first|exact zE|refine zP ?_|refine zB fun b=>?_|refine zC fun a' c' hc1 hc2=>?_|(apply GJ.a;exact rfl;intro hg)|(apply GJ.o;exact rfl;intro hg)
       exact Wk.outS Sup.z (.refl _) hk2
     | false =>
       rw [if_neg (by decide)] at hk
       repeat first|exact zE|refine zP ?_|refine zB fun b=>?_|refine zC fun a' c' hc1 hc2=>?_|(apply GJ.a;exact rfl;intro hg)|(apply GJ.o;exact rfl;intro hg)
       refine zAi (t:=[93]) hT g2 Take.auto Take.auto Take.auto (fun g4=>?_)
       have hk2:=hk g4
       repeat first|exact zE|refine zP ?_|refine zB fun b=>?_|refine zC fun a' c' hc1 hc2=>?_|(apply GJ.a;exact rfl;intro hg)|(apply GJ.o;exact rfl;intro hg)
       exact Wk.outS Sup.z (.refl _) hk2
    ·rw [if_neg h0] at hk
     have h0':¬((n1:Int)=0):=by omega
     repeat first|exact zE|refine zP ?_|refine zB fun b=>?_|refine zC fun a' c' hc1 hc2=>?_|(apply GJ.a;exact rfl;intro hg)|(apply GJ.o;exact rfl;intro hg)
     refine zDj hM hT h3 Take.auto Take.auto Take.auto (fun g1=>?_)
     generalize zA6 (zAa l) s3=x at *
     obtain ⟨xr,s5⟩:=x
     dsimp only at g1 hk ⊢
     repeat first|exact zE|refine zP ?_|refine zB fun b=>?_|refine zC fun a' c' hc1 hc2=>?_|(apply GJ.a;exact rfl;intro hg)|(apply GJ.o;exact rfl;intro hg)
     refine zDr (t:=[43]) hT g1 Take.auto Take.auto Take.auto (fun g2=>?_)
     generalize zA3 (zAa l) [43] s5=p at *
     obtain ⟨pb,s6⟩:=p
     dsimp only at g2 hk ⊢
     cases pb with
     | true =>
       rw [if_pos rfl] at hk
       repeat first|exact zE|refine zP ?_|refine zB fun b=>?_|refine zC fun a' c' hc1 hc2=>?_|(apply GJ.a;exact rfl;intro hg)|(apply GJ.o;exact rfl;intro hg)
       refine num3 hT g2 Take.auto Take.auto Take.auto (fun g3=>?_)
       generalize numP numD (zAa l) s6=a3 at *
       obtain ⟨n3,s7⟩:=a3
       dsimp only at g3 hk ⊢
       repeat first|exact zE|refine zP ?_|refine zB fun b=>?_|refine zC fun a' c' hc1 hc2=>?_|(apply GJ.a;exact rfl;intro hg)|(apply GJ.o;exact rfl;intro hg)
       refine zAi (t:=[93]) hT g3 Take.auto Take.auto Take.auto (fun g4=>?_)
       have hk2:=hk g4
       repeat first|exact zE|refine zP ?_|refine zB fun b=>?_|refine zC fun a' c' hc1 hc2=>?_|(apply GJ.a;exact rfl;intro hg)|(apply GJ.o;exact rfl;intro hg)
       exact Wk.outS Sup.z (.refl _) hk2
     | false =>
       rw [if_neg (by decide)] at hk
       repeat first|exact zE|refine zP ?_|refine zB fun b=>?_|refine zC fun a' c' hc1 hc2=>?_|(apply GJ.a;exact rfl;intro hg)|(apply GJ.o;exact rfl;intro hg)
       refine zAi (t:=[93]) hT g2 Take.auto Take.auto Take.auto (fun g4=>?_)
       have hk2:=hk g4
       repeat first|exact zE|refine zP ?_|refine zB fun b=>?_|refine zC fun a' c' hc1 hc2=>?_|(apply GJ.a;exact rfl;intro hg)|(apply GJ.o;exact rfl;intro hg)
       exact Wk.outS Sup.z (.refl _) hk2
 ·rw [if_neg h2] at hk
  repeat first|exact zE|refine zP ?_|refine zB fun b=>?_|refine zC fun a' c' hc1 hc2=>?_|(apply GJ.a;exact rfl;intro hg)|(apply GJ.o;exact rfl;intro hg)
  refine zDj hM hT h1 Take.auto Take.auto Take.auto (fun g1=>?_)
  generalize zA6 (zAa l) s1=x at *
  obtain ⟨xr,s5⟩:=x
  dsimp only at g1 hk ⊢
  repeat first|exact zE|refine zP ?_|refine zB fun b=>?_|refine zC fun a' c' hc1 hc2=>?_|(apply GJ.a;exact rfl;intro hg)|(apply GJ.o;exact rfl;intro hg)
  refine zDr (t:=[43]) hT g1 Take.auto Take.auto Take.auto (fun g2=>?_)
  generalize zA3 (zAa l) [43] s5=p at *
  obtain ⟨pb,s6⟩:=p
  dsimp only at g2 hk ⊢
  cases pb with
  | true =>
    rw [if_pos rfl] at hk
    repeat first|exact zE|refine zP ?_|refine zB fun b=>?_|refine zC fun a' c' hc1 hc2=>?_|(apply GJ.a;exact rfl;intro hg)|(apply GJ.o;exact rfl;intro hg)
    refine num3 hT g2 Take.auto Take.auto Take.auto (fun g3=>?_)
    generalize numP numD (zAa l) s6=a3 at *
    obtain ⟨n3,s7⟩:=a3
    dsimp only at g3 hk ⊢
    repeat first|exact zE|refine zP ?_|refine zB fun b=>?_|refine zC fun a' c' hc1 hc2=>?_|(apply GJ.a;exact rfl;intro hg)|(apply GJ.o;exact rfl;intro hg)
    refine zAi (t:=[93]) hT g3 Take.auto Take.auto Take.auto (fun g4=>?_)
    have hk2:=hk g4
    repeat first|exact zE|refine zP ?_|refine zB fun b=>?_|refine zC fun a' c' hc1 hc2=>?_|(apply GJ.a;exact rfl;intro hg)|(apply GJ.o;exact rfl;intro hg)
    exact Wk.outS Sup.z (.refl _) hk2
  | false =>
    rw [if_neg (by decide)] at hk
    repeat first|exact zE|refine zP ?_|refine zB fun b=>?_|refine zC fun a' c' hc1 hc2=>?_|(apply GJ.a;exact rfl;intro hg)|(apply GJ.o;exact rfl;intro hg)
    refine zAi (t:=[93]) hT g2 Take.auto Take.auto Take.auto (fun g4=>?_)
    have hk2:=hk g4
    repeat first|exact zE|refine zP ?_|refine zB fun b=>?_|refine zC fun a' c' hc1 hc2=>?_|(apply GJ.a;exact rfl;intro hg)|(apply GJ.o;exact rfl;intro hg)
    exact Wk.outS Sup.z (.refl _) hk2
end
structure KOk (la:Option Addr) (lc r:Nat) (l:List TokD) (deep:Int) (F:PS→Nat × PS):Prop where
 run:∀ {ro:Ro}{own q q1 q2:Chs}{K:Value→Ro→Chs→Prop}{s:PS}{a:zAp},MaxOk ro→ToksOk ro la lc l→RdOk ro l s a→Take own (rdC r la lc l s a) q1→Take q1 (ndC s a) q2→Take q2 (dfC s a) q →
  (∀ ro' a',Le ro ro'→RdOk ro' l (F s).2 a'→K (.int .i64 ((F s).1:Int)) ro' (rdC r la lc l (F s).2 a'::ndC (F s).2 a'::dfC (F s).2 a'::q))→CallOk Tryz.prog 87 #[ptr' r,.int .i64 deep] ro own K
section
variable {ro:Ro}{own q q1 q2:Chs}{K:Value→Ro→Chs→Prop}{l:List TokD}{s:PS}{a:zAp}{la:Option Addr}{lc r:Nat}{deep:Nat}{F:PS→Nat × PS}
set_option maxHeartbeats 4000000 in
theorem zDv {kd:Int} (hF:KOk la lc r l ((deep:Int)+1) F) (hd:deep≤100) (hM:MaxOk ro) (hT:ToksOk ro la lc l) (h:RdOk ro l s a) (t1:Take own (rdC r la lc l s a) q1) (t2:Take q1 (ndC s a) q2) (t3:Take q2 (dfC s a) q)
  (hk:∀ ro' a',Le ro ro'→RdOk ro' l (zBj numD (zAa l) F kd s).2 a'→K (.int .i64 ((zBj numD (zAa l) F kd s).1:Int)) ro' (rdC r la lc l (zBj numD (zAa l) F kd s).2 a'::ndC (zBj numD (zAa l) F kd s).2 a'::dfC (zBj numD (zAa l) F kd s).2 a'::q)) :
  CallOk Tryz.prog 137 #[ptr' r,.int .i64 kd,.int .i64 (deep:Int)] ro own K:=by
 refine CallOk.perm (zB8 t1 t2 t3) ?_
 unfold zBj at hk
 dsimp only at hk
 refine CallOk.intro (args:=[_,_,_]) (rs:=[_]) T_ok Tryz.func137 Tryz.call137 rfl rfl (by kernel_rfl) rfl rfl ?_
 repeat first|exact zE|refine zP ?_|refine zB fun b=>?_|refine zC fun a' c' hc1 hc2=>?_|(apply GJ.a;exact rfl;intro hg)|(apply GJ.o;exact rfl;intro hg)
 refine zFU hM hT h Take.auto Take.auto Take.auto (fun h1=>?_)
 generalize zC9 numD (zAa l) s=x at *
 obtain ⟨⟨xr,xm,xa⟩,s1⟩:=x
 dsimp only [exprV] at h1 hk ⊢
 repeat first|exact zE|refine zP ?_|refine zB fun b=>?_|refine zC fun a' c' hc1 hc2=>?_|(apply GJ.a;exact rfl;intro hg)|(apply GJ.o;exact rfl;intro hg)
 refine hF.run hM hT h1 Take.auto Take.auto Take.auto (fun ro2 a2 hl2 h2=>?_)
 generalize F s1=k at *
 obtain ⟨kn,s2⟩:=k
 dsimp only at h2 hk ⊢
 repeat (first|exact zE|refine zP ?_)
 refine OpOk.buildSliceF zAq zAq zAq zAq zAq (fun ro3 b3 hl3 hb3=>?_)
 repeat (first|exact zE|refine zP ?_)
 have h3:=h2.up hl3
 refine zAk (d:={ zAb with kind:=kd,ereg:=xr,emul:=xm,eadd:=xa,kids:=[(kn:Int)] }) (x:={ zAr with ka:=some ⟨b3,0,none⟩,kc:=1 }) ((hT.up hl2).up hl3) h3 ⟨hb3,Rs.nil _ 1,Rs.nil _ 5,Rs.nil _ 2⟩ ⟨by simp,by simp [zAb],by simp [zAb],by simp [zAb]⟩ Take.auto Take.auto Take.auto (fun ro4 a4 hl4 h4=>?_)
 have hk2:=hk ro4 a4 ((hl2.trans hl3).trans hl4) h4
 repeat first|exact zE|refine zP ?_|refine zB fun b=>?_|refine zC fun a' c' hc1 hc2=>?_|(apply GJ.a;exact rfl;intro hg)|(apply GJ.o;exact rfl;intro hg)
 exact Wk.outS Sup.z (.refl _) hk2
end
theorem eat_no {E:PE}{k:Nat}{t:List UInt8}{s:PS} (h:(eatP E k t s).1=false):s=(eatP E k t s).2:=by
 unfold eatP at h ⊢
 split
 ·rename_i hi;rw [if_pos hi] at h;cases h
 ·rfl
theorem zCT {E:PE}{t:List UInt8}{s:PS} (h:(kwP E t s).1=false):s=(kwP E t s).2:=eat_no h
section
variable {ro:Ro}{own q q1 q2:Chs}{K:Value→Ro→Chs→Prop}{l:List TokD}{s:PS}{a:zAp}{la:Option Addr}{lc r:Nat}{deep:Nat}{F:PS→Nat × PS}
set_option maxHeartbeats 8000000 in
theorem zEI (hF:KOk la lc r l ((deep:Int)+1) F) (hd:deep≤100) (hM:MaxOk ro) (hT:ToksOk ro la lc l) (h:RdOk ro l s a) (t1:Take own (rdC r la lc l s a) q1) (t2:Take q1 (ndC s a) q2) (t3:Take q2 (dfC s a) q)
  (hk:∀ ro' a',Le ro ro'→RdOk ro' l (zBH (zAa l) F s).2 a'→K (.agg (zA1 (zBH (zAa l) F s).1).toArray) ro' (rdC r la lc l (zBH (zAa l) F s).2 a'::ndC (zBH (zAa l) F s).2 a'::dfC (zBH (zAa l) F s).2 a'::q)) :
  CallOk Tryz.prog 133 #[ptr' r,.int .i64 (deep:Int)] ro own K:=by
 refine CallOk.perm (zB8 t1 t2 t3) ?_
 unfold zBH zDE at hk
 dsimp only at hk
 refine CallOk.intro (args:=[_,_]) (rs:=[_]) T_ok Tryz.func133 Tryz.call133 rfl rfl (by kernel_rfl) rfl rfl ?_
 repeat first|exact zE|refine zP ?_|refine zB fun b=>?_|refine zC fun a' c' hc1 hc2=>?_|(apply GJ.a;exact rfl;intro hg)|(apply GJ.o;exact rfl;intro hg)
 refine zDj hM hT h Take.auto Take.auto Take.auto (fun h1=>?_)
 generalize zA6 (zAa l) s=x at *
 obtain ⟨xn,s1⟩:=x
 dsimp only at h1 hk ⊢
 repeat first|exact zE|refine zP ?_|refine zB fun b=>?_|refine zC fun a' c' hc1 hc2=>?_|(apply GJ.a;exact rfl;intro hg)|(apply GJ.o;exact rfl;intro hg)
 refine zAi (t:=[58]) hT h1 Take.auto Take.auto Take.auto (fun h2=>?_)
 generalize zAe (zAa l) [58] s1=s2 at *
 repeat first|exact zE|refine zP ?_|refine zB fun b=>?_|refine zC fun a' c' hc1 hc2=>?_|(apply GJ.a;exact rfl;intro hg)|(apply GJ.o;exact rfl;intro hg)
 refine hF.run hM hT h2 Take.auto Take.auto Take.auto (fun ro2 a2 hl2 h3=>?_)
 generalize F s2=k at *
 obtain ⟨kn,s3⟩:=k
 dsimp only at h3 hk ⊢
 have hM2:=hM.le hl2
 have hT2:=hT.up hl2
 repeat first|exact zE|refine zP ?_|refine zB fun b=>?_|refine zC fun a' c' hc1 hc2=>?_|(apply GJ.a;exact rfl;intro hg)|(apply GJ.o;exact rfl;intro hg)
 refine zDr (t:=[61]) hT2 h3 Take.auto Take.auto Take.auto (fun h4=>?_)
 generalize zA3 (zAa l) [61] s3=e at *
 obtain ⟨eb,s4⟩:=e
 dsimp only at h4 hk ⊢
 cases eb with
 | false =>
   rw [if_neg (by decide)] at hk
   repeat first|exact zE|refine zP ?_|refine zB fun b=>?_|refine zC fun a' c' hc1 hc2=>?_|(apply GJ.a;exact rfl;intro hg)|(apply GJ.o;exact rfl;intro hg)
   refine zAi (t:=[59]) hT2 h4 Take.auto Take.auto Take.auto (fun g4=>?_)
   have hk2:=hk ro2 a2 hl2 g4
   repeat first|exact zE|refine zP ?_|refine zB fun b=>?_|refine zC fun a' c' hc1 hc2=>?_|(apply GJ.a;exact rfl;intro hg)|(apply GJ.o;exact rfl;intro hg)
   exact Wk.outS Sup.z (.refl _) hk2
 | true =>
   rw [if_pos rfl] at hk
   repeat first|exact zE|refine zP ?_|refine zB fun b=>?_|refine zC fun a' c' hc1 hc2=>?_|(apply GJ.a;exact rfl;intro hg)|(apply GJ.o;exact rfl;intro hg)
   refine zAK (t:=[115,105,122,101]) hT2 h4 Take.auto Take.auto Take.auto (fun h5=>?_)
   have hn1:=zCT (E:=zAa l) (t:=[115,105,122,101]) (s:=s4)
   generalize kwP (zAa l) [115,105,122,101] s4=w1 at *
   obtain ⟨b1,v1⟩:=w1
   dsimp only at h5 hn1 hk ⊢
   cases b1 with
   | true =>
     simp only [↓reduceIte] at hk
     repeat first|exact zE|refine zP ?_|refine zB fun b=>?_|refine zC fun a' c' hc1 hc2=>?_|(apply GJ.a;exact rfl;intro hg)|(apply GJ.o;exact rfl;intro hg)
     refine zAi (t:=[40]) hT2 h5 Take.auto Take.auto Take.auto (fun g1=>?_)
     generalize zAe (zAa l) [40] v1=u1 at *
     repeat first|exact zE|refine zP ?_|refine zB fun b=>?_|refine zC fun a' c' hc1 hc2=>?_|(apply GJ.a;exact rfl;intro hg)|(apply GJ.o;exact rfl;intro hg)
     refine zDj hM2 hT2 g1 Take.auto Take.auto Take.auto (fun g2=>?_)
     generalize zA6 (zAa l) u1=o at *
     obtain ⟨on,u2⟩:=o
     dsimp only at g2 hk ⊢
     rw [if_neg (by decide)] at hk
     repeat first|exact zE|refine zP ?_|refine zB fun b=>?_|refine zC fun a' c' hc1 hc2=>?_|(apply GJ.a;exact rfl;intro hg)|(apply GJ.o;exact rfl;intro hg)
     refine zAi (t:=[41]) hT2 g2 Take.auto Take.auto Take.auto (fun g3=>?_)
     generalize zAe (zAa l) [41] u2=u3 at *
     repeat first|exact zE|refine zP ?_|refine zB fun b=>?_|refine zC fun a' c' hc1 hc2=>?_|(apply GJ.a;exact rfl;intro hg)|(apply GJ.o;exact rfl;intro hg)
     refine zAi (t:=[59]) hT2 g3 Take.auto Take.auto Take.auto (fun g4=>?_)
     have hk2:=hk ro2 a2 hl2 g4
     repeat first|exact zE|refine zP ?_|refine zB fun b=>?_|refine zC fun a' c' hc1 hc2=>?_|(apply GJ.a;exact rfl;intro hg)|(apply GJ.o;exact rfl;intro hg)
     exact Wk.outS Sup.z (.refl _) hk2
   | false =>
     obtain rfl:=hn1 rfl
     simp only [Bool.false_eq_true,↓reduceIte] at hk
     repeat first|exact zE|refine zP ?_|refine zB fun b=>?_|refine zC fun a' c' hc1 hc2=>?_|(apply GJ.a;exact rfl;intro hg)|(apply GJ.o;exact rfl;intro hg)
     refine zAK (t:=[99,111,117,110,116]) hT2 h4 Take.auto Take.auto Take.auto (fun h5=>?_)
     have hn1:=zCT (E:=zAa l) (t:=[99,111,117,110,116]) (s:=s4)
     generalize kwP (zAa l) [99,111,117,110,116] s4=w1 at *
     obtain ⟨b1,v1⟩:=w1
     dsimp only at h5 hn1 hk ⊢
     cases b1 with
     | true =>
       simp only [↓reduceIte] at hk
       repeat first|exact zE|refine zP ?_|refine zB fun b=>?_|refine zC fun a' c' hc1 hc2=>?_|(apply GJ.a;exact rfl;intro hg)|(apply GJ.o;exact rfl;intro hg)
       refine zAi (t:=[40]) hT2 h5 Take.auto Take.auto Take.auto (fun g1=>?_)
       generalize zAe (zAa l) [40] v1=u1 at *
       repeat first|exact zE|refine zP ?_|refine zB fun b=>?_|refine zC fun a' c' hc1 hc2=>?_|(apply GJ.a;exact rfl;intro hg)|(apply GJ.o;exact rfl;intro hg)
       refine zDj hM2 hT2 g1 Take.auto Take.auto Take.auto (fun g2=>?_)
       generalize zA6 (zAa l) u1=o at *
       obtain ⟨on,u2⟩:=o
       dsimp only at g2 hk ⊢
       rw [if_neg (by decide)] at hk
       repeat first|exact zE|refine zP ?_|refine zB fun b=>?_|refine zC fun a' c' hc1 hc2=>?_|(apply GJ.a;exact rfl;intro hg)|(apply GJ.o;exact rfl;intro hg)
       refine zAi (t:=[41]) hT2 g2 Take.auto Take.auto Take.auto (fun g3=>?_)
       generalize zAe (zAa l) [41] u2=u3 at *
       repeat first|exact zE|refine zP ?_|refine zB fun b=>?_|refine zC fun a' c' hc1 hc2=>?_|(apply GJ.a;exact rfl;intro hg)|(apply GJ.o;exact rfl;intro hg)
       refine zAi (t:=[59]) hT2 g3 Take.auto Take.auto Take.auto (fun g4=>?_)
       have hk2:=hk ro2 a2 hl2 g4
       repeat first|exact zE|refine zP ?_|refine zB fun b=>?_|refine zC fun a' c' hc1 hc2=>?_|(apply GJ.a;exact rfl;intro hg)|(apply GJ.o;exact rfl;intro hg)
       exact Wk.outS Sup.z (.refl _) hk2
     | false =>
       obtain rfl:=hn1 rfl
       simp only [Bool.false_eq_true,↓reduceIte] at hk
       repeat first|exact zE|refine zP ?_|refine zB fun b=>?_|refine zC fun a' c' hc1 hc2=>?_|(apply GJ.a;exact rfl;intro hg)|(apply GJ.o;exact rfl;intro hg)
       refine zAK (t:=[99,114,99]) hT2 h4 Take.auto Take.auto Take.auto (fun h5=>?_)
       have hn1:=zCT (E:=zAa l) (t:=[99,114,99]) (s:=s4)
       generalize kwP (zAa l) [99,114,99] s4=w1 at *
       obtain ⟨b1,v1⟩:=w1
       dsimp only at h5 hn1 hk ⊢
       cases b1 with
       | true =>
         simp only [↓reduceIte] at hk
         repeat first|exact zE|refine zP ?_|refine zB fun b=>?_|refine zC fun a' c' hc1 hc2=>?_|(apply GJ.a;exact rfl;intro hg)|(apply GJ.o;exact rfl;intro hg)
         refine zAi (t:=[40]) hT2 h5 Take.auto Take.auto Take.auto (fun g1=>?_)
         generalize zAe (zAa l) [40] v1=u1 at *
         repeat first|exact zE|refine zP ?_|refine zB fun b=>?_|refine zC fun a' c' hc1 hc2=>?_|(apply GJ.a;exact rfl;intro hg)|(apply GJ.o;exact rfl;intro hg)
         refine zDj hM2 hT2 g1 Take.auto Take.auto Take.auto (fun g2=>?_)
         generalize zA6 (zAa l) u1=o at *
         obtain ⟨on,u2⟩:=o
         dsimp only at g2 hk ⊢
         repeat first|exact zE|refine zP ?_|refine zB fun b=>?_|refine zC fun a' c' hc1 hc2=>?_|(apply GJ.a;exact rfl;intro hg)|(apply GJ.o;exact rfl;intro hg)
         refine zAi (t:=[46,46]) hT2 g2 Take.auto Take.auto Take.auto (fun g3=>?_)
         generalize zAe (zAa l) [46,46] u2=u3 at *
         repeat first|exact zE|refine zP ?_|refine zB fun b=>?_|refine zC fun a' c' hc1 hc2=>?_|(apply GJ.a;exact rfl;intro hg)|(apply GJ.o;exact rfl;intro hg)
         refine zDj hM2 hT2 g3 Take.auto Take.auto Take.auto (fun g4=>?_)
         generalize zA6 (zAa l) u3=o at *
         obtain ⟨tn,u4⟩:=o
         dsimp only at g4 hk ⊢
         repeat first|exact zE|refine zP ?_|refine zB fun b=>?_|refine zC fun a' c' hc1 hc2=>?_|(apply GJ.a;exact rfl;intro hg)|(apply GJ.o;exact rfl;intro hg)
         refine zAi (t:=[41]) hT2 g4 Take.auto Take.auto Take.auto (fun g5=>?_)
         generalize zAe (zAa l) [41] u4=u5 at *
         repeat first|exact zE|refine zP ?_|refine zB fun b=>?_|refine zC fun a' c' hc1 hc2=>?_|(apply GJ.a;exact rfl;intro hg)|(apply GJ.o;exact rfl;intro hg)
         refine zAi (t:=[59]) hT2 g5 Take.auto Take.auto Take.auto (fun g6=>?_)
         have hk2:=hk ro2 a2 hl2 g6
         repeat first|exact zE|refine zP ?_|refine zB fun b=>?_|refine zC fun a' c' hc1 hc2=>?_|(apply GJ.a;exact rfl;intro hg)|(apply GJ.o;exact rfl;intro hg)
         exact Wk.outS Sup.z (.refl _) hk2
       | false =>
         obtain rfl:=hn1 rfl
         simp only [Bool.false_eq_true,↓reduceIte] at hk
         repeat first|exact zE|refine zP ?_|refine zB fun b=>?_|refine zC fun a' c' hc1 hc2=>?_|(apply GJ.a;exact rfl;intro hg)|(apply GJ.o;exact rfl;intro hg)
         refine zAF (e:=5) (by decide) (by decide) hT2 h4 Take.auto Take.auto Take.auto (fun h5=>?_)
         generalize zAg 5 s4=v1 at *
         repeat first|exact zE|refine zP ?_|refine zB fun b=>?_|refine zC fun a' c' hc1 hc2=>?_|(apply GJ.a;exact rfl;intro hg)|(apply GJ.o;exact rfl;intro hg)
         refine zAi (t:=[40]) hT2 h5 Take.auto Take.auto Take.auto (fun g1=>?_)
         generalize zAe (zAa l) [40] v1=u1 at *
         repeat first|exact zE|refine zP ?_|refine zB fun b=>?_|refine zC fun a' c' hc1 hc2=>?_|(apply GJ.a;exact rfl;intro hg)|(apply GJ.o;exact rfl;intro hg)
         refine zDj hM2 hT2 g1 Take.auto Take.auto Take.auto (fun g2=>?_)
         generalize zA6 (zAa l) u1=o at *
         obtain ⟨on,u2⟩:=o
         dsimp only at g2 hk ⊢
         rw [if_neg (by decide)] at hk
         repeat first|exact zE|refine zP ?_|refine zB fun b=>?_|refine zC fun a' c' hc1 hc2=>?_|(apply GJ.a;exact rfl;intro hg)|(apply GJ.o;exact rfl;intro hg)
         refine zAi (t:=[41]) hT2 g2 Take.auto Take.auto Take.auto (fun g3=>?_)
         generalize zAe (zAa l) [41] u2=u3 at *
         repeat first|exact zE|refine zP ?_|refine zB fun b=>?_|refine zC fun a' c' hc1 hc2=>?_|(apply GJ.a;exact rfl;intro hg)|(apply GJ.o;exact rfl;intro hg)
         refine zAi (t:=[59]) hT2 g3 Take.auto Take.auto Take.auto (fun g4=>?_)
         have hk2:=hk ro2 a2 hl2 g4
         repeat first|exact zE|refine zP ?_|refine zB fun b=>?_|refine zC fun a' c' hc1 hc2=>?_|(apply GJ.a;exact rfl;intro hg)|(apply GJ.o;exact rfl;intro hg)
         exact Wk.outS Sup.z (.refl _) hk2
end
section
variable {ro:Ro}{own q q1 q2:Chs}{K:Value→Ro→Chs→Prop}{l:List TokD}{s:PS}{a:zAp}{la:Option Addr}{lc r:Nat}{deep:Nat}{F:PS→Nat × PS}
set_option maxHeartbeats 8000000 in
theorem zGy (hF:KOk la lc r l ((deep:Int)+1) F) (hst:∀ s,s.code≠0→(F s).2.code≠0) (hd:deep≤100) (hM:MaxOk ro) (hT:ToksOk ro la lc l) (h:RdOk ro l s a) (t1:Take own (rdC r la lc l s a) q1) (t2:Take q1 (ndC s a) q2) (t3:Take q2 (dfC s a) q)
  (hk:∀ ro' a',Le ro ro'→RdOk ro' l (zBM (zAa l) F s).2 a'→K (.int .i64 ((zBM (zAa l) F s).1:Int)) ro' (rdC r la lc l (zBM (zAa l) F s).2 a'::ndC (zBM (zAa l) F s).2 a'::dfC (zBM (zAa l) F s).2 a'::q)) :
  CallOk Tryz.prog 113 #[ptr' r,.int .i64 (deep:Int)] ro own K:=by
 refine CallOk.perm (zB8 t1 t2 t3) ?_
 unfold zBM at hk
 dsimp only at hk
 refine CallOk.intro (args:=[_,_]) (rs:=[_]) T_ok Tryz.func113 Tryz.call113 rfl rfl (by kernel_rfl) rfl rfl ?_
 repeat first|exact zE|refine zP ?_|refine zB fun b=>?_|refine zC fun a' c' hc1 hc2=>?_|(apply GJ.a;exact rfl;intro hg)|(apply GJ.o;exact rfl;intro hg)
 refine zAi (t:=[123]) hT h Take.auto Take.auto Take.auto (fun h1=>?_)
 generalize zAe (zAa l) [123] s=s1 at *
 obtain ⟨R,hR⟩:∃ R,R=zC7 (zAa l) F 70 [] s1:=⟨_,rfl⟩
 rw [←hR] at hk
 obtain ⟨bN,hbN⟩:∃ z:Nat,z=b:=⟨_,rfl⟩
 subst hbN
 repeat first|exact zE|refine zP ?_|refine zB fun b=>?_|refine zC fun a' c' hc1 hc2=>?_|(apply GJ.a;exact rfl;intro hg)|(apply GJ.o;exact rfl;intro hg)
 refine LoopOk.auto (ι:=List zAm × PS × zAp × Option Addr × Nat) Keep.z (fun (fs,s,a,fa,fc)=>[]) (fun (fs,s,a,fa,fc)=>rdC r la lc l s a::ndC s a::dfC s a::.sl fa fs.length fc 47 5 (zA0 fs)::.blk bN 40 (zAl { zAb with kind:=5,fields:=fs } { zAr with fa:=fa,fc:=fc })::q) (fun (fs,s,a,fa,fc) ro2=>RdOk ro2 l s a∧zC7 (zAa l) F (70-fs.length) fs s=R∧(fs.length≤64∨(fs.length=65∧s.code≠0))∧fs.length≤fc∧fc≤maxLen) (fun (fs,s,a,fa,fc)=>70-fs.length) ([],s1,a,none,0) ?_ Sub.z Sup.z ?_
 ·exact ⟨h1,hR.symm,.inl (Nat.zero_le _),Nat.le_refl _,Nat.zero_le _⟩
 clear h1 hR h
 rintro ⟨fs,s,a,fa,fc⟩ ro2 hl2 ⟨i1,i2,i3,i4,i5⟩
 dsimp only [List.cons_append,List.nil_append] at i1 i2 i3 i4 i5 ⊢
 dsimp only [zAl,zAb,zAr]
 have hM2:=hM.le hl2
 have hT2:=hT.up hl2
 have hfl:=zFG fs
 rw [show 70-fs.length=(69-fs.length)+1 by omega,zC7] at i2
 repeat first|exact zE|refine zP ?_|refine zB fun b=>?_|refine zC fun a' c' hc1 hc2=>?_|(apply GJ.a;exact rfl;intro hg)|(apply GJ.o;exact rfl;intro hg)
 refine zAX i1 Take.auto ?_
 by_cases hc:s.code=0
 ·rw [if_neg (fun h=>h hc)] at i2
  rw [decide_eq_true hc]
  repeat first|exact zE|refine zP ?_|refine zB fun b=>?_|refine zC fun a' c' hc1 hc2=>?_|(apply GJ.a;exact rfl;intro hg)|(apply GJ.o;exact rfl;intro hg)
  refine zDr (t:=[125]) hT2 i1 Take.auto Take.auto Take.auto (fun h2=>?_)
  have hpos:(zA3 (zAa l) [125] s).1=true→1≤(zA3 (zAa l) [125] s).2.at':=fun hh=>by
   unfold zA3 eatP at hh ⊢
   split
   ·exact Nat.succ_pos _
   ·rename_i hn;rw [if_neg hn] at hh;cases hh
  generalize zA3 (zAa l) [125] s=e at *
  obtain ⟨eb,s3⟩:=e
  dsimp only at h2 hpos i2 ⊢
  cases eb with
  | true =>
    rw [if_pos rfl] at i2
    subst i2
    dsimp only at hk
    have hpos:=hpos rfl
    repeat first|exact zE|refine zP ?_|refine zB fun b=>?_|refine zC fun a' c' hc1 hc2=>?_|(apply GJ.a;exact rfl;intro hg)|(apply GJ.o;exact rfl;intro hg)
    refine zAX h2 Take.auto ?_
    by_cases hb:s3.code=0∧fs.length=0
    ·rw [if_pos hb] at hk
     rw [decide_eq_true hb.1]
     have hb2:=hb.2
     have hat:=h2.at'
     have hl2':=hT.le
     unfold rdC zBy
     repeat first|exact zE|refine zP ?_|refine zB fun b=>?_|refine zC fun a' c' hc1 hc2=>?_|(apply GJ.a;exact rfl;intro hg)|(apply GJ.o;exact rfl;intro hg)
     rw [←backC hpos]
     refine zAF (e:=5) (s:=zCv s3) (by decide) (by decide) hT2 h2.back Take.auto Take.auto Take.auto (fun h4=>?_)
     repeat first|exact zE|refine zP ?_|refine zB fun b=>?_|refine zC fun a' c' hc1 hc2=>?_|(apply GJ.a;exact rfl;intro hg)|(apply GJ.o;exact rfl;intro hg)
     refine CallOk.freeze (c:=.sl fa _ _ _ _ _) Take.auto (fun ro9 hl9 hc9=>?_)
     refine zAk (d:={ zAb with kind:=5,fields:=fs }) (x:={ zAr with fa:=fa,fc:=fc }) (hT2.up hl9) ((h4).up hl9) ⟨Rs.nil _ 1,Rs.nil _ 1,Rs.last hc9,Rs.nil _ 2⟩ ⟨by simp [zAb],by simp [zAb],by dsimp only;omega,by simp [zAb]⟩ Take.auto Take.auto Take.auto (fun ro4 a4 hl4 h4=>?_)
     have hk2:=hk ro4 a4 ((hl2.trans hl9).trans hl4) h4
     repeat first|exact zE|refine zP ?_|refine zB fun b=>?_|refine zC fun a' c' hc1 hc2=>?_|(apply GJ.a;exact rfl;intro hg)|(apply GJ.o;exact rfl;intro hg)
     exact Wk.outS Sup.z (.refl _) hk2
    ·rw [if_neg hb] at hk
     by_cases hc3:s3.code=0
     ·have hn0:¬fs.length=0:=fun h=>hb ⟨hc3,h⟩
      rw [decide_eq_true hc3]
      repeat first|exact zE|refine zP ?_|refine zB fun b=>?_|refine zC fun a' c' hc1 hc2=>?_|(apply GJ.a;exact rfl;intro hg)|(apply GJ.o;exact rfl;intro hg)
      refine CallOk.freeze (c:=.sl fa _ _ _ _ _) Take.auto (fun ro9 hl9 hc9=>?_)
      refine zAk (d:={ zAb with kind:=5,fields:=fs }) (x:={ zAr with fa:=fa,fc:=fc }) (hT2.up hl9) ((h2).up hl9) ⟨Rs.nil _ 1,Rs.nil _ 1,Rs.last hc9,Rs.nil _ 2⟩ ⟨by simp [zAb],by simp [zAb],by dsimp only;omega,by simp [zAb]⟩ Take.auto Take.auto Take.auto (fun ro4 a4 hl4 h4=>?_)
      have hk2:=hk ro4 a4 ((hl2.trans hl9).trans hl4) h4
      repeat first|exact zE|refine zP ?_|refine zB fun b=>?_|refine zC fun a' c' hc1 hc2=>?_|(apply GJ.a;exact rfl;intro hg)|(apply GJ.o;exact rfl;intro hg)
      exact Wk.outS Sup.z (.refl _) hk2
     ·rw [decide_eq_false hc3]
      repeat first|exact zE|refine zP ?_|refine zB fun b=>?_|refine zC fun a' c' hc1 hc2=>?_|(apply GJ.a;exact rfl;intro hg)|(apply GJ.o;exact rfl;intro hg)
      refine CallOk.freeze (c:=.sl fa _ _ _ _ _) Take.auto (fun ro9 hl9 hc9=>?_)
      refine zAk (d:={ zAb with kind:=5,fields:=fs }) (x:={ zAr with fa:=fa,fc:=fc }) (hT2.up hl9) ((h2).up hl9) ⟨Rs.nil _ 1,Rs.nil _ 1,Rs.last hc9,Rs.nil _ 2⟩ ⟨by simp [zAb],by simp [zAb],by dsimp only;omega,by simp [zAb]⟩ Take.auto Take.auto Take.auto (fun ro4 a4 hl4 h4=>?_)
      have hk2:=hk ro4 a4 ((hl2.trans hl9).trans hl4) h4
      repeat first|exact zE|refine zP ?_|refine zB fun b=>?_|refine zC fun a' c' hc1 hc2=>?_|(apply GJ.a;exact rfl;intro hg)|(apply GJ.o;exact rfl;intro hg)
      exact Wk.outS Sup.z (.refl _) hk2
  | false =>
    rw [if_neg (by decide)] at i2
    by_cases h64:fs.length=64
    ·rw [if_pos h64] at i2
     repeat first|exact zE|refine zP ?_|refine zB fun b=>?_|refine zC fun a' c' hc1 hc2=>?_|(apply GJ.a;exact rfl;intro hg)|(apply GJ.o;exact rfl;intro hg)
     refine zAF (e:=2) (by decide) (by decide) hT2 h2 Take.auto Take.auto Take.auto (fun h4=>?_)
     have hcode:(zAg 2 s3).code≠0:=by
      unfold zAg
      split
      ·exact (by decide:(2:Nat)≠0)
      ·assumption
     generalize zAg 2 s3=s4 at *
     repeat first|exact zE|refine wkG ?_|refine zB fun b=>?_|refine zC fun a' c' hc1 hc2=>?_|(show GJ _ _ _ _ _ _ _;first|(apply GJ.a;exact rfl;intro hg)|(apply GJ.o;exact rfl;intro hg)|refine GJ.t zO ?_|refine GJ.f zO ?_|refine GJ.ft zO ?_|refine GJ.ff zO ?_)
     refine Bs.mk ⟨[.blk bN 40 [.int .i64 5,.int .i64 0,.bool false,.bool false,.bool false,.int .u64 ((0:Nat):Int),.int .u64 ((0:Nat):Int),str [],str [],.int .u64 ((0:Nat):Int),.int .u64 ((0:Nat):Int),.slice none 0 0,.slice none 0 0,.slice fa fs.length fc,str [],.int .u64 ((0:Nat):Int),.slice none 0 0,.int .i64 0]],Sup.z,?_⟩
     repeat first|exact zE|refine wkG ?_|refine zB fun b=>?_|refine zC fun a' c' hc1 hc2=>?_|(show GJ _ _ _ _ _ _ _;first|(apply GJ.a;exact rfl;intro hg)|(apply GJ.o;exact rfl;intro hg)|refine GJ.t zO ?_|refine GJ.f zO ?_|refine GJ.ft zO ?_|refine GJ.ff zO ?_)
     refine zEI hF hd hM2 hT2 h4 Take.auto Take.auto Take.auto (fun ro3 a3 hl3 h5=>?_)
     have hstf:(s4).code≠0→(zBH (zAa l) F s4).2.code≠0:=fun hh=>by
      haveI:=zA2 l
      exact (InP.field (I:=fun s=>s.code≠0) (E:=zAa l) (fun s h=>⟨hst s h.get⟩) ⟨hh⟩).get
     generalize zBH (zAa l) F s4=x at *
     obtain ⟨xf,s5⟩:=x
     dsimp only at h5 i2 hstf ⊢
     refine wkS ?_
     refine zB (fun b2=>?_)
     refine wkS ?_
     repeat first|exact zE|refine wkG ?_|refine zB fun b=>?_|refine zC fun a' c' hc1 hc2=>?_|(show GJ _ _ _ _ _ _ _;first|(apply GJ.a;exact rfl;intro hg)|(apply GJ.o;exact rfl;intro hg)|refine GJ.t zO ?_|refine GJ.f zO ?_|refine GJ.ft zO ?_|refine GJ.ff zO ?_)
     have e2:zA0 fs++flat [Value.agg (zA1 xf).toArray]=zA0 (fs++[xf]):=by simp [zA0,flat,zA1,Value.cells]
     have e1:fs.length+1=(fs++[xf]).length:=by simp
     rw [e2]
     rw [e1] at hc1 ⊢
     repeat first|exact zE|refine zP ?_|refine zB fun b=>?_|refine zC fun a' c' hc1 hc2=>?_|(apply GJ.a;exact rfl;intro hg)|(apply GJ.o;exact rfl;intro hg)
     refine Wk.id ⟨(fs++[xf],s5,a3,a',c'),?_,?_,Sub.z,Sup.z⟩
     all_goals try dsimp only
     ·refine ⟨h5,by rw [←e1,show 70-(fs.length+1)=69-fs.length by omega];exact i2,?_,hc1,hc2⟩
      rw [←e1]
      exact .inr ⟨by omega,hstf hcode⟩
     ·rw [←e1];omega
    ·rw [if_neg h64] at i2
     have hle:fs.length≤63:=by
      rcases i3 with h|⟨h,hh⟩
      ·omega
      ·exact absurd hc hh
     repeat first|exact zE|refine wkG ?_|refine zB fun b=>?_|refine zC fun a' c' hc1 hc2=>?_|(show GJ _ _ _ _ _ _ _;first|(apply GJ.a;exact rfl;intro hg)|(apply GJ.o;exact rfl;intro hg)|refine GJ.t zO ?_|refine GJ.f zO ?_|refine GJ.ft zO ?_|refine GJ.ff zO ?_)
     refine SeqOk.pass ?_
     repeat first|exact zE|refine wkG ?_|refine zB fun b=>?_|refine zC fun a' c' hc1 hc2=>?_|(show GJ _ _ _ _ _ _ _;first|(apply GJ.a;exact rfl;intro hg)|(apply GJ.o;exact rfl;intro hg)|refine GJ.t zO ?_|refine GJ.f zO ?_|refine GJ.ft zO ?_|refine GJ.ff zO ?_)
     refine Bs.mk ⟨[.blk bN 40 [.int .i64 5,.int .i64 0,.bool false,.bool false,.bool false,.int .u64 ((0:Nat):Int),.int .u64 ((0:Nat):Int),str [],str [],.int .u64 ((0:Nat):Int),.int .u64 ((0:Nat):Int),.slice none 0 0,.slice none 0 0,.slice fa fs.length fc,str [],.int .u64 ((0:Nat):Int),.slice none 0 0,.int .i64 0]],Sup.z,?_⟩
     repeat first|exact zE|refine wkG ?_|refine zB fun b=>?_|refine zC fun a' c' hc1 hc2=>?_|(show GJ _ _ _ _ _ _ _;first|(apply GJ.a;exact rfl;intro hg)|(apply GJ.o;exact rfl;intro hg)|refine GJ.t zO ?_|refine GJ.f zO ?_|refine GJ.ft zO ?_|refine GJ.ff zO ?_)
     refine zEI hF hd hM2 hT2 h2 Take.auto Take.auto Take.auto (fun ro3 a3 hl3 h5=>?_)
     have hstf:(s3).code≠0→(zBH (zAa l) F s3).2.code≠0:=fun hh=>by
      haveI:=zA2 l
      exact (InP.field (I:=fun s=>s.code≠0) (E:=zAa l) (fun s h=>⟨hst s h.get⟩) ⟨hh⟩).get
     generalize zBH (zAa l) F s3=x at *
     obtain ⟨xf,s5⟩:=x
     dsimp only at h5 i2 hstf ⊢
     refine wkS ?_
     refine zB (fun b2=>?_)
     refine wkS ?_
     repeat first|exact zE|refine wkG ?_|refine zB fun b=>?_|refine zC fun a' c' hc1 hc2=>?_|(show GJ _ _ _ _ _ _ _;first|(apply GJ.a;exact rfl;intro hg)|(apply GJ.o;exact rfl;intro hg)|refine GJ.t zO ?_|refine GJ.f zO ?_|refine GJ.ft zO ?_|refine GJ.ff zO ?_)
     have e2:zA0 fs++flat [Value.agg (zA1 xf).toArray]=zA0 (fs++[xf]):=by simp [zA0,flat,zA1,Value.cells]
     have e1:fs.length+1=(fs++[xf]).length:=by simp
     rw [e2]
     rw [e1] at hc1 ⊢
     repeat first|exact zE|refine zP ?_|refine zB fun b=>?_|refine zC fun a' c' hc1 hc2=>?_|(apply GJ.a;exact rfl;intro hg)|(apply GJ.o;exact rfl;intro hg)
     refine Wk.id ⟨(fs++[xf],s5,a3,a',c'),?_,?_,Sub.z,Sup.z⟩
     all_goals try dsimp only
     ·refine ⟨h5,by rw [←e1,show 70-(fs.length+1)=69-fs.length by omega];exact i2,?_,hc1,hc2⟩
      rw [←e1]
      exact .inl (by omega)
     ·rw [←e1];omega
 ·rw [if_pos hc] at i2
  subst i2
  dsimp only at hk
  rw [if_neg (fun h=>hc h.1)] at hk
  rw [decide_eq_false hc]
  repeat first|exact zE|refine zP ?_|refine zB fun b=>?_|refine zC fun a' c' hc1 hc2=>?_|(apply GJ.a;exact rfl;intro hg)|(apply GJ.o;exact rfl;intro hg)
  refine zAX i1 Take.auto ?_
  rw [decide_eq_false hc]
  repeat first|exact zE|refine zP ?_|refine zB fun b=>?_|refine zC fun a' c' hc1 hc2=>?_|(apply GJ.a;exact rfl;intro hg)|(apply GJ.o;exact rfl;intro hg)
  refine CallOk.freeze (c:=.sl fa _ _ _ _ _) Take.auto (fun ro9 hl9 hc9=>?_)
  refine zAk (d:={ zAb with kind:=5,fields:=fs }) (x:={ zAr with fa:=fa,fc:=fc }) (hT2.up hl9) ((i1).up hl9) ⟨Rs.nil _ 1,Rs.nil _ 1,Rs.last hc9,Rs.nil _ 2⟩ ⟨by simp [zAb],by simp [zAb],by dsimp only;omega,by simp [zAb]⟩ Take.auto Take.auto Take.auto (fun ro4 a4 hl4 h4=>?_)
  have hk2:=hk ro4 a4 ((hl2.trans hl9).trans hl4) h4
  repeat first|exact zE|refine zP ?_|refine zB fun b=>?_|refine zC fun a' c' hc1 hc2=>?_|(apply GJ.a;exact rfl;intro hg)|(apply GJ.o;exact rfl;intro hg)
  exact Wk.outS Sup.z (.refl _) hk2
end
end Go.Proofs.YtnapjcnfgdkmcaaGreatDoor
end
