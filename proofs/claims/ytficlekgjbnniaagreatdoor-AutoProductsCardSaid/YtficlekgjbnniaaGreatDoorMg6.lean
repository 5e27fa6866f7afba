/- Texts of a walk, one behind the other. -/
import Derived.WideKeyArr
import Derived.StringKeys
import Derived.DeepKeys5
import Derived.Lib.LaidTab
import Derived.Test.YtficlekgjbnniaaGreatDoorMg2
import Derived.Test.YtficlekgjbnniaaGreatDoorMg3
import Derived.Test.YtficlekgjbnniaaGreatDoorMg5
set_option linter.unusedVariables false
set_option linter.unusedSimpArgs false
set_option linter.unusedSectionVars false
set_option maxRecDepth 10000
section
namespace Go.Proofs.YtficlekgjbnniaaGreatDoor
open Go Go.E
def clsA (a:DfaA) (c:Nat):Nat:=a.cls[c]?.getD 0
def rowO (a:DfaA) (g:List Int) (cur:Nat):Nat→Nat→List Nat→List Int→List Nat × List Int
 | 0,_,order,row=>(order,row)
 | k+1,c,order,row =>
   if grpAt g (stepA a (cur:Int) c)=-1 then rowO a g cur k (c+1) order (row.set (clsA a c) (-1))
   else match order.findIdx? (fun s=>getI' g s == grpAt g (stepA a (cur:Int) c)) with
    | some n=>rowO a g cur k (c+1) order (row.set (clsA a c) (n:Int))
    | none=>rowO a g cur k (c+1) (order++[(stepA a (cur:Int) c).toNat]) (row.set (clsA a c) (order.length:Int))
def ordL (a:DfaA) (g:List Int):Nat→List Nat→List (List Int)→List Bool→List Nat × List (List Int) × List Bool
 | 0,order,next,acc=>(order,next,acc)
 | f+1,order,next,acc =>
   match order[next.length]? with
   | none=>(order,next,acc)
   | some cur=>ordL a g f (rowO a g cur 256 0 order (List.replicate (widthA a) 0)).1 (next++[(rowO a g cur 256 0 order (List.replicate (widthA a) 0)).2]) (acc++[getB a.acc cur])
def deadA:DfaA:=⟨List.replicate 256 0,[[-1]],[false]⟩
def leastA (a:DfaA):DfaA :=
 if a.next=[] then nilA else
 if getI' (grpA a) 0=-1 then deadA else
 narrowA ⟨a.cls,(ordL a (grpA a) (a.next.length+1) [0] [] []).2.1,(ordL a (grpA a) (a.next.length+1) [0] [] []).2.2⟩
structure OrdB (a:DfaA) (g:List Int) (order:List Nat):Prop where
 zero:order[0]?=some 0
 lt:∀ s∈order,s<a.next.length
 live:∀ s∈order,LiveA a s
 nodup:(order.map (getI' g)).Nodup
def RowV (a:DfaA) (g:List Int) (cur:Nat) (order:List Nat) (row:List Int) (d:Nat):Prop :=
 (grpAt g (stepA a (cur:Int) d)=-1∧row[clsA a d]?=some (-1))∨∃ i t:Nat,row[clsA a d]?=some (i:Int)∧order[i]?=some t∧getI' g t=grpAt g (stepA a (cur:Int) d)
structure RowI (a:DfaA) (g:List Int) (cur w:Nat) (base order:List Nat) (row:List Int) (c:Nat):Prop where
 pre:∃ e,order=base++e
 len:row.length=w
 ord:OrdB a g order
 at':∀ d,d<c→RowV a g cur order row d
 new:∀ i:Nat,base.length≤i→i<order.length→∃ d,d<c∧row[clsA a d]?=some (i:Int)
 first:∀ d t:Nat,d<c→row[clsA a d]?=some (t:Int)→∀ u:Nat,base.length≤u→u<t→∃ e,e<d∧row[clsA a e]?=some (u:Int)
theorem cls_lt {w:Nat}{a:DfaA} (h:DfaOk w a) {c:Nat} (hc:c<256):clsA a c<w∧a.cls[c]?=some (clsA a c):=by
 have hcl:c<a.cls.length:=by rw [h.cls];exact hc
 unfold clsA
 rw [List.getElem?_eq_getElem hcl]
 exact ⟨h.low _ (List.getElem_mem hcl),rfl⟩
theorem step_cls {a:DfaA}{s:Int}{c d:Nat} (h:clsA a c=clsA a d):stepA a s c=stepA a s d:=by
 unfold clsA at h
 unfold stepA;rw [h]
theorem nodup_at {α:Type}{l:List α} (h:l.Nodup) {i j:Nat}{x:α} (hi:l[i]?=some x) (hj:l[j]?=some x):i=j :=
 (List.getElem?_inj (List.getElem?_eq_some_iff.1 hi).1 h).1 (hi.trans hj.symm)
theorem OrdB.uniq {a:DfaA}{g:List Int}{order:List Nat} (h:OrdB a g order) {i j s t:Nat} (hi:order[i]?=some s) (hj:order[j]?=some t) (e:getI' g s=getI' g t):i=j :=
 nodup_at h.nodup (x:=getI' g s) (by rw [List.getElem?_map,hi];rfl) (by rw [List.getElem?_map,hj,e];rfl)
theorem grp_dead {a:DfaA}{g:List Int} (hg:GrpOk a g) {s:Nat} (h1:s<a.next.length) (h2:LiveA a s):getI' g s≠-1:=fun e=>(hg.dead s h1).1 e h2
theorem RowI.put {w:Nat}{a:DfaA}{g:List Int}{cur:Nat}{base order order2:List Nat}{row:List Int}{c:Nat}{v:Int} (ha:DfaOk w a) (hg:GrpOk a g) (hc:c<256) (h:RowI a g cur w base order row c)
  (hp:∃ e,order2=order++e) (ho:OrdB a g order2)
  (hv:(grpAt g (stepA a (cur:Int) c)=-1∧v=-1)∨∃ i t:Nat,v=(i:Int)∧order2[i]?=some t∧getI' g t=grpAt g (stepA a (cur:Int) c))
  (hn:∀ i:Nat,order.length≤i→i<order2.length→v=(i:Int))
  (hf:∀ t:Nat,v=(t:Int)→t≤order.length):RowI a g cur w base order2 (row.set (clsA a c) v) (c+1):=by
 obtain ⟨hcw,_⟩:=cls_lt ha hc
 have hold:∀ (i t:Nat),order[i]?=some t→order2[i]?=some t:=fun i t hi=>by
  obtain ⟨e,he⟩:=hp
  rw [he,List.getElem?_append_left (List.getElem?_eq_some_iff.1 hi).1,hi]
 have hnew:(row.set (clsA a c) v)[clsA a c]?=some v:=by rw [List.getElem?_set_self (by rw [h.len];exact hcw)]
 have hsame:∀ d,d<c→(row.set (clsA a c) v)[clsA a d]?=row[clsA a d]?:=fun d hd=>by
  by_cases e:clsA a c=clsA a d
  ·rw [←e,hnew,e]
   have hst:=step_cls (a:=a) (s:=(cur:Int)) e
   rcases h.at' d hd with ⟨h1,h2⟩|⟨i,t,h1,h2,h3⟩
   ·rcases hv with ⟨h4,h5⟩|⟨j,u,h4,h5,h6⟩
    ·rw [h2,h5]
    ·rw [hst,h1] at h6
     have hm:=List.mem_of_getElem? h5
     exact absurd h6 (grp_dead hg (ho.lt _ hm) (ho.live _ hm))
   ·rcases hv with ⟨h4,h5⟩|⟨j,u,h4,h5,h6⟩
    ·rw [←hst,h4] at h3
     have hm:=List.mem_of_getElem? h2
     exact absurd h3 (grp_dead hg (h.ord.lt _ hm) (h.ord.live _ hm))
    ·have:=ho.uniq h5 (hold _ _ h2) (by rw [h6,h3,hst])
     rw [h1,h4,this]
  ·rw [List.getElem?_set_ne e]
 obtain ⟨e1,he1⟩:=h.pre
 obtain ⟨e2,he2⟩:=hp
 have hlen:base.length≤order.length:=by rw [he1];simp
 refine ⟨⟨e1++e2,by rw [he2,he1,List.append_assoc]⟩,by rw [List.length_set,h.len],ho,fun d hd=>?_,fun i hi1 hi2=>?_,fun d t hd ht u hu1 hu2=>?_⟩
 ·by_cases e:d=c
  ·subst e
   unfold RowV
   rw [hnew]
   rcases hv with ⟨h4,h5⟩|⟨j,u,h4,h5,h6⟩
   ·exact .inl ⟨h4,by rw [h5]⟩
   ·exact .inr ⟨j,u,by rw [h4],h5,h6⟩
  ·have hd:d<c:=by omega
   unfold RowV
   rw [hsame d hd]
   rcases h.at' d hd with h1|⟨i,t,h1,h2,h3⟩
   ·exact .inl h1
   ·exact .inr ⟨i,t,h1,hold _ _ h2,h3⟩
 ·by_cases e:i<order.length
  ·obtain ⟨d,hd,hr⟩:=h.new i hi1 e
   exact ⟨d,by omega,by rw [hsame d hd];exact hr⟩
  ·exact ⟨c,by omega,by rw [hnew,hn i (by omega) hi2]⟩
 ·by_cases e:d=c
  ·subst e
   rw [hnew] at ht
   have htl:=hf t (Option.some.inj ht)
   obtain ⟨x,hx,hr⟩:=h.new u hu1 (by omega)
   exact ⟨x,hx,by rw [hsame x hx];exact hr⟩
  ·have hd:d<c:=by omega
   rw [hsame d hd] at ht
   obtain ⟨x,hx,hr⟩:=h.first d t hd ht u hu1 hu2
   exact ⟨x,hx,by rw [hsame x (by omega)];exact hr⟩
theorem rowO_ok {w:Nat}{a:DfaA}{g:List Int}{cur:Nat}{base:List Nat} (ha:DfaOk w a) (hg:GrpOk a g):∀ (k c:Nat) (order:List Nat) (row:List Int),c+k≤256→RowI a g cur w base order row c→RowI a g cur w base (rowO a g cur k c order row).1 (rowO a g cur k c order row).2 (c+k)
 | 0,c,order,row,_,h=>h
 | k+1,c,order,row,hk,h=>by
   rw [rowO,show c+(k+1)=c+1+k by omega]
   have hc:c<256:=by omega
   split
   ·rename_i h0
    exact rowO_ok ha hg k (c+1) _ _ (by omega) (h.put ha hg hc ⟨[],by simp⟩ h.ord (.inl ⟨h0,rfl⟩) (fun i h1 h2=>by omega) (fun t ht=>by omega))
   ·rename_i h0
    split
    ·rename_i n hn
     obtain ⟨hlt,hkk,_⟩:=List.findIdx?_eq_some_iff_getElem.1 hn
     exact rowO_ok ha hg k (c+1) _ _ (by omega) (h.put ha hg hc ⟨[],by simp⟩ h.ord (.inr ⟨n,order[n],rfl,List.getElem?_eq_getElem hlt,eq_of_beq hkk⟩) (fun i h1 h2=>by omega) (fun t ht=>by omega))
    ·rename_i hn
     rcases step_to ha (cur:Int) hc with h1|⟨t,h1,h2⟩
     ·exact absurd (by rw [h1];rfl) h0
     ·have hgt:grpAt g (stepA a (cur:Int) c)=getI' g t:=by rw [h1];unfold grpAt;rw [if_pos (by omega),Int.toNat_natCast]
      have htn:(stepA a (cur:Int) c).toNat=t:=by rw [h1];rfl
      rw [htn]
      have hnm:getI' g t∉order.map (getI' g):=fun hm=>by
       obtain ⟨s,hs,e⟩:=List.mem_map.1 hm
       have:=List.findIdx?_eq_none_iff.1 hn s hs
       rw [hgt,e] at this
       simp at this
      have hlv:LiveA a t:=Classical.byContradiction fun hl=>h0 (by rw [hgt];exact (hg.dead t h2).2 hl)
      refine rowO_ok ha hg k (c+1) _ _ (by omega) (h.put ha hg hc ⟨[t],rfl⟩ ⟨?_,?_,?_,?_⟩ (.inr ⟨order.length,t,rfl,by rw [List.getElem?_append_right (Nat.le_refl _),Nat.sub_self];rfl,hgt.symm⟩) (fun i h3 h4=>by simp at h4;omega) (fun t ht=>by omega))
      ·rw [List.getElem?_append_left (List.getElem?_eq_some_iff.1 h.ord.zero).1];exact h.ord.zero
      ·intro s hs
       rcases List.mem_append.1 hs with hs|hs
       ·exact h.ord.lt s hs
       ·rw [List.mem_singleton] at hs;rw [hs];exact h2
      ·intro s hs
       rcases List.mem_append.1 hs with hs|hs
       ·exact h.ord.live s hs
       ·rw [List.mem_singleton] at hs;rw [hs];exact hlv
      ·rw [List.map_append]
       exact List.nodup_append.2 ⟨h.ord.nodup,by simp,fun x hx y hy e=>by
        rw [List.map_singleton,List.mem_singleton] at hy;subst hy;subst e;exact hnm hx⟩
structure OrdI (a:DfaA) (g:List Int) (w:Nat) (order:List Nat) (next:List (List Int)) (acc:List Bool):Prop where
 ord:OrdB a g order
 nlen:next.length≤order.length
 alen:acc.length=next.length
 row:∀ (s:Nat) (r:List Int) (cur:Nat),next[s]?=some r→order[s]?=some cur→r.length=w∧∀ c,c<256→RowV a g cur order r c
 acc:∀ (s cur:Nat),s<next.length→order[s]?=some cur→acc[s]?=some (getB a.acc cur)
 met:∀ u:Nat,0<u→u<order.length→∃ (s c:Nat) (r:List Int),s<u∧c<256∧next[s]?=some r∧r[clsA a c]?=some (u:Int)
 first:∀ (s c:Nat) (r:List Int) (t:Nat),next[s]?=some r→c<256→r[clsA a c]?=some (t:Int)→∀ u:Nat,0<u→u<t→∃ (s2 c2:Nat) (r2:List Int),Bef s2 c2 s c∧c2<256∧next[s2]?=some r2∧r2[clsA a c2]?=some (u:Int)
theorem width_is {w:Nat}{a:DfaA} (h:DfaOk w a) (hp:0<a.next.length):widthA a=w:=by
 unfold widthA
 rw [List.getElem?_eq_getElem hp]
 exact h.row _ (List.getElem_mem hp)
theorem ord_len {w:Nat}{a:DfaA}{g:List Int}{order:List Nat} (h:OrdB a g order):order.length≤a.next.length:=by
 have hn:order.Nodup:=by
  have:=h.nodup
  unfold List.Nodup at this ⊢
  rw [List.pairwise_map] at this
  exact this.imp fun {x y} hxy e=>hxy (congrArg _ e)
 have:=nodup_le hn (b:=List.range a.next.length) (fun x hx=>List.mem_range.2 (h.lt x hx))
 rwa [List.length_range] at this
theorem ordL_ok {w:Nat}{a:DfaA}{g:List Int} (ha:DfaOk w a) (hp:0<a.next.length) (hg:GrpOk a g):∀ (f:Nat) (order:List Nat) (next:List (List Int)) (acc:List Bool),OrdI a g w order next acc→a.next.length<f+next.length →
  OrdI a g w (ordL a g f order next acc).1 (ordL a g f order next acc).2.1 (ordL a g f order next acc).2.2∧(ordL a g f order next acc).2.1.length=(ordL a g f order next acc).1.length
 | 0,order,next,acc,h,hf=>by have:=h.nlen;have:=ord_len (w:=w) h.ord;omega
 | f+1,order,next,acc,h,hf=>by
   rw [ordL]
   split
   ·rename_i hn
    have:=List.getElem?_eq_none_iff.1 hn
    exact ⟨h,by have:=h.nlen;dsimp only;omega⟩
   ·rename_i cur hcur
    have hr:=rowO_ok (cur:=cur) (base:=order) ha hg 256 0 order (List.replicate w 0) (by omega) ⟨⟨[],by simp⟩,by simp,h.ord,fun d hd=>by omega,fun i h1 h2=>by omega,fun d t hd=>by omega⟩
    rw [width_is ha hp]
    rw [Nat.zero_add] at hr
    generalize rowO a g cur 256 0 order (List.replicate w 0)=R at *
    obtain ⟨order2,row2⟩:=R
    dsimp only at hr ⊢
    obtain ⟨e,he⟩:=hr.pre
    have hlt:=(List.getElem?_eq_some_iff.1 hcur).1
    have hold:∀ (i t:Nat),order[i]?=some t→order2[i]?=some t:=fun i t hi=>by
     rw [he,List.getElem?_append_left (List.getElem?_eq_some_iff.1 hi).1,hi]
    have hold2:∀ (i t:Nat),i<order.length→order2[i]?=some t→order[i]?=some t:=fun i t h1 hi=>by
     rw [he,List.getElem?_append_left h1] at hi;exact hi
    have hsn:(next++[row2])[next.length]?=some row2:=snoc_new _ _
    refine ordL_ok ha hp hg f order2 (next++[row2]) (acc++[getB a.acc cur]) ⟨hr.ord,?_,by simp [h.alen],?_,?_,?_,?_⟩ (by simp;omega)
    ·rw [he];simp;omega
    ·intro s r cs hs hcs
     rcases snoc_get hs with ⟨h1,h2⟩|⟨h1,h2⟩
     ·obtain ⟨q1,q2⟩:=h.row s r cs h2 (hold2 s cs (by have:=h.nlen;omega) hcs)
      refine ⟨q1,fun c hc=>?_⟩
      rcases q2 c hc with q|⟨i,t,q3,q4,q5⟩
      ·exact .inl q
      ·exact .inr ⟨i,t,q3,hold _ _ q4,q5⟩
     ·subst h1;subst h2
      have hcc:=hold2 _ _ hlt hcs
      rw [hcur] at hcc;cases hcc
      exact ⟨hr.len,fun c hc=>hr.at' c hc⟩
    ·intro s cs hs hcs
     rw [List.length_append,List.length_singleton] at hs
     by_cases e1:s<next.length
     ·exact snoc_old (h.acc s cs e1 (hold2 s cs (by have:=h.nlen;omega) hcs))
     ·have e2:s=next.length:=by omega
      subst e2
      have hcc:=hold2 _ _ hlt hcs
      rw [hcur] at hcc;cases hcc
      rw [←h.alen];exact snoc_new _ _
    ·intro u h0 h1
     by_cases e1:u<order.length
     ·obtain ⟨s,c,r,q1,q2,q3,q4⟩:=h.met u h0 e1
      exact ⟨s,c,r,q1,q2,snoc_old q3,q4⟩
     ·obtain ⟨d,hd,hrd⟩:=hr.new u (by omega) h1
      exact ⟨next.length,d,row2,by omega,hd,hsn,hrd⟩
    ·intro s c r t hs hc ht u hu1 hu2
     rcases snoc_get hs with ⟨h1,h2⟩|⟨h1,h2⟩
     ·obtain ⟨s2,c2,r2,q1,q2,q3,q4⟩:=h.first s c r t h2 hc ht u hu1 hu2
      exact ⟨s2,c2,r2,q1,q2,snoc_old q3,q4⟩
     ·subst h1;subst h2
      by_cases e1:u<order.length
      ·obtain ⟨s,c3,r3,q1,q2,q3,q4⟩:=h.met u hu1 e1
       exact ⟨s,c3,r3,.inl (List.getElem?_eq_some_iff.1 q3).1,q2,snoc_old q3,q4⟩
      ·obtain ⟨e,he1,he2⟩:=hr.first c t hc ht u (by omega) hu2
       exact ⟨next.length,e,r,.inr ⟨rfl,he1⟩,by omega,hsn,he2⟩
theorem quot_ok {w:Nat}{a:DfaA}{g:List Int}{order:List Nat}{next:List (List Int)}{acc:List Bool} (ha:DfaOk w a) (hs:SurA w a) (hg:GrpFin a g) (h:OrdI a g w order next acc) (hl:next.length=order.length) :
  DfaOk w ⟨a.cls,next,acc⟩∧SurA w ⟨a.cls,next,acc⟩∧(∀ (s c cur:Nat),order[s]?=some cur→c<256→(grpAt g (stepA a (cur:Int) c)=-1∧stepA ⟨a.cls,next,acc⟩ (s:Int) c=-1)∨∃ i t:Nat,stepA ⟨a.cls,next,acc⟩ (s:Int) c=(i:Int)∧order[i]?=some t∧getI' g t=grpAt g (stepA a (cur:Int) c)):=by
 have hstep:∀ (s c:Nat) (r:List Int),next[s]?=some r→stepA ⟨a.cls,next,acc⟩ (s:Int) c=(r[clsA a c]?).getD (-1):=fun s c r hr=>by
  unfold stepA
  have:=(List.getElem?_eq_some_iff.1 hr).1
  rw [if_neg (by dsimp only;omega),Int.toNat_natCast]
  dsimp only
  rw [hr];rfl
 refine ⟨⟨ha.cls,ha.low,h.alen,fun r hr=>?_,fun r hr z hz=>?_⟩,hs,fun s c cur hcur hc=>?_⟩
 ·obtain ⟨s,hs1,e⟩:=List.getElem_of_mem hr
  have hs1:s<next.length:=hs1
  have hr2:next[s]?=some r:=by rw [List.getElem?_eq_getElem hs1];exact congrArg some e
  exact (h.row s r (order[s]'(by omega)) hr2 (List.getElem?_eq_getElem (by omega))).1
 ·obtain ⟨s,hs1,e⟩:=List.getElem_of_mem hr
  have hs1:s<next.length:=hs1
  have hr2:next[s]?=some r:=by rw [List.getElem?_eq_getElem hs1];exact congrArg some e
  obtain ⟨q1,q2⟩:=h.row s r (order[s]'(by omega)) hr2 (List.getElem?_eq_getElem (by omega))
  obtain ⟨k,hk,e2⟩:=List.getElem_of_mem hz
  obtain ⟨c,hc,hcc⟩:=hs k (by omega)
  have hck:clsA a c=k:=by unfold clsA;rw [hcc];rfl
  rcases q2 c hc with ⟨_,q⟩|⟨i,t,q3,q4,_⟩
  ·rw [hck,List.getElem?_eq_getElem hk,e2] at q
   exact .inl (Option.some.inj q)
  ·rw [hck,List.getElem?_eq_getElem hk,e2] at q3
   have:=(List.getElem?_eq_some_iff.1 q4).1
   have:=Option.some.inj q3
   exact .inr ⟨by omega,by dsimp only;omega⟩
 ·have hs1:s<next.length:=by have:=(List.getElem?_eq_some_iff.1 hcur).1;omega
  obtain ⟨q1,q2⟩:=h.row s next[s] cur (List.getElem?_eq_getElem hs1) hcur
  have hst:=hstep s c next[s] (List.getElem?_eq_getElem hs1)
  rcases q2 c hc with ⟨p,q⟩|⟨i,t,q3,q4,q5⟩
  ·exact .inl ⟨p,by rw [hst,q];rfl⟩
  ·exact .inr ⟨i,t,by rw [hst,q3];rfl,q4,q5⟩
theorem quot_res {w:Nat}{a:DfaA}{g:List Int}{order:List Nat}{next:List (List Int)}{acc:List Bool} (ha:DfaOk w a) (hs:SurA w a) (hg:GrpFin a g) (h:OrdI a g w order next acc) (hl:next.length=order.length) :
  ∀ (b:List UInt8) (s cur:Nat),order[s]?=some cur→resA ⟨a.cls,next,acc⟩ (s:Int) b=resA a (cur:Int) b
 | [],s,cur,hcur=>by
   have hs1:s<next.length:=by have:=(List.getElem?_eq_some_iff.1 hcur).1;omega
   unfold resA
   rw [List.foldl_nil,List.foldl_nil,ends_nat,ends_nat]
   show getB acc s=_
   unfold getB
   rw [h.acc s cur hs1 hcur];rfl
 | c::b,s,cur,hcur=>by
   obtain ⟨_,_,q⟩:=quot_ok ha hs hg h hl
   have hc:c.toNat<256:=UInt8.toNat_lt c
   rw [res_cons,res_cons]
   have hm:=List.mem_of_getElem? hcur
   rcases q s c.toNat cur hcur hc with ⟨h1,h2⟩|⟨i,t,h1,h2,h3⟩
   ·rw [h2,res_dead b (by omega)]
    rcases step_to ha (cur:Int) hc with h4|⟨u,h4,h5⟩
    ·rw [h4,res_dead b (by omega)]
    ·rw [h4] at h1 ⊢
     unfold grpAt at h1
     rw [if_pos (by omega),Int.toNat_natCast] at h1
     exact (not_live_res ((hg.ok.dead u h5).1 h1) b).symm
   ·rw [h1,quot_res ha hs hg h hl b i t h2]
    have hmt:=List.mem_of_getElem? h2
    have htl:=h.ord.lt t hmt
    have hlv:=h.ord.live t hmt
    rcases step_to ha (cur:Int) hc with h4|⟨u,h4,h5⟩
    ·rw [h4] at h3
     exact absurd h3 (grp_dead hg.ok htl hlv)
    ·rw [h4] at h3 ⊢
     unfold grpAt at h3
     rw [if_pos (by omega),Int.toNat_natCast] at h3
     have hlu:LiveA a u:=Classical.byContradiction fun hn=>grp_dead hg.ok htl hlv (by rw [h3];exact (hg.ok.dead u h5).2 hn)
     exact (hg.iff t u htl h5 hlv hlu).1 h3 b
theorem least_canon {w:Nat}{a:DfaA} (ha:DfaOk w a) (hs:SurA w a) (hp:0<a.next.length) (hl:LiveA a 0) :
  (∃ v,Canon v (leastA a)∧v≤256)∧(∀ b,resA (leastA a) 0 b=resA a 0 b)∧(leastA a).next.length≤a.next.length:=by
 have hg:=grp_fin ha hs
 unfold leastA
 rw [if_neg (by intro e;rw [e] at hp;cases hp),if_neg (grp_dead hg.ok hp hl)]
 obtain ⟨h,hlen⟩:=ordL_ok ha hp hg.ok (a.next.length+1) [0] [] [] ⟨⟨rfl,(fun s hs=>by rw [List.mem_singleton] at hs;rw [hs];exact hp),(fun s hs=>by rw [List.mem_singleton] at hs;rw [hs];exact hl),by simp⟩,by simp,rfl,(fun s r cur hs=>by simp at hs),(fun s cur hs=>by simp at hs),(fun u h0 h1=>by simp at h1;omega),fun s c r t hs=>by simp at hs⟩ (by simp)
 generalize ordL a (grpA a) (a.next.length+1) [0] [] []=R at *
 obtain ⟨order,next,acc⟩:=R
 dsimp only at h hlen ⊢
 obtain ⟨q1,q2,q3⟩:=quot_ok ha hs hg h hlen
 have q4:=quot_res ha hs hg h hlen
 have hzl:=(List.getElem?_eq_some_iff.1 h.ord.zero).1
 have hol:=ord_len (w:=w) h.ord
 have hat:∀ s,s<next.length→order[s]?=some (order[s]?.getD 0):=fun s hs=>by rw [List.getElem?_eq_getElem (by omega)];rfl
 have hlv:∀ s,s<next.length→LiveA ⟨a.cls,next,acc⟩ s:=fun s hs=>by
  obtain ⟨b,hb⟩:=h.ord.live _ (List.mem_of_getElem? (hat s hs))
  exact ⟨b,by rw [q4 b s _ (hat s hs)];exact hb⟩
 have hdf:∀ s t,s<next.length→t<next.length→(∀ b,resA ⟨a.cls,next,acc⟩ (s:Int) b=resA ⟨a.cls,next,acc⟩ (t:Int) b)→s=t:=fun s t h1 h2 hr=>by
  have m1:=List.mem_of_getElem? (hat s h1)
  have m2:=List.mem_of_getElem? (hat t h2)
  refine h.ord.uniq (hat s h1) (hat t h2) ((hg.iff _ _ (h.ord.lt _ m1) (h.ord.lt _ m2) (h.ord.live _ m1) (h.ord.live _ m2)).2 fun b=>?_)
  rw [←q4 b s _ (hat s h1),←q4 b t _ (hat t h2),hr]
 have hst:∀ (s c:Nat) (r:List Int) (t:Nat),next[s]?=some r→r[clsA a c]?=some (t:Int)→stepA ⟨a.cls,next,acc⟩ (s:Int) c=(t:Int):=fun s c r t h1 h2=>by
  have:=(List.getElem?_eq_some_iff.1 h1).1
  unfold stepA
  rw [if_neg (by dsimp only;omega),Int.toNat_natCast]
  dsimp only
  rw [h1]
  show (r[clsA a c]?).getD (-1)=_
  rw [h2];rfl
 have hst2:∀ (s c t:Nat),s<next.length→c<256→stepA ⟨a.cls,next,acc⟩ (s:Int) c=(t:Int)→∃ r,next[s]?=some r∧r[clsA a c]?=some (t:Int):=fun s c t h1 hc h2=>by
  obtain ⟨k,r,p1,p2,p3,p4⟩:=step_at q1 (s:=s) h1 hc
  refine ⟨r,p3,?_⟩
  have:clsA a c=k:=by unfold clsA;rw [show a.cls[c]?=some k from p1];rfl
  rw [this,p4,h2]
 obtain ⟨v,hn,hv⟩:=narrow_ok q1 (by dsimp only;omega)
 generalize narrowA ⟨a.cls,next,acc⟩=m at *
 have nl:m.next.length=next.length:=hn.nlen
 have hres:∀ (b:List UInt8) (s:Nat),s<next.length→resA m (s:Int) b=resA ⟨a.cls,next,acc⟩ (s:Int) b:=by
  intro b
  induction b with
  | nil=>intro s hs1;unfold resA;rw [List.foldl_nil,List.foldl_nil,ends_nat,ends_nat,hn.acc]
  | cons c b ih =>
    intro s hs1
    have hc:c.toNat<256:=UInt8.toNat_lt c
    rw [res_cons,res_cons,hn.step s c.toNat hs1 hc]
    rcases step_to q1 (s:Int) hc with h4|⟨u,h4,h5⟩
    ·rw [h4,res_dead b (by omega),res_dead b (by omega)]
    ·rw [h4];exact ih u h5
 refine ⟨⟨v,⟨hn.ok,hn.sur,by omega,fun s hs1=>?_,fun s t h1 h2 hr=>?_,fun t h0 h1=>?_,fun s c t h1 hc h2 u hu1 hu2=>?_,fun c d k hc hd hk=>?_,hn.first⟩,hv⟩,fun b=>?_,by omega⟩
 ·obtain ⟨b,hb⟩:=hlv s (by omega)
  exact ⟨b,by rw [hres b s (by omega)];exact hb⟩
 ·exact hdf s t (by omega) (by omega) fun b=>by rw [←hres b s (by omega),←hres b t (by omega),hr]
 ·obtain ⟨s,c,r,p1,p2,p3,p4⟩:=h.met t h0 (by omega)
  exact ⟨s,c,p1,p2,by rw [hn.step s c (List.getElem?_eq_some_iff.1 p3).1 p2];exact hst s c r t p3 p4⟩
 ·rw [hn.step s c (by dsimp only;omega) hc] at h2
  obtain ⟨r,p1,p2⟩:=hst2 s c t (by omega) hc h2
  obtain ⟨s2,c2,r2,p3,p4,p5,p6⟩:=h.first s c r t p1 hc p2 u hu1 hu2
  have hs2:=(List.getElem?_eq_some_iff.1 p5).1
  exact ⟨s2,c2,by omega,p4,p3,by rw [hn.step s2 c2 hs2 p4];exact hst s2 c2 r2 u p5 p6⟩
 ·rw [hn.like c d k hc hd hk]
  constructor
  ·intro hx s hs1
   rw [hn.step s c (by dsimp only;omega) hc,hn.step s d (by dsimp only;omega) hd];exact hx s (by dsimp only;omega)
  ·intro hx s hs1
   have:=hx s (by dsimp only at hs1;omega)
   rwa [hn.step s c hs1 hc,hn.step s d hs1 hd] at this
 ·have h0:=hres b 0 (by omega)
  have h1:=q4 b 0 0 h.ord.zero
  exact h0.trans h1
theorem least_dead {w:Nat}{a:DfaA} (ha:DfaOk w a) (hs:SurA w a) (hp:0<a.next.length) (hl:¬LiveA a 0):leastA a=deadA:=by
 have hg:=grp_fin ha hs
 unfold leastA
 rw [if_neg (by intro e;rw [e] at hp;cases hp),if_pos ((hg.ok.dead 0 hp).2 hl)]
theorem dead_ok:DfaOk 1 deadA:=⟨by simp [deadA],(fun k hk=>by have:=List.eq_of_mem_replicate hk;omega),rfl,(fun r hr=>by rw [show r=[-1] by simpa [deadA] using hr];rfl),fun r hr z hz=>by rw [show r=[-1] by simpa [deadA] using hr,List.mem_singleton] at hz;exact .inl hz⟩
theorem dead_sur:SurA 1 deadA:=fun k hk=>⟨0,by omega,by rw [show k=0 by omega];rfl⟩
theorem dead_not:¬LiveA deadA 0:=fun ⟨b,hb⟩=>by
 cases b with
 | nil=>cases hb
 | cons c b =>
   rw [res_cons] at hb
   have:stepA deadA ((0:Nat):Int) c.toNat=-1:=by
    rcases step_to dead_ok ((0:Nat):Int) (UInt8.toNat_lt c) with h|⟨t,h,h2⟩
    ·exact h
    ·obtain ⟨k,r,p1,p2,p3,p4⟩:=step_at dead_ok (s:=0) (by decide) (UInt8.toNat_lt c)
     have hr:r=[-1]:=by simpa [deadA] using p3.symm
     have hk:k=0:=by omega
     rw [hr,hk] at p4
     exact (Option.some.inj p4).symm
   rw [this,res_dead b (by omega)] at hb;cases hb
theorem least_again {w:Nat}{a:DfaA} (ha:DfaOk w a) (hs:SurA w a) (hp:0<a.next.length):leastA (leastA a)=leastA a:=by
 by_cases hl:LiveA a 0
 ·obtain ⟨⟨v,hc,_⟩,hr,_⟩:=least_canon ha hs hp hl
  obtain ⟨⟨v2,hc2,_⟩,hr2,_⟩:=least_canon hc.ok hc.sur hc.pos (hc.live 0 hc.pos)
  exact canon_unique hc2 hc hr2
 ·rw [least_dead ha hs hp hl]
  exact least_dead dead_ok dead_sur (by decide) dead_not
structure MadeA (d:DfaA):Prop where
 ok:∃ w,w≤256∧DfaOk w d∧SurA w d
 pos:0<d.next.length
 le:d.next.length≤1024
structure LeastA (d:DfaA):Prop where
 ok:∃ w,w≤256∧DfaOk w d∧SurA w d∧(∀ c e k,c<256→e<256→d.cls[c]?=some k→(d.cls[e]?=some k↔∀ s:Nat,s<d.next.length→stepA d (s:Int) c=stepA d (s:Int) e))∧(∀ c k,c<256→d.cls[c]?=some k→∀ j,j<k→∃ e,e<c∧d.cls[e]?=some j)
 pos:0<d.next.length
 le:d.next.length≤1024
 again:leastA d=d
 diff:∀ s t,s<d.next.length→t<d.next.length→(∀ b,resA d (s:Int) b=resA d (t:Int) b)→s=t
 lives:d.next.length=1∨((∀ s,s<d.next.length→LiveA d s)∧∀ t,0<t→t<d.next.length→∃ s c,s<t∧c<256∧stepA d (s:Int) c=(t:Int))
theorem MadeA.least {a:DfaA} (h:MadeA a):LeastA (leastA a)∧(∀ b,matchA (leastA a) b=matchA a b)∧(leastA a).next.length≤a.next.length:=by
 obtain ⟨⟨w,hw,ha,hs⟩,hp,hle⟩:=h
 have hag:=least_again ha hs hp
 by_cases hl:LiveA a 0
 ·obtain ⟨⟨v,hc,hv⟩,hr,hn⟩:=least_canon ha hs hp hl
  refine ⟨⟨⟨v,hv,hc.ok,hc.sur,hc.like,hc.first⟩,hc.pos,by omega,hag,hc.diff,.inr ⟨hc.live,hc.met⟩⟩,fun b=>?_,hn⟩
  rw [res_match,res_match];exact hr b
 ·rw [least_dead ha hs hp hl] at hag ⊢
  refine ⟨⟨⟨1,by decide,dead_ok,dead_sur,fun c e k hc he hk=>?_,fun c k hc hk j hj=>?_⟩,by decide,by decide,hag,fun s t h1 h2 _=>by have h1:s<1:=h1;have h2:t<1:=h2;omega,.inl rfl⟩,fun b=>?_,hp⟩
  ·have h0:∀ x,x<256→deadA.cls[x]?=some 0:=fun x hx=>by
    show (List.replicate 256 0)[x]?=some 0
    rw [List.getElem?_replicate,if_pos hx]
   rw [h0 c hc] at hk
   rw [h0 e he]
   refine ⟨fun _ s _=>step_cls (by unfold clsA;rw [h0 c hc,h0 e he]),fun _=>hk⟩
  ·have:=dead_ok.low k (List.mem_of_getElem? hk)
   omega
  ·rw [res_match,res_match]
   rw [show resA deadA 0 b=false from not_live_res dead_not b,show resA a 0 b=false from not_live_res hl b]
def orR (m n:List Bool) (len:Nat):List Bool:=(List.range (len+1)).map fun k=>getB m k||getB n k
def itR (F:List Bool→List Bool):Nat→List Bool→List Bool
 | 0,m=>m
 | k+1,m=>itR F k (F m)
def moreR (F:List Bool→List Bool) (len:Nat):Nat→List Bool→List Bool→List Bool
 | 0,out,m=>orR out m len
 | k+1,out,m=>moreR F len k (orR out m len) (F m)
def noneR (len:Nat):List Bool:=List.replicate (len+1) false
def mostR (a b:Int) (len:Nat):Nat:=if 0≤b∧b-a<len+1 then (b-a).toNat else len+1
mutual
def endsR (t:List UInt8):RgD→List Bool→List Bool
 | .mk k s l a b=>fun m =>
   if k=1 then (List.range (t.length+1)).map (getB m)
   else if k=2 then (List.range (t.length+1)).map fun j=>decide (0<j)&&getB m (j-1)&&s.has (t[j-1]?.getD 0).toNat
   else if k=3 then catE t l m
   else if k=4 then altE t l m (noneR t.length)
   else if k=5 then moreR (kidE t l) t.length (mostR a b t.length) (noneR t.length) (itR (kidE t l) a.toNat m)
   else noneR t.length
def catE (t:List UInt8):List RgD→List Bool→List Bool
 | []=>fun m=>m
 | x::r=>fun m=>catE t r (endsR t x m)
def altE (t:List UInt8):List RgD→List Bool→List Bool→List Bool
 | []=>fun _ o=>o
 | x::r=>fun m o=>altE t r m (orR o (endsR t x m) t.length)
def kidE (t:List UInt8):List RgD→List Bool→List Bool
 | []=>fun m=>m
 | x::_=>fun m=>endsR t x m
end
def firstE (len:Nat):List Bool:=true::List.replicate len false
def refM (n:RgD) (t:List UInt8):Bool:=getB (endsR t n (firstE t.length)) t.length
def subT (t:List UInt8) (i j:Nat):List UInt8:=(t.take j).drop i
theorem sub_add (t:List UInt8) {i j k:Nat} (h1:i≤j) (h2:j≤k) (h3:k≤t.length):subT t i k=subT t i j++subT t j k:=by
 unfold subT
 have e:t.take k=t.take j++(t.take k).drop j:=by
  have:=(List.take_append_drop j (t.take k)).symm
  rwa [List.take_take,Nat.min_eq_left h2] at this
 have hl:(t.take j).length=j:=by simp;omega
 have:(t.take k).drop i=(t.take j).drop i++(t.take k).drop j:=by
  conv=>lhs;rw [e]
  rw [List.drop_append,hl,show i-j=0 by omega,List.drop_zero]
 exact this
theorem sub_len (t:List UInt8) {i j:Nat} (h2:j≤t.length):(subT t i j).length=j-i:=by unfold subT;simp;omega
theorem sub_split {t:List UInt8}{i j:Nat} (h1:i≤j) (h2:j≤t.length) {u v:List UInt8} (h:subT t i j=u++v):∃ k,i≤k∧k≤j∧u=subT t i k∧v=subT t k j:=by
 have hl:=sub_len t (i:=i) h2
 rw [h,List.length_append] at hl
 refine ⟨i+u.length,by omega,by omega,?_⟩
 have ha:=sub_add t (i:=i) (j:=i+u.length) (k:=j) (by omega) (by omega) h2
 rw [h] at ha
 have hlu:=sub_len t (i:=i) (j:=i+u.length) (by omega)
 exact List.append_inj ha (by omega)
theorem sub_nil {t:List UInt8}{i j:Nat} (h1:i≤j) (h2:j≤t.length):subT t i j=[]↔i=j:=by
 constructor
 ·intro h
  have:=sub_len t (i:=i) h2
  rw [h] at this;simp at this;omega
 ·intro h;subst h
  exact List.eq_nil_of_length_eq_zero (by rw [sub_len t h2];omega)
theorem sub_one {t:List UInt8}{i j:Nat} (h1:i≤j) (h2:j≤t.length) {c:UInt8}:subT t i j=[c]↔j=i+1∧t[i]?=some c:=by
 constructor
 ·intro h
  have hl:=sub_len t (i:=i) h2
  rw [h] at hl
  have hj:j=i+1:=by simp at hl;omega
  refine ⟨hj,?_⟩
  have h0:(subT t i j)[0]?=some c:=by rw [h];rfl
  unfold subT at h0
  rw [List.getElem?_drop,List.getElem?_take,if_pos (by omega)] at h0
  exact h0
 ·rintro ⟨rfl,h⟩
  apply List.ext_getElem?
  intro k
  unfold subT
  rw [List.getElem?_drop,List.getElem?_take]
  cases k with
  | zero=>rw [if_pos (by omega)];exact h
  | succ k=>rw [if_neg (by omega)];rfl
def EndsL (L:Lg) (t:List UInt8) (m:List Bool) (j:Nat):Prop:=∃ i,i≤j∧j≤t.length∧getB m i=true∧L (subT t i j)
def SpecR (t:List UInt8) (F:List Bool→List Bool) (L:Lg):Prop:=∀ m:List Bool,m.length=t.length+1→(F m).length=t.length+1∧∀ j,getB (F m) j=true↔EndsL L t m j
theorem get_range {n:Nat} (p:Nat→Bool) (j:Nat):getB ((List.range (n+1)).map p) j=true↔j≤n∧p j=true:=by
 rw [getB_map,Bool.and_eq_true,decide_eq_true_iff]
 exact ⟨fun ⟨h1,h2⟩=>⟨by omega,h2⟩,fun ⟨h1,h2⟩=>⟨by omega,h2⟩⟩
theorem SpecR.congr {t:List UInt8}{F:List Bool→List Bool}{L M:Lg} (h:SpecR t F L) (hl:∀ w,L w↔M w):SpecR t F M:=fun m hm =>
 ⟨(h m hm).1,fun j=>((h m hm).2 j).trans ⟨fun ⟨i,a,b,c,d⟩=>⟨i,a,b,c,(hl _).1 d⟩,fun ⟨i,a,b,c,d⟩=>⟨i,a,b,c,(hl _).2 d⟩⟩⟩
theorem SpecR.id' (t:List UInt8):SpecR t (fun m=>m) emptyW:=fun m hm=>⟨hm,fun j=>by
 constructor
 ·intro h
  have h:getB m j=true:=h
  have hj:j≤t.length:=by have:=getB_lt h;omega
  exact ⟨j,Nat.le_refl _,hj,h,(sub_nil (Nat.le_refl _) hj).2 rfl⟩
 ·rintro ⟨i,h1,h2,h3,h4⟩
  rw [←(sub_nil h1 h2).1 h4];exact h3⟩
theorem SpecR.then {t:List UInt8}{F G:List Bool→List Bool}{L M:Lg} (h1:SpecR t F L) (h2:SpecR t G M):SpecR t (fun m=>G (F m)) (thenW L M):=fun m hm=>by
 obtain ⟨a1,a2⟩:=h1 m hm
 obtain ⟨b1,b2⟩:=h2 (F m) a1
 refine ⟨b1,fun j=>(b2 j).trans ?_⟩
 constructor
 ·rintro ⟨k,k1,k2,k3,k4⟩
  obtain ⟨i,i1,i2,i3,i4⟩:=(a2 k).1 k3
  exact ⟨i,by omega,k2,i3,_,_,sub_add t i1 k1 k2,i4,k4⟩
 ·rintro ⟨i,i1,i2,i3,u,v,e,hu,hv⟩
  obtain ⟨k,k1,k2,e1,e2⟩:=sub_split i1 i2 e
  exact ⟨k,k2,i2,(a2 k).2 ⟨i,k1,by omega,i3,e1▸hu⟩,e2▸hv⟩
theorem SpecR.it {t:List UInt8}{F:List Bool→List Bool}{L:Lg} (h:SpecR t F L):∀ k,SpecR t (itR F k) (powW L k)
 | 0=>SpecR.id' t
 | k+1=>by
   have:=SpecR.then (F:=F) (G:=itR F k) h (SpecR.it h k)
   exact this
theorem orR_get (m n:List Bool) (len j:Nat):getB (orR m n len) j=true↔j≤len∧(getB m j=true∨getB n j=true):=by
 unfold orR
 rw [get_range,Bool.or_eq_true]
theorem orR_len (m n:List Bool) (len:Nat):(orR m n len).length=len+1:=by simp [orR]
theorem noneR_get (len j:Nat):getB (noneR len) j=false:=by
 unfold noneR getB
 rw [List.getElem?_replicate]
 split<;>rfl
theorem more_spec {t:List UInt8}{F:List Bool→List Bool}{L:Lg} (h:SpecR t F L):∀ (k:Nat) (o m:List Bool),m.length=t.length+1→(moreR F t.length k o m).length=t.length+1∧∀ j,getB (moreR F t.length k o m) j=true↔(j≤t.length∧getB o j=true)∨∃ i,i≤k∧EndsL (powW L i) t m j
 | 0,o,m,hm=>⟨orR_len _ _ _,fun j=>by
   show getB (orR o m t.length) j=true↔_
   rw [orR_get]
   constructor
   ·rintro ⟨h1,h2|h2⟩
    ·exact .inl ⟨h1,h2⟩
    ·exact .inr ⟨0,Nat.le_refl _,((SpecR.id' t m hm).2 j).1 h2⟩
   ·rintro (⟨h1,h2⟩|⟨i,h1,h2⟩)
    ·exact ⟨h1,.inl h2⟩
    ·obtain rfl:i=0:=by omega
     exact ⟨h2.choose_spec.2.1,.inr (((SpecR.id' t m hm).2 j).2 h2)⟩⟩
 | k+1,o,m,hm=>by
   obtain ⟨f1,f2⟩:=h m hm
   obtain ⟨g1,g2⟩:=more_spec h k (orR o m t.length) (F m) f1
   refine ⟨g1,fun j=>(g2 j).trans ?_⟩
   rw [orR_get]
   have hsucc:∀ i,EndsL (powW L i) t (F m) j↔EndsL (powW L (i+1)) t m j:=fun i=>by
    have h3:=(SpecR.then h (SpecR.it h i) m hm).2 j
    have h4:=(SpecR.it h i (F m) f1).2 j
    exact h4.symm.trans h3
   constructor
   ·rintro (⟨h1,_,h2|h2⟩|⟨i,h1,h2⟩)
    ·exact .inl ⟨h1,h2⟩
    ·exact .inr ⟨0,by omega,((SpecR.id' t m hm).2 j).1 h2⟩
    ·exact .inr ⟨i+1,by omega,(hsucc i).1 h2⟩
   ·rintro (⟨h1,h2⟩|⟨i,h1,h2⟩)
    ·exact .inl ⟨h1,h1,.inl h2⟩
    ·cases i with
     | zero =>
       have hj:=h2.choose_spec.2.1
       exact .inl ⟨hj,hj,.inr (((SpecR.id' t m hm).2 j).2 h2)⟩
     | succ i=>exact .inr ⟨i,by omega,(hsucc i).2 h2⟩
theorem rep_spec {t:List UInt8}{F:List Bool→List Bool}{L:Lg} (h:SpecR t F L) {a b:Int} (h0:0≤a) (hab:b<0∨a≤b):SpecR t (fun m=>moreR F t.length (mostR a b t.length) (noneR t.length) (itR F a.toNat m)) (repW L a b):=fun m hm=>by
 obtain ⟨a1,a2⟩:=SpecR.it h a.toNat m hm
 obtain ⟨g1,g2⟩:=more_spec h (mostR a b t.length) (noneR t.length) (itR F a.toNat m) a1
 refine ⟨g1,fun j=>(g2 j).trans ?_⟩
 have hadd:∀ i,EndsL (powW L i) t (itR F a.toNat m) j↔EndsL (powW L (a.toNat+i)) t m j:=fun i=>by
  have h3:=(SpecR.then (SpecR.it h a.toNat) (SpecR.it h i) m hm).2 j
  have h4:=(SpecR.it h i (itR F a.toNat m) a1).2 j
  refine (h4.symm.trans h3).trans ?_
  exact ⟨fun ⟨i0,x1,x2,x3,x4⟩=>⟨i0,x1,x2,x3,(pow_add L _ _ _).1 x4⟩,fun ⟨i0,x1,x2,x3,x4⟩=>⟨i0,x1,x2,x3,(pow_add L _ _ _).2 x4⟩⟩
 constructor
 ·rintro (⟨_,h2⟩|⟨i,h1,h2⟩)
  ·rw [noneR_get] at h2;cases h2
  ·obtain ⟨i0,x1,x2,x3,x4⟩:=(hadd i).1 h2
   refine ⟨i0,x1,x2,x3,a.toNat+i,by omega,?_,x4⟩
   unfold mostR at h1
   split at h1<;>omega
 ·rintro ⟨i0,x1,x2,x3,k,k1,k2,k3⟩
  refine .inr ?_
  unfold mostR
  split
  ·rename_i hc
   exact ⟨k-a.toNat,by omega,(hadd _).2 ⟨i0,x1,x2,x3,by rw [show a.toNat+(k-a.toNat)=k by omega];exact k3⟩⟩
  ·obtain ⟨q,q1,q2⟩:=rep_cap (w:=subT t i0 j) (a:=a.toNat) (n:=t.length+1) (by rw [sub_len t x2];omega) (by omega) k3
   exact ⟨q,by omega,(hadd _).2 ⟨i0,x1,x2,x3,q2⟩⟩
theorem cat_spec {t:List UInt8}:∀ (l:List RgD),(∀ x∈l,SpecR t (endsR t x) (langN x))→SpecR t (catE t l) (catW l)
 | [],_=>by
   have:=SpecR.id' t
   exact (show SpecR t (catE t []) emptyW by rw [catE];exact this).congr fun w=>by rw [catW];rfl
 | x::r,h=>by
   have h1:=SpecR.then (h x (by simp)) (cat_spec r fun y hy=>h y (by simp [hy]))
   have h2:SpecR t (catE t (x::r)) (thenW (langN x) (catW r)):=by rw [catE];exact h1
   exact h2.congr fun w=>by rw [catW];rfl
theorem alt_spec {t:List UInt8}:∀ (l:List RgD),(∀ x∈l,SpecR t (endsR t x) (langN x))→∀ (m o:List Bool),m.length=t.length+1→o.length=t.length+1→(altE t l m o).length=t.length+1∧∀ j,getB (altE t l m o) j=true↔getB o j=true∨EndsL (altW l) t m j
 | [],_,m,o,hm,ho=>by
   rw [altE]
   refine ⟨ho,fun j=>⟨.inl,?_⟩⟩
   rintro (h|⟨i,_,_,_,h⟩)
   ·exact h
   ·rw [altW] at h;exact h.elim
 | x::r,h,m,o,hm,ho=>by
   obtain ⟨f1,f2⟩:=h x (by simp) m hm
   obtain ⟨g1,g2⟩:=alt_spec r (fun y hy=>h y (by simp [hy])) m (orR o (endsR t x m) t.length) hm (orR_len _ _ _)
   rw [altE]
   refine ⟨g1,fun j=>(g2 j).trans ?_⟩
   rw [orR_get,f2]
   constructor
   ·rintro (⟨h1,h2|⟨i,x1,x2,x3,x4⟩⟩|⟨i,x1,x2,x3,x4⟩)
    ·exact .inl h2
    ·exact .inr ⟨i,x1,x2,x3,by rw [altW];exact .inl x4⟩
    ·exact .inr ⟨i,x1,x2,x3,by rw [altW];exact .inr x4⟩
   ·rintro (h1|⟨i,x1,x2,x3,x4⟩)
    ·have:=getB_lt h1
     exact .inl ⟨by omega,.inl h1⟩
    ·rw [altW] at x4
     rcases x4 with x4|x4
     ·exact .inl ⟨x2,.inr ⟨i,x1,x2,x3,x4⟩⟩
     ·exact .inr ⟨i,x1,x2,x3,x4⟩
theorem ends_spec (t:List UInt8):∀ n:RgD,wrongD n=0→SpecR t (endsR t n) (langN n):=RgD.ind fun k s l a b ih hw m hm=>by
 obtain ⟨hf,hk⟩:=wrongD_parts hw
 have hall:=wrongK_all hk
 have hspec:∀ x∈l,SpecR t (endsR t x) (langN x):=fun x hx=>ih x hx (hall x hx)
 rw [endsR]
 dsimp only
 have hlang:=lang_eq k s l a b
 by_cases h1:k=1
 ·rw [if_pos h1]
  refine ⟨by simp,fun j=>?_⟩
  rw [get_range]
  constructor
  ·rintro ⟨x1,x2⟩
   exact ⟨j,Nat.le_refl _,x1,x2,by rw [hlang,if_pos h1];exact (sub_nil (Nat.le_refl _) x1).2 rfl⟩
  ·rintro ⟨i,x1,x2,x3,x4⟩
   rw [hlang,if_pos h1] at x4
   rw [←(sub_nil x1 x2).1 x4]
   exact ⟨by omega,x3⟩
 rw [if_neg h1]
 by_cases h2:k=2
 ·rw [if_pos h2]
  refine ⟨by simp,fun j=>?_⟩
  rw [get_range,Bool.and_eq_true,Bool.and_eq_true,decide_eq_true_iff]
  constructor
  ·rintro ⟨x1,⟨x2,x3⟩,x4⟩
   have hlt:j-1<t.length:=by omega
   rw [List.getElem?_eq_getElem hlt] at x4
   refine ⟨j-1,by omega,x1,x3,?_⟩
   rw [hlang,if_neg h1,if_pos h2]
   exact ⟨t[j-1],(sub_one (by omega) x1).2 ⟨by omega,List.getElem?_eq_getElem hlt⟩,x4⟩
  ·rintro ⟨i,x1,x2,x3,x4⟩
   rw [hlang,if_neg h1,if_pos h2] at x4
   obtain ⟨c,e,hc⟩:=x4
   obtain ⟨rfl,hti⟩:=(sub_one x1 x2).1 e
   refine ⟨x2,⟨by omega,by rw [Nat.add_sub_cancel];exact x3⟩,?_⟩
   rw [Nat.add_sub_cancel,hti];exact hc
 rw [if_neg h2]
 by_cases h3:k=3
 ·rw [if_pos h3]
  exact (cat_spec l hspec).congr (fun w=>by rw [hlang,if_neg h1,if_neg h2,if_pos h3]) m hm
 rw [if_neg h3]
 by_cases h4:k=4
 ·rw [if_pos h4]
  obtain ⟨g1,g2⟩:=alt_spec l hspec m (noneR t.length) hm (by simp [noneR])
  refine ⟨g1,fun j=>(g2 j).trans ?_⟩
  rw [noneR_get]
  constructor
  ·rintro (h|⟨i,x1,x2,x3,x4⟩)
   ·cases h
   ·exact ⟨i,x1,x2,x3,by rw [hlang,if_neg h1,if_neg h2,if_neg h3,if_pos h4];exact x4⟩
  ·rintro ⟨i,x1,x2,x3,x4⟩
   rw [hlang,if_neg h1,if_neg h2,if_neg h3,if_pos h4] at x4
   exact .inr ⟨i,x1,x2,x3,x4⟩
 rw [if_neg h4]
 have hF:=form_cases hf
 cases hF with
 | none s a b=>exact absurd rfl h1
 | one s a b h=>exact absurd rfl h2
 | cat s x y l a b=>exact absurd rfl h3
 | alt s x y l a b=>exact absurd rfl h4
 | rep s x a b h =>
   rw [if_pos rfl]
   have hk1:SpecR t (kidE t [x]) (fun u=>kidW [x] u):=by
    have:=hspec x (by simp)
    rw [show kidE t [x]=endsR t x by rw [kidE]]
    exact this.congr fun w=>by rw [kidW]
   refine (rep_spec hk1 (by omega) (by omega)).congr (fun w=>?_) m hm
   rw [hlang,if_neg (by decide),if_neg (by decide),if_neg (by decide),if_neg (by decide),if_pos rfl]
theorem ref_lang {n:RgD} (hw:wrongD n=0) (t:List UInt8):refM n t=true↔langN n t:=by
 obtain ⟨h1,h2⟩:=ends_spec t n hw (firstE t.length) (by simp [firstE])
 unfold refM
 rw [h2]
 constructor
 ·rintro ⟨i,x1,x2,x3,x4⟩
  have:i=0:=by
   cases i with
   | zero=>rfl
   | succ i =>
     unfold firstE getB at x3
     rw [List.getElem?_cons_succ,List.getElem?_replicate] at x3
     split at x3<;>cases x3
  subst this
  unfold subT at x4
  rwa [List.take_length,List.drop_zero] at x4
 ·intro h
  exact ⟨0,Nat.zero_le _,Nat.le_refl _,rfl,by unfold subT;rwa [List.take_length,List.drop_zero]⟩
end Go.Proofs.YtficlekgjbnniaaGreatDoor
end
section
namespace Go.E
open Go
structure KeyEnc (P:Program) (kt:TypeId) {κ:Type} (kv:κ→Value) (ok:κ→Prop):Prop where
 check:∀ k,ok k→∀ (w:World) (em:Bool),(Instr.checkKey em 10000 kt (kv k)).run P w=.ok () w
 search:∀ (w:World) (k:κ),ok k→∀ es:List MapEntry,(∀ e∈es,∃ j,ok j∧e.key=kv j)→((Instr.findKey kt (kv k) es).run P w=.ok none w∧∀ e∈es,e.key≠kv k)∨∃ j e,(Instr.findKey kt (kv k) es).run P w=.ok (some (j,e.val)) w∧es[j]?=some e∧e.key=kv k
 stays:∀ k,ok k→∀ w:World,(Instr.keyThatStays (kv k) (kv k)).run P w=.ok (kv k) w
 inj:∀ a b,kv a=kv b→a=b
theorem KeyEnc.ofLaw {P:Program}{kt:TypeId}{κ:Type}{kv:κ→Value}{ok:κ→Prop} (law:WideMaps.KeyLaw P kt) (is:∀ k,ok k→∃ l,keyOf P kt (kv k)=some l) (inj:∀ a b,kv a=kv b→a=b):KeyEnc P kt kv ok where
 check k hk w em:=by obtain ⟨l,hl⟩:=is k hk;exact law.check w em hl
 search w k hk es he:=by
  obtain ⟨l,hl⟩:=is k hk
  exact law.find w hl es fun e h=>by
   obtain ⟨j,hj,e2⟩:=he e h
   rw [e2];exact is j hj
 stays k hk w:=by obtain ⟨l,hl⟩:=is k hk;exact law.stays w hl
 inj:=inj
section
variable {κ ν:Type}
def entG (kv:κ→Value) (vv:ν→Value) (p:κ × ν × Nat):MapEntry:={ key:=kv p.1,val:=vv p.2.1,born:=p.2.2 }
def mapG (kv:κ→Value) (vv:ν→Value) (l:List (κ × ν × Nat)) (c:Nat):Obj:=.map (l.map (entG kv vv)).toArray c
structure MapOk (ok:κ→Prop) (l:List (κ × ν × Nat)):Prop where
 nodup:(l.map (·.1)).Nodup
 all:∀ p∈l,ok p.1
variable [DecidableEq κ]
def getG:List (κ × ν × Nat)→κ→Option ν
 | [],_=>none
 | p::r,k=>if k=p.1 then some p.2.1 else getG r k
def putG:List (κ × ν × Nat)→Nat→κ→ν→List (κ × ν × Nat)
 | [],c,k,v=>[(k,v,c)]
 | p::r,c,k,v=>if k=p.1 then (k,v,p.2.2)::r else p::putG r c k v
theorem get_none:∀ {l:List (κ × ν × Nat)}{k:κ},(∀ p∈l,p.1≠k)→getG l k=none∧∀ c v,putG l c k v=l++[(k,v,c)]
 | [],k,h=>⟨rfl,fun _ _=>rfl⟩
 | p::r,k,h=>by
   have hp:¬k=p.1:=fun e=>h p (by simp) e.symm
   obtain ⟨h1,h2⟩:=get_none (l:=r) (k:=k) (fun q hq=>h q (by simp [hq]))
   exact ⟨by rw [getG,if_neg hp];exact h1,fun c v=>by rw [putG,if_neg hp,h2];rfl⟩
theorem get_at:∀ {l:List (κ × ν × Nat)}{j:Nat}{p:κ × ν × Nat},(l.map (·.1)).Nodup→l[j]?=some p→getG l p.1=some p.2.1∧∀ c v,putG l c p.1 v=l.set j (p.1,v,p.2.2)
 | [],j,p,hn,h=>by simp at h
 | q::r,0,p,hn,h=>by
   simp at h;subst h
   exact ⟨by rw [getG,if_pos rfl],fun c v=>by rw [putG,if_pos rfl];rfl⟩
 | q::r,j+1,p,hn,h=>by
   have hn2:q.1∉r.map (·.1)∧(r.map (·.1)).Nodup:=by simpa using hn
   have h:r[j]?=some p:=by simpa using h
   have hne:¬p.1=q.1:=fun e=>hn2.1 (e▸List.mem_map_of_mem (List.mem_of_getElem? h))
   obtain ⟨h1,h2⟩:=get_at hn2.2 h
   exact ⟨by rw [getG,if_neg hne];exact h1,fun c v=>by rw [putG,if_neg hne,h2];rfl⟩
theorem put_mem:∀ {l:List (κ × ν × Nat)}{c:Nat}{k:κ}{v:ν}{p:κ × ν × Nat},p∈putG l c k v→p.1=k∨p∈l
 | [],c,k,v,p,h=>by simp [putG] at h;exact .inl (by rw [h])
 | q::r,c,k,v,p,h=>by
   rw [putG] at h
   split at h
   ·rcases List.mem_cons.1 h with rfl|h
    ·exact .inl rfl
    ·exact .inr (by simp [h])
   ·rcases List.mem_cons.1 h with rfl|h
    ·exact .inr (by simp)
    ·rcases put_mem h with h|h
     ·exact .inl h
     ·exact .inr (by simp [h])
theorem MapOk.put {ok:κ→Prop}{l:List (κ × ν × Nat)} (h:MapOk ok l) {k:κ} (hk:ok k) (c:Nat) (v:ν):MapOk ok (putG l c k v):=by
 refine ⟨?_,fun p hp=>?_⟩
 ·obtain ⟨hn,ha⟩:=h
  clear ha
  induction l with
  | nil=>simp [putG]
  | cons q r ih =>
    have hn2:q.1∉r.map (·.1)∧(r.map (·.1)).Nodup:=by simpa using hn
    rw [putG]
    split
    ·rename_i e;subst e;simpa using hn
    ·rename_i e
     rw [List.map_cons,List.nodup_cons]
     refine ⟨fun hmo=>?_,ih hn2.2⟩
     obtain ⟨p,hp,hpe⟩:=List.mem_map.1 hmo
     rcases put_mem hp with h|h
     ·exact e (h.symm.trans hpe)
     ·exact hn2.1 (hpe▸List.mem_map_of_mem h)
 ·rcases put_mem hp with e|hp
  ·rw [e];exact hk
  ·exact h.all p hp
theorem MapOk.nil {ok:κ→Prop}:MapOk ok ([]:List (κ × ν × Nat)):=⟨by simp,by simp⟩
theorem getG_putG {l:List (κ × ν × Nat)}{c:Nat}{k j:κ}{v:ν}:getG (putG l c k v) j=if j=k then some v else getG l j:=by
 induction l with
 | nil=>simp only [putG,getG]
 | cons p r ih =>
   unfold putG
   split
   ·rename_i h
    simp only [getG]
    by_cases hj:j=k
    ·simp [hj]
    ·rw [if_neg hj,if_neg hj,if_neg (fun e=>hj (e.trans h.symm))]
   ·rename_i h
    simp only [getG]
    rw [ih]
    by_cases hj:j=p.1
    ·rw [if_pos hj,if_pos hj,if_neg (fun e=>h (e.symm.trans hj))]
    ·rw [if_neg hj,if_neg hj]
variable {P:Program}{T:TT} [hT:TTab P T] {ty:TypeId}{env:Env}{ro:Ro}{own:Chs}{K:Value→Ro→Chs→Prop}{kt:TypeId}{kv:κ→Value}{vv:ν→Value}{ok:κ→Prop}
theorem KeyEnc.find (E:KeyEnc P kt kv ok) {l:List (κ × ν × Nat)} (hmo:MapOk ok l) {k:κ} (hk:ok k) (w:World) :
  ((Instr.findKey kt (kv k) (l.map (entG kv vv))).run P w=.ok none w∧getG l k=none∧∀ c v,putG l c k v=l++[(k,v,c)]) ∨
  ∃ (j:Nat) (p:κ × ν × Nat),(Instr.findKey kt (kv k) (l.map (entG kv vv))).run P w=.ok (some (j,vv p.2.1)) w∧l[j]?=some p∧p.1=k∧getG l k=some p.2.1∧∀ c v,putG l c k v=l.set j (k,v,p.2.2):=by
 rcases E.search w k hk (l.map (entG kv vv)) (fun e he=>by
  obtain ⟨p,hp,rfl⟩:=List.mem_map.1 he
  exact ⟨p.1,hmo.all p hp,rfl⟩) with ⟨h1,h2⟩|⟨j,e,h1,h2,h3⟩
 ·obtain ⟨g1,g2⟩:=get_none (l:=l) (k:=k) (fun p hp e=>h2 (entG kv vv p) (List.mem_map_of_mem hp) (congrArg kv e))
  exact .inl ⟨h1,g1,g2⟩
 ·rw [List.getElem?_map] at h2
  obtain ⟨p,hp,rfl⟩:=Option.map_eq_some_iff.1 h2
  obtain rfl:=E.inj _ _ h3
  obtain ⟨g1,g2⟩:=get_at hmo.nodup hp
  exact .inr ⟨j,p,h1,hp,rfl,g1,g2⟩
theorem OpOk.lookupG {t et:TypeId}{x y:Operand}{b c:Nat}{k:κ}{l:List (κ × ν × Nat)}{z:Value}{f:Chunk→Chs} (hx:ev env x=some (.map (some b))) (hy:ev env y=some (kv k)) (ht:P.underlying t=some (.map kt et))
  (E:KeyEnc P kt kv ok) (hmo:MapOk ok l) (hkk:ok k) (hz:(P.info? et).map (fun i=>i.zero)=some (some z)) [hb:HasObj own b (mapG kv vv l c) f] (hk:K (((getG l k).map vv).getD z) ro own):OpOk P (.lookup t x y false) ty env ro own K :=
 OpOk.pu (fun h hs d pos af g=>.mk fun ρ w hρ hw=>by
  have hg:h[b]?=some (.map (l.map (entG kv vv)).toArray c):=(hb.repl (.obj 0 default)).get hs
  subst hw
  obtain ⟨i,hi,hi2⟩:=Option.map_eq_some_iff.1 hz
  have hc:=fun em=>E.check k hkk w em
  rcases E.find (vv:=vv) hmo hkk w with ⟨h1,h2,h3⟩|⟨j,q,h1,h2,h3,h4,h5⟩
  ·rw [h2]
   simp [execOp,hρ _ _ hx,hρ _ _ hy,Instr.lookup,run_underlying ht,MapKept.run_getObj_map hg,hc,h1,zeroValue,typeInfo,hi,hi2,Result.andThen]
  ·rw [h4]
   simp [execOp,hρ _ _ hx,hρ _ _ hy,Instr.lookup,run_underlying ht,MapKept.run_getObj_map hg,hc,h1,Result.andThen]) hk
theorem OpOk.lookupOkG {t et:TypeId}{x y:Operand}{b c:Nat}{k:κ}{l:List (κ × ν × Nat)}{z:Value}{f:Chunk→Chs} (hx:ev env x=some (.map (some b))) (hy:ev env y=some (kv k)) (ht:P.underlying t=some (.map kt et))
  (E:KeyEnc P kt kv ok) (hmo:MapOk ok l) (hkk:ok k) (hz:(P.info? et).map (fun i=>i.zero)=some (some z)) [hb:HasObj own b (mapG kv vv l c) f] (hk:K (.tuple #[((getG l k).map vv).getD z,.bool (getG l k).isSome]) ro own):OpOk P (.lookup t x y true) ty env ro own K :=
 OpOk.pu (fun h hs d pos af g=>.mk fun ρ w hρ hw=>by
  have hg:h[b]?=some (.map (l.map (entG kv vv)).toArray c):=(hb.repl (.obj 0 default)).get hs
  subst hw
  obtain ⟨i,hi,hi2⟩:=Option.map_eq_some_iff.1 hz
  have hc:=fun em=>E.check k hkk w em
  rcases E.find (vv:=vv) hmo hkk w with ⟨h1,h2,h3⟩|⟨j,q,h1,h2,h3,h4,h5⟩
  ·rw [h2]
   simp [execOp,hρ _ _ hx,hρ _ _ hy,Instr.lookup,run_underlying ht,MapKept.run_getObj_map hg,hc,h1,zeroValue,typeInfo,hi,hi2,Result.andThen]
  ·rw [h4]
   simp [execOp,hρ _ _ hx,hρ _ _ hy,Instr.lookup,run_underlying ht,MapKept.run_getObj_map hg,hc,h1,Result.andThen]) hk
theorem OpOk.mapUpdateG {t et:TypeId}{x y z:Operand}{b c:Nat}{k:κ}{v:ν}{l:List (κ × ν × Nat)}{f:Chunk→Chs} (hx:ev env x=some (.map (some b))) (hy:ev env y=some (kv k)) (hz:ev env z=some (vv v)) (ht:P.underlying t=some (.map kt et))
  (E:KeyEnc P kt kv ok) (hmo:MapOk ok l) (hkk:ok k) [hb:HasObj own b (mapG kv vv l c) f] (hk:∀ c',K undef ro (f (.obj b (mapG kv vv (putG l c k v) c')))):OpOk P (.mapUpdate t x y z) ty env ro own K :=
 ⟨fun h hs d pos af g=>⟨fun ρ w hρ hw=>by
  have hg:h[b]?=some (.map (l.map (entG kv vv)).toArray c):=(hb.repl (.obj 0 default)).get hs
  subst hw
  have hc:=fun em=>E.check k hkk w em
  have hst:=E.stays k hkk w
  have key:∃ c',(execOp ρ ⟨d,.mapUpdate t x y z,ty,pos,af,g⟩).run P w=.ok .skip { w with heap:=w.heap.setIfInBounds b (mapG kv vv (putG l c k v) c') }:=by
   rcases E.find (vv:=vv) hmo hkk w with ⟨h1,h2,h3⟩|⟨j,q,h1,h2,h3,h4,h5⟩
   ·refine ⟨c+1,?_⟩
    have e:mapG kv vv (putG l c k v) (c+1)=.map ((l.map (entG kv vv)).toArray.push { key:=kv k,val:=vv v,born:=c }) (c+1):=by
     rw [h3];simp [mapG,entG]
    rw [e]
    simp [execOp,hρ _ _ hx,hρ _ _ hy,hρ _ _ hz,Instr.mapUpdate,run_underlying ht,MapKept.run_getObj_map hg,MapKept.run_setObj_map _ hg,hc,h1,Result.andThen]
   ·refine ⟨c,?_⟩
    have hj:(l.map (entG kv vv)).toArray[j]?=some (entG kv vv q):=by simp [h2]
    have e:mapG kv vv (putG l c k v) c=.map ((l.map (entG kv vv)).toArray.modify j fun e=>{ e with key:=kv k,val:=vv v }) c:=by
     rw [h5]
     refine congrArg (fun z=>Obj.map z c) ?_
     apply Array.ext'
     rw [Array.toList_modify]
     apply List.ext_getElem?
     intro i
     by_cases hij:j=i
     ·subst hij
      have hlt:j<l.length:=(List.getElem?_eq_some_iff.1 h2).1
      have hq:=(List.getElem?_eq_some_iff.1 h2).2
      simp [List.getElem?_set,hlt,List.getElem?_modify,entG,hq]
     ·simp [List.getElem?_set,hij,List.getElem?_modify]
    rw [e]
    have hq:(entG kv vv q).key=kv k:=by rw [←h3];rfl
    simp [execOp,hρ _ _ hx,hρ _ _ hy,hρ _ _ hz,Instr.mapUpdate,run_underlying ht,MapKept.run_getObj_map hg,MapKept.run_setObj_map _ hg,hc,h1,Result.andThen,h2,hq,hst]
  obtain ⟨c',key⟩:=key
  obtain ⟨r,p1,p2⟩:=(hb.repl (.obj b (mapG kv vv (putG l c k v) c'))).perm
  have hsat:=hs.perm p1
  have hlt:b<w.heap.size:=by
   rcases Nat.lt_or_ge b w.heap.size with h|h
   ·exact h
   ·rw [Array.getElem?_eq_none h] at hg;cases hg
  refine ⟨undef,_,.inr ⟨key,rfl⟩,⟨rfl,rfl,rfl,rfl⟩,ro,_,Le.refl _,(hsat.put (c':=.obj b (mapG kv vv (putG l c k v) c')) (fun i _ hi=>?_) ?_ (fun k hk=>.inl hk) (by simp [Chunk.fp])).perm p2.symm,hk c'⟩
  ·have:b≠i:=by simpa [Chunk.fp,eq_comm] using hi
   simp [Array.getElem?_setIfInBounds,this]
  ·simp [Chunk.holds,hm,hlt]⟩⟩
theorem OpOk.makeMapG {t:TypeId} (hk:∀ b,K (.map (some b)) ro (.obj b (mapG kv vv ([]:List (κ × ν × Nat)) 0)::own)):OpOk P (.makeMap t none) ty env ro own K:=OpOk.makeMap hk
theorem OpOk.insertG {t:TypeId}{x y z:Operand} (h:OpOk P (.mapUpdate t x y z) ty env ro own K):OpOk P (.insert t x y z) ty env ro own K :=
 ⟨fun g hs d pos af gd=>⟨fun ρ w hρ hw=>(h.run g hs d pos af gd).run ρ w hρ hw⟩⟩
theorem OpOk.lenG {t et:TypeId}{x:Operand}{b c:Nat}{l:List (κ × ν × Nat)}{f:Chunk→Chs} (hx:ev env x=some (.map (some b))) (ht:P.underlying t=some (.map kt et))
  [hb:HasObj own b (mapG kv vv l c) f] (hk:K (.int .i64 (l.length:Int)) ro own):OpOk P (.call ⟨.builtin .len,#[x],#[t]⟩) ty env ro own K :=
 OpOk.pu (fun h hs d pos af g=>.mk fun ρ w hρ hw=>by
  have hg:h[b]?=some (.map (l.map (entG kv vv)).toArray c):=(hb.repl (.obj 0 default)).get hs
  subst hw
  simp [execOp,resolve,invoke,builtin,hρ _ _ hx,Builtin.len_,run_underlying ht,MapKept.run_getObj_map hg,Result.andThen,goInt]) hk
end
theorem KeyEnc.text {P:Program}{kt:TypeId} (hk:P.underlying kt=some .string):KeyEnc P kt str (fun l=>l.length≤maxLen) :=
 KeyEnc.ofLaw (WideMaps.string_law hk) (fun l h=>⟨_,WideMaps.keyOf_string_mk hk (by simpa [ByteArray.size] using h)⟩) (fun a b h=>by
  have h2:ByteArray.mk a.toArray=ByteArray.mk b.toArray:=by injection h
  have h3:a.toArray=b.toArray:=by injection h2
  exact congrArg Array.toList h3)
theorem KeyEnc.int {P:Program}{kt:TypeId} (hk:P.underlying kt=some (.int .i64)):KeyEnc P kt (Value.int .i64) (fun _=>True) where
 check k _ w em:=MapKept.run_checkKey hk (d:=.int .i64) (k:=.int .i64 k) rfl em 9999
 search w k _ es he:=by
  rcases MapKept.findNow_spec (d:=.int .i64) (k:=.int .i64 k) rfl es 0 (fun x hx=>by
   obtain ⟨j,_,e⟩:=he x hx
   rw [e];rfl) with ⟨h1,h2⟩|⟨j,e0,h1,h2,h3⟩
  ·exact .inl ⟨MapKept.run_findKey hk h1,h2⟩
  ·exact .inr ⟨j,e0,by simpa using MapKept.run_findKey hk h1,h2,h3⟩
 stays k _ w:=MapKept.run_keyThatStays (d:=.int .i64) (k:=.int .i64 k) rfl
 inj a b h:=by injection h
end Go.E
end
section
namespace Go.Proofs.YtficlekgjbnniaaGreatDoor
open Go Go.E
def keyT (l:List Int):List UInt8:=l.flatMap fun z=>[UInt8.ofNat (z.toNat / 256),UInt8.ofNat z.toNat]
def AdmK (l:List Int):Prop:=∀ z∈l,0≤z∧z<65536
theorem keyT_cons (z:Int) (l:List Int):keyT (z::l)=UInt8.ofNat (z.toNat / 256)::UInt8.ofNat z.toNat::keyT l:=rfl
theorem keyT_snoc (l:List Int) (z:Int):keyT (l++[z])=keyT l++[UInt8.ofNat (z.toNat / 256),UInt8.ofNat z.toNat]:=by
 unfold keyT;rw [List.flatMap_append];simp
theorem keyT_len:∀ l:List Int,(keyT l).length=2*l.length
 | []=>rfl
 | z::l=>by rw [keyT_cons,List.length_cons,List.length_cons,keyT_len l,List.length_cons];omega
theorem keyT_inj:∀ {l m:List Int},AdmK l→AdmK m→keyT l=keyT m→l=m
 | [],[],_,_,_=>rfl
 | [],z::m,_,_,h=>by rw [keyT_cons] at h;cases h
 | z::l,[],_,_,h=>by rw [keyT_cons] at h;cases h
 | x::l,y::m,h1,h2,h=>by
   rw [keyT_cons,keyT_cons] at h
   injection h with a1 h
   injection h with a2 h
   have e1:=congrArg UInt8.toNat a1
   have e2:=congrArg UInt8.toNat a2
   rw [UInt8.toNat_ofNat',UInt8.toNat_ofNat'] at e1 e2
   have hx:=h1 x (by simp)
   have hy:=h2 y (by simp)
   have:x=y:=by omega
   rw [this,keyT_inj (fun z hz=>h1 z (by simp [hz])) (fun z hz=>h2 z (by simp [hz])) h]
structure KeyM (W:Nat) (seen:List (List Int)) (M:List (List UInt8 × Nat × Nat)):Prop where
 map:MapOk (fun l=>l.length≤maxLen) M
 len:M.length=seen.length
 adm:∀ l∈seen,AdmK l∧l.length≤W
 at':∀ l,AdmK l→getG M (keyT l)=seen.idxOf? l
theorem put_len {κ ν:Type} [DecidableEq κ]:∀ {l:List (κ × ν × Nat)}{c:Nat}{k:κ}{v:ν},getG l k=none→(putG l c k v).length=l.length+1
 | [],c,k,v,_=>rfl
 | p::r,c,k,v,h=>by
   rw [getG] at h
   split at h
   ·cases h
   ·rename_i hn
    rw [putG,if_neg hn,List.length_cons,put_len h,List.length_cons]
theorem KeyM.nil (W:Nat):KeyM W [] []:=⟨MapOk.nil,rfl,(fun l h=>by cases h),fun l _=>rfl⟩
theorem idx_snoc (s:List (List Int)) (l x:List Int):(s++[l]).idxOf? x=(s.idxOf? x).or (if x=l then some s.length else none):=by
 unfold List.idxOf?
 rw [List.findIdx?_append,List.findIdx?_cons]
 by_cases e:x=l
 ·subst e;simp
 ·have:(l == x)=false:=by simpa using fun h=>e h.symm
  rw [this,if_neg e];simp
theorem KeyM.push {W:Nat}{seen:List (List Int)}{M:List (List UInt8 × Nat × Nat)} (h:KeyM W seen M) (hW:W≤1000000) {l:List Int} (ha:AdmK l) (hl:l.length≤W) (hn:seen.idxOf? l=none) (c:Nat):KeyM W (seen++[l]) (putG M c (keyT l) seen.length):=by
 have hg:=h.at' l ha
 rw [hn] at hg
 refine ⟨h.map.put (by rw [keyT_len];unfold maxLen;omega) c _,by rw [put_len hg,h.len];simp,fun x hx=>?_,fun x hx=>?_⟩
 ·rcases List.mem_append.1 hx with hx|hx
  ·exact h.adm x hx
  ·rw [List.mem_singleton] at hx;rw [hx];exact ⟨ha,hl⟩
 ·rw [getG_putG]
  rw [idx_snoc]
  by_cases e:x=l
  ·subst e
   rw [if_pos rfl,hn,if_pos rfl];rfl
  ·rw [if_neg (fun h2=>e (keyT_inj hx ha h2)),h.at' x hx,if_neg e]
   cases seen.idxOf? x<;>rfl
theorem getB_ext {m n:List Bool} (hl:m.length=n.length) (h:∀ i,getB m i=true↔getB n i=true):m=n:=by
 apply List.ext_getElem hl
 intro i h1 h2
 have:=h i
 unfold getB at this
 rw [List.getElem?_eq_getElem h1,List.getElem?_eq_getElem h2] at this
 simp only [Option.getD_some] at this
 cases ha:m[i]<;>cases hb:n[i]<;>simp_all
theorem liveA_len {w:Nat}{a:DfaA} (h:DfaOk w a):(liveA a).length=a.next.length:=live_len _ _ h.acc
theorem liveA_closed {w:Nat}{a:DfaA} (h:DfaOk w a):ClosedA a (liveA a):=live_closed _ _ h.acc (.inr (by omega))
theorem liveA_acc {w:Nat}{a:DfaA} (h:DfaOk w a) (i:Nat) (hi:getB a.acc i=true):getB (liveA a) i=true:=live_keeps _ _ h.acc i hi
theorem alive_fin {w:Nat}{a:DfaA} (h:DfaOk w a) {m:List Bool} (hl:m.length=a.next.length) (h1:∀ i,getB a.acc i=true→getB m i=true) (h2:∀ i,getB m i=true→getB (liveA a) i=true) (hc:ClosedA a m):m=liveA a :=
 getB_ext (by rw [hl,liveA_len h]) fun i=>⟨h2 i,live_sound (Q:=fun i=>getB m i=true) (fun s z hz h0 hq=>hc s z hz h0 hq) _ _ h1 i⟩
theorem lang_cat (s:SetD) (l:List RgD) (a b:Int) (w:List UInt8):langN (.mk 3 s l a b) w↔catW l w:=by
 rw [lang_eq,if_neg (by decide),if_neg (by decide),if_pos rfl]
theorem lang_rep (s:SetD) (x:RgD) (a b:Int) (w:List UInt8):langN (.mk 5 s [x] a b) w↔repW (langN x) a b w:=by
 rw [lang_eq,if_neg (by decide),if_neg (by decide),if_neg (by decide),if_neg (by decide),if_pos rfl]
 have:(fun u=>kidW [x] u)=langN x:=by funext u;rw [kidW]
 rw [this]
def numW (t:List UInt8):Nat:=t.foldl (fun n c=>n*256+c.toNat+1) 0
theorem numW_snoc (t:List UInt8) (c:UInt8):numW (t++[c])=numW t*256+c.toNat+1:=by unfold numW;rw [List.foldl_append];rfl
theorem runA_snoc (a:DfaA) (t:List UInt8) (c:UInt8):runA a (t++[c])=stepA a (runA a t) c.toNat:=by unfold runA;rw [List.foldl_append];rfl
def bfsC (a:DfaA) (s:Nat):Nat→Nat→List Int→List Nat→List Nat→List Int × List Nat × List Nat
 | 0,_,fr,bs,wk=>(fr,bs,wk)
 | k+1,c,fr,bs,wk =>
   if stepA a (s:Int) c≠-1∧fr[(stepA a (s:Int) c).toNat]?.getD 0=-2 then bfsC a s k (c+1) (fr.set (stepA a (s:Int) c).toNat (s:Int)) (bs.set (stepA a (s:Int) c).toNat c) (wk++[(stepA a (s:Int) c).toNat])
   else bfsC a s k (c+1) fr bs wk
def bfsL (a:DfaA):Nat→Nat→List Int→List Nat→List Nat→Option (List Int × List Nat × Nat)
 | 0,_,_,_,_=>none
 | f+1,i,fr,bs,wk=>match wk[i]? with
   | none=>none
   | some s=>if endsA a (s:Int) then some (fr,bs,s) else bfsL a f (i+1) (bfsC a s 256 0 fr bs wk).1 (bfsC a s 256 0 fr bs wk).2.1 (bfsC a s 256 0 fr bs wk).2.2
def backF (fr:List Int) (bs:List Nat):Nat→Nat→List UInt8→List UInt8
 | 0,_,out=>out
 | f+1,s,out=>if 0≤fr[s]?.getD 0 then backF fr bs f (fr[s]?.getD 0).toNat (UInt8.ofNat (bs[s]?.getD 0)::out) else out
def shortA (a:DfaA):Option (List UInt8) :=
 if a.next.length=0 then none else
 match bfsL a (a.next.length+1) 0 ((List.replicate a.next.length (-2)).set 0 (-1)) (List.replicate a.next.length 0) [0] with
 | none=>none
 | some r=>some (backF r.1 r.2.1 (a.next.length+1) r.2.2 [])
structure BfsI (a:DfaA) (i c:Nat) (fr:List Int) (bs:List Nat) (wk:List Nat) (W:List (List UInt8)):Prop where
 frl:fr.length=a.next.length
 bsl:bs.length=a.next.length
 len:W.length=wk.length
 zero:wk[0]?=some 0∧W[0]?=some []
 run:∀ (j s:Nat) (w:List UInt8),wk[j]?=some s→W[j]?=some w→s<a.next.length∧runA a w=(s:Int)
 sort:∀ (j k:Nat) (u v:List UInt8),j<k→W[j]?=some u→W[k]?=some v→numW u<numW v
 seen:∀ t,t<a.next.length→(fr[t]?=some (-2)↔t∉wk)
 nodup:wk.Nodup
 par:∀ (j s:Nat) (w:List UInt8),wk[j]?=some s→W[j]?=some w→(j=0∧fr[s]?=some (-1)∧w=[])∨∃ (p q d:Nat) (v:List UInt8),p<j∧wk[p]?=some q∧W[p]?=some v∧fr[s]?=some (q:Int)∧bs[s]?=some d∧d<256∧w=v++[UInt8.ofNat d]
 exp:∀ (j d s:Nat) (w:List UInt8),(j<i∨(j=i∧d<c))→d<256→wk[j]?=some s→W[j]?=some w→stepA a (s:Int) d=-1∨∃ (k u:Nat) (v:List UInt8),wk[k]?=some u∧stepA a (s:Int) d=(u:Int)∧W[k]?=some v∧numW v≤numW w*256+d+1
 bnd:∀ (w:List UInt8),W[i]?=some w→∀ (k:Nat) (v:List UInt8),W[k]?=some v→numW v≤numW w*256+c
section
variable {a:DfaA}{w0:Nat}{i c:Nat}{fr:List Int}{bs wk:List Nat}{W:List (List UInt8)}
theorem BfsI.skip (h:BfsI a i c fr bs wk W) {s:Nat} (hs:wk[i]?=some s) (hc:c<256) (ho:DfaOk w0 a)
  (hno:¬(stepA a (s:Int) c≠-1∧fr[(stepA a (s:Int) c).toNat]?.getD 0=-2)):BfsI a i (c+1) fr bs wk W:=by
 refine ⟨h.frl,h.bsl,h.len,h.zero,h.run,h.sort,h.seen,h.nodup,h.par,fun j d s' w hj hd h1 h2=>?_,fun w hw k v hv=>by have:=h.bnd w hw k v hv;omega⟩
 by_cases e:j=i∧d=c
 ·obtain ⟨rfl,rfl⟩:=e
  rw [hs] at h1;cases h1
  rcases step_to ho (s:Int) hc with hz|⟨t,hz,ht⟩
  ·exact .inl hz
  ·rw [hz] at hno ⊢
   refine .inr ?_
   have hmem:t∈wk:=Classical.byContradiction fun hn=>by
    have h3:=(h.seen t ht).2 hn
    exact hno ⟨by omega,by rw [Int.toNat_natCast,h3];rfl⟩
   obtain ⟨k,hk,e⟩:=List.getElem_of_mem hmem
   have hkw:k<W.length:=by rw [h.len];exact hk
   have hk1:wk[k]?=some t:=by rw [List.getElem?_eq_getElem hk,e]
   have hk2:=List.getElem?_eq_getElem hkw
   have:=h.bnd w h2 k _ hk2
   exact ⟨k,t,_,hk1,rfl,hk2,by omega⟩
 ·exact h.exp j d s' w (by omega) hd h1 h2
theorem BfsI.put (h:BfsI a i c fr bs wk W) {s:Nat}{w:List UInt8} (hs:wk[i]?=some s) (hw:W[i]?=some w) (hc:c<256) {t:Nat} (ht:t<a.next.length) (hz:stepA a (s:Int) c=(t:Int)) (hf:fr[t]?=some (-2)) :
  BfsI a i (c+1) (fr.set t (s:Int)) (bs.set t c) (wk++[t]) (W++[w++[UInt8.ofNat c]]):=by
 have hnm:=(h.seen t ht).1 hf
 have hfl:t<fr.length:=by rw [h.frl];exact ht
 have hbl:t<bs.length:=by rw [h.bsl];exact ht
 have hu:(UInt8.ofNat c).toNat=c:=UInt8.toNat_ofNat_of_lt' hc
 have hil:=(List.getElem?_eq_some_iff.1 hs).1
 have hold:∀ j s',wk[j]?=some s'→s'≠t:=fun j s' hj e=>hnm (e▸List.mem_of_getElem? hj)
 have hnew:∀ j s',(wk++[t])[j]?=some s'→(wk[j]?=some s'∧j<wk.length)∨(j=wk.length∧s'=t):=fun j s' hj=>by
  rcases snoc_get hj with ⟨h1,h2⟩|⟨h1,h2⟩
  ·exact .inl ⟨h2,h1⟩
  ·exact .inr ⟨h1,h2⟩
 have hwn:∀ j v,(W++[w++[UInt8.ofNat c]])[j]?=some v→(W[j]?=some v∧j<wk.length)∨(j=wk.length∧v=w++[UInt8.ofNat c]):=fun j v hj=>by
  rcases snoc_get hj with ⟨h1,h2⟩|⟨h1,h2⟩
  ·exact .inl ⟨h2,by rw [←h.len];exact h1⟩
  ·exact .inr ⟨by rw [←h.len];exact h1,h2⟩
 have hnum:numW (w++[UInt8.ofNat c])=numW w*256+c+1:=by rw [numW_snoc,hu]
 refine ⟨by rw [List.length_set,h.frl],by rw [List.length_set,h.bsl],by simp [h.len],⟨snoc_old h.zero.1,snoc_old h.zero.2⟩,?_,?_,?_,?_,?_,?_,?_⟩
 ·intro j s' v h1 h2
  rcases hnew j s' h1 with ⟨p1,p2⟩|⟨p1,p2⟩
  ·rcases hwn j v h2 with ⟨q1,q2⟩|⟨q1,q2⟩
   ·exact h.run j s' v p1 q1
   ·omega
  ·rcases hwn j v h2 with ⟨q1,q2⟩|⟨q1,q2⟩
   ·omega
   ·subst p2;subst q2
    refine ⟨ht,?_⟩
    rw [runA_snoc,(h.run i s w hs hw).2,hu,hz]
 ·intro j k u v hjk h1 h2
  rcases hwn k v h2 with ⟨q1,q2⟩|⟨q1,q2⟩
  ·rcases hwn j u h1 with ⟨p1,p2⟩|⟨p1,p2⟩
   ·exact h.sort j k u v hjk p1 q1
   ·omega
  ·rcases hwn j u h1 with ⟨p1,p2⟩|⟨p1,p2⟩
   ·subst q2;rw [hnum];have:=h.bnd w hw j u p1;omega
   ·omega
 ·intro x hx
  by_cases e:x=t
  ·subst e
   rw [List.getElem?_set_self hfl]
   constructor
   ·intro h1;have h2:=Option.some.inj h1;omega
   ·intro h1;exact absurd (by simp) h1
  ·rw [List.getElem?_set_ne (fun h=>e h.symm),h.seen x hx]
   simp [e]
 ·rw [List.nodup_append]
  exact ⟨h.nodup,by simp,fun x hx y hy=>by rw [List.mem_singleton] at hy;subst hy;exact fun e=>hnm (e▸hx)⟩
 ·intro j s' v h1 h2
  rcases hnew j s' h1 with ⟨p1,p2⟩|⟨p1,p2⟩
  ·rcases hwn j v h2 with ⟨q1,q2⟩|⟨q1,q2⟩
   ·have hne:=hold j s' p1
    rcases h.par j s' v p1 q1 with ⟨r1,r2,r3⟩|⟨p,q,d,v',r1,r2,r3,r4,r5,r6,r7⟩
    ·exact .inl ⟨r1,by rw [List.getElem?_set_ne (fun e=>hne e.symm)];exact r2,r3⟩
    ·exact .inr ⟨p,q,d,v',r1,snoc_old r2,snoc_old r3,by rw [List.getElem?_set_ne (fun e=>hne e.symm)];exact r4,by rw [List.getElem?_set_ne (fun e=>hne e.symm)];exact r5,r6,r7⟩
   ·omega
  ·rcases hwn j v h2 with ⟨q1,q2⟩|⟨q1,q2⟩
   ·omega
   ·subst p2;subst q2
    exact .inr ⟨i,s,c,w,by omega,snoc_old hs,snoc_old hw,List.getElem?_set_self hfl,List.getElem?_set_self hbl,hc,rfl⟩
 ·intro j d s' v hj hd h1 h2
  have hjl:j<wk.length:=by omega
  rcases hnew j s' h1 with ⟨p1,_⟩|⟨p1,_⟩
  ·rcases hwn j v h2 with ⟨q1,_⟩|⟨q1,_⟩
   ·by_cases e:j=i∧d=c
    ·obtain ⟨rfl,rfl⟩:=e
     rw [hs] at p1;cases p1
     rw [hw] at q1;cases q1
     refine .inr ⟨wk.length,t,_,snoc_new _ _,hz,?_,by rw [hnum];exact Nat.le_refl _⟩
     rw [←h.len];exact snoc_new _ _
    ·rcases h.exp j d s' v (by omega) hd p1 q1 with r|⟨k,u,v',r1,r2,r3,r4⟩
     ·exact .inl r
     ·exact .inr ⟨k,u,v',snoc_old r1,r2,snoc_old r3,r4⟩
   ·omega
  ·omega
 ·intro w' hw' k v hv
  have hw2:w'=w:=by
   rcases hwn i w' hw' with ⟨q1,_⟩|⟨q1,_⟩
   ·rw [hw] at q1;exact (Option.some.inj q1).symm
   ·omega
  subst hw2
  rcases hwn k v hv with ⟨q1,_⟩|⟨_,q2⟩
  ·have:=h.bnd w' hw k v q1;omega
  ·subst q2;rw [hnum];omega
theorem bfsC_ok (ho:DfaOk w0 a) {s:Nat}:∀ (k c:Nat) (fr:List Int) (bs wk:List Nat) (W:List (List UInt8)),c+k=256→BfsI a i c fr bs wk W→wk[i]?=some s →
  ∃ W2,BfsI a i 256 (bfsC a s k c fr bs wk).1 (bfsC a s k c fr bs wk).2.1 (bfsC a s k c fr bs wk).2.2 W2∧∀ (j x:Nat),wk[j]?=some x→(bfsC a s k c fr bs wk).2.2[j]?=some x
 | 0,c,fr,bs,wk,W,hk,h,hs=>by
   obtain rfl:c=256:=by omega
   exact ⟨W,h,fun j x hx=>hx⟩
 | k+1,c,fr,bs,wk,W,hk,h,hs=>by
   rw [bfsC]
   split
   ·rename_i hp
    rcases step_to ho (s:Int) (show c<256 by omega) with hz|⟨t,hz,ht⟩
    ·exact absurd hz hp.1
    ·rw [hz,Int.toNat_natCast] at hp ⊢
     have hil:=(List.getElem?_eq_some_iff.1 hs).1
     have hw:=List.getElem?_eq_getElem (show i<W.length by rw [h.len];exact hil)
     have hf:fr[t]?=some (-2):=by
      have h1:=List.getElem?_eq_getElem (show t<fr.length by rw [h.frl];exact ht)
      rw [h1] at hp ⊢
      exact congrArg some hp.2
     obtain ⟨W2,r1,r2⟩:=bfsC_ok ho k (c+1) _ _ _ _ (by omega) (h.put hs hw (by omega) ht hz hf) (snoc_old hs)
     exact ⟨W2,r1,fun j x hx=>r2 j x (snoc_old hx)⟩
   ·rename_i hp
    exact bfsC_ok ho k (c+1) fr bs wk W (by omega) (h.skip hs (by omega) ho hp) hs
theorem BfsI.next (h:BfsI a i 256 fr bs wk W):BfsI a (i+1) 0 fr bs wk W :=
 ⟨h.frl,h.bsl,h.len,h.zero,h.run,h.sort,h.seen,h.nodup,h.par,fun j d s w hj hd h1 h2=>h.exp j d s w (by omega) hd h1 h2,fun w hw k v hv=>by
  have hl:=(List.getElem?_eq_some_iff.1 hw).1
  have hi:=List.getElem?_eq_getElem (show i<W.length by omega)
  have h1:=h.bnd _ hi k v hv
  have h2:=h.sort i (i+1) _ _ (by omega) hi hw
  omega⟩
theorem BfsI.all (ho:DfaOk w0 a) (h:BfsI a i 0 fr bs wk W):∀ (n:Nat) (t:List UInt8),t.length=n→runA a t<0∨(∃ (j s:Nat) (w:List UInt8),j<i∧wk[j]?=some s∧W[j]?=some w∧runA a t=(s:Int)∧numW w≤numW t)∨(∃ (j:Nat) (w:List UInt8),i≤j∧W[j]?=some w∧numW w≤numW t)
 | 0,t,ht=>by
   obtain rfl:=List.eq_nil_of_length_eq_zero ht
   by_cases e:0<i
   ·exact .inr (.inl ⟨0,0,[],e,h.zero.1,h.zero.2,rfl,Nat.le_refl _⟩)
   ·exact .inr (.inr ⟨0,[],by omega,h.zero.2,Nat.le_refl _⟩)
 | n+1,t,ht=>by
   obtain ⟨u,c,rfl⟩:∃ u c,t=u++[c]:=⟨t.dropLast,t.getLast (by intro e;rw [e] at ht;cases ht),(List.dropLast_concat_getLast _).symm⟩
   have hul:u.length=n:=by simpa using ht
   have hc:c.toNat<256:=UInt8.toNat_lt c
   rw [runA_snoc,numW_snoc]
   rcases BfsI.all ho h n u hul with h1|⟨j,s,w,h1,h2,h3,h4,h5⟩|⟨j,w,h1,h2,h3⟩
   ·exact .inl (by rw [step_dead h1];decide)
   ·rw [h4]
    rcases h.exp j c.toNat s w (.inl h1) hc h2 h3 with h6|⟨k,x,v,r1,r2,r3,r4⟩
    ·exact .inl (by rw [h6];decide)
    ·by_cases e:k<i
     ·exact .inr (.inl ⟨k,x,v,e,r1,r3,r2,by omega⟩)
     ·exact .inr (.inr ⟨k,v,by omega,r3,by omega⟩)
   ·exact .inr (.inr ⟨j,w,h1,h2,by omega⟩)
theorem back_ok (h:BfsI a i c fr bs wk W):∀ (f j s:Nat) (w out:List UInt8),j<f→wk[j]?=some s→W[j]?=some w→backF fr bs f s out=w++out
 | 0,j,s,w,out,hf,h1,h2=>absurd hf (Nat.not_lt_zero _)
 | f+1,j,s,w,out,hf,h1,h2=>by
   rw [backF]
   rcases h.par j s w h1 h2 with ⟨r1,r2,r3⟩|⟨p,q,d,v,r1,r2,r3,r4,r5,r6,r7⟩
   ·rw [r2,Option.getD_some,if_neg (by decide),r3];rfl
   ·rw [r4,Option.getD_some,if_pos (by omega),Int.toNat_natCast,r5,Option.getD_some,back_ok h f p q v _ (by omega) r2 r3,r7,List.append_assoc];rfl
theorem BfsI.wkl (h:BfsI a i c fr bs wk W):wk.length≤a.next.length:=by
 have h1:∀ x∈wk,x<a.next.length:=fun x hx=>by
  obtain ⟨j,hj,e⟩:=List.getElem_of_mem hx
  have hw:=List.getElem?_eq_getElem (show j<W.length by rw [h.len];exact hj)
  exact (h.run j x _ (by rw [List.getElem?_eq_getElem hj,e]) hw).1
 have h2:wk.length≤(List.range a.next.length).length:=nodup_le h.nodup (fun x hx=>List.mem_range.2 (h1 x hx))
 rwa [List.length_range] at h2
def ShortR (a:DfaA) (r:Option (List Int × List Nat × Nat)):Prop:=match r with
 | none=>∀ t,resA a 0 t=false
 | some r=>∃ s,backF r.1 r.2.1 (a.next.length+1) r.2.2 []=s∧resA a 0 s=true∧∀ t,resA a 0 t=true→numW s≤numW t
theorem bfsL_ok (ho:DfaOk w0 a):∀ (f i:Nat) (fr:List Int) (bs wk:List Nat) (W:List (List UInt8)),BfsI a i 0 fr bs wk W→(∀ (j s:Nat),j<i→wk[j]?=some s→endsA a (s:Int)=false)→i≤wk.length→a.next.length<f+i→ShortR a (bfsL a f i fr bs wk)
 | 0,i,fr,bs,wk,W,h,he,hi,hf=>by have:=h.wkl;omega
 | f+1,i,fr,bs,wk,W,h,he,hi,hf=>by
   rw [bfsL]
   cases hs:wk[i]? with
   | none =>
     have hil:=List.getElem?_eq_none_iff.1 hs
     intro t
     cases hr:resA a 0 t with
     | false=>rfl
     | true =>
       rcases h.all ho t.length t rfl with h1|⟨j,s,w,h1,h2,h3,h4,h5⟩|⟨j,w,h1,h2,h3⟩
       ·have:resA a 0 t=endsA a (runA a t):=rfl
        rw [this] at hr
        unfold endsA at hr
        simp at hr;omega
       ·have:resA a 0 t=endsA a (runA a t):=rfl
        rw [this,h4,he j s h1 h2] at hr;cases hr
       ·have:=(List.getElem?_eq_some_iff.1 h2).1
        rw [h.len] at this;omega
   | some s =>
     dsimp only
     have hil:=(List.getElem?_eq_some_iff.1 hs).1
     obtain ⟨w0',hw⟩:∃ w,W[i]?=some w:=⟨_,List.getElem?_eq_getElem (show i<W.length by rw [h.len];exact hil)⟩
     split
     ·rename_i hen
      refine ⟨_,rfl,?_,fun t hr=>?_⟩
      ·rw [back_ok h (a.next.length+1) i s _ [] (by have:=h.wkl;omega) hs hw,List.append_nil]
       have:resA a 0 w0'=endsA a (runA a w0'):=rfl
       rw [this,(h.run i s _ hs hw).2];exact hen
      ·rw [back_ok h (a.next.length+1) i s _ [] (by have:=h.wkl;omega) hs hw,List.append_nil]
       rcases h.all ho t.length t rfl with h1|⟨j,s',w,h1,h2,h3,h4,h5⟩|⟨j,w,h1,h2,h3⟩
       ·have:resA a 0 t=endsA a (runA a t):=rfl
        rw [this] at hr
        unfold endsA at hr
        simp at hr;omega
       ·have:resA a 0 t=endsA a (runA a t):=rfl
        rw [this,h4,he j s' h1 h2] at hr;cases hr
       ·by_cases e:i=j
        ·subst e;rw [hw] at h2;cases h2;exact h3
        ·have:=h.sort i j _ _ (by omega) hw h2;omega
     ·rename_i hen
      obtain ⟨W2,h2,h3⟩:=bfsC_ok ho 256 0 fr bs wk W rfl h hs
      refine bfsL_ok ho f (i+1) _ _ _ W2 h2.next (fun j s' hj hs'=>?_) ?_ (by omega)
      ·have hy:=List.getElem?_eq_getElem (show j<wk.length by omega)
       have hy2:=h3 j _ hy
       rw [hs'] at hy2
       have e2:=Option.some.inj hy2
       by_cases e:j=i
       ·subst e;rw [hs] at hy;cases hy;rw [e2];exact Bool.eq_false_iff.2 hen
       ·exact he j s' (by omega) (by rw [hy,e2])
      ·exact (List.getElem?_eq_some_iff.1 (h3 i s hs)).1
theorem BfsI.start (hp:0<a.next.length):BfsI a 0 0 ((List.replicate a.next.length (-2)).set 0 (-1)) (List.replicate a.next.length 0) [0] [[]]:=by
 have one:∀ {α:Type}{x y:α}{j:Nat},[x][j]?=some y→j=0∧y=x:=fun {α x y j} h=>by
  cases j with
  | zero=>exact ⟨rfl,(Option.some.inj h).symm⟩
  | succ j=>simp at h
 refine ⟨by simp,by simp,rfl,⟨rfl,rfl⟩,?_,?_,?_,by simp,?_,?_,?_⟩
 ·intro j s w h1 h2
  obtain ⟨_,rfl⟩:=one h1
  obtain ⟨_,rfl⟩:=one h2
  exact ⟨hp,rfl⟩
 ·intro j k u v hjk h1 h2
  have:=(one h1).1;have:=(one h2).1;omega
 ·intro t ht
  by_cases e:t=0
  ·subst e
   rw [List.getElem?_set_self (by simpa using hp)]
   simp
  ·rw [List.getElem?_set_ne (fun h=>e h.symm),List.getElem?_replicate,if_pos ht]
   simp [e]
 ·intro j s w h1 h2
  obtain ⟨r1,rfl⟩:=one h1
  obtain ⟨_,rfl⟩:=one h2
  exact .inl ⟨r1,List.getElem?_set_self (by simpa using hp),rfl⟩
 ·intro j d s w hj hd h1 h2
  omega
 ·intro w h1 k v h2
  obtain ⟨_,rfl⟩:=one h1
  obtain ⟨_,rfl⟩:=one h2
  omega
theorem short_some (ho:DfaOk w0 a) {s:List UInt8} (h:shortA a=some s):resA a 0 s=true∧∀ t,resA a 0 t=true→numW s≤numW t:=by
 unfold shortA at h
 split at h
 ·cases h
 ·rename_i hp
  have:=bfsL_ok ho (a.next.length+1) 0 _ _ _ _ (BfsI.start (by omega)) (fun j s hj=>by omega) (Nat.zero_le _) (by omega)
  split at h
  ·cases h
  ·rename_i r hr
   rw [hr] at this
   obtain ⟨s',h1,h2,h3⟩:=this
   cases h
   rw [h1]
   exact ⟨h2,h3⟩
theorem short_none (ho:DfaOk w0 a) (hp:0<a.next.length) (h:shortA a=none):∀ t,resA a 0 t=false:=by
 unfold shortA at h
 rw [if_neg (by omega)] at h
 have:=bfsL_ok ho (a.next.length+1) 0 _ _ _ _ (BfsI.start hp) (fun j s hj=>by omega) (Nat.zero_le _) (by omega)
 split at h
 ·rename_i hr;rw [hr] at this;exact this
 ·cases h
end
def lowW:Nat→Nat
 | 0=>0
 | n+1=>lowW n*256+1
theorem lowW_mono {n m:Nat} (h:n≤m):lowW n≤lowW m:=by
 induction h with
 | refl=>exact Nat.le_refl _
 | step _ ih=>rw [lowW];omega
theorem numW_bound:∀ (n:Nat) (t:List UInt8),t.length=n→lowW n≤numW t∧numW t<lowW (n+1):=by
 intro n
 induction n with
 | zero=>intro t ht;rw [List.eq_nil_of_length_eq_zero ht];decide
 | succ n ih =>
   intro t ht
   obtain ⟨u,c,rfl⟩:∃ u c,t=u++[c]:=⟨t.dropLast,t.getLast (by intro e;rw [e] at ht;cases ht),(List.dropLast_concat_getLast _).symm⟩
   obtain ⟨h1,h2⟩:=ih u (by simpa using ht)
   have hc:c.toNat<256:=UInt8.toNat_lt c
   rw [numW_snoc]
   rw [lowW] at h2
   rw [lowW,lowW,lowW]
   omega
theorem numW_len {s t:List UInt8} (h:numW s≤numW t):s.length≤t.length:=by
 apply Classical.byContradiction
 intro hn
 have h1:=(numW_bound t.length t rfl).2
 have h2:=(numW_bound s.length s rfl).1
 have h3:=lowW_mono (show t.length+1≤s.length by omega)
 omega
theorem numW_lex:∀ (n:Nat) (p s t:List UInt8) (c d:UInt8),s.length=n→t.length=n→c.toNat<d.toNat→numW (p++c::s)<numW (p++d::t):=by
 intro n
 induction n with
 | zero =>
   intro p s t c d hs ht h
   rw [List.eq_nil_of_length_eq_zero hs,List.eq_nil_of_length_eq_zero ht,numW_snoc,numW_snoc]
   omega
 | succ n ih =>
   intro p s t c d hs ht h
   obtain ⟨u,x,rfl⟩:∃ u c,s=u++[c]:=⟨s.dropLast,s.getLast (by intro e;rw [e] at hs;cases hs),(List.dropLast_concat_getLast _).symm⟩
   obtain ⟨v,y,rfl⟩:∃ u c,t=u++[c]:=⟨t.dropLast,t.getLast (by intro e;rw [e] at ht;cases ht),(List.dropLast_concat_getLast _).symm⟩
   have:=ih p u v c d (by simpa using hs) (by simpa using ht) h
   have hx:x.toNat<256:=UInt8.toNat_lt x
   rw [show p++c::(u++[x])=(p++c::u)++[x] by simp,show p++d::(v++[y])=(p++d::v)++[y] by simp,numW_snoc,numW_snoc]
   omega
theorem idx_some {α:Type} [BEq α] [LawfulBEq α] {l:List α}{x:α}{n:Nat} (h:l.idxOf? x=some n):l[n]?=some x:=by
 unfold List.idxOf? at h
 rw [List.findIdx?_eq_some_iff_getElem] at h
 obtain ⟨h1,h2,_⟩:=h
 rw [List.getElem?_eq_getElem h1,eq_of_beq h2]
theorem idx_none {α:Type} [BEq α] [LawfulBEq α] {l:List α}{x:α} (h:l.idxOf? x=none):x∉l:=by
 rwa [List.idxOf?_eq_none_iff] at h
def keyJ (a b:DfaA) (c:Nat):Nat × Nat:=(clsA a c,clsA b c)
def jointL (a b:DfaA):Nat→Nat→List (Nat × Nat)→List Nat→List Nat→List (Nat × Nat) × List Nat × List Nat
 | 0,_,seen,out,first=>(seen,out,first)
 | k+1,c,seen,out,first=>match seen.idxOf? (keyJ a b c) with
   | some n=>jointL a b k (c+1) seen (out++[n]) first
   | none=>jointL a b k (c+1) (seen++[keyJ a b c]) (out++[seen.length]) (first++[c])
def jointA (a b:DfaA):List Nat × List Nat:=(jointL a b 256 0 [] [] []).2
structure JointI (a b:DfaA) (c:Nat) (seen:List (Nat × Nat)) (out first:List Nat):Prop where
 olen:out.length=c
 flen:first.length=seen.length
 at':∀ d,d<c→∃ k e:Nat,out[d]?=some k∧first[k]?=some e∧keyJ a b e=keyJ a b d
 first':∀ k e:Nat,first[k]?=some e→e<c∧seen[k]?=some (keyJ a b e)∧out[e]?=some k
theorem joint_ok {a b:DfaA}:∀ (k c:Nat) (seen:List (Nat × Nat)) (out first:List Nat),JointI a b c seen out first→JointI a b (c+k) (jointL a b k c seen out first).1 (jointL a b k c seen out first).2.1 (jointL a b k c seen out first).2.2
 | 0,c,seen,out,first,h=>h
 | k+1,c,seen,out,first,h=>by
   rw [jointL,show c+(k+1)=c+1+k by omega]
   split
   ·rename_i n hn
    refine joint_ok k (c+1) _ _ _ ⟨by simp [h.olen],h.flen,fun d hd=>?_,fun j e he=>?_⟩
    ·by_cases e:d=c
     ·subst e
      have hk:=idx_some hn
      obtain ⟨f0,hf⟩:∃ x,first[n]?=some x:=⟨_,List.getElem?_eq_getElem (show n<first.length by rw [h.flen];exact (List.getElem?_eq_some_iff.1 hk).1)⟩
      obtain ⟨_,h2,_⟩:=h.first' n _ hf
      rw [hk] at h2
      exact ⟨n,_,by have:=snoc_new out n;rwa [h.olen] at this,hf,(Option.some.inj h2).symm⟩
     ·obtain ⟨k',e',h1,h2,h3⟩:=h.at' d (by omega)
      exact ⟨k',e',snoc_old h1,h2,h3⟩
    ·obtain ⟨h1,h2,h3⟩:=h.first' j e he
     exact ⟨by omega,h2,snoc_old h3⟩
   ·rename_i hn
    refine joint_ok k (c+1) _ _ _ ⟨by simp [h.olen],by simp [h.flen],fun d hd=>?_,fun j e he=>?_⟩
    ·by_cases e:d=c
     ·subst e
      exact ⟨seen.length,d,by have:=snoc_new out seen.length;rwa [h.olen] at this,by have:=snoc_new first d;rwa [h.flen] at this,rfl⟩
     ·obtain ⟨k',e',h1,h2,h3⟩:=h.at' d (by omega)
      exact ⟨k',e',snoc_old h1,snoc_old h2,h3⟩
    ·rcases snoc_get he with ⟨_,h1⟩|⟨h1,h2⟩
     ·obtain ⟨r1,r2,r3⟩:=h.first' j e h1
      exact ⟨by omega,snoc_old r2,snoc_old r3⟩
     ·subst h2
      rw [h1,h.flen]
      exact ⟨by omega,snoc_new _ _,by have:=snoc_new out seen.length;rwa [h.olen] at this⟩
theorem joint_all (a b:DfaA):∃ seen,JointI a b 256 seen (jointA a b).1 (jointA a b).2 :=
 ⟨_,joint_ok 256 0 [] [] [] ⟨rfl,rfl,fun d hd=>by omega,fun k e h=>by simp at h⟩⟩
def skipP (how:Nat) (q:Int × Int):Bool:=(decide (q.1=-1)&&(decide (q.2=-1)||!decide (how=2)))||(decide (how=1)&&decide (q.2=-1))
def accP (how:Nat) (x y:Bool):Bool:=decide (how=1)&&x&&y||decide (how=2)&&(x||y)||decide (how=3)&&x&&!y
def prowP (a b:DfaA) (how:Nat) (p:Int × Int):List Nat→List (Int × Int)→List Int→Option (List (Int × Int) × List Int)
 | [],list,row=>some (list,row)
 | c::cs,list,row =>
   if skipP how (stepA a p.1 c,stepA b p.2 c) then prowP a b how p cs list (row++[-1]) else
   match list.idxOf? (stepA a p.1 c,stepA b p.2 c) with
   | some n=>prowP a b how p cs list (row++[(n:Int)])
   | none=>if list.length=1024 then none else prowP a b how p cs (list++[(stepA a p.1 c,stepA b p.2 c)]) (row++[(list.length:Int)])
def prodL (a b:DfaA) (how:Nat) (first:List Nat):Nat→List (Int × Int)→List (List Int)→List Bool→Option (List (Int × Int) × List (List Int) × List Bool)
 | 0,_,_,_=>none
 | f+1,list,next,acc=>match list[next.length]? with
   | none=>some (list,next,acc)
   | some p=>match prowP a b how p first list [] with
     | none=>none
     | some r=>prodL a b how first f r.1 (next++[r.2]) (acc++[accP how (endsA a p.1) (endsA b p.2)])
def prodA (a b:DfaA) (how:Nat):Option DfaA:=match prodL a b how (jointA a b).2 1025 [(0,0)] [] [] with
 | none=>none
 | some r=>some ⟨(jointA a b).1,r.2.1,r.2.2⟩
def EntP (a b:DfaA) (how:Nat) (list:List (Int × Int)) (p:Int × Int) (c:Nat) (z:Int):Prop :=
 (z=-1∧skipP how (stepA a p.1 c,stepA b p.2 c)=true)∨∃ n:Nat,z=(n:Int)∧list[n]?=some (stepA a p.1 c,stepA b p.2 c)∧skipP how (stepA a p.1 c,stepA b p.2 c)=false
theorem prow_ok {a b:DfaA}{how:Nat}{p:Int × Int}{first:List Nat}:∀ (cs pre:List Nat) (list:List (Int × Int)) (row:List Int) (r:List (Int × Int) × List Int),prowP a b how p cs list row=some r→first=pre++cs→row.length=pre.length→list.length≤1024→list.Nodup →
  (∀ (k c:Nat) (z:Int),pre[k]?=some c→row[k]?=some z→EntP a b how list p c z) →
  (∃ e,r.1=list++e)∧r.2.length=first.length∧r.1.length≤1024∧r.1.Nodup∧∀ (k c:Nat) (z:Int),first[k]?=some c→r.2[k]?=some z→EntP a b how r.1 p c z
 | [],pre,list,row,r,h,hf,hr,hl,hn,hp=>by
   rw [prowP] at h
   cases h
   rw [List.append_nil] at hf
   subst hf
   exact ⟨⟨[],by simp⟩,hr,hl,hn,hp⟩
 | c::cs,pre,list,row,r,h,hf,hr,hl,hn,hp=>by
   have hup:∀ {l e:List (Int × Int)}{c:Nat}{z:Int},EntP a b how l p c z→EntP a b how (l++e) p c z:=fun {l e c z} hh=>by
    rcases hh with h1|⟨n,h1,h2,h3⟩
    ·exact .inl h1
    ·exact .inr ⟨n,h1,by rw [List.getElem?_append_left (List.getElem?_eq_some_iff.1 h2).1];exact h2,h3⟩
   have step:∀ (list':List (Int × Int)) (z:Int),EntP a b how list' p c z→(∃ e,list'=list++e)→∀ (k d:Nat) (y:Int),(pre++[c])[k]?=some d→(row++[z])[k]?=some y→EntP a b how list' p d y:=fun list' z hz ⟨e,he⟩ k d y h1 h2=>by
    rcases snoc_get h1 with ⟨q1,q2⟩|⟨q1,q2⟩
    ·rcases snoc_get h2 with ⟨r1,r2⟩|⟨r1,r2⟩
     ·rw [he];exact hup (hp k d y q2 r2)
     ·omega
    ·rcases snoc_get h2 with ⟨r1,r2⟩|⟨r1,r2⟩
     ·omega
     ·rw [q2,r2];exact hz
   rw [prowP] at h
   split at h
   ·rename_i hs
    exact prow_ok cs (pre++[c]) list (row++[-1]) r h (by simp [hf]) (by simp [hr]) hl hn (step list (-1) (.inl ⟨rfl,hs⟩) ⟨[],by simp⟩)
   ·rename_i hs
    have hs':=Bool.eq_false_iff.2 hs
    split at h
    ·rename_i n hi
     exact prow_ok cs (pre++[c]) list (row++[(n:Int)]) r h (by simp [hf]) (by simp [hr]) hl hn (step list n (.inr ⟨n,rfl,idx_some hi,hs'⟩) ⟨[],by simp⟩)
    ·rename_i hi
     split at h
     ·cases h
     ·rename_i hlt
      obtain ⟨⟨e,he⟩,h2⟩:=prow_ok (first:=first) cs (pre++[c]) (list++[(stepA a p.1 c,stepA b p.2 c)]) (row++[(list.length:Int)]) r h (by simp [hf]) (by simp [hr]) (by simp;omega)
       (by rw [List.nodup_append];exact ⟨hn,by simp,fun x hx y hy=>by rw [List.mem_singleton] at hy;subst hy;exact fun e=>idx_none hi (e▸hx)⟩)
       (step _ (list.length:Int) (.inr ⟨list.length,rfl,snoc_new _ _,hs'⟩) ⟨_,rfl⟩)
      exact ⟨⟨(stepA a p.1 c,stepA b p.2 c)::e,by rw [he];simp⟩,h2⟩
structure ProdI (a b:DfaA) (how:Nat) (first:List Nat) (list:List (Int × Int)) (next:List (List Int)) (acc:List Bool):Prop where
 zero:list[0]?=some (0,0)
 le:list.length≤1024
 nodup:list.Nodup
 nle:next.length≤list.length
 alen:acc.length=next.length
 row:∀ (i:Nat) (r:List Int) (p:Int × Int),next[i]?=some r→list[i]?=some p→r.length=first.length∧∀ (k c:Nat) (z:Int),first[k]?=some c→r[k]?=some z→EntP a b how list p c z
 acc:∀ (i:Nat) (x:Bool) (p:Int × Int),acc[i]?=some x→list[i]?=some p→x=accP how (endsA a p.1) (endsA b p.2)
theorem prodL_ok {a b:DfaA}{how:Nat}{first:List Nat}:∀ (f:Nat) (list:List (Int × Int)) (next:List (List Int)) (acc:List Bool) (r:List (Int × Int) × List (List Int) × List Bool),prodL a b how first f list next acc=some r→ProdI a b how first list next acc→ProdI a b how first r.1 r.2.1 r.2.2∧r.1.length=r.2.1.length
 | 0,list,next,acc,r,h,hI=>by rw [prodL] at h;cases h
 | f+1,list,next,acc,r,h,hI=>by
   rw [prodL] at h
   split at h
   ·rename_i hn
    cases h
    have:=List.getElem?_eq_none_iff.1 hn
    have:=hI.nle
    exact ⟨hI,by dsimp only;omega⟩
   ·rename_i p hp
    split at h
    ·cases h
    ·rename_i q hq
     have hpl:=(List.getElem?_eq_some_iff.1 hp).1
     obtain ⟨⟨e,he⟩,h2,h3,h4,h5⟩:=prow_ok first [] list [] q hq rfl rfl hI.le hI.nodup (fun k c z h=>by simp at h)
     have hup:∀ {p:Int × Int}{c:Nat}{z:Int},EntP a b how list p c z→EntP a b how q.1 p c z:=fun {p c z} hh=>by
      rcases hh with h1|⟨n,h1,h2,h3⟩
      ·exact .inl h1
      ·exact .inr ⟨n,h1,by rw [he,List.getElem?_append_left (List.getElem?_eq_some_iff.1 h2).1];exact h2,h3⟩
     have hold:∀ {i:Nat}{x:Int × Int},i<list.length→q.1[i]?=some x→list[i]?=some x:=fun {i x} hi hx=>by rwa [he,List.getElem?_append_left hi] at hx
     refine prodL_ok f q.1 _ _ r h ⟨by rw [he,List.getElem?_append_left (List.getElem?_eq_some_iff.1 hI.zero).1];exact hI.zero,h3,h4,by rw [he];simp;omega,by simp [hI.alen],fun i x y hx hy=>?_,fun i x y hx hy=>?_⟩
     ·rcases snoc_get hx with ⟨r1,r2⟩|⟨r1,r2⟩
      ·obtain ⟨s1,s2⟩:=hI.row i x y r2 (hold (by omega) hy)
       exact ⟨s1,fun k c z t1 t2=>hup (s2 k c z t1 t2)⟩
      ·subst r2
       have:=hold (by omega) hy
       rw [r1,hp] at this
       cases this
       exact ⟨h2,h5⟩
     ·rcases snoc_get hx with ⟨r1,r2⟩|⟨r1,r2⟩
      ·exact hI.acc i x y r2 (hold (by have:=hI.alen;omega) hy)
      ·subst r2
       have:=hold (by have:=hI.alen;omega) hy
       rw [r1,hI.alen,hp] at this
       cases this
       rfl
theorem skip_step {a b:DfaA}{how:Nat}{q:Int × Int} (h:skipP how q=true) (c:Nat):skipP how (stepA a q.1 c,stepA b q.2 c)=true:=by
 unfold skipP at h ⊢
 simp only [Bool.or_eq_true,Bool.and_eq_true,decide_eq_true_eq,Bool.not_eq_true'] at h ⊢
 rcases h with ⟨h1,h2⟩|⟨h1,h2⟩
 ·refine .inl ⟨by rw [h1];exact step_dead (by decide) c,?_⟩
  rcases h2 with h2|h2
  ·exact .inl (by rw [h2];exact step_dead (by decide) c)
  ·exact .inr h2
 ·exact .inr ⟨h1,by rw [h2];exact step_dead (by decide) c⟩
theorem skip_acc {a b:DfaA}{how:Nat}{q:Int × Int} (h:skipP how q=true):accP how (endsA a q.1) (endsA b q.2)=false:=by
 have hd:∀ {d:DfaA},endsA d (-1)=false:=fun {d}=>by unfold endsA;simp
 unfold skipP at h
 simp only [Bool.or_eq_true,Bool.and_eq_true,decide_eq_true_eq,Bool.not_eq_true',decide_eq_false_iff_not] at h
 unfold accP
 rcases h with ⟨h1,h2⟩|⟨h1,h2⟩
 ·rw [h1,hd]
  rcases h2 with h2|h2
  ·rw [h2,hd];simp
  ·simp [h2]
 ·rw [h2,hd,h1];simp
section
variable {a b:DfaA}{how:Nat}{P:DfaA}
theorem prod_made (h:prodA a b how=some P):MadeA P∧∀ t,matchA P t=accP how (matchA a t) (matchA b t):=by
 unfold prodA at h
 split at h
 ·cases h
 rename_i r hr
 cases h
 obtain ⟨seen,hJ⟩:=joint_all a b
 generalize jointA a b=J at *
 obtain ⟨cls,first⟩:=J
 dsimp only at hJ hr ⊢
 obtain ⟨hI,hl⟩:=prodL_ok 1025 _ _ _ r hr ⟨rfl,by decide,by simp,by decide,rfl,fun i r p h=>by simp at h,fun i x p h=>by simp at h⟩
 obtain ⟨list,next,acc⟩:=r
 dsimp only at hI hl ⊢
 have hfl:first.length≤256:=by
  have h1:first.Nodup:=by
   rw [List.Nodup,List.pairwise_iff_getElem]
   intro i j hi0 hj hij e2
   have hi:=List.getElem?_eq_getElem hi0
   have hj':=List.getElem?_eq_getElem hj
   have q1:=(hJ.first' i _ hi).2.2
   have q2:=(hJ.first' j _ hj').2.2
   rw [e2,q2] at q1
   have:=Option.some.inj q1
   omega
  have h2:first.length≤(List.range 256).length:=nodup_le h1 (fun x hx=>by
   obtain ⟨j,hj,e⟩:=List.getElem_of_mem hx
   have:=(hJ.first' j x (by rw [List.getElem?_eq_getElem hj,e])).1
   exact List.mem_range.2 this)
  rwa [List.length_range] at h2
 have hnp:0<next.length:=by
  have:=(List.getElem?_eq_some_iff.1 hI.zero).1;omega
 have hent:∀ (i:Nat) (p:Int × Int) (c:Nat),list[i]?=some p→c<256→∃ (k:Nat) (r:List Int) (z:Int),cls[c]?=some k∧k<first.length∧next[i]?=some r∧r[k]?=some z∧EntP a b how list p c z:=fun i p c hp hc=>by
  obtain ⟨k,e,h1,h2,h3⟩:=hJ.at' c hc
  obtain ⟨rw',hin⟩:∃ x,next[i]?=some x:=⟨_,List.getElem?_eq_getElem (show i<next.length by have:=(List.getElem?_eq_some_iff.1 hp).1;omega)⟩
  obtain ⟨q1,q2⟩:=hI.row i _ p hin hp
  have hk:=(List.getElem?_eq_some_iff.1 h2).1
  have hz:=List.getElem?_eq_getElem (show k<rw'.length by omega)
  have:=q2 k e _ h2 hz
  unfold keyJ at h3
  have h4:=Prod.mk.inj h3
  have s1:stepA a p.1 e=stepA a p.1 c:=step_cls h4.1
  have s2:stepA b p.2 e=stepA b p.2 c:=step_cls h4.2
  unfold EntP at this
  rw [s1,s2] at this
  exact ⟨k,_,_,h1,hk,hin,hz,this⟩
 have hok:DfaOk first.length ⟨cls,next,acc⟩:=by
  refine ⟨hJ.olen,fun k hk=>?_,hI.alen,fun r hr=>?_,fun r hr z hz=>?_⟩
  ·obtain ⟨c,hc,e⟩:=List.getElem_of_mem hk
   have hc6:c<256:=by have:=hJ.olen;dsimp only at hc;omega
   obtain ⟨k',e',h1,h2,_⟩:=hJ.at' c hc6
   have:cls[c]?=some k:=by rw [List.getElem?_eq_getElem hc,e]
   rw [h1] at this
   cases this
   exact (List.getElem?_eq_some_iff.1 h2).1
  ·obtain ⟨i,hi,e⟩:=List.getElem_of_mem hr
   dsimp only at hi
   have hil:=List.getElem?_eq_getElem (show i<list.length by omega)
   exact (hI.row i r _ (by rw [List.getElem?_eq_getElem hi,e]) hil).1
  ·obtain ⟨i,hi,e⟩:=List.getElem_of_mem hr
   dsimp only at hi
   have hil:=List.getElem?_eq_getElem (show i<list.length by omega)
   obtain ⟨q1,q2⟩:=hI.row i r _ (by rw [List.getElem?_eq_getElem hi,e]) hil
   obtain ⟨k,hk,e2⟩:=List.getElem_of_mem hz
   have hf:=List.getElem?_eq_getElem (show k<first.length by omega)
   rcases q2 k _ z hf (by rw [List.getElem?_eq_getElem hk,e2]) with ⟨h1,_⟩|⟨n,h1,h2,_⟩
   ·exact .inl h1
   ·have:=(List.getElem?_eq_some_iff.1 h2).1
    exact .inr ⟨by omega,by dsimp only;omega⟩
 have hsur:SurA first.length ⟨cls,next,acc⟩:=fun k hk=>by
  have hf:=List.getElem?_eq_getElem hk
  obtain ⟨h1,_,h3⟩:=hJ.first' k _ hf
  exact ⟨_,h1,h3⟩
 refine ⟨⟨⟨first.length,hfl,hok,hsur⟩,hnp,by have:=hI.le;dsimp only;omega⟩,?_⟩
 -- a word leads to its pair,or nothing comes any more
 have hrun:∀ (n:Nat) (t:List UInt8),t.length=n→(runA ⟨cls,next,acc⟩ t=-1∧skipP how (runA a t,runA b t)=true)∨∃ i:Nat,runA ⟨cls,next,acc⟩ t=(i:Int)∧list[i]?=some (runA a t,runA b t):=by
  intro n
  induction n with
  | zero=>intro t ht;rw [List.eq_nil_of_length_eq_zero ht];exact .inr ⟨0,rfl,hI.zero⟩
  | succ n ih =>
    intro t ht
    obtain ⟨u,c,rfl⟩:∃ u c,t=u++[c]:=⟨t.dropLast,t.getLast (by intro e;rw [e] at ht;cases ht),(List.dropLast_concat_getLast _).symm⟩
    have hs:∀ d:DfaA,runA d (u++[c])=stepA d (runA d u) c.toNat:=fun d=>by unfold runA;rw [List.foldl_append];rfl
    have hc:c.toNat<256:=UInt8.toNat_lt c
    rw [hs,hs,hs]
    rcases ih u (by simpa using ht) with ⟨h1,h2⟩|⟨i,h1,h2⟩
    ·exact .inl ⟨by rw [h1];exact step_dead (by decide) _,skip_step h2 _⟩
    ·rw [h1]
     obtain ⟨k,r,z,q1,q2,q3,q4,q5⟩:=hent i _ c.toNat h2 hc
     have hst:stepA ⟨cls,next,acc⟩ (i:Int) c.toNat=z:=by
      obtain ⟨k',r',p1,p2,p3,p4⟩:=step_at hok (s:=i) (List.getElem?_eq_some_iff.1 q3).1 hc
      dsimp only at p1 p3
      rw [q1] at p1;cases p1
      rw [q3] at p3;cases p3
      rw [q4] at p4;exact (Option.some.inj p4).symm
     rw [hst]
     rcases q5 with ⟨r1,r2⟩|⟨m,r1,r2,_⟩
     ·exact .inl ⟨r1,r2⟩
     ·exact .inr ⟨m,r1,r2⟩
 intro t
 show endsA _ (runA _ t)=accP how (endsA a (runA a t)) (endsA b (runA b t))
 rcases hrun t.length t rfl with ⟨h1,h2⟩|⟨i,h1,h2⟩
 ·rw [h1,skip_acc h2];unfold endsA;simp
 ·rw [h1,ends_nat]
  have hia:=List.getElem?_eq_getElem (show i<acc.length by have:=(List.getElem?_eq_some_iff.1 h2).1;have:=hI.alen;omega)
  have:=hI.acc i _ _ hia h2
  unfold getB
  dsimp only
  rw [hia,Option.getD_some,this]
end
def rowA (a:DfaA) (s:Nat):List Int:=a.next[s]?.getD []
theorem getB_put' {m:List Bool}{i j:Nat}{v:Bool} (hi:i<m.length):getB (m.set i v) j=if j=i then v else getB m j:=by
 unfold getB
 by_cases e:j=i
 ·subst e;rw [if_pos rfl,List.getElem?_set_self hi];rfl
 ·rw [if_neg e,List.getElem?_set_ne (fun h=>e h.symm)]
theorem getB_ext' {m k:List Bool} (hl:m.length=k.length) (h:∀ t,t<m.length→getB m t=getB k t):m=k:=by
 apply List.ext_getElem hl
 intro i h1 h2
 have:=h i h1
 unfold getB at this
 rwa [List.getElem?_eq_getElem h1,List.getElem?_eq_getElem h2] at this
theorem cntB_put' {m:List Bool}{k:Nat} (hk:k<m.length) (h:getB m k=false):cntB (m.set k true)=cntB m+1:=by
 unfold getB at h
 rw [List.getElem?_eq_getElem hk,Option.getD_some] at h
 unfold cntB
 rw [List.count_set hk,h]
 simp
theorem row_step {w:Nat}{a:DfaA} (ho:DfaOk w a) (hs:SurA w a) {s:Nat}{z:Int} (hz:z∈rowA a s):s<a.next.length∧∃ c:Nat,c<256∧stepA a (s:Int) c=z:=by
 have hl:=next_lt hz
 refine ⟨hl,?_⟩
 unfold rowA at hz
 have hr:=List.getElem?_eq_getElem hl
 rw [hr,Option.getD_some] at hz
 obtain ⟨k,hk,e⟩:=List.getElem_of_mem hz
 have hkw:k<w:=by rw [←ho.row _ (List.getElem_mem hl)];exact hk
 obtain ⟨c,hc,hck⟩:=hs k hkw
 obtain ⟨k2,r,p1,p2,p3,p4⟩:=step_at ho hl hc
 rw [hck] at p1;cases p1
 rw [hr] at p3;cases p3
 rw [List.getElem?_eq_getElem hk,e] at p4
 exact ⟨c,hc,(Option.some.inj p4).symm⟩
theorem step_row {w:Nat}{a:DfaA} (ho:DfaOk w a) {s:Nat} (hl:s<a.next.length) {c:Nat} (hc:c<256):stepA a (s:Int) c∈rowA a s:=by
 obtain ⟨k2,r,p1,p2,p3,p4⟩:=step_at ho hl hc
 unfold rowA
 rw [p3,Option.getD_some]
 exact List.mem_of_getElem? p4
theorem live_step {w:Nat}{a:DfaA} (ho:DfaOk w a) (hs:SurA w a) {s:Nat}{z:Int} (hz:z∈rowA a s) (h0:0≤z) (hl:LiveA a z.toNat):LiveA a s:=by
 obtain ⟨_,c,hc,e⟩:=row_step ho hs hz
 obtain ⟨b,hb⟩:=hl
 refine ⟨UInt8.ofNat c::b,?_⟩
 rw [res_cons,UInt8.toNat_ofNat_of_lt' hc,e]
 rwa [Int.toNat_of_nonneg h0] at hb
theorem live_end {a:DfaA}{s:Nat} (h:endsA a (s:Int)=true):LiveA a s:=⟨[],h⟩
theorem live_lt {a:DfaA} (ha:a.acc.length=a.next.length) {s:Nat} (h:LiveA a s):s<a.next.length:=by
 obtain ⟨b,hb⟩:=h
 apply Classical.byContradiction
 intro hn
 cases b with
 | nil =>
   unfold resA endsA at hb
   simp at hb;omega
 | cons c b =>
   rw [res_cons] at hb
   have:stepA a (s:Int) c.toNat=-1:=by unfold stepA;rw [if_pos (.inr (by omega))]
   rw [this,res_dead b (by decide)] at hb;cases hb
structure LivR (a:DfaA) (m0 m:List Bool) (ch:Bool) (s:Nat):Prop where
 len:m.length=a.next.length
 sound:∀ t,getB m t=true→LiveA a t
 go:ch=true→cntB m0<cntB m
 stay:ch=false→m=m0∧∀ t,t<s→getB m0 t=false→endsA a (t:Int)=false∧∀ z∈rowA a t,0≤z→getB m0 z.toNat=false
def anyR (m:List Bool) (l:List Int):Bool:=l.any fun z=>decide (0≤z)&&getB m z.toNat
section
variable {w:Nat}{a:DfaA}{m0 m:List Bool}{ch:Bool}{s:Nat}
theorem LivR.start (hl:m.length=a.next.length) (hs:∀ t,getB m t=true→LiveA a t):LivR a m m false 0 :=
 ⟨hl,hs,(fun h=>by cases h),fun _=>⟨rfl,fun t h=>absurd h (Nat.not_lt_zero _)⟩⟩
theorem LivR.has (h:LivR a m0 m ch s) (hb:getB m s=true):LivR a m0 m ch (s+1) :=
 ⟨h.len,h.sound,h.go,fun hc=>⟨(h.stay hc).1,fun t ht hf=>by
  by_cases e:t=s
  ·subst e;rw [(h.stay hc).1] at hb;rw [hb] at hf;cases hf
  ·exact (h.stay hc).2 t (by omega) hf⟩⟩
theorem LivR.put (ho:DfaOk w a) (hs:SurA w a) (h:LivR a m0 m ch s) (hl:s<a.next.length) (hb:getB m s=false):LivR a m0 (m.set s (endsA a (s:Int)||anyR m (rowA a s))) (ch||(endsA a (s:Int)||anyR m (rowA a s))) (s+1):=by
 have hml:s<m.length:=by rw [h.len];exact hl
 cases hv:(endsA a (s:Int)||anyR m (rowA a s)) with
 | true =>
   have hlive:LiveA a s:=by
    rcases Bool.or_eq_true_iff.1 hv with h1|h1
    ·exact live_end h1
    ·unfold anyR at h1
     rw [List.any_eq_true] at h1
     obtain ⟨z,h2,h3⟩:=h1
     rw [Bool.and_eq_true,decide_eq_true_eq] at h3
     exact live_step ho hs h2 h3.1 (h.sound _ h3.2)
   refine ⟨by rw [List.length_set,h.len],fun t ht=>?_,fun _=>?_,fun hc=>by simp at hc⟩
   ·rw [getB_put' hml] at ht
    split at ht
    ·rename_i e;subst e;exact hlive
    ·exact h.sound t ht
   ·rw [cntB_put' hml hb]
    cases ch with
    | true=>have:=h.go rfl;omega
    | false=>rw [(h.stay rfl).1];omega
 | false =>
   have hm:m.set s false=m:=getB_ext' (by simp) (fun t ht=>by
    rw [getB_put' hml]
    split
    ·rename_i e;subst e;exact hb.symm
    ·rfl)
   rw [hm,Bool.or_false]
   refine ⟨h.len,h.sound,h.go,fun hc=>⟨(h.stay hc).1,fun t ht hf=>?_⟩⟩
   by_cases e:t=s
   ·subst e
    rw [Bool.or_eq_false_iff] at hv
    refine ⟨hv.1,fun z hz h0=>?_⟩
    have:=hv.2
    unfold anyR at this
    rw [List.any_eq_false] at this
    have h2:=this z hz
    rw [(h.stay hc).1] at h2
    cases hg:getB m0 z.toNat with
    | false=>rfl
    | true=>rw [hg] at h2;exact absurd h0 (by simpa using h2)
   ·exact (h.stay hc).2 t (by omega) hf
theorem LivR.fin (ho:DfaOk w a) (hs:SurA w a) (h:LivR a m0 m false s) (hn:a.next.length≤s):m=liveA a:=by
 obtain ⟨e,hst⟩:=h.stay rfl
 subst e
 have hcl:∀ (b:List UInt8) (t:Nat),t<a.next.length→resA a (t:Int) b=true→getB m t=true:=by
  intro b
  induction b with
  | nil =>
    intro t ht hr
    cases hg:getB m t with
    | true=>rfl
    | false =>
      have:=(hst t (by omega) hg).1
      have h2:endsA a (t:Int)=true:=hr
      rw [this] at h2;cases h2
  | cons c b ih =>
    intro t ht hr
    have hc:c.toNat<256:=UInt8.toNat_lt c
    rw [res_cons] at hr
    rcases step_to ho (t:Int) hc with hz|⟨u,hz,hu⟩
    ·rw [hz,res_dead b (by decide)] at hr;cases hr
    ·have hmem:=step_row ho ht hc
     rw [hz] at hr hmem
     have hg:=ih u hu hr
     cases hgt:getB m t with
     | true=>rfl
     | false =>
       have:=(hst t (by omega) hgt).2 _ hmem (by omega)
       rw [Int.toNat_natCast,hg] at this;cases this
 refine getB_ext' (by rw [h.len,show (liveA a).length=a.next.length from live_len _ _ ho.acc]) (fun t ht=>?_)
 rw [Bool.eq_iff_iff,live_iff ho hs t]
 exact ⟨h.sound t,fun ⟨b,hb⟩=>hcl b t (by rw [←h.len];exact ht) hb⟩
end
structure MetD (a:DfaA) (m:List Bool) (wk:List Nat):Prop where
 len:m.length=a.next.length
 zero:getB m 0=true
 in':∀ s∈wk,s<a.next.length∧getB m s=true
 closed:∀ s,getB m s=true→s∉wk→∀ z∈rowA a s,0≤z→getB m z.toNat=true
theorem MetD.fin {a:DfaA} (hL:LeastA a) {m:List Bool} (h:MetD a m []):m=List.replicate a.next.length true:=by
 obtain ⟨w,_,ho,_⟩:=hL.ok
 have hall:∀ t,t<a.next.length→getB m t=true:=by
  rcases hL.lives with h1|⟨_,hmet⟩
  ·intro t ht
   obtain rfl:t=0:=by omega
   exact h.zero
  ·intro t
   induction t using Nat.strongRecOn with
   | _ t ih =>
     intro ht
     by_cases e:t=0
     ·subst e;exact h.zero
     ·obtain ⟨s,c,h1,h2,h3⟩:=hmet t (by omega) ht
      have hm:=step_row ho (s:=s) (by omega) h2
      rw [h3] at hm
      have:=h.closed s (ih s h1 (by omega)) (by simp) _ hm (by omega)
      rwa [Int.toNat_natCast] at this
 refine getB_ext' (by simp [h.len]) (fun t ht=>?_)
 rw [hall t (by rw [←h.len];exact ht)]
 unfold getB
 rw [List.getElem?_replicate,if_pos (by rw [←h.len];exact ht)];rfl
theorem reach_all {a:DfaA} (hL:LeastA a):∀ s,s<a.next.length→∃ u,runA a u=(s:Int):=by
 intro s
 induction s using Nat.strongRecOn with
 | _ t ih =>
   intro ht
   by_cases e:t=0
   ·subst e;exact ⟨[],rfl⟩
   ·rcases hL.lives with h1|⟨_,hmet⟩
    ·omega
    ·obtain ⟨s,c,h1,h2,h3⟩:=hmet t (by omega) ht
     obtain ⟨u,hu⟩:=ih s h1 (by omega)
     exact ⟨u++[UInt8.ofNat c],by rw [runA_snoc,hu,UInt8.toNat_ofNat_of_lt' h2,h3]⟩
theorem res_app (a:DfaA) (u v:List UInt8):resA a 0 (u++v)=resA a (runA a u) v:=by
 unfold resA runA;rw [List.foldl_append]
def prefA (a:DfaA):Bool:=(List.range a.next.length).all fun s=>!(endsA a (s:Int))||!(anyR (liveA a) (rowA a s))
section
variable {a:DfaA}
theorem run_state {w:Nat} (ho:DfaOk w a) (hp:0<a.next.length):∀ (n:Nat) (u:List UInt8),u.length=n→runA a u=-1∨∃ s:Nat,runA a u=(s:Int)∧s<a.next.length:=by
 intro n
 induction n with
 | zero=>intro u hu;rw [List.eq_nil_of_length_eq_zero hu];exact .inr ⟨0,rfl,hp⟩
 | succ n ih =>
   intro t ht
   obtain ⟨u,c,rfl⟩:∃ u c,t=u++[c]:=⟨t.dropLast,t.getLast (by intro e;rw [e] at ht;cases ht),(List.dropLast_concat_getLast _).symm⟩
   rw [runA_snoc]
   exact step_to ho _ (UInt8.toNat_lt c)
theorem pref_true (hL:LeastA a) (h:prefA a=true) {u v:List UInt8} (hv:v≠[]) (hu:resA a 0 u=true) (huv:resA a 0 (u++v)=true):False:=by
 obtain ⟨w,_,ho,hs,_⟩:=hL.ok
 rcases run_state ho hL.pos u.length u rfl with h1|⟨s,h1,h2⟩
 ·have:resA a 0 u=endsA a (runA a u):=rfl
  rw [this,h1] at hu;unfold endsA at hu;simp at hu
 ·have he:resA a 0 u=endsA a (runA a u):=rfl
  rw [he,h1] at hu
  rw [res_app,h1] at huv
  unfold prefA at h
  rw [List.all_eq_true] at h
  have:=h s (List.mem_range.2 h2)
  rw [hu] at this
  cases v with
  | nil=>exact hv rfl
  | cons c v =>
    have hc:c.toNat<256:=UInt8.toNat_lt c
    rw [res_cons] at huv
    rcases step_to ho (s:Int) hc with hz|⟨t,hz,ht⟩
    ·rw [hz,res_dead v (by decide)] at huv;cases huv
    ·have hm:=step_row ho h2 hc
     rw [hz] at hm huv
     have h3:anyR (liveA a) (rowA a s)=true:=by
      unfold anyR
      rw [List.any_eq_true]
      refine ⟨_,hm,?_⟩
      rw [Int.toNat_natCast,(live_iff ho hs t).2 ⟨v,huv⟩];simp
     rw [h3] at this;cases this
theorem pref_false (hL:LeastA a) (h:prefA a=false):∃ u v,v≠[]∧resA a 0 u=true∧resA a 0 (u++v)=true:=by
 obtain ⟨w,_,ho,hs,_⟩:=hL.ok
 unfold prefA at h
 rw [List.all_eq_false] at h
 obtain ⟨s,h1,h2⟩:=h
 have hsl:=List.mem_range.1 h1
 obtain ⟨h3,h4⟩:endsA a (s:Int)=true∧anyR (liveA a) (rowA a s)=true:=by
  cases e1:endsA a (s:Int)<;>cases e2:anyR (liveA a) (rowA a s)<;>simp [e1,e2] at h2 ⊢
 obtain ⟨u,hu⟩:=reach_all hL s hsl
 unfold anyR at h4
 rw [List.any_eq_true] at h4
 obtain ⟨z,hz,h5⟩:=h4
 rw [Bool.and_eq_true,decide_eq_true_eq,live_iff ho hs] at h5
 obtain ⟨_,c,hc,e⟩:=row_step ho hs hz
 obtain ⟨b,hb⟩:=h5.2
 refine ⟨u,UInt8.ofNat c::b,by simp,?_,?_⟩
 ·have he:resA a 0 u=endsA a (runA a u):=rfl
  rw [he,hu];exact h3
 ·rw [res_app,hu,res_cons,UInt8.toNat_ofNat_of_lt' hc,e]
  rwa [Int.toNat_of_nonneg h5.1] at hb
end
def nextV (a:DfaA) (now:List Bool):List Bool:=(List.range a.next.length).map fun t=>getB (liveA a) t&&(List.range a.next.length).any fun s=>getB now s&&(rowA a s).any fun z=>decide (z=(t:Int))
def endV (a:DfaA) (now:List Bool):Bool:=(List.range a.next.length).any fun s=>getB now s&&endsA a (s:Int)
def longL (a:DfaA):Nat→Nat→List Bool→Int→Int
 | 0,_,_,_=>-1
 | f+1,k,now,best =>
   if (nextV a now).any id=false then (if endV a now then (k:Int) else best) else longL a f (k+1) (nextV a now) (if endV a now then (k:Int) else best)
def longF (a:DfaA):Int:=if getB (liveA a) 0 then longL a (a.next.length+1) 0 ((List.replicate a.next.length false).set 0 true) (-1) else -1
structure LvlI (a:DfaA) (k:Nat) (now:List Bool) (best:Int):Prop where
 len:now.length=a.next.length
 at':∀ t,getB now t=true↔∃ u,u.length=k∧runA a u=(t:Int)∧LiveA a t
 some':best≠-1→0≤best∧∃ u,(u.length:Int)=best∧resA a 0 u=true
 all':∀ u,u.length<k→resA a 0 u=true→(u.length:Int)≤best
 ge:-1≤best
section
variable {w:Nat}{a:DfaA}{k:Nat}{now:List Bool}{best:Int}
theorem res_run {u:List UInt8}:resA a 0 u=endsA a (runA a u):=rfl
theorem run_end (ho:DfaOk w a) (hp:0<a.next.length) {u:List UInt8} (h:resA a 0 u=true):∃ s:Nat,runA a u=(s:Int)∧s<a.next.length∧endsA a (s:Int)=true:=by
 rcases run_state ho hp u.length u rfl with h1|⟨s,h1,h2⟩
 ·rw [res_run,h1] at h;unfold endsA at h;simp at h
 ·exact ⟨s,h1,h2,by rw [←h1];exact h⟩
theorem LvlI.end' (ho:DfaOk w a) (hp:0<a.next.length) (h:LvlI a k now best):endV a now=true↔∃ u,u.length=k∧resA a 0 u=true:=by
 unfold endV
 rw [List.any_eq_true]
 constructor
 ·rintro ⟨s,h1,h2⟩
  rw [Bool.and_eq_true] at h2
  obtain ⟨u,h3,h4,_⟩:=(h.at' s).1 h2.1
  exact ⟨u,h3,by rw [res_run,h4];exact h2.2⟩
 ·rintro ⟨u,h1,h2⟩
  obtain ⟨s,h3,h4,h5⟩:=run_end ho hp h2
  exact ⟨s,List.mem_range.2 h4,by rw [Bool.and_eq_true];exact ⟨(h.at' s).2 ⟨u,h1,h3,live_end h5⟩,h5⟩⟩
theorem nextV_at (ho:DfaOk w a) (hs:SurA w a) (hp:0<a.next.length) (h:LvlI a k now best) (t:Nat):getB (nextV a now) t=true↔∃ u,u.length=k+1∧runA a u=(t:Int)∧LiveA a t:=by
 have hg:∀ p:Nat→Bool,getB ((List.range a.next.length).map p) t=true↔t<a.next.length∧p t=true:=fun p=>by
  unfold getB
  rw [List.getElem?_map]
  by_cases ht:t<a.next.length
  ·rw [List.getElem?_range ht,Option.map_some,Option.getD_some];simp [ht]
  ·rw [List.getElem?_eq_none (by simp;omega)];simp [ht]
 unfold nextV
 rw [hg,Bool.and_eq_true,List.any_eq_true,live_iff ho hs]
 constructor
 ·rintro ⟨h1,h2,s,h3,h4⟩
  rw [Bool.and_eq_true,List.any_eq_true] at h4
  obtain ⟨h5,z,h6,h7⟩:=h4
  obtain ⟨u,h8,h9,_⟩:=(h.at' s).1 h5
  obtain ⟨_,c,hc,e⟩:=row_step ho hs h6
  exact ⟨u++[UInt8.ofNat c],by simp [h8],by rw [runA_snoc,h9,UInt8.toNat_ofNat_of_lt' hc,e];exact of_decide_eq_true h7,h2⟩
 ·rintro ⟨u',h1,h2,h3⟩
  obtain ⟨u,c,rfl⟩:∃ u c,u'=u++[c]:=⟨u'.dropLast,u'.getLast (by intro e;rw [e] at h1;cases h1),(List.dropLast_concat_getLast _).symm⟩
  have hc:c.toNat<256:=UInt8.toNat_lt c
  rw [runA_snoc] at h2
  rcases run_state ho hp u.length u rfl with h4|⟨s,h4,h5⟩
  ·rw [h4,step_dead (by decide)] at h2;omega
  ·rw [h4] at h2
   have hm:=step_row ho h5 hc
   rw [h2] at hm
   have hlt:=live_lt ho.acc h3
   refine ⟨hlt,h3,s,List.mem_range.2 h5,?_⟩
   rw [Bool.and_eq_true,List.any_eq_true]
   exact ⟨(h.at' s).2 ⟨u,by simpa using h1,h4,live_step ho hs hm (by omega) (by rwa [Int.toNat_natCast])⟩,_,hm,by simp⟩
theorem pre_live (ho:DfaOk w a) (hp:0<a.next.length) {u v:List UInt8} (h:resA a 0 (u++v)=true):∃ s:Nat,runA a u=(s:Int)∧LiveA a s:=by
 rw [res_app] at h
 rcases run_state ho hp u.length u rfl with h1|⟨s,h1,_⟩
 ·rw [h1,res_dead v (by decide)] at h;cases h
 ·exact ⟨s,h1,v,by rw [←h1];exact h⟩
theorem LvlI.best' (ho:DfaOk w a) (hp:0<a.next.length) (h:LvlI a k now best) :
  ((if endV a now then (k:Int) else best)≠-1→0≤(if endV a now then (k:Int) else best)∧∃ u,(u.length:Int)=(if endV a now then (k:Int) else best)∧resA a 0 u=true) ∧
  (∀ u,u.length<k+1→resA a 0 u=true→(u.length:Int)≤(if endV a now then (k:Int) else best))∧-1≤(if endV a now then (k:Int) else best):=by
 have he:=h.end' ho hp
 by_cases e:endV a now=true
 ·rw [if_pos e]
  obtain ⟨u,h1,h2⟩:=he.1 e
  exact ⟨fun _=>⟨by omega,u,by rw [h1],h2⟩,fun u hu _=>by omega,by omega⟩
 ·rw [if_neg e]
  refine ⟨h.some',fun u hu hr=>?_,h.ge⟩
  by_cases e2:u.length=k
  ·exact absurd (he.2 ⟨u,e2,hr⟩) e
  ·exact h.all' u (by omega) hr
def LongR (a:DfaA) (r:Int):Prop:=(0≤r∧(∃ u,(u.length:Int)=r∧resA a 0 u=true)∧∀ u,resA a 0 u=true→(u.length:Int)≤r) ∨
 (r=-1∧((∀ u,resA a 0 u=false)∨∃ u,resA a 0 u=true∧a.next.length≤u.length))
theorem long_ok (ho:DfaOk w a) (hs:SurA w a) (hp:0<a.next.length) (hl:LiveA a 0):∀ (f k:Nat) (now:List Bool) (best:Int),f+k=a.next.length+1→0<f→LvlI a k now best→LongR a (longL a f k now best)
 | 0,k,now,best,hf,h0,h=>absurd h0 (Nat.lt_irrefl _)
 | f+1,k,now,best,hf,h0,h=>by
   rw [longL]
   have hb:=h.best' ho hp
   have hn:=nextV_at ho hs hp h
   generalize (if endV a now then (k:Int) else best)=best' at *
   obtain ⟨b1,b2,b3⟩:=hb
   split
   ·rename_i hnone
    have hall:∀ u,resA a 0 u=true→(u.length:Int)≤best':=fun u hu=>by
     by_cases e:u.length<k+1
     ·exact b2 u e hu
     ·have h1:u=u.take (k+1)++u.drop (k+1):=(List.take_append_drop _ _).symm
      rw [h1] at hu
      obtain ⟨s,h2,h3⟩:=pre_live ho hp hu
      have h4:=(hn s).2 ⟨u.take (k+1),by simp;omega,h2,h3⟩
      rw [List.any_eq_false] at hnone
      have h5:=getB_lt h4
      have h6:=hnone _ (List.getElem_mem h5)
      unfold getB at h4
      rw [List.getElem?_eq_getElem h5,Option.getD_some] at h4
      rw [h4] at h6;exact absurd rfl h6
    obtain ⟨b,hbl⟩:=hl
    have hbb:resA a 0 b=true:=hbl
    have hge:=hall b hbb
    obtain ⟨h1,h2⟩:=b1 (by omega)
    exact .inl ⟨h1,h2,hall⟩
   ·rename_i hsome
    cases f with
    | zero =>
      refine .inr ⟨rfl,.inr ?_⟩
      have hsome':(nextV a now).any id=true:=by
       cases hx:(nextV a now).any id with
       | true=>rfl
       | false=>exact absurd hx hsome
      rw [List.any_eq_true] at hsome'
      obtain ⟨x,hx,hx2⟩:=hsome'
      obtain ⟨t,ht,e⟩:=List.getElem_of_mem hx
      have hg:getB (nextV a now) t=true:=by
       unfold getB;rw [List.getElem?_eq_getElem ht,e];exact hx2
      obtain ⟨u,h1,h2,b,hb⟩:=(hn t).1 hg
      refine ⟨u++b,by rw [res_app,h2];exact hb,?_⟩
      rw [List.length_append];omega
    | succ f =>
      refine long_ok ho hs hp hl (f+1) (k+1) _ _ (by omega) (by omega) ⟨by simp [nextV],hn,b1,b2,b3⟩
theorem LvlI.start (hp:0<a.next.length) (hl:LiveA a 0):LvlI a 0 ((List.replicate a.next.length false).set 0 true) (-1):=by
 refine ⟨by simp,fun t=>?_,fun h=>absurd rfl h,fun u h=>absurd h (Nat.not_lt_zero _),by decide⟩
 rw [getB_put' (by simpa using hp)]
 constructor
 ·intro h
  split at h
  ·rename_i e;subst e;exact ⟨[],rfl,rfl,hl⟩
  ·unfold getB at h
   rw [List.getElem?_replicate] at h
   split at h<;>simp at h
 ·rintro ⟨u,h1,h2,_⟩
  rw [List.eq_nil_of_length_eq_zero h1] at h2
  have:(0:Int)=(t:Int):=h2
  rw [if_pos (by omega)]
theorem longF_ok (ho:DfaOk w a) (hs:SurA w a) (hp:0<a.next.length):LongR a (longF a):=by
 unfold longF
 split
 ·rename_i h
  exact long_ok ho hs hp ((live_iff ho hs 0).1 h) _ _ _ _ rfl (by omega) (LvlI.start hp ((live_iff ho hs 0).1 h))
 ·rename_i h
  refine .inr ⟨rfl,.inl fun u=>?_⟩
  cases hr:resA a 0 u with
  | false=>rfl
  | true=>exact absurd ((live_iff ho hs 0).2 ⟨u,hr⟩) h
theorem longer (ho:DfaOk w a) (hp:0<a.next.length) {u:List UInt8} (h:resA a 0 u=true) (hl:a.next.length≤u.length):∃ v,resA a 0 v=true∧u.length<v.length:=by
 have hst:∀ i,∃ s:Nat,runA a (u.take i)=(s:Int)∧s<a.next.length:=fun i=>by
  have h1:=h
  rw [←List.take_append_drop i u] at h1
  obtain ⟨s,h2,h3⟩:=pre_live ho hp h1
  exact ⟨s,h2,live_lt ho.acc h3⟩
 have hrep:∃ i j,i<j∧j<a.next.length+1∧(runA a (u.take i)).toNat=(runA a (u.take j)).toNat:=by
  apply Classical.byContradiction
  intro hn
  have hnd:((List.range (a.next.length+1)).map fun i=>(runA a (u.take i)).toNat).Nodup:=by
   rw [List.Nodup,List.pairwise_iff_getElem]
   intro i j hi hj hij e
   simp only [List.length_map,List.length_range] at hi hj
   simp only [List.getElem_map,List.getElem_range] at e
   exact hn ⟨i,j,hij,hj,e⟩
  have:=nodup_le hnd (b:=List.range a.next.length) (fun x hx=>by
   obtain ⟨i,_,rfl⟩:=List.mem_map.1 hx
   obtain ⟨s,h1,h2⟩:=hst i
   rw [h1,Int.toNat_natCast];exact List.mem_range.2 h2)
  simp at this
  omega
 obtain ⟨i,j,h1,h2,h3⟩:=hrep
 obtain ⟨s,h4,_⟩:=hst i
 obtain ⟨t,h5,_⟩:=hst j
 rw [h4,h5,Int.toNat_natCast,Int.toNat_natCast] at h3
 subst h3
 have h6:=h
 rw [←List.take_append_drop i u,res_app,h4] at h6
 refine ⟨u.take j++u.drop i,by rw [res_app,h5];exact h6,?_⟩
 rw [List.length_append,List.length_take,List.length_drop]
 omega
theorem long_lt (ho:DfaOk w a) (hs:SurA w a) (hp:0<a.next.length) (h:0≤longF a):longF a<(a.next.length:Int):=by
 rcases longF_ok ho hs hp with ⟨_,⟨u,h1,h2⟩,h3⟩|⟨h1,_⟩
 ·apply Classical.byContradiction
  intro hn
  obtain ⟨v,h4,h5⟩:=longer ho hp h2 (by omega)
  have:=h3 v h4
  omega
 ·omega
end
theorem TabOk.ofLaid {W : World} {rest : List (String × DataW Unit)} (h : laidMet Tryz.prog (("math/bits.deBruijn64tab", Lib.tabData .u8 debr) :: rest) W) : TabOk (hm W.heap) := by
 have hg : Tryz.prog.globalNamed "math/bits.deBruijn64tab" = some 0 := by kernel_rfl
 have hT:=Lib.tabIs_of_head (n:=64) hg (by kernel_rfl) Tryz.underlying109 Tryz.underlying5 (by kernel_rfl) (by kernel_rfl) h
 unfold Lib.TabIs World.var? at hT
 rw [hg] at hT
 simp only [Option.bind_some] at hT
 split at hT
 ·rename_i cs t fr he
  cases hT
  refine ⟨⟨_,_,_,he,fun i hi=>?_⟩⟩
  have:i<debr.length:=hi
  simp [List.getD,this]
 ·cases hT
section
variable {ro:Ro}{cs:List Value}
end
end Go.Proofs.YtficlekgjbnniaaGreatDoor
end
