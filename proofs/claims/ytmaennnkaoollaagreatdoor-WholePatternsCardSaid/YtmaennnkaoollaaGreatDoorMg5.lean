/- Texts of a walk, one behind the other. -/
import Derived.Test.YtmaennnkaoollaaGreatDoorMg4
set_option linter.unusedVariables false
set_option linter.unusedSimpArgs false
set_option linter.unusedSectionVars false
set_option maxRecDepth 10000
section
namespace Go.Proofs.YtmaennnkaoollaaGreatDoor
open Go Go.E
structure zA9 where
 to:Nat
 set:SetD
 free:Bool
deriving DecidableEq
structure StD where
 rows:List (List zA9)
 full:Bool
deriving DecidableEq
def zAd (to:Nat):zA9:=⟨to,zeroS,true⟩
def setE (to:Nat) (s:SetD):zA9:=⟨to,s,false⟩
def zAa (st:StD):Nat × StD:=if st.rows.length=4096 then (0,{ st with full:=true }) else (st.rows.length,{ st with rows:=st.rows++[[]] })
def zAm (from':Nat) (x:zA9) (st:StD):StD:={ st with rows:=st.rows.set from' ((st.rows[from']?.getD [])++[x]) }
abbrev zBN:=Nat→StD→Nat × StD
def minN (f:zBN):Nat→Nat→StD→Bool × Nat × StD
 | 0,from',st=>(false,from',st)
 | k+1,from',st=>if st.full then (true,0,st) else minN f k (f from' st).1 (f from' st).2
def oneN (f:zBN) (to:Nat) (from':Nat) (st:StD):Nat × StD :=
 f (zAa (zAm from' (zAd to) st)).1 (zAm from' (zAd (zAa (zAm from' (zAd to) st)).1) (zAa (zAm from' (zAd to) st)).2)
def maxN (f:zBN) (to:Nat):Nat→Nat→StD→Bool × Nat × StD
 | 0,from',st=>(false,from',st)
 | k+1,from',st=>if st.full then (true,0,st) else maxN f to k (oneN f to from' st).1 (oneN f to from' st).2
def zCT (f:zBN) (to from':Nat) (st:StD):StD :=
 let r:=zAa st
 let p:=f r.1 (zAm r.1 (zAd to) (zAm from' (zAd r.1) r.2))
 zAm p.1 (zAd r.1) p.2
def zBs (f:zBN) (a b:Int) (from':Nat) (st:StD):Nat × StD :=
 match minN f a.toNat from' st with
 | (true,_,s1)=>(0,s1)
 | (false,f1,s1) =>
   if b<0 then ((zAa s1).1,zCT f (zAa s1).1 f1 (zAa s1).2)
   else match maxN f (zAa s1).1 (b-a).toNat f1 (zAa s1).2 with
    | (true,_,s2)=>(0,s2)
    | (false,f2,s2)=>((zAa s1).1,zAm f2 (zAd (zAa s1).1) s2)
mutual
def zAx:RgD→Nat→StD→Nat × StD
 | .mk k s l a b=>fun from' st=>if st.full then (0,st)
   else if k=2 then ((zAa st).1,zAm from' (setE (zAa st).1 s) (zAa st).2)
   else if k=3 then catN l from' st
   else if k=4 then ((zAa st).1,altN l from' (zAa st).1 (zAa st).2)
   else if k=5 then zBs (kidN l) a b from' st
   else (from',st)
def catN:List RgD→Nat→StD→Nat × StD
 | []=>fun from' st=>(from',st)
 | x::r=>fun from' st=>catN r (zAx x from' st).1 (zAx x from' st).2
def altN:List RgD→Nat→Nat→StD→StD
 | []=>fun _ _ st=>st
 | x::r=>fun from' to st =>
   let p:=zAx x (zAa st).1 (zAm from' (zAd (zAa st).1) (zAa st).2)
   altN r from' to (zAm p.1 (zAd to) p.2)
def kidN:List RgD→Nat→StD→Nat × StD
 | []=>fun from' st=>(from',st)
 | x::_=>fun from' st=>zAx x from' st
end
mutual
def cntN:RgD→Nat
 | .mk k _ l a b=>if k=2 then 1 else if k=3 then sumN l else if k=4 then 1+zOa l
   else if k=5 then a.toNat*kidC l+1+(if b<0 then 1+kidC l else (b-a).toNat*(1+kidC l)) else 0
def sumN:List RgD→Nat
 | []=>0
 | x::r=>cntN x+sumN r
def zOa:List RgD→Nat
 | []=>0
 | x::r=>(1+cntN x)+zOa r
def kidC:List RgD→Nat
 | []=>0
 | x::_=>cntN x
end
def zAG (st:StD):Nat:=(st.rows.map List.length).sum
structure StOk (st:StD):Prop where
 pos:1≤st.rows.length
 le:st.rows.length≤4096
 to:∀ row∈st.rows,∀ x∈row,x.to<st.rows.length
 full:st.full=true→st.rows.length=4096
theorem zC8 (st:StD):(zAa st).2.rows.length=if st.rows.length=4096 then 4096 else st.rows.length+1:=by
 unfold zAa;split
 ·rename_i h;exact h
 ·simp
theorem zBU {st:StD} (h:StOk st):(zAa st).1<(zAa st).2.rows.length:=by
 have:=h.pos
 unfold zAa;split
 ·show 0<_;exact this
 ·simp
theorem zKT (st:StD):st.rows.length≤(zAa st).2.rows.length:=by rw [zC8];split<;>omega
theorem StOk.state {st:StD} (h:StOk st):StOk (zAa st).2:=by
 have hl:=zC8 st
 have hp:=h.pos
 have hle:=h.le
 refine ⟨by rw [hl];split<;>omega,by rw [hl];split<;>omega,?_,?_⟩
 ·intro row hr x hx
  rw [hl]
  unfold zAa at hr
  split at hr
  ·rename_i e;rw [if_pos e];have:=h.to row hr x hx;omega
  ·rename_i e;rw [if_neg e]
   rcases List.mem_append.1 hr with hr|hr
   ·have:=h.to row hr x hx;omega
   ·rw [List.mem_singleton] at hr;subst hr;cases hx
 ·intro hf
  rw [hl]
  unfold zAa at hf
  split at hf
  ·rename_i e;rw [if_pos e]
  ·rename_i e;exact absurd (h.full hf) e
theorem zAj (f:Nat) (x:zA9) (st:StD):(zAm f x st).rows.length=st.rows.length:=by unfold zAm;simp
theorem zA4 (f:Nat) (x:zA9) (st:StD):(zAm f x st).full=st.full:=rfl
theorem StOk.edge {st:StD} (h:StOk st) {f:Nat}{x:zA9} (hx:x.to<st.rows.length):StOk (zAm f x st):=by
 refine ⟨by rw [zAj];exact h.pos,by rw [zAj];exact h.le,?_,by rw [zAj];exact h.full⟩
 intro row hr y hy
 rw [zAj]
 unfold zAm at hr
 rcases List.mem_or_eq_of_mem_set hr with hr|rfl
 ·exact h.to row hr y hy
 ·rcases List.mem_append.1 hy with hy|hy
  ·cases hg:st.rows[f]? with
   | none=>rw [hg] at hy;cases hy
   | some r0=>rw [hg] at hy;exact h.to r0 (List.mem_of_getElem? hg) y hy
  ·rw [List.mem_singleton] at hy;subst hy;exact hx
theorem zLK:∀ (l:List Nat) (i:Nat) (v:Nat),(l.set i v).sum+(l[i]?.getD 0)≤l.sum+v
 | [],i,v=>by simp
 | x::l,0,v=>by simp;omega
 | x::l,i+1,v=>by
   have:=zLK l i v
   rw [List.set_cons_succ,List.sum_cons,List.sum_cons,List.getElem?_cons_succ];omega
theorem zBa (f:Nat) (x:zA9) (st:StD):zAG (zAm f x st)≤zAG st+1:=by
 unfold zAG zAm
 rw [List.map_set,List.length_append,List.length_singleton]
 have h:=zLK (st.rows.map List.length) f ((st.rows[f]?.getD []).length+1)
 rw [List.getElem?_map] at h
 cases hg:st.rows[f]? with
 | none =>
   rw [hg] at h
   have hl:st.rows.length≤f:=List.getElem?_eq_none_iff.1 hg
   rw [List.set_eq_of_length_le (by simpa using hl)];omega
 | some r=>rw [hg] at h;simp only [Option.getD_some,Option.map_some] at h ⊢;omega
theorem zBi (st:StD):zAG (zAa st).2=zAG st:=by
 unfold zAa zAG;split
 ·rfl
 ·simp
theorem zMl {st:StD}{f:Nat}{r:List zA9} (h:st.rows[f]?=some r):r.length≤zAG st:=by
 unfold zAG
 have hm:r.length∈st.rows.map List.length:=List.mem_map_of_mem (List.mem_of_getElem? h)
 generalize st.rows.map List.length=l at hm
 induction l with
 | nil=>cases hm
 | cons x l ih =>
   rw [List.sum_cons]
   rcases List.mem_cons.1 hm with rfl|hm
   ·omega
   ·have:=ih hm;omega
structure Made (c s:Nat) (st:StD) (p:Nat × StD):Prop where
 ok:StOk p.2
 lt:p.1<p.2.rows.length
 grow:st.rows.length≤p.2.rows.length
 keep:st.full=true→p.2.full=true
 edges0:p.2.full=false→zAG p.2≤zAG st+4*(p.2.rows.length-st.rows.length)
 edges1:zAG p.2≤zAG st+4*(p.2.rows.length-st.rows.length)+4*s
 len:p.2.full=false→p.2.rows.length=st.rows.length+c
 room:st.full=false→st.rows.length+c≤4096→p.2.full=false
def MadeF (c s:Nat) (f:zBN):Prop:=∀ (from':Nat) (st:StD),StOk st→from'<st.rows.length→Made c s st (f from' st)∧(st.full=true→zAG (f from' st).2=zAG st)
theorem Made.le {c s s2:Nat}{st:StD}{p:Nat × StD} (h:Made c s st p) (hs:s≤s2):Made c s2 st p :=
 ⟨h.ok,h.lt,h.grow,h.keep,h.edges0,Nat.le_trans h.edges1 (by omega),h.len,h.room⟩
theorem Made.refl {st:StD}{f:Nat} (h:StOk st) (hf:f<st.rows.length):Made 0 0 st (f,st):=⟨h,hf,Nat.le_refl _,id,fun _=>Nat.le_add_right _ _,Nat.le_trans (Nat.le_add_right _ _) (Nat.le_add_right _ _),fun _=>rfl,fun h _=>h⟩
theorem Made.stay {c s f:Nat}{st:StD} (h:StOk st) (hf:f<st.rows.length) (hu:st.full=true):Made c s st (f,st) :=
 ⟨h,hf,Nat.le_refl _,id,fun _=>Nat.le_add_right _ _,Nat.le_trans (Nat.le_add_right _ _) (Nat.le_add_right _ _),(fun e=>absurd (hu.symm.trans e) (by decide)),(fun e=>absurd (hu.symm.trans e) (by decide))⟩
theorem zBA {st st2:StD} (h:StOk st) (h2:StOk st2) (hg:st.rows.length≤st2.rows.length) (hf:st.full=true):st2.rows.length=st.rows.length:=by
 have:=h.full hf;have:=h2.le;omega
theorem Made.then {c1 s1 c2 s2:Nat}{st:StD}{p q:Nat × StD} (h1:Made c1 s1 st p) (h2:Made c2 s2 p.2 q) (hq:p.2.full=true→zAG q.2=zAG p.2):Made (c1+c2) (s1+s2) st q:=by
 have g1:=h1.grow
 have g2:=h2.grow
 refine ⟨h2.ok,h2.lt,by omega,fun e=>h2.keep (h1.keep e),fun e=>?_,?_,fun e=>?_,fun e hr=>?_⟩
 ·have e1:p.2.full=false:=by cases h:p.2.full with
   | false=>rfl
   | true=>rw [h2.keep h] at e;cases e
  have:=h1.edges0 e1;have:=h2.edges0 e;omega
 ·cases h:p.2.full with
  | false=>have:=h1.edges0 h;have:=h2.edges1;omega
  | true=>have:=h1.edges1;have:=hq h;have:=zBA h1.ok h2.ok g2 h;omega
 ·have e1:p.2.full=false:=by cases h:p.2.full with
   | false=>rfl
   | true=>rw [h2.keep h] at e;cases e
  have:=h1.len e1;have:=h2.len e;omega
 ·have e1:=h1.room e (by omega)
  have:=h1.len e1
  exact h2.room e1 (by omega)
theorem MadeF.then {c1 s1 c2 s2:Nat}{f g:zBN} (h1:MadeF c1 s1 f) (h2:MadeF c2 s2 g):MadeF (c1+c2) (s1+s2) (fun f0 st=>g (f f0 st).1 (f f0 st).2):=fun f0 st ho hf=>by
 obtain ⟨a1,b1⟩:=h1 f0 st ho hf
 obtain ⟨a2,b2⟩:=h2 (f f0 st).1 (f f0 st).2 a1.ok a1.lt
 exact ⟨a1.then a2 b2,fun e=>by rw [b2 (a1.keep e),b1 e]⟩
theorem zC9 (st:StD):(zAa st).2.full=if st.rows.length=4096 then true else st.full:=by unfold zAa;split<;>rfl
theorem zAu {st:StD} (h:StOk st):Made 1 0 st (zAa st):=by
 have hl:=zC8 st
 have hf:=zC9 st
 refine ⟨h.state,zBU h,zKT st,fun e=>by rw [hf,e];split<;>rfl,fun _=>by rw [zBi];omega,by rw [zBi];omega,fun e=>?_,fun e hr=>?_⟩
 ·rw [hf] at e;split at e
  ·cases e
  ·rename_i h1;rw [hl,if_neg h1]
 ·rw [hf,if_neg (by omega)];exact e
theorem zE9 {st:StD} (h:(zAa st).2.full=true) (ho:StOk st):st.rows.length=4096:=by
 rw [zC9] at h
 split at h
 ·assumption
 ·exact ho.full h
theorem MadeF.min {c s:Nat}{f:zBN} (h:MadeF c s f):∀ (k:Nat) (f0:Nat) (st:StD),StOk st→f0<st.rows.length→Made (k*c) s st (minN f k f0 st).2∧((minN f k f0 st).1=true→(minN f k f0 st).2.2.full=true)∧(st.full=true→zAG (minN f k f0 st).2.2=zAG st)
 | 0,f0,st,ho,hf=>⟨by rw [minN,Nat.zero_mul];exact (Made.refl ho hf).le (Nat.zero_le _),(fun e=>by cases e),fun _=>rfl⟩
 | k+1,f0,st,ho,hf=>by
   rw [minN]
   cases hfull:st.full with
   | true =>
     rw [if_pos rfl]
     have hp:=ho.pos
     exact ⟨Made.stay ho (by omega) hfull,fun _=>hfull,fun _=>rfl⟩
   | false =>
     rw [if_neg (by decide)]
     obtain ⟨a1,b1⟩:=h f0 st ho hf
     obtain ⟨a2,b2,b3⟩:=MadeF.min h k (f f0 st).1 (f f0 st).2 a1.ok a1.lt
     have g1:=a1.grow
     have g2:=a2.grow
     refine ⟨⟨a2.ok,a2.lt,by omega,fun e=>a2.keep (a1.keep e),fun e=>?_,?_,fun e=>?_,fun e hr=>?_⟩,b2,(fun e=>by cases e)⟩
     ·have e1:(f f0 st).2.full=false:=by cases h:(f f0 st).2.full with
       | false=>rfl
       | true=>rw [a2.keep h] at e;cases e
      have:=a1.edges0 e1;have:=a2.edges0 e;omega
     ·cases h:(f f0 st).2.full with
      | false=>have:=a1.edges0 h;have:=a2.edges1;omega
      | true=>have:=a1.edges1;have:=b3 h;have:=zBA a1.ok a2.ok g2 h;omega
     ·have e1:(f f0 st).2.full=false:=by cases h:(f f0 st).2.full with
       | false=>rfl
       | true=>rw [a2.keep h] at e;cases e
      have:=a1.len e1;have:=a2.len e
      rw [Nat.succ_mul];omega
     ·rw [Nat.succ_mul] at hr
      have e1:=a1.room e (by omega)
      have:=a1.len e1
      exact a2.room e1 (by omega)
theorem MadeF.one {c s:Nat}{f:zBN} (h:MadeF c s f) {to f0:Nat}{st:StD} (ho:StOk st) (hf:f0<st.rows.length) (ht:to<st.rows.length):Made (1+c) (s+1) st (oneN f to f0 st):=by
 have o1:StOk (zAm f0 (zAd to) st):=ho.edge ht
 have m1:=zAu o1
 have hsl:=zBU o1
 have hE1:=zBa f0 (zAd to) st
 have hL1:=zAj f0 (zAd to) st
 have hF1:=zA4 f0 (zAd to) st
 unfold oneN
 generalize zAm f0 (zAd to) st=st1 at *
 have hE2:=zBi st1
 have hsn:=zE9 (st:=st1)
 have hL2:=zC8 st1
 have hF2:=zC9 st1
 generalize zAa st1=r at *
 have hE3:=zBa f0 (zAd r.1) r.2
 have hL3:=zAj f0 (zAd r.1) r.2
 have hF3:=zA4 f0 (zAd r.1) r.2
 have o3:StOk (zAm f0 (zAd r.1) r.2):=m1.ok.edge hsl
 generalize zAm f0 (zAd r.1) r.2=st3 at *
 obtain ⟨a,b⟩:=h r.1 st3 o3 (by rw [hL3];exact hsl)
 have hlen1:=m1.len
 have hg1:=m1.grow
 have hg:=a.grow
 have hkeep:st.full=true→st3.full=true:=fun e=>by rw [hF3];exact m1.keep (by rw [hF1];exact e)
 have hnf:(f r.1 st3).2.full=false→st3.full=false:=fun e=>by cases hh:st3.full with
  | false=>rfl
  | true=>rw [a.keep hh] at e;cases e
 refine ⟨a.ok,a.lt,by omega,fun e=>a.keep (hkeep e),fun e=>?_,?_,fun e=>?_,fun e hr=>?_⟩
 ·have e1:=hnf e
  have:=a.edges0 e
  have:=hlen1 (by rw [←hF3];exact e1)
  omega
 ·cases h3:st3.full with
  | true=>have:=b h3;have:=zBA o3 a.ok hg h3;omega
  | false =>
    have:=a.edges1
    have:=hlen1 (by rw [←hF3];exact h3)
    omega
 ·have e1:=hnf e
  have:=a.len e
  have:=hlen1 (by rw [←hF3];exact e1)
  omega
 ·have e2:=m1.room (by rw [hF1];exact e) (by omega)
  have:=hlen1 e2
  exact a.room (by rw [hF3];exact e2) (by omega)
theorem MadeF.max {c s:Nat}{f:zBN} (h:MadeF c s f) (to:Nat):∀ (k:Nat) (f0:Nat) (st:StD),StOk st→f0<st.rows.length→to<st.rows.length→Made (k*(1+c)) (s+1) st (maxN f to k f0 st).2∧((maxN f to k f0 st).1=true→(maxN f to k f0 st).2.2.full=true)∧(st.full=true→zAG (maxN f to k f0 st).2.2=zAG st)
 | 0,f0,st,ho,hf,ht=>⟨by rw [maxN,Nat.zero_mul];exact (Made.refl ho hf).le (Nat.zero_le _),(fun e=>by cases e),fun _=>rfl⟩
 | k+1,f0,st,ho,hf,ht=>by
   rw [maxN]
   cases hfull:st.full with
   | true =>
     rw [if_pos rfl]
     have hp:=ho.pos
     exact ⟨Made.stay ho (by omega) hfull,fun _=>hfull,fun _=>rfl⟩
   | false =>
     rw [if_neg (by decide)]
     have a1:=h.one ho hf ht
     generalize oneN f to f0 st=p at *
     have g1:=a1.grow
     obtain ⟨a2,b2,b3⟩:=MadeF.max h to k p.1 p.2 a1.ok a1.lt (by omega)
     have g2:=a2.grow
     refine ⟨⟨a2.ok,a2.lt,by omega,fun e=>a2.keep (a1.keep e),fun e=>?_,?_,fun e=>?_,fun e hr=>?_⟩,b2,(fun e=>by cases e)⟩
     ·have e1:p.2.full=false:=by cases h:p.2.full with
       | false=>rfl
       | true=>rw [a2.keep h] at e;cases e
      have:=a1.edges0 e1;have:=a2.edges0 e;omega
     ·cases h:p.2.full with
      | false=>have:=a1.edges0 h;have:=a2.edges1;omega
      | true=>have:=a1.edges1;have:=b3 h;have:=zBA a1.ok a2.ok g2 h;omega
     ·have e1:p.2.full=false:=by cases h:p.2.full with
       | false=>rfl
       | true=>rw [a2.keep h] at e;cases e
      have:=a1.len e1;have:=a2.len e
      rw [Nat.succ_mul];omega
     ·rw [Nat.succ_mul] at hr
      have e1:=a1.room e (by omega)
      have:=a1.len e1
      exact a2.room e1 (by omega)
theorem Made.full {c c2 s f f1:Nat}{st s1:StD} (h:Made c s st (f1,s1)) (hu:s1.full=true) (hf:f<s1.rows.length) (hc:c≤c2):Made c2 s st (f,s1) :=
 ⟨h.ok,hf,h.grow,h.keep,h.edges0,h.edges1,(fun e=>absurd (hu.symm.trans e) (by decide)),fun e hr=>h.room e (by omega)⟩
theorem zIn {c s:Nat}{f:zBN} (h:MadeF c s f) {to f0:Nat}{st:StD} (ho:StOk st) (hf:f0<st.rows.length) (ht:to<st.rows.length) :
  StOk (zCT f to f0 st)∧st.rows.length≤(zCT f to f0 st).rows.length∧(st.full=true→(zCT f to f0 st).full=true∧zAG (zCT f to f0 st)≤zAG st+3) ∧
  ((zCT f to f0 st).full=false→zAG (zCT f to f0 st)+1≤zAG st+4*((zCT f to f0 st).rows.length-st.rows.length)∧(zCT f to f0 st).rows.length=st.rows.length+(1+c)) ∧
  zAG (zCT f to f0 st)≤zAG st+4*((zCT f to f0 st).rows.length-st.rows.length)+4*s+3∧(st.full=false→st.rows.length+(1+c)≤4096→(zCT f to f0 st).full=false):=by
 have m1:=zAu ho
 have hsl:=zBU ho
 have hE2:=zBi st
 have hsn:=zE9 (st:=st)
 unfold zCT
 dsimp only
 generalize zAa st=r at *
 have g1:=m1.grow
 have hE3:=zBa f0 (zAd r.1) r.2
 have hL3:=zAj f0 (zAd r.1) r.2
 have hF3:=zA4 f0 (zAd r.1) r.2
 have o3:StOk (zAm f0 (zAd r.1) r.2):=m1.ok.edge hsl
 generalize zAm f0 (zAd r.1) r.2=s3 at *
 have hE4:=zBa r.1 (zAd to) s3
 have hL4:=zAj r.1 (zAd to) s3
 have hF4:=zA4 r.1 (zAd to) s3
 have o4:StOk (zAm r.1 (zAd to) s3):=o3.edge (show to<s3.rows.length by omega)
 generalize zAm r.1 (zAd to) s3=s4 at *
 obtain ⟨a,b⟩:=h r.1 s4 o4 (by omega)
 have g2:=a.grow
 generalize f r.1 s4=p at *
 have hE5:=zBa p.1 (zAd r.1) p.2
 have hL5:=zAj p.1 (zAd r.1) p.2
 have hF5:=zA4 p.1 (zAd r.1) p.2
 have o5:StOk (zAm p.1 (zAd r.1) p.2):=a.ok.edge (show r.1<p.2.rows.length by omega)
 generalize zAm p.1 (zAd r.1) p.2=s5 at *
 have hnf:p.2.full=false→s4.full=false:=fun e=>by cases hh:s4.full with
  | false=>rfl
  | true=>rw [a.keep hh] at e;cases e
 refine ⟨o5,by omega,fun e=>?_,fun e=>?_,?_,fun e hr=>?_⟩
 ·have e4:s4.full=true:=by rw [hF4,hF3];exact m1.keep e
  refine ⟨by rw [hF5];exact a.keep e4,?_⟩
  have:=b e4;omega
 ·have e5:p.2.full=false:=by rw [←hF5];exact e
  have e4:=hnf e5
  have:=a.edges0 e5
  have:=a.len e5
  have:=m1.len (by rw [←hF3,←hF4];exact e4)
  omega
 ·cases e4:s4.full with
  | true=>have:=b e4;have:=zBA o4 a.ok g2 e4;omega
  | false =>
    have:=a.edges1
    have:=m1.len (by rw [←hF3,←hF4];exact e4)
    omega
 ·have e2:=m1.room e (by omega)
  have:=m1.len e2
  rw [hF5]
  exact a.room (by rw [hF4,hF3];exact e2) (by omega)
theorem zJh {c s:Nat}{f:zBN} (h:MadeF c s f) (a b:Int) {f0:Nat}{st:StD} (ho:StOk st) (hf:f0<st.rows.length):Made (a.toNat*c+1+(if b<0 then 1+c else (b-a).toNat*(1+c))) (s+1) st (zBs f a b f0 st):=by
 unfold zBs
 obtain ⟨m1,m2,m3⟩:=h.min a.toNat f0 st ho hf
 generalize minN f a.toNat f0 st=M at *
 obtain ⟨stop,f1,s1⟩:=M
 dsimp only at m1 m2 m3
 have hp1:=m1.ok.pos
 have g1:=m1.grow
 cases stop with
 | true=>exact (m1.full (m2 rfl) (show 0<s1.rows.length from hp1) (by omega)).le (by omega)
 | false =>
   have t1:=zAu m1.ok
   have hE1:=zBi s1
   dsimp only at t1 ⊢
   have o1:=m1.ok
   have hlt1:=m1.lt
   dsimp only at o1 hlt1 g1 hp1
   have t1:Made 1 0 s1 (zAa s1):=zAu o1
   have hsn:=zE9 (st:=s1)
   generalize zAa s1=t at *
   have g2:=t1.grow
   have hlt2:=t1.lt
   have hkm:st.full=true→s1.full=true:=m1.keep
   by_cases hb:b<0
   ·rw [if_pos hb,if_pos hb]
    obtain ⟨l1,l2,l3,l4,l5,l6⟩:=zIn h t1.ok (f0:=f1) (to:=t.1) (by omega) hlt2
    generalize zCT f t.1 f1 t.2=s2 at *
    have hk2:s2.full=false→t.2.full=false:=fun e=>by cases hh:t.2.full with
     | false=>rfl
     | true=>rw [(l3 hh).1] at e;cases e
    have hk1:t.2.full=false→s1.full=false:=fun e=>by cases hh:s1.full with
     | false=>rfl
     | true=>rw [t1.keep hh] at e;cases e
    refine ⟨l1,by show t.1<s2.rows.length;omega,by show st.rows.length≤s2.rows.length;omega,fun e=>(l3 (t1.keep (hkm e))).1,fun e=>?_,?_,fun e=>?_,fun e hr=>?_⟩
    ·have:=l4 e;have:=m1.edges0 (hk1 (hk2 e));have:=t1.len (hk2 e)
     dsimp only at *;omega
    ·cases e1:s1.full with
     | true =>
       have:=(l3 (t1.keep e1)).2;have:=m1.edges1;have:=zBA o1 t1.ok g2 e1;have:=zBA t1.ok l1 l2 (t1.keep e1)
       dsimp only at *;omega
     | false =>
       have:=m1.edges0 e1
       cases e2:t.2.full with
       | true=>have:=(l3 e2).2;dsimp only at *;omega
       | false=>have:=t1.len e2;dsimp only at *;omega
    ·have:=l4 e;have:=m1.len (hk1 (hk2 e));have:=t1.len (hk2 e)
     dsimp only at *;omega
    ·have e1:=m1.room e (by omega)
     have:=m1.len e1
     dsimp only at *
     have e2:=t1.room e1 (by omega)
     have:=t1.len e2
     exact l6 e2 (by omega)
   ·rw [if_neg hb,if_neg hb]
    obtain ⟨x1,x2,x3⟩:=h.max t.1 (b-a).toNat f1 t.2 t1.ok (by omega) hlt2
    generalize maxN f t.1 (b-a).toNat f1 t.2=M2 at *
    obtain ⟨stop,f2,s2⟩:=M2
    dsimp only at x1 x2 x3
    have o2:StOk s2:=x1.ok
    have g3:t.2.rows.length≤s2.rows.length:=x1.grow
    have hlt3:f2<s2.rows.length:=x1.lt
    have hk1:t.2.full=false→s1.full=false:=fun e=>by cases hh:s1.full with
     | false=>rfl
     | true=>rw [t1.keep hh] at e;cases e
    have hk2:s2.full=false→t.2.full=false:=fun e=>by cases hh:t.2.full with
     | false=>rfl
     | true=>have h2:s2.full=true:=x1.keep hh;rw [h2] at e;cases e
    -- what holds of s2,one edge more or none
    have key:∀ (v:Nat) (s3:StD),StOk s3→v<s3.rows.length→s3.rows.length=s2.rows.length→s3.full=s2.full→zAG s3≤zAG s2+1→Made (a.toNat*c+1+(b-a).toNat*(1+c)) (s+1) st (v,s3):=by
     intro v s3 o3 hv hl3 hf3 he3
     refine ⟨o3,hv,by show st.rows.length≤s3.rows.length;omega,fun e=>by show s3.full=true;rw [hf3];exact x1.keep (t1.keep (hkm e)),fun e=>?_,?_,fun e=>?_,fun e hr=>?_⟩
     ·have e2:s2.full=false:=hf3.symm.trans e
      have:=x1.edges0 e2;have:=t1.len (hk2 e2);have:=m1.edges0 (hk1 (hk2 e2))
      dsimp only at *;omega
     ·cases e1:s1.full with
      | true =>
        have:=x3 (t1.keep e1);have:=m1.edges1;have:=zBA o1 t1.ok g2 e1;have:=zBA t1.ok o2 g3 (t1.keep e1)
        dsimp only at *;omega
      | false =>
        have:=m1.edges0 e1
        cases e2:t.2.full with
        | true=>have:=x3 e2;dsimp only at *;omega
        | false=>have:=t1.len e2;have:=x1.edges1;dsimp only at *;omega
     ·have e2:s2.full=false:=hf3.symm.trans e
      have:=x1.len e2;have:=t1.len (hk2 e2);have:=m1.len (hk1 (hk2 e2))
      dsimp only at *;omega
     ·have e1:=m1.room e (by omega)
      have:=m1.len e1
      dsimp only at *
      have e2:=t1.room e1 (by omega)
      have:=t1.len e2
      rw [hf3]
      exact x1.room e2 (by omega)
    cases stop with
    | true=>exact key 0 s2 o2 (by omega) rfl rfl (by omega)
    | false=>exact key t.1 (zAm f2 (zAd t.1) s2) (o2.edge (show t.1<s2.rows.length by omega)) (by rw [zAj];omega) (zAj _ _ _) rfl (zBa _ _ _)
theorem zEr:∀ (l:List RgD),(∀ x∈l,MadeF (cntN x) (zAn x) (zAx x))→∀ (f0 to:Nat) (st:StD),StOk st→f0<st.rows.length→to<st.rows.length→Made (zOa l) (zAr l) st (to,altN l f0 to st)
 | [],_,f0,to,st,ho,hf,ht=>by rw [zOa,zAr,altN];exact Made.refl ho ht
 | x::l,h,f0,to,st,ho,hf,ht=>by
   rw [zOa,zAr,altN]
   dsimp only
   have hx:=h x (by simp)
   have hsz:=zHE x
   have m1:=zAu ho
   have hsl:=zBU ho
   have hE2:=zBi st
   generalize zAa st=r at *
   have g1:=m1.grow
   have hE3:=zBa f0 (zAd r.1) r.2
   have hL3:=zAj f0 (zAd r.1) r.2
   have hF3:=zA4 f0 (zAd r.1) r.2
   have o3:StOk (zAm f0 (zAd r.1) r.2):=m1.ok.edge hsl
   generalize zAm f0 (zAd r.1) r.2=s3 at *
   obtain ⟨a,b⟩:=hx r.1 s3 o3 (by omega)
   have g2:=a.grow
   generalize zAx x r.1 s3=p at *
   have hE5:=zBa p.1 (zAd to) p.2
   have hL5:=zAj p.1 (zAd to) p.2
   have hF5:=zA4 p.1 (zAd to) p.2
   have o5:StOk (zAm p.1 (zAd to) p.2):=a.ok.edge (show to<p.2.rows.length by omega)
   generalize zAm p.1 (zAd to) p.2=s5 at *
   have hnf:p.2.full=false→s3.full=false:=fun e=>by cases hh:s3.full with
    | false=>rfl
    | true=>rw [a.keep hh] at e;cases e
   have k1:Made (1+cntN x) (zAn x) st (to,s5):=by
    refine ⟨o5,by show to<s5.rows.length;omega,by show st.rows.length≤s5.rows.length;omega,fun e=>by show s5.full=true;rw [hF5];exact a.keep (by rw [hF3];exact m1.keep e),fun e=>?_,?_,fun e=>?_,fun e hr=>?_⟩
    ·have e5:p.2.full=false:=hF5.symm.trans e
     have:=a.edges0 e5;have:=m1.len (by rw [←hF3];exact hnf e5)
     dsimp only at *;omega
    ·cases e3:s3.full with
     | true=>have:=b e3;have:=zBA o3 a.ok g2 e3;dsimp only at *;omega
     | false=>have:=a.edges1;have:=m1.len (by rw [←hF3];exact e3);dsimp only at *;omega
    ·have e5:p.2.full=false:=hF5.symm.trans e
     have:=a.len e5;have:=m1.len (by rw [←hF3];exact hnf e5)
     dsimp only at *;omega
    ·have e2:=m1.room e (by omega)
     have:=m1.len e2
     show s5.full=false
     rw [hF5]
     exact a.room (by rw [hF3];exact e2) (by omega)
   have k2:=zEr l (fun y hy=>h y (by simp [hy])) f0 to s5 o5 (by omega) (by omega)
   have g5:=k1.grow
   have g6:=k2.grow
   refine ⟨k2.ok,k2.lt,Nat.le_trans g5 g6,fun e=>k2.keep (k1.keep e),fun e=>?_,?_,fun e=>?_,fun e hr=>?_⟩
   ·have e1:s5.full=false:=by cases hh:s5.full with
     | false=>rfl
     | true=>have h2:=k2.keep hh;rw [h2] at e;cases e
    have:=k1.edges0 e1;have:=k2.edges0 e;dsimp only at *;omega
   ·have:=k1.edges1;have:=k2.edges1;dsimp only at *;omega
   ·have e1:s5.full=false:=by cases hh:s5.full with
     | false=>rfl
     | true=>have h2:=k2.keep hh;rw [h2] at e;cases e
    have:=k1.len e1;have:=k2.len e;dsimp only at *;omega
   ·have e1:=k1.room e (by omega)
    have:=k1.len e1
    exact k2.room e1 (by dsimp only at *;omega)
theorem zHe:∀ (l:List RgD),(∀ x∈l,MadeF (cntN x) (zAn x) (zAx x))→MadeF (sumN l) (zAr l) (catN l)
 | [],_=>fun f0 st ho hf=>by rw [sumN,zAr,catN];exact ⟨Made.refl ho hf,fun _=>rfl⟩
 | x::l,h=>fun f0 st ho hf=>by
   rw [sumN,zAr,catN]
   exact (MadeF.then (h x (by simp)) (zHe l (fun y hy=>h y (by simp [hy])))) f0 st ho hf
theorem zB0:∀ {l:List RgD},zBp l=0→∀ x∈l,zAJ x=0
 | [],_,x,hx=>by cases hx
 | y::l,h,x,hx=>by
   obtain ⟨h1,h2⟩:=zAB h
   rcases List.mem_cons.1 hx with rfl|hx
   ·exact h1
   ·exact zB0 h2 x hx
theorem zB8:∀ n:RgD,zAJ n=0→MadeF (cntN n) (zAn n) (zAx n):=RgD.ind fun k s l a b ih hw f0 st ho hf=>by
 obtain ⟨hform,hk⟩:=zAM hw
 have hk:zBp l=0:=hk
 have hall:∀ x∈l,MadeF (cntN x) (zAn x) (zAx x):=fun x hx=>ih x hx (zB0 hk x hx)
 rw [cntN,zAn,zAx]
 dsimp only
 cases hfull:st.full with
 | true =>
   rw [if_pos rfl]
   have:=ho.pos
   exact ⟨Made.stay ho (by omega) hfull,fun _=>rfl⟩
 | false =>
   rw [if_neg (show ¬(false=true) by decide)]
   refine ⟨?_,fun e=>by cases e⟩
   have hF:=zBm hform
   by_cases h2:k=2
   ·rw [if_pos h2,if_pos h2]
    have m1:=zAu ho
    have hsl:=zBU ho
    have hE2:=zBi st
    generalize zAa st=r at *
    have g1:=m1.grow
    have hE3:=zBa f0 (setE r.1 s) r.2
    have hL3:=zAj f0 (setE r.1 s) r.2
    have hF3:=zA4 f0 (setE r.1 s) r.2
    have o3:StOk (zAm f0 (setE r.1 s) r.2):=m1.ok.edge hsl
    generalize zAm f0 (setE r.1 s) r.2=s3 at *
    refine ⟨o3,by show r.1<s3.rows.length;omega,by show st.rows.length≤s3.rows.length;omega,fun e=>by show s3.full=true;rw [hF3];exact m1.keep e,fun e=>?_,?_,fun e=>?_,fun e hr=>?_⟩
    ·have:=m1.len (hF3.symm.trans e);dsimp only at *;omega
    ·dsimp only at *;omega
    ·have:=m1.len (hF3.symm.trans e);dsimp only at *;omega
    ·show s3.full=false
     rw [hF3];exact m1.room e hr
   rw [if_neg h2,if_neg h2]
   by_cases h3:k=3
   ·rw [if_pos h3,if_pos h3]
    exact ((zHe l hall) f0 st ho hf).1.le (by omega)
   rw [if_neg h3,if_neg h3]
   by_cases h4:k=4
   ·rw [if_pos h4,if_pos h4]
    have m1:=zAu ho
    have hsl:=zBU ho
    generalize zAa st=r at *
    have g1:=m1.grow
    have m2:=zEr l hall f0 r.1 r.2 m1.ok (by omega) hsl
    have g2:=m2.grow
    have:=Made.then (s1:=0) (p:=r) m1 m2
    refine ⟨m2.ok,m2.lt,Nat.le_trans g1 g2,fun e=>m2.keep (m1.keep e),fun e=>?_,?_,fun e=>?_,fun e hr=>?_⟩
    ·have e1:r.2.full=false:=by cases hh:r.2.full with
      | false=>rfl
      | true=>have h2:=m2.keep hh;rw [h2] at e;cases e
     have:=m1.edges0 e1;have:=m2.edges0 e;dsimp only at *;omega
    ·have:=m1.edges1;have:=m2.edges1;dsimp only at *;omega
    ·have e1:r.2.full=false:=by cases hh:r.2.full with
      | false=>rfl
      | true=>have h2:=m2.keep hh;rw [h2] at e;cases e
     have:=m1.len e1;have:=m2.len e;dsimp only at *;omega
    ·have e1:=m1.room e (by omega)
     have:=m1.len e1
     exact m2.room e1 (by omega)
   rw [if_neg h4,if_neg h4]
   by_cases h5:k=5
   ·rw [if_pos h5,if_pos h5]
    cases hF with
    | none=>omega
    | one=>omega
    | cat=>omega
    | alt=>omega
    | rep s x a b h =>
      rw [zAr,zAr,kidC]
      have hk:kidN [x]=zAx x:=by rw [kidN]
      rw [hk]
      exact zJh (hall x (by simp)) a b ho hf
   ·rw [if_neg h5,if_neg h5]
    exact (Made.refl ho hf).le (Nat.zero_le _)
abbrev zAy:=List (List zA9)
def zCK (rows:zAy) (s:Nat):List Nat:=((rows[s]?.getD []).filter (·.free)).map (·.to)
inductive Rch (rows:zAy) (list:List Int):Nat→Prop
 | base {j:Nat} (h:(j:Int)∈list) (hj:j<rows.length):Rch rows list j
 | step {i j:Nat} (h:Rch rows list i) (hj:j∈zCK rows i):Rch rows list j
def getB (m:List Bool) (i:Nat):Bool:=m[i]?.getD false
def zEh (rows:zAy) (m:List Bool):List Bool:=(List.range rows.length).map fun j=>getB m j||(List.range rows.length).any fun i=>getB m i&&(zCK rows i).contains j
def zFY (rows:zAy):Nat→List Bool→List Bool
 | 0,m=>m
 | k+1,m=>zFY rows k (zEh rows m)
def zFP (rows:zAy) (list:List Int):List Bool:=(List.range rows.length).map fun j:Nat=>list.contains (Int.ofNat j)
def zBQ (rows:zAy) (list:List Int):List Nat :=
 let m:=zFY rows rows.length (zFP rows list)
 (List.range rows.length).filter fun j=>getB m j
theorem zD9 {n:Nat} (p:Nat→Bool) (j:Nat):getB ((List.range n).map p) j=(decide (j<n)&&p j):=by
 unfold getB
 rw [List.getElem?_map]
 by_cases h:j<n
 ·rw [List.getElem?_range h];simp [h]
 ·rw [List.getElem?_eq_none (by simpa using h)];simp [h]
def zDX (rows:zAy) (m:List Bool):Prop:=∀ i j:Nat,getB m i=true→j∈zCK rows i→getB m j=true
def ToIn (rows:zAy):Prop:=∀ row∈rows,∀ x∈row,x.to<rows.length
theorem zFL {rows:zAy} (h:ToIn rows) {i j:Nat} (hj:j∈zCK rows i):j<rows.length:=by
 unfold zCK at hj
 obtain ⟨x,hx,rfl⟩:=List.mem_map.1 hj
 have hx:=(List.mem_filter.1 hx).1
 cases hr:rows[i]? with
 | none=>rw [hr] at hx;cases hx
 | some row=>rw [hr] at hx;exact h row (List.mem_of_getElem? hr) x hx
theorem zLv {rows:zAy}{i j:Nat} (hj:j∈zCK rows i):i<rows.length:=by
 apply Classical.byContradiction
 intro hn
 unfold zCK at hj
 rw [List.getElem?_eq_none (by omega)] at hj
 simp at hj
theorem zEg {rows:zAy} (h:ToIn rows) (m:List Bool) (j:Nat):getB (zEh rows m) j=true↔(j<rows.length∧getB m j=true)∨∃ i,getB m i=true∧j∈zCK rows i:=by
 unfold zEh
 rw [zD9,Bool.and_eq_true,decide_eq_true_iff,Bool.or_eq_true,List.any_eq_true]
 constructor
 ·rintro ⟨h1,h2|⟨i,_,h2⟩⟩
  ·exact .inl ⟨h1,h2⟩
  ·rw [Bool.and_eq_true,List.contains_iff_mem] at h2
   exact .inr ⟨i,h2.1,h2.2⟩
 ·rintro (⟨h1,h2⟩|⟨i,h2,h3⟩)
  ·exact ⟨h1,.inl h2⟩
  ·exact ⟨zFL h h3,.inr ⟨i,List.mem_range.2 (zLv h3),by rw [Bool.and_eq_true,List.contains_iff_mem];exact ⟨h2,h3⟩⟩⟩
def cntB (m:List Bool):Nat:=m.count true
theorem cnt_le:∀ (a b:List Bool),a.length=b.length→(∀ i,getB a i=true→getB b i=true)→cntB a≤cntB b
 | [],b,_,_=>Nat.zero_le _
 | x::a,[],h,_=>by simp at h
 | x::a,y::b,h,h2=>by
   have ih:=cnt_le a b (by simpa using h) (fun i hi=>h2 (i+1) hi)
   have h0:=h2 0
   unfold cntB at *
   rw [List.count_cons,List.count_cons]
   cases x with
   | false=>simp;split<;>omega
   | true=>have:=h0 rfl;have hy:y=true:=this;subst hy;simp;omega
theorem zNH:∀ (a b:List Bool),a.length=b.length→(∀ i,getB a i=true→getB b i=true)→(∃ i,getB a i=false∧getB b i=true)→cntB a+1≤cntB b
 | [],b,h,_,⟨i,_,h3⟩=>by
   have:b=[]:=List.eq_nil_of_length_eq_zero h.symm
   subst this;simp [getB] at h3
 | x::a,[],h,_,_=>by simp at h
 | x::a,y::b,h,h2,⟨i,h3,h4⟩=>by
   have hl:a.length=b.length:=by simpa using h
   have hle:=cnt_le a b hl (fun i hi=>h2 (i+1) hi)
   cases i with
   | zero =>
     have hx:x=false:=h3
     have hy:y=true:=h4
     subst hx;subst hy
     unfold cntB at *
     rw [List.count_cons,List.count_cons];simp;omega
   | succ i =>
     have ih:=zNH a b hl (fun i hi=>h2 (i+1) hi) ⟨i,h3,h4⟩
     have h0:=h2 0
     unfold cntB at *
     rw [List.count_cons,List.count_cons]
     cases x with
     | false=>simp;split<;>omega
     | true=>have hy:y=true:=h0 rfl;subst hy;simp;omega
theorem zNG (m:List Bool) (h:m.length≤cntB m):∀ i,i<m.length→getB m i=true:=by
 intro i hi
 unfold cntB at h
 have h2:m.count true=m.length:=Nat.le_antisymm List.count_le_length h
 have h3:=List.count_eq_length.1 h2
 unfold getB
 rw [List.getElem?_eq_getElem hi,Option.getD_some]
 exact (h3 _ (List.getElem_mem hi)).symm
theorem zF0 (rows:zAy) (m:List Bool):(zEh rows m).length=rows.length:=by simp [zEh]
theorem zDL {rows:zAy} (h:ToIn rows) {m:List Bool} (hl:m.length=rows.length) (i:Nat) (hi:getB m i=true):getB (zEh rows m) i=true:=by
 refine (zEg h m i).2 (.inl ⟨?_,hi⟩)
 apply Classical.byContradiction
 intro hn
 unfold getB at hi
 rw [List.getElem?_eq_none (by omega)] at hi
 cases hi
theorem zLf {rows:zAy} (h:ToIn rows) {m:List Bool} (hl:m.length=rows.length):zDX rows m∨cntB m+1≤cntB (zEh rows m):=by
 by_cases hc:zDX rows m
 ·exact .inl hc
 ·refine .inr ?_
  unfold zDX at hc
  have hex:∃ i j,getB m i=true∧j∈zCK rows i∧getB m j=false:=by
   apply Classical.byContradiction
   intro hn
   exact hc fun i j h1 h2=>by
    cases h3:getB m j with
    | true=>rfl
    | false=>exact absurd ⟨i,j,h1,h2,h3⟩ hn
  obtain ⟨i,j,h1,h2,h3⟩:=hex
  exact zNH m _ (by rw [hl,zF0]) (zDL h hl) ⟨j,h3,(zEg h m j).2 (.inr ⟨i,h1,h2⟩)⟩
theorem zEX {rows:zAy} (h:ToIn rows) {m:List Bool} (hl:m.length=rows.length) (hc:zDX rows m):zDX rows (zEh rows m):=by
 intro i j hi hj
 have hm:getB m i=true:=by
  rcases (zEg h m i).1 hi with h1|⟨i0,h1,h2⟩
  ·exact h1.2
  ·exact hc i0 i h1 h2
 exact zDL h hl j (hc i j hm hj)
theorem zEY {rows:zAy} (h:ToIn rows):∀ (k:Nat) (m:List Bool),m.length=rows.length→(zDX rows m∨rows.length≤k+cntB m)→zDX rows (zFY rows k m)
 | 0,m,hl,hc=>by
   rcases hc with hc|hc
   ·exact hc
   ·intro i j hi hj
    exact zNG m (by omega) j (by rw [hl];exact zFL h hj)
 | k+1,m,hl,hc=>by
   rw [zFY]
   refine zEY h k _ (zF0 rows m) ?_
   rcases hc with hc|hc
   ·exact .inl (zEX h hl hc)
   ·rcases zLf h hl with h1|h1
    ·exact .inl (zEX h hl h1)
    ·exact .inr (by omega)
theorem zFX {rows:zAy} (h:ToIn rows):∀ (k:Nat) (m:List Bool),m.length=rows.length→∀ i,getB m i=true→getB (zFY rows k m) i=true
 | 0,m,hl,i,hi=>hi
 | k+1,m,hl,i,hi=>zFX h k _ (zF0 rows m) i (zDL h hl i hi)
theorem zFW {rows:zAy} (h:ToIn rows) {list:List Int}:∀ (k:Nat) (m:List Bool),(∀ i,getB m i=true→Rch rows list i)→∀ i,getB (zFY rows k m) i=true→Rch rows list i
 | 0,m,hs,i,hi=>hs i hi
 | k+1,m,hs,i,hi=>zFW h k _ (fun j hj=>by
   rcases (zEg h m j).1 hj with h1|⟨i0,h1,h2⟩
   ·exact hs j h1.2
   ·exact .step (hs i0 h1) h2) i hi
theorem zIy {rows:zAy}{list:List Int} (j:Nat):getB (zFP rows list) j=true↔j<rows.length∧(j:Int)∈list:=by
 unfold zFP
 rw [zD9,Bool.and_eq_true,decide_eq_true_iff,List.contains_iff_mem]
 exact Iff.rfl
theorem zMu {rows:zAy} (h:ToIn rows) {list:List Int}{j:Nat} (hj:Rch rows list j):j<rows.length:=by
 cases hj with
 | base _ h1=>exact h1
 | step _ h1=>exact zFL h h1
theorem zEi {rows:zAy} (h:ToIn rows) {list:List Int} (j:Nat):j∈zBQ rows list↔Rch rows list j:=by
 unfold zBQ
 dsimp only
 rw [List.mem_filter,List.mem_range]
 have hl:(zFP rows list).length=rows.length:=by simp [zFP]
 have hcl:=zEY h rows.length (zFP rows list) hl (.inr (by omega))
 constructor
 ·rintro ⟨_,h2⟩
  exact zFW h _ _ (fun i hi=>by obtain ⟨h3,h4⟩:=(zIy i).1 hi;exact .base h4 h3) j h2
 ·intro hr
  refine ⟨zMu h hr,?_⟩
  induction hr with
  | base h1 h2=>exact zFX h _ _ hl _ ((zIy _).2 ⟨h2,h1⟩)
  | step h1 h2 ih=>exact hcl _ _ ih h2
theorem zDt (rows:zAy) (list:List Int):(zBQ rows list).Pairwise (· < ·):=List.pairwise_lt_range.filter _
theorem zJX {rows:zAy}{list:List Int}{j:Nat} (h:j∈zBQ rows list):j<rows.length:=by
 unfold zBQ at h
 exact List.mem_range.1 (List.mem_filter.1 h).1
theorem zGu:∀ {a b:List Nat},a.Pairwise (· < ·)→b.Pairwise (· < ·)→(∀ x,x∈a↔x∈b)→a=b
 | [],[],_,_,_=>rfl
 | [],y::b,_,_,h=>absurd ((h y).2 (by simp)) (by simp)
 | x::a,[],_,_,h=>absurd ((h x).1 (by simp)) (by simp)
 | x::a,y::b,ha,hb,h=>by
   obtain ⟨a1,a2⟩:=List.pairwise_cons.1 ha
   obtain ⟨b1,b2⟩:=List.pairwise_cons.1 hb
   have e:x=y:=by
    rcases List.mem_cons.1 ((h x).1 (by simp)) with e|e
    ·exact e
    ·rcases List.mem_cons.1 ((h y).2 (by simp)) with e2|e2
     ·exact e2.symm
     ·have:=b1 x e;have:=a1 y e2;omega
   subst e
   congr 1
   refine zGu a2 b2 fun z=>⟨fun hz=>?_,fun hz=>?_⟩
   ·rcases List.mem_cons.1 ((h z).1 (by simp [hz])) with e|e
    ·have:=a1 z hz;omega
    ·exact e
   ·rcases List.mem_cons.1 ((h z).2 (by simp [hz])) with e|e
    ·have:=b1 z hz;omega
    ·exact e
def zAp (l:List Nat):List Int:=l.map Int.ofNat
theorem mem_ints {l:List Nat}{j:Nat}:(j:Int)∈zAp l↔j∈l:=by
 unfold zAp
 rw [List.mem_map]
 constructor
 ·rintro ⟨x,hx,e⟩
  have:x=j:=Int.ofNat.inj e
  exact this▸hx
 ·intro h;exact ⟨j,h,rfl⟩
def zBj (rows:zAy) (c:Nat) (s:Int):List Int:=if 0≤s∧s<rows.length then (((rows[s.toNat]?.getD []).filter fun x=>!x.free&&x.set.has c).map fun x=>Int.ofNat x.to) else []
def zBJ (rows:zAy) (list:List Int) (c:Nat):List Nat:=zBQ rows (list.flatMap (zBj rows c))
def zBK (rows:zAy):List Nat:=if rows=[] then [] else zBQ rows [0]
structure NfaD where
 rows:zAy
 last:Int
def zHo (a:NfaD) (list:List Int):Bool:=decide (0<a.rows.length)&&list.contains a.last
def runN (a:NfaD) (b:List UInt8):List Nat:=b.foldl (fun l c=>zBJ a.rows (zAp l) c.toNat) (zBK a.rows)
def zG7 (a:NfaD) (b:List UInt8):Bool:=zHo a (zAp (runN a b))
def st0:StD:=⟨[[]],false⟩
theorem zGs:StOk st0:=⟨by decide,by decide,(fun row hr x hx=>by simp [st0] at hr;subst hr;cases hx),(fun h=>by cases h)⟩
def nilN:NfaD:=⟨[],0⟩
def zA8 (n:RgD):Nat × NfaD :=
 if (zAL n 512).1≠0 then ((zAL n 512).1,nilN)
 else if (zAx n 0 st0).2.full then (80,nilN)
 else (0,⟨(zAx n 0 st0).2.rows,(zAx n 0 st0).1⟩)
structure zL5 (a:NfaD):Prop where
 to:ToIn a.rows
 le:a.rows.length≤4096
 last:a.rows≠[]→0≤a.last∧a.last<a.rows.length
theorem zMN:zL5 nilN:=⟨(fun row hr=>by cases hr),by decide,fun h=>absurd rfl h⟩
theorem zJg {n:RgD} (hw:zAJ n=0):zL5 (zA8 n).2:=by
 have m:=(zB8 n hw 0 st0 zGs (by decide)).1
 unfold zA8
 split
 ·exact zMN
 split
 ·exact zMN
 ·exact ⟨m.ok.to,m.ok.le,fun _=>⟨Int.natCast_nonneg _,by have:=m.lt;dsimp only;omega⟩⟩
theorem zMW {n:RgD} (hw:zAJ n=0) (h:(zA8 n).1=0):(zA8 n).2.rows.length=1+cntN n:=by
 have m:=(zB8 n hw 0 st0 zGs (by decide)).1
 unfold zA8 at h ⊢
 split
 ·rename_i h1;rw [if_pos h1] at h;exact absurd h h1
 ·rename_i h1
  rw [if_neg h1] at h
  split
  ·rename_i h2;rw [if_pos h2] at h;cases h
  ·rename_i h2
   have:=m.len (by simpa using h2)
   rw [this];rfl
abbrev Lg:=List UInt8→Prop
def zFR:Lg:=fun w=>w=[]
def zFu (A B:Lg):Lg:=fun w=>∃ u v,w=u++v∧A u∧B v
def powW (A:Lg):Nat→Lg
 | 0=>zFR
 | k+1=>zFu A (powW A k)
def repW (A:Lg) (a b:Int):Lg:=fun w=>∃ k:Nat,a≤(k:Int)∧(b<0∨(k:Int)≤b)∧powW A k w
mutual
def zCk:RgD→Lg
 | .mk k s l a b=>fun w=>if k=1 then w=[] else if k=2 then ∃ c,w=[c]∧s.has c.toNat=true else if k=3 then catW l w else if k=4 then altW l w else if k=5 then repW (fun u=>kidW l u) a b w else False
def catW:List RgD→Lg
 | []=>fun w=>w=[]
 | x::r=>fun w=>∃ u v,w=u++v∧zCk x u∧catW r v
def altW:List RgD→Lg
 | []=>fun _=>False
 | x::r=>fun w=>zCk x w∨altW r w
def kidW:List RgD→Lg
 | []=>fun _=>False
 | x::_=>fun w=>zCk x w
end
theorem zCf (k:Int) (s:SetD) (l:List RgD) (a b:Int) (w:List UInt8):zCk (.mk k s l a b) w=(if k=1 then w=[] else if k=2 then ∃ c,w=[c]∧s.has c.toNat=true else if k=3 then catW l w else if k=4 then altW l w else if k=5 then repW (fun u=>kidW l u) a b w else False):=by rw [zCk]
abbrev RelE:=Nat→zA9→Prop
inductive PathE (E:RelE):Nat→List UInt8→Nat→Prop
 | nil (s:Nat):PathE E s [] s
 | free {s:Nat}{x:zA9}{w:List UInt8}{u:Nat} (h:E s x) (hf:x.free=true) (hp:PathE E x.to w u):PathE E s w u
 | byte {s:Nat}{x:zA9}{c:UInt8}{w:List UInt8}{u:Nat} (h:E s x) (hf:x.free=false) (hc:x.set.has c.toNat=true) (hp:PathE E x.to w u):PathE E s (c::w) u
theorem PathE.app {E:RelE}{s m t:Nat}{u v:List UInt8} (h:PathE E s u m) (h2:PathE E m v t):PathE E s (u++v) t:=by
 induction h with
 | nil s=>exact h2
 | free h hf _ ih=>exact .free h hf (ih h2)
 | byte h hf hc _ ih=>exact .byte h hf hc (ih h2)
theorem PathE.mono {E F:RelE} (hm:∀ i x,E i x→F i x) {s t:Nat}{w:List UInt8} (h:PathE E s w t):PathE F s w t:=by
 induction h with
 | nil s=>exact .nil s
 | free h hf _ ih=>exact .free (hm _ _ h) hf ih
 | byte h hf hc _ ih=>exact .byte (hm _ _ h) hf hc ih
theorem PathE.none {E:RelE}{s t:Nat}{w:List UInt8} (hn:∀ x,¬E s x) (h:PathE E s w t):w=[]∧t=s:=by
 cases h with
 | nil=>exact ⟨rfl,rfl⟩
 | free h=>exact absurd h (hn _)
 | byte h=>exact absurd h (hn _)
theorem PathE.split {E E1 E2:RelE}{m:Nat} (A B:Nat→Prop) (hE:∀ i x,E i x→E1 i x∨E2 i x) (h1:∀ i x,E1 i x→A i∧(A x.to∨x.to=m)) (h2:∀ i x,E2 i x→B i∧B x.to)
  (hd:∀ i,A i→¬B i) (hm:B m) {s t:Nat}{w:List UInt8} (h:PathE E s w t) (ht:B t) :
  (A s→∃ u v,w=u++v∧PathE E1 s u m∧PathE E2 m v t)∧(B s→PathE E2 s w t):=by
 induction h with
 | nil s=>exact ⟨fun ha=>absurd ht (hd _ ha),fun _=>.nil s⟩
 | @free s x w u h hf hp ih =>
   have ih:=ih ht
   rcases hE _ _ h with e|e
   ·obtain ⟨a1,a2⟩:=h1 _ _ e
    refine ⟨fun _=>?_,fun hb=>absurd hb (hd _ a1)⟩
    rcases a2 with a2|a2
    ·obtain ⟨u1,v1,e1,p1,p2⟩:=ih.1 a2
     exact ⟨u1,v1,e1,.free e hf p1,p2⟩
    ·rw [a2] at ih
     exact ⟨[],w,rfl,.free e hf (a2▸.nil _),ih.2 hm⟩
   ·obtain ⟨b1,b2⟩:=h2 _ _ e
    exact ⟨fun ha=>absurd b1 (hd _ ha),fun _=>.free e hf (ih.2 b2)⟩
 | @byte s x c w u h hf hc hp ih =>
   have ih:=ih ht
   rcases hE _ _ h with e|e
   ·obtain ⟨a1,a2⟩:=h1 _ _ e
    refine ⟨fun _=>?_,fun hb=>absurd hb (hd _ a1)⟩
    rcases a2 with a2|a2
    ·obtain ⟨u1,v1,e1,p1,p2⟩:=ih.1 a2
     exact ⟨c::u1,v1,by rw [e1];rfl,.byte e hf hc p1,p2⟩
    ·rw [a2] at ih
     exact ⟨[c],w,rfl,.byte e hf hc (a2▸.nil _),ih.2 hm⟩
   ·obtain ⟨b1,b2⟩:=h2 _ _ e
    exact ⟨fun ha=>absurd b1 (hd _ ha),fun _=>.byte e hf hc (ih.2 b2)⟩
def rowN (st:StD) (i:Nat):List zA9:=st.rows[i]?.getD []
def PreN (st st2:StD):Prop:=∀ i,∃ e,rowN st2 i=rowN st i++e
def NewE (st st2:StD):RelE:=fun i x=>x∈(rowN st2 i).drop (rowN st i).length
theorem PreN.refl (st:StD):PreN st st:=fun i=>⟨[],by simp⟩
theorem PreN.trans {a b c:StD} (h1:PreN a b) (h2:PreN b c):PreN a c:=fun i=>by
 obtain ⟨e,he⟩:=h1 i
 obtain ⟨f,hf⟩:=h2 i
 exact ⟨e++f,by rw [hf,he,List.append_assoc]⟩
theorem zEq (st:StD) (i:Nat) (x:zA9):¬NewE st st i x:=by unfold NewE;simp
theorem zBv {a b c:StD} (h1:PreN a b) (h2:PreN b c) (i:Nat) (x:zA9):NewE a c i x↔NewE a b i x∨NewE b c i x:=by
 obtain ⟨e,he⟩:=h1 i
 obtain ⟨f,hf⟩:=h2 i
 unfold NewE
 rw [hf,he,List.append_assoc,List.drop_left,List.drop_left,←List.append_assoc,List.drop_left,List.mem_append]
theorem zHO (st:StD) (i:Nat):rowN (zAa st).2 i=rowN st i:=by
 unfold zAa rowN
 split
 ·rfl
 ·dsimp only
  by_cases h:i<st.rows.length
  ·rw [List.getElem?_append_left h]
  ·rw [List.getElem?_append_right (by omega),List.getElem?_eq_none (show st.rows.length≤i by omega)]
   by_cases h2:i-st.rows.length=0
   ·rw [h2];rfl
   ·rw [List.getElem?_eq_none (by simp;omega)]
theorem zDu (st:StD):PreN st (zAa st).2:=fun i=>⟨[],by rw [zHO];simp⟩
theorem zFB (st:StD) (i:Nat) (x:zA9):¬NewE st (zAa st).2 i x:=by unfold NewE;rw [zHO];simp
theorem zJU {st:StD}{f:Nat} (hf:f<st.rows.length) (y:zA9) (i:Nat):rowN (zAm f y st) i=if i=f then rowN st i++[y] else rowN st i:=by
 unfold zAm rowN
 dsimp only
 by_cases h:i=f
 ·subst h
  rw [if_pos rfl,List.getElem?_set_self hf];rfl
 ·rw [if_neg h,List.getElem?_set_ne (fun e=>h e.symm)]
theorem zCP {st:StD}{f:Nat} (hf:f<st.rows.length) (y:zA9):PreN st (zAm f y st):=fun i=>by
 rw [zJU hf]
 split
 ·exact ⟨[y],rfl⟩
 ·exact ⟨[],by simp⟩
theorem zD8 {st:StD}{f:Nat} (hf:f<st.rows.length) (y:zA9) (i:Nat) (x:zA9):NewE st (zAm f y st) i x↔i=f∧x=y:=by
 unfold NewE
 rw [zJU hf]
 split
 ·rename_i h;rw [List.drop_left,List.mem_singleton];simp [h]
 ·rename_i h;simp [h]
structure Frag (st:StD) (f t:Nat) (st2:StD) (L:Lg):Prop where
 grow:st.rows.length≤st2.rows.length
 pre:PreN st st2
 src:∀ i x,NewE st st2 i x→i=f∨(st.rows.length≤i∧i<st2.rows.length)
 tgt:∀ i x,NewE st st2 i x→st.rows.length≤x.to∧x.to<st2.rows.length
 tin:(t=f∧∀ i x,¬NewE st st2 i x)∨(st.rows.length≤t∧t<st2.rows.length)
 tout:∀ x,¬NewE st st2 t x
 lang:∀ w,PathE (NewE st st2) f w t↔L w
theorem Frag.congr {st st2:StD}{f t:Nat}{L M:Lg} (h:Frag st f t st2 L) (hl:∀ w,L w↔M w):Frag st f t st2 M:=⟨h.grow,h.pre,h.src,h.tgt,h.tin,h.tout,fun w=>(h.lang w).trans (hl w)⟩
theorem Frag.refl (st:StD) (f:Nat):Frag st f f st zFR where
 grow:=Nat.le_refl _
 pre:=.refl st
 src i x h:=absurd h (zEq st i x)
 tgt i x h:=absurd h (zEq st i x)
 tin:=.inl ⟨rfl,zEq st⟩
 tout:=zEq st f
 lang w:=⟨fun h=>(h.none (zEq st f)).1,fun h=>by rw [show w=[] from h];exact .nil f⟩
theorem Frag.then {st st1 st2:StD}{f t1 t2:Nat}{L1 L2:Lg} (h1:Frag st f t1 st1 L1) (h2:Frag st1 t1 t2 st2 L2) (hf:f<st.rows.length):Frag st f t2 st2 (zFu L1 L2):=by
 have g1:=h1.grow
 have g2:=h2.grow
 have hnew:=zBv h1.pre h2.pre
 refine ⟨by omega,h1.pre.trans h2.pre,fun i x h=>?_,fun i x h=>?_,?_,fun x h=>?_,fun w=>⟨fun h=>?_,fun h=>?_⟩⟩
 ·rcases (hnew i x).1 h with h|h
  ·rcases h1.src i x h with h|h
   ·exact .inl h
   ·exact .inr (by omega)
  ·rcases h2.src i x h with h|h
   ·rcases h1.tin with ⟨h3,_⟩|h3
    ·exact .inl (h.trans h3)
    ·exact .inr (by omega)
   ·exact .inr (by omega)
 ·rcases (hnew i x).1 h with h|h
  ·have:=h1.tgt i x h;omega
  ·have:=h2.tgt i x h;omega
 ·rcases h2.tin with ⟨h3,h4⟩|h3
  ·rcases h1.tin with ⟨h5,h6⟩|h5
   ·exact .inl ⟨h3.trans h5,fun i x h=>((hnew i x).1 h).elim (h6 i x) (h4 i x)⟩
   ·exact .inr (by omega)
  ·exact .inr (by omega)
 ·rcases (hnew t2 x).1 h with h|h
  ·rcases h2.tin with ⟨h3,_⟩|h3
   ·rw [h3] at h;exact h1.tout x h
   ·rcases h1.src t2 x h with h4|h4<;>omega
  ·exact h2.tout x h
 ·-- a path is cut at t1
  have hB:t2=t1∨(st1.rows.length≤t2∧t2<st2.rows.length):=h2.tin.imp (fun h=>h.1) id
  have key:=PathE.split (E1:=NewE st st1) (E2:=NewE st1 st2) (m:=t1) (fun i=>(i=f∨(st.rows.length≤i∧i<st1.rows.length))∧i≠t1) (fun i=>i=t1∨(st1.rows.length≤i∧i<st2.rows.length))
   (fun i x h=>(hnew i x).1 h)
   (fun i x h=>by
    refine ⟨⟨h1.src i x h,fun e=>h1.tout x (e▸h)⟩,?_⟩
    by_cases e:x.to=t1
    ·exact .inr e
    ·exact .inl ⟨.inr (h1.tgt i x h),e⟩)
   (fun i x h=>⟨(h2.src i x h).imp id id,.inr (h2.tgt i x h)⟩)
   (fun i hi hb=>by
    rcases hb with hb|hb
    ·exact hi.2 hb
    ·rcases hi.1 with h|h<;>omega)
   (.inl rfl) h hB
  by_cases e:f=t1
  ·have:=key.2 (.inl e)
   refine ⟨[],w,rfl,(h1.lang []).1 (e▸.nil f),(h2.lang w).1 (e▸this)⟩
  ·obtain ⟨u,v,e1,p1,p2⟩:=key.1 ⟨.inl rfl,e⟩
   exact ⟨u,v,e1,(h1.lang u).1 p1,(h2.lang v).1 p2⟩
 ·obtain ⟨u,v,rfl,a,b⟩:=h
  exact (((h1.lang u).2 a).mono fun i x h=>(hnew i x).2 (.inl h)).app (((h2.lang v).2 b).mono fun i x h=>(hnew i x).2 (.inr h))
structure FragTo (st:StD) (f to:Nat) (st2:StD) (L:Lg):Prop where
 grow:st.rows.length≤st2.rows.length
 pre:PreN st st2
 src:∀ i x,NewE st st2 i x→i=f∨(st.rows.length≤i∧i<st2.rows.length)
 tgt:∀ i x,NewE st st2 i x→x.to=to∨(st.rows.length≤x.to∧x.to<st2.rows.length)
 lang:∀ w,PathE (NewE st st2) f w to↔L w
theorem FragTo.congr {st st2:StD}{f t:Nat}{L M:Lg} (h:FragTo st f t st2 L) (hl:∀ w,L w↔M w):FragTo st f t st2 M:=⟨h.grow,h.pre,h.src,h.tgt,fun w=>(h.lang w).trans (hl w)⟩
theorem FragTo.tout {st st2:StD}{f to:Nat}{L:Lg} (h:FragTo st f to st2 L) (ht:to<st.rows.length) (hne:to≠f) (x:zA9):¬NewE st st2 to x:=fun hx=>by
 rcases h.src to x hx with h|h
 ·exact hne h
 ·omega
theorem zC7 {st:StD} (h:(zAa st).2.full=false):(zAa st).1=st.rows.length∧(zAa st).2.rows.length=st.rows.length+1∧st.full=false:=by
 have hl:=zC8 st
 rw [zC9] at h
 split at h
 ·cases h
 ·rename_i h1
  rw [if_neg h1] at hl
  exact ⟨by unfold zAa;rw [if_neg h1],hl,h⟩
theorem zKw {st:StD}{f:Nat} (hf:f<st.rows.length) (h:(zAa st).2.full=false) (y:zA9) (hy:y.to=(zAa st).1):Frag st f (zAa st).1 (zAm f y (zAa st).2) (fun w=>if y.free then w=[] else ∃ c,w=[c]∧y.set.has c.toNat=true):=by
 obtain ⟨e1,e2,e3⟩:=zC7 h
 have hnew:∀ i x,NewE st (zAm f y (zAa st).2) i x↔i=f∧x=y:=fun i x=>by
  rw [zBv (zDu st) (zCP (by omega) y),zD8 (by omega)]
  exact ⟨fun h=>h.elim (fun h=>absurd h (zFB st i x)) id,.inr⟩
 have hno:∀ x,¬NewE st (zAm f y (zAa st).2) (zAa st).1 x:=fun x hx=>by have:=((hnew _ x).1 hx).1;omega
 refine ⟨by rw [zAj];omega,(zDu st).trans (zCP (by omega) y),fun i x hx=>.inl ((hnew i x).1 hx).1,fun i x hx=>?_,.inr (by rw [zAj];omega),hno,fun w=>⟨fun hp=>?_,fun hw=>?_⟩⟩
 ·rw [((hnew i x).1 hx).2,hy,zAj];omega
 ·generalize ht:(zAa st).1=t at hp
  cases hp with
  | nil=>omega
  | free hx hfr hp2 =>
    obtain ⟨_,rfl⟩:=(hnew _ _).1 hx
    rw [hy,ht] at hp2
    rw [if_pos hfr]
    exact (hp2.none (ht▸hno)).1
  | byte hx hfr hc hp2 =>
    obtain ⟨_,rfl⟩:=(hnew _ _).1 hx
    rw [hy,ht] at hp2
    rw [if_neg (by rw [hfr];decide)]
    have:=(hp2.none (ht▸hno)).1
    subst this
    exact ⟨_,rfl,hc⟩
 ·have he:NewE st (zAm f y (zAa st).2) f y:=(hnew f y).2 ⟨rfl,rfl⟩
  cases hfr:y.free with
  | true =>
    rw [if_pos hfr] at hw
    rw [hw]
    exact .free he hfr (hy▸.nil _)
  | false =>
    rw [if_neg (by rw [hfr];decide)] at hw
    obtain ⟨c,rfl,hc⟩:=hw
    exact .byte he hfr hc (hy▸.nil _)
theorem zEK {st:StD}{f:Nat} (hf:f<st.rows.length) (h:(zAa st).2.full=false):Frag st f (zAa st).1 (zAm f (zAd (zAa st).1) (zAa st).2) zFR :=
 (zKw hf h (zAd (zAa st).1) rfl).congr fun w=>by rw [if_pos (show (zAd (zAa st).1).free=true from rfl)];exact Iff.rfl
theorem zDT {st:StD}{f to:Nat} (hf:f<st.rows.length) (hne:to≠f):FragTo st f to (zAm f (zAd to) st) zFR:=by
 have hnew:=zD8 hf (zAd to)
 refine ⟨by rw [zAj];omega,zCP hf _,fun i x hx=>.inl ((hnew i x).1 hx).1,fun i x hx=>.inl (by rw [((hnew i x).1 hx).2];rfl),fun w=>⟨fun hp=>?_,fun hw=>?_⟩⟩
 ·cases hp with
  | nil=>exact absurd rfl hne
  | free hx _ hp2 =>
    obtain ⟨_,rfl⟩:=(hnew _ _).1 hx
    exact (hp2.none (fun x hx=>hne ((hnew _ x).1 hx).1)).1
  | byte hx hfr _ _ =>
    obtain ⟨_,rfl⟩:=(hnew _ _).1 hx
    cases hfr
 ·rw [show w=[] from hw]
  exact .free ((hnew f _).2 ⟨rfl,rfl⟩) rfl (.nil _)
theorem Frag.thenTo {st st1 st2:StD}{f t to:Nat}{L1 L2:Lg} (h1:Frag st f t st1 L1) (h2:FragTo st1 t to st2 L2) (hf:f<st.rows.length) (ht:to<st.rows.length) (hne:to≠f):FragTo st f to st2 (zFu L1 L2):=by
 have g1:=h1.grow
 have g2:=h2.grow
 have hnew:=zBv h1.pre h2.pre
 have htt:to≠t:=by rcases h1.tin with ⟨h,_⟩|h<;>omega
 refine ⟨by omega,h1.pre.trans h2.pre,fun i x h=>?_,fun i x h=>?_,fun w=>⟨fun h=>?_,fun h=>?_⟩⟩
 ·rcases (hnew i x).1 h with h|h
  ·rcases h1.src i x h with h|h
   ·exact .inl h
   ·exact .inr (by omega)
  ·rcases h2.src i x h with h|h
   ·rcases h1.tin with ⟨h3,_⟩|h3
    ·exact .inl (h.trans h3)
    ·exact .inr (by omega)
   ·exact .inr (by omega)
 ·rcases (hnew i x).1 h with h|h
  ·have:=h1.tgt i x h;exact .inr (by omega)
  ·rcases h2.tgt i x h with h|h
   ·exact .inl h
   ·exact .inr (by omega)
 ·have key:=PathE.split (E1:=NewE st st1) (E2:=NewE st1 st2) (m:=t) (fun i=>(i=f∨(st.rows.length≤i∧i<st1.rows.length))∧i≠t) (fun i=>i=t∨i=to∨(st1.rows.length≤i∧i<st2.rows.length))
   (fun i x h=>(hnew i x).1 h)
   (fun i x h=>by
    refine ⟨⟨h1.src i x h,fun e=>h1.tout x (e▸h)⟩,?_⟩
    by_cases e:x.to=t
    ·exact .inr e
    ·exact .inl ⟨.inr (h1.tgt i x h),e⟩)
   (fun i x h=>⟨(h2.src i x h).imp id .inr,.inr ((h2.tgt i x h).imp id id)⟩)
   (fun i hi hb=>by
    rcases hb with hb|hb|hb
    ·exact hi.2 hb
    ·rcases hi.1 with h|h<;>omega
    ·rcases hi.1 with h|h<;>omega)
   (.inl rfl) h (.inr (.inl rfl))
  by_cases e:f=t
  ·have:=key.2 (.inl e)
   refine ⟨[],w,rfl,(h1.lang []).1 (e▸.nil f),(h2.lang w).1 (e▸this)⟩
  ·obtain ⟨u,v,e1,p1,p2⟩:=key.1 ⟨.inl rfl,e⟩
   exact ⟨u,v,e1,(h1.lang u).1 p1,(h2.lang v).1 p2⟩
 ·obtain ⟨u,v,rfl,a,b⟩:=h
  exact (((h1.lang u).2 a).mono fun i x h=>(hnew i x).2 (.inl h)).app (((h2.lang v).2 b).mono fun i x h=>(hnew i x).2 (.inr h))
theorem PathE.stay {E F:RelE} (A:Nat→Prop) (h:∀ i x,A i→E i x→F i x∧A x.to) {s t:Nat}{w:List UInt8} (hp:PathE E s w t) (hs:A s):PathE F s w t:=by
 induction hp with
 | nil s=>exact .nil s
 | free hx hf _ ih=>obtain ⟨a,b⟩:=h _ _ hs hx;exact .free a hf (ih b)
 | byte hx hf hc _ ih=>obtain ⟨a,b⟩:=h _ _ hs hx;exact .byte a hf hc (ih b)
theorem FragTo.or {st st1 st2:StD}{f to:Nat}{L1 L2:Lg} (h1:FragTo st f to st1 L1) (h2:FragTo st1 f to st2 L2) (hf:f<st.rows.length) (ht:to<st.rows.length) (hne:to≠f):FragTo st f to st2 (fun w=>L1 w∨L2 w):=by
 have g1:=h1.grow
 have g2:=h2.grow
 have hnew:=zBv h1.pre h2.pre
 refine ⟨by omega,h1.pre.trans h2.pre,fun i x h=>?_,fun i x h=>?_,fun w=>⟨fun h=>?_,fun h=>?_⟩⟩
 ·rcases (hnew i x).1 h with h|h
  ·rcases h1.src i x h with h|h
   ·exact .inl h
   ·exact .inr (by omega)
  ·rcases h2.src i x h with h|h
   ·exact .inl h
   ·exact .inr (by omega)
 ·rcases (hnew i x).1 h with h|h
  ·rcases h1.tgt i x h with h|h
   ·exact .inl h
   ·exact .inr (by omega)
  ·rcases h2.tgt i x h with h|h
   ·exact .inl h
   ·exact .inr (by omega)
 ·-- behind the first edge it stays in one of both
  have stay1:∀ {s:Nat}{w:List UInt8},PathE (NewE st st2) s w to→(s=to∨(st.rows.length≤s∧s<st1.rows.length))→PathE (NewE st st1) s w to:=fun hp hs =>
   hp.stay (fun i=>i=to∨(st.rows.length≤i∧i<st1.rows.length)) (fun i x hi hx=>by
    rcases (hnew i x).1 hx with hx|hx
    ·exact ⟨hx,h1.tgt i x hx⟩
    ·rcases h2.src i x hx with h3|h3
     ·rcases hi with h4|h4<;>omega
     ·rcases hi with h4|h4<;>omega) hs
  have stay2:∀ {s:Nat}{w:List UInt8},PathE (NewE st st2) s w to→(s=to∨(st1.rows.length≤s∧s<st2.rows.length))→PathE (NewE st1 st2) s w to:=fun hp hs =>
   hp.stay (fun i=>i=to∨(st1.rows.length≤i∧i<st2.rows.length)) (fun i x hi hx=>by
    rcases (hnew i x).1 hx with hx|hx
    ·rcases h1.src i x hx with h3|h3
     ·rcases hi with h4|h4<;>omega
     ·rcases hi with h4|h4<;>omega
    ·exact ⟨hx,h2.tgt i x hx⟩) hs
  cases h with
  | nil=>exact absurd rfl hne
  | free hx hfr hp =>
    rcases (hnew _ _).1 hx with hx|hx
    ·exact .inl ((h1.lang _).1 (.free hx hfr (stay1 hp (h1.tgt _ _ hx))))
    ·exact .inr ((h2.lang _).1 (.free hx hfr (stay2 hp (h2.tgt _ _ hx))))
  | byte hx hfr hc hp =>
    rcases (hnew _ _).1 hx with hx|hx
    ·exact .inl ((h1.lang _).1 (.byte hx hfr hc (stay1 hp (h1.tgt _ _ hx))))
    ·exact .inr ((h2.lang _).1 (.byte hx hfr hc (stay2 hp (h2.tgt _ _ hx))))
 ·rcases h with h|h
  ·exact ((h1.lang w).2 h).mono fun i x h=>(hnew i x).2 (.inl h)
  ·exact ((h2.lang w).2 h).mono fun i x h=>(hnew i x).2 (.inr h)
theorem FragTo.frag {st st2:StD}{f:Nat}{L:Lg} (hf:f<st.rows.length) (h:(zAa st).2.full=false) (h1:FragTo (zAa st).2 f (zAa st).1 st2 L):Frag st f (zAa st).1 st2 L:=by
 obtain ⟨e1,e2,e3⟩:=zC7 h
 have g:=h1.grow
 have hnew:∀ i x,NewE st st2 i x↔NewE (zAa st).2 st2 i x:=fun i x=>by
  rw [zBv (zDu st) h1.pre]
  exact ⟨fun h=>h.elim (fun h=>absurd h (zFB st i x)) id,.inr⟩
 refine ⟨by omega,(zDu st).trans h1.pre,fun i x hx=>?_,fun i x hx=>?_,.inr (by omega),fun x hx=>h1.tout (by omega) (by omega) x ((hnew _ x).1 hx),fun w=>?_⟩
 ·rcases h1.src i x ((hnew i x).1 hx) with h|h
  ·exact .inl h
  ·exact .inr (by omega)
 ·rcases h1.tgt i x ((hnew i x).1 hx) with h|h<;>omega
 ·rw [←h1.lang w]
  exact ⟨fun hp=>hp.mono fun i x hx=>(hnew i x).1 hx,fun hp=>hp.mono fun i x hx=>(hnew i x).2 hx⟩
def starW (L:Lg):Lg:=fun w=>∃ k,powW L k w
theorem zJq {st:StD}{f0 to:Nat}{f:zBN}{c s:Nat}{L:Lg} (hm:MadeF c s f) (hF:∀ (f1:Nat) (s1:StD),StOk s1→f1<s1.rows.length→(f f1 s1).2.full=false→Frag s1 f1 (f f1 s1).1 (f f1 s1).2 L)
  (ho:StOk st) (hf:f0<st.rows.length) (ht:to<st.rows.length) (hne:to≠f0) (hfull:(zCT f to f0 st).full=false):FragTo st f0 to (zCT f to f0 st) (starW L):=by
 unfold zCT at hfull ⊢
 dsimp only at hfull ⊢
 have m1:=zAu ho
 have hsl:=zBU ho
 have hfn:(zAa st).2.full=false→(zAa st).1=st.rows.length∧(zAa st).2.rows.length=st.rows.length+1:=fun h=>⟨(zC7 h).1,(zC7 h).2.1⟩
 have fr1:=fun h=>zEK (st:=st) (f:=f0) hf h
 have hpre1:=zDu st
 have hns:=zFB st
 generalize zAa st=r at *
 have o3:StOk (zAm f0 (zAd r.1) r.2):=m1.ok.edge hsl
 have hL3:=zAj f0 (zAd r.1) r.2
 have hF3:=zA4 f0 (zAd r.1) r.2
 generalize hs3:zAm f0 (zAd r.1) r.2=s3 at *
 have o4:StOk (zAm r.1 (zAd to) s3):=o3.edge (show to<s3.rows.length by have:=m1.grow;omega)
 have hL4:=zAj r.1 (zAd to) s3
 have hF4:=zA4 r.1 (zAd to) s3
 have hp4:=zCP (st:=s3) (f:=r.1) (by omega) (zAd to)
 have hn4:=zD8 (st:=s3) (f:=r.1) (by omega) (zAd to)
 generalize zAm r.1 (zAd to) s3=s4 at *
 have a:=(hm r.1 s4 o4 (by omega)).1
 have hFr:=hF r.1 s4 o4 (by omega)
 generalize f r.1 s4=p at *
 have hL5:=zAj p.1 (zAd r.1) p.2
 have hF5:=zA4 p.1 (zAd r.1) p.2
 have hp5:=zCP (st:=p.2) a.lt (zAd r.1)
 have hn5:=zD8 (st:=p.2) a.lt (zAd r.1)
 generalize zAm p.1 (zAd r.1) p.2=s5 at *
 have hpf:p.2.full=false:=hF5.symm.trans hfull
 have h4f:s4.full=false:=by cases hh:s4.full with
  | false=>rfl
  | true=>rw [a.keep hh] at hpf;cases hpf
 have hrf:r.2.full=false:=by rw [←hF3,←hF4];exact h4f
 obtain ⟨e1,e2⟩:=hfn hrf
 have fr1:=fr1 hrf
 have fr:=hFr hpf
 have g2:=fr.grow
 -- all edges that came
 have hall:∀ i x,NewE st s5 i x↔(NewE st s3 i x∨(i=r.1∧x=zAd to)∨NewE s4 p.2 i x∨(i=p.1∧x=zAd r.1)):=fun i x=>by
  rw [zBv fr1.pre (hp4.trans (fr.pre.trans hp5)),zBv hp4 (fr.pre.trans hp5),zBv fr.pre hp5,hn4,hn5]
 have hE0:∀ i x,NewE st s3 i x→i=f0∧x=zAd r.1:=fun i x h=>by
  rw [←hs3,zBv hpre1 (zCP (by omega) _),zD8 (by omega)] at h
  exact h.elim (fun h=>absurd h (hns i x)) id
 have hE0':NewE st s3 f0 (zAd r.1):=by
  rw [←hs3,zBv hpre1 (zCP (by omega) _),zD8 (by omega)]
  exact .inr ⟨rfl,rfl⟩
 have hpin:p.1=r.1∨(s4.rows.length≤p.1∧p.1<p.2.rows.length):=fr.tin.imp (fun h=>h.1) id
 have hto:∀ x,¬NewE st s5 to x:=fun x h=>by
  rcases (hall to x).1 h with h|h|h|h
  ·exact hne (hE0 _ _ h).1
  ·omega
  ·rcases fr.src _ _ h with h|h<;>omega
  ·omega
 -- paths within the loop
 have key:∀ {i:Nat}{w:List UInt8}{t:Nat},PathE (NewE st s5) i w t→t=to→(i=r.1→starW L w)∧(s4.rows.length≤i→∃ u v,w=u++v∧PathE (NewE s4 p.2) i u p.1∧starW L v):=by
  intro i w t hp
  induction hp with
  | nil i=>exact fun e=>⟨fun h=>by omega,fun h=>by omega⟩
  | @free i x w u hx hfr hp ih =>
    intro e
    have ih:=ih e
    refine ⟨fun hi=>?_,fun hi=>?_⟩
    ·subst hi
     rcases (hall _ x).1 hx with h|h|h|h
     ·have:=(hE0 _ _ h).1;omega
     ·rw [h.2,e] at hp
      have:=(hp.none hto).1
      exact ⟨0,this⟩
     ·obtain ⟨u1,v,e3,p1,k,hk⟩:=ih.2 (fr.tgt _ _ h).1
      refine ⟨k+1,u1,v,e3,(fr.lang u1).1 (.free h hfr p1),hk⟩
     ·rw [h.2] at ih
      exact ih.1 rfl
    ·rcases (hall _ x).1 hx with h|h|h|h
     ·have:=(hE0 _ _ h).1;omega
     ·omega
     ·obtain ⟨u1,v,e3,p1,hk⟩:=ih.2 (fr.tgt _ _ h).1
      exact ⟨u1,v,e3,.free h hfr p1,hk⟩
     ·rw [h.2] at ih
      rw [h.1]
      exact ⟨[],w,rfl,.nil _,ih.1 rfl⟩
  | @byte i x c w u hx hfr hc hp ih =>
    intro e
    have ih:=ih e
    refine ⟨fun hi=>?_,fun hi=>?_⟩
    ·subst hi
     rcases (hall _ x).1 hx with h|h|h|h
     ·have:=(hE0 _ _ h).1;omega
     ·rw [h.2] at hfr;cases hfr
     ·obtain ⟨u1,v,e3,p1,k,hk⟩:=ih.2 (fr.tgt _ _ h).1
      refine ⟨k+1,c::u1,v,by rw [e3];rfl,(fr.lang _).1 (.byte h hfr hc p1),hk⟩
     ·rw [h.2] at hfr;cases hfr
    ·rcases (hall _ x).1 hx with h|h|h|h
     ·have:=(hE0 _ _ h).1;omega
     ·omega
     ·obtain ⟨u1,v,e3,p1,hk⟩:=ih.2 (fr.tgt _ _ h).1
      exact ⟨c::u1,v,by rw [e3];rfl,.byte h hfr hc p1,hk⟩
     ·rw [h.2] at hfr;cases hfr
 have back:∀ (k:Nat) (w:List UInt8),powW L k w→PathE (NewE st s5) r.1 w to:=by
  intro k
  induction k with
  | zero=>intro w hw;rw [show w=[] from hw];exact .free ((hall _ _).2 (.inr (.inl ⟨rfl,rfl⟩))) rfl (.nil _)
  | succ k ih =>
    rintro w ⟨u,v,rfl,hu,hv⟩
    have p1:=((fr.lang u).2 hu).mono (F:=NewE st s5) fun i x h=>(hall i x).2 (.inr (.inr (.inl h)))
    have p2:PathE (NewE st s5) p.1 [] r.1:=.free ((hall _ _).2 (.inr (.inr (.inr ⟨rfl,rfl⟩)))) rfl (.nil _)
    exact p1.app (p2.app (ih v hv))
 refine ⟨by omega,fr1.pre.trans (hp4.trans (fr.pre.trans hp5)),fun i x h=>?_,fun i x h=>?_,fun w=>⟨fun h=>?_,fun h=>?_⟩⟩
 ·rcases (hall i x).1 h with h|h|h|h
  ·exact .inl (hE0 _ _ h).1
  ·exact .inr (by omega)
  ·rcases fr.src _ _ h with h|h
   ·exact .inr (by omega)
   ·exact .inr (by omega)
  ·rcases hpin with h2|h2
   ·exact .inr (by omega)
   ·exact .inr (by omega)
 ·rcases (hall i x).1 h with h|h|h|h
  ·rw [(hE0 _ _ h).2];exact .inr (show st.rows.length≤r.1∧r.1<_ by omega)
  ·rw [h.2];exact .inl rfl
  ·have:=fr.tgt _ _ h;exact .inr (by omega)
  ·rw [h.2];exact .inr (show st.rows.length≤r.1∧r.1<_ by omega)
 ·generalize ht2:to=t at h
  cases h with
  | nil=>exact absurd ht2 hne
  | free hx hfr hp =>
    rcases (hall _ _).1 hx with h|h|h|h
    ·rw [(hE0 _ _ h).2] at hp
     exact (key hp ht2.symm).1 rfl
    ·omega
    ·rcases fr.src _ _ h with h|h<;>omega
    ·rcases hpin with h2|h2<;>omega
  | byte hx hfr hc hp =>
    rcases (hall _ _).1 hx with h|h|h|h
    ·rw [(hE0 _ _ h).2] at hfr;cases hfr
    ·omega
    ·rcases fr.src _ _ h with h|h<;>omega
    ·rcases hpin with h2|h2<;>omega
 ·obtain ⟨k,hk⟩:=h
  exact .free ((hall _ _).2 (.inl hE0')) rfl (back k w hk)
def zIJ (f:zBN) (L:Lg):Prop:=∀ (f1:Nat) (s1:StD),StOk s1→f1<s1.rows.length→(f f1 s1).2.full=false→Frag s1 f1 (f f1 s1).1 (f f1 s1).2 L
theorem zC5 (A:Lg) (w:List UInt8):zFu zFR A w↔A w:=⟨fun ⟨u,v,e,hu,hv⟩=>by rw [show u=[] from hu,List.nil_append] at e;exact e▸hv,fun h=>⟨[],w,rfl,rfl,h⟩⟩
theorem zKS (A B C:Lg) (w:List UInt8):zFu (zFu A B) C w↔zFu A (zFu B C) w :=
 ⟨fun ⟨u,v,e,⟨x,y,e2,hx,hy⟩,hv⟩=>⟨x,y++v,by rw [e,e2,List.append_assoc],hx,y,v,rfl,hy,hv⟩,
  fun ⟨u,v,e,hu,x,y,e2,hx,hy⟩=>⟨u++x,y,by rw [e,e2,List.append_assoc],⟨u,x,rfl,hu,hx⟩,hy⟩⟩
theorem zGA {f:zBN}{c s:Nat}{L:Lg} (hm:MadeF c s f) (hF:zIJ f L) {to:Nat}:∀ (k:Nat) (f0:Nat) (st:StD),StOk st→f0<st.rows.length→to<st.rows.length→to≠f0→(maxN f to k f0 st).2.2.full=false →
  (maxN f to k f0 st).1=false∧FragTo st f0 to (zAm (maxN f to k f0 st).2.1 (zAd to) (maxN f to k f0 st).2.2) (fun w=>∃ j,j≤k∧powW L j w)
 | 0,f0,st,ho,hf,ht,hne,hfull=>by
   rw [maxN]
   exact ⟨rfl,(zDT hf hne).congr fun w=>⟨fun h=>⟨0,Nat.le_refl _,h⟩,fun ⟨j,hj,h⟩=>by
    obtain rfl:j=0:=by omega
    exact h⟩⟩
 | k+1,f0,st,ho,hf,ht,hne,hfull=>by
   rw [maxN] at hfull ⊢
   cases hst:st.full with
   | true=>rw [if_pos hst] at hfull;have h2:st.full=false:=hfull;rw [hst] at h2;cases h2
   | false =>
     rw [if_neg (by rw [hst];decide)] at hfull
     rw [if_neg (show ¬(false=true) by decide)]
     have a1:=hm.one ho hf ht
     have a2:=(hm.max to k (oneN f to f0 st).1 (oneN f to f0 st).2 a1.ok a1.lt (by have:=a1.grow;omega)).1
     have h1:(oneN f to f0 st).2.full=false:=by cases hh:(oneN f to f0 st).2.full with
      | false=>rfl
      | true=>rw [a2.keep hh] at hfull;cases hfull
     -- the first one
     have o1:StOk (zAm f0 (zAd to) st):=ho.edge ht
     have hL1:=zAj f0 (zAd to) st
     have fe:=zDT (st:=st) hf hne
     unfold oneN at h1 hfull a1 ⊢
     generalize zAm f0 (zAd to) st=s1 at *
     have m1:=zAu o1
     have hsl:=zBU o1
     have fr1:=fun h=>zEK (st:=s1) (f:=f0) (by omega) h
     generalize zAa s1=r at *
     have o3:StOk (zAm f0 (zAd r.1) r.2):=m1.ok.edge hsl
     have hL3:=zAj f0 (zAd r.1) r.2
     have hF3:=zA4 f0 (zAd r.1) r.2
     generalize zAm f0 (zAd r.1) r.2=s3 at *
     have b1:=(hm r.1 s3 o3 (by omega)).1
     have h3:s3.full=false:=by cases hh:s3.full with
      | false=>rfl
      | true=>rw [b1.keep hh] at h1;cases h1
     have fr1:=fr1 (hF3.symm.trans h3)
     have fr2:=hF r.1 s3 o3 (by omega) h1
     have g1:=fr1.grow
     have g2:=fr2.grow
     generalize hp:f r.1 s3=p at *
     have hpin:p.1≠to:=by
      rcases fr2.tin with ⟨h,_⟩|h
      ·rcases fr1.tin with ⟨h4,_⟩|h4<;>omega
      ·omega
     obtain ⟨q1,q2⟩:=zGA hm hF k p.1 p.2 a1.ok a1.lt (by omega) (fun e=>hpin e.symm) hfull
     refine ⟨q1,?_⟩
     have w1:=fr1.then fr2 (by omega)
     have w2:=w1.thenTo q2 (by omega) (by omega) hne
     refine (fe.or w2 hf ht hne).congr fun w=>⟨fun h=>?_,fun h=>?_⟩
     ·rcases h with h|⟨u,v,e,hu,j,hj,hv⟩
      ·exact ⟨0,by omega,h⟩
      ·exact ⟨j+1,by omega,u,v,e,(zC5 L u).1 hu,hv⟩
     ·obtain ⟨j,hj,h⟩:=h
      cases j with
      | zero=>exact .inl h
      | succ j =>
        obtain ⟨u,v,e,hu,hv⟩:=h
        exact .inr ⟨u,v,e,(zC5 L u).2 hu,j,by omega,hv⟩
theorem zKx {f:zBN}{c s:Nat}{L:Lg} (hm:MadeF c s f) (hF:zIJ f L):∀ (k:Nat) (f0:Nat) (st:StD),StOk st→f0<st.rows.length→(minN f k f0 st).2.2.full=false→(minN f k f0 st).1=false∧Frag st f0 (minN f k f0 st).2.1 (minN f k f0 st).2.2 (powW L k)
 | 0,f0,st,ho,hf,hfull=>by rw [minN];exact ⟨rfl,Frag.refl st f0⟩
 | k+1,f0,st,ho,hf,hfull=>by
   rw [minN] at hfull ⊢
   cases hst:st.full with
   | true=>rw [if_pos hst] at hfull;have h2:st.full=false:=hfull;rw [hst] at h2;cases h2
   | false =>
     rw [if_neg (by rw [hst];decide)] at hfull
     rw [if_neg (show ¬(false=true) by decide)]
     have a1:=(hm f0 st ho hf).1
     have a2:=(hm.min k (f f0 st).1 (f f0 st).2 a1.ok a1.lt).1
     have h1:(f f0 st).2.full=false:=by cases hh:(f f0 st).2.full with
      | false=>rfl
      | true=>rw [a2.keep hh] at hfull;cases hfull
     obtain ⟨q1,q2⟩:=zKx hm hF k (f f0 st).1 (f f0 st).2 a1.ok a1.lt hfull
     exact ⟨q1,(hF f0 st ho hf h1).then q2 hf⟩
theorem zDv (L:Lg):∀ (i j:Nat) (w:List UInt8),zFu (powW L i) (powW L j) w↔powW L (i+j) w
 | 0,j,w=>by rw [Nat.zero_add];exact zC5 _ w
 | i+1,j,w=>by
   rw [show i+1+j=(i+j)+1 by omega]
   exact (zKS L (powW L i) (powW L j) w).trans ⟨fun ⟨u,v,e,hu,hv⟩=>⟨u,v,e,hu,(zDv L i j v).1 hv⟩,fun ⟨u,v,e,hu,hv⟩=>⟨u,v,e,hu,(zDv L i j v).2 hv⟩⟩
theorem zJp {f:zBN}{c s:Nat}{L:Lg} (hm:MadeF c s f) (hF:zIJ f L) {a b:Int} (h0:0≤a) (hab:b<0∨a≤b) {f0:Nat}{st:StD} (ho:StOk st) (hf:f0<st.rows.length) (hfull:(zBs f a b f0 st).2.full=false) :
  Frag st f0 (zBs f a b f0 st).1 (zBs f a b f0 st).2 (repW L a b):=by
 unfold zBs at hfull ⊢
 obtain ⟨m1,m2,_⟩:=hm.min a.toNat f0 st ho hf
 have fm:=zKx hm hF a.toNat f0 st ho hf
 generalize minN f a.toNat f0 st=M at *
 obtain ⟨stop,f1,s1⟩:=M
 have o1:StOk s1:=m1.ok
 have hlt1:f1<s1.rows.length:=m1.lt
 have g1:st.rows.length≤s1.rows.length:=m1.grow
 dsimp only at m1 m2 fm
 cases stop with
 | true =>
   have:s1.full=true:=m2 rfl
   have h2:s1.full=false:=hfull
   rw [this] at h2;cases h2
 | false =>
   dsimp only at hfull ⊢
   have t1:=zAu o1
   have hlt2:=t1.lt
   have g2:=t1.grow
   have hsnew:=fun h=>zC7 (st:=s1) h
   by_cases hb:b<0
   ·rw [if_pos hb] at hfull ⊢
    have hl:=zIn hm t1.ok (f0:=f1) (to:=(zAa s1).1) (by omega) hlt2
    have ht:(zAa s1).2.full=false:=by cases hh:(zAa s1).2.full with
     | false=>rfl
     | true=>rw [(hl.2.2.1 hh).1] at hfull;cases hfull
    obtain ⟨n1,n2,n3⟩:=hsnew ht
    obtain ⟨_,fm⟩:=fm n3
    have fl:=zJq hm hF t1.ok (f0:=f1) (to:=(zAa s1).1) (by omega) hlt2 (by omega) hfull
    refine (fm.then (fl.frag hlt1 ht) hf).congr fun w=>⟨fun ⟨u,v,e,hu,k,hv⟩=>⟨a.toNat+k,by omega,.inl hb,(zDv L _ _ w).1 ⟨u,v,e,hu,hv⟩⟩,fun ⟨k,h1,_,hk⟩=>?_⟩
    rw [show k=a.toNat+(k-a.toNat) by omega] at hk
    obtain ⟨u,v,e,hu,hv⟩:=(zDv L _ _ w).2 hk
    exact ⟨u,v,e,hu,_,hv⟩
   ·rw [if_neg hb] at hfull ⊢
    obtain ⟨x1,x2,_⟩:=hm.max (zAa s1).1 (b-a).toNat f1 (zAa s1).2 t1.ok (by omega) hlt2
    have fx:=fun h=>zGA hm hF (to:=(zAa s1).1) (b-a).toNat f1 (zAa s1).2 t1.ok (by omega) hlt2 h
    generalize maxN f (zAa s1).1 (b-a).toNat f1 (zAa s1).2=M2 at *
    obtain ⟨stop,f2,s2⟩:=M2
    dsimp only at x1 x2 fx
    have hs2:s2.full=false:=by cases stop with
     | true=>exact hfull
     | false=>exact hfull
    have ht:(zAa s1).2.full=false:=by cases hh:(zAa s1).2.full with
     | false=>rfl
     | true=>have h3:s2.full=true:=x1.keep hh;rw [hs2] at h3;cases h3
    obtain ⟨n1,n2,n3⟩:=hsnew ht
    obtain ⟨_,fm⟩:=fm n3
    obtain ⟨y1,y2⟩:=fx (by omega) hs2
    subst y1
    refine (fm.then (y2.frag hlt1 ht) hf).congr fun w=>⟨fun ⟨u,v,e,hu,j,hj,hv⟩=>⟨a.toNat+j,by omega,.inr (by omega),(zDv L _ _ w).1 ⟨u,v,e,hu,hv⟩⟩,fun ⟨k,h1,h2,hk⟩=>?_⟩
    rw [show k=a.toNat+(k-a.toNat) by omega] at hk
    obtain ⟨u,v,e,hu,hv⟩:=(zDv L _ _ w).2 hk
    exact ⟨u,v,e,hu,_,by omega,hv⟩
theorem zGB:∀ (l:List RgD),l≠[]→(∀ x∈l,MadeF (cntN x) (zAn x) (zAx x))→(∀ x∈l,zIJ (zAx x) (zCk x))→∀ (f0 to:Nat) (st:StD),StOk st→f0<st.rows.length→to<st.rows.length→to≠f0→(altN l f0 to st).full=false→FragTo st f0 to (altN l f0 to st) (altW l)
 | [],h,_,_,_,_,_,_,_,_,_,_=>absurd rfl h
 | x::l,_,hM,hF,f0,to,st,ho,hf,ht,hne,hfull=>by
   rw [altN] at hfull ⊢
   dsimp only at hfull ⊢
   have m1:=zAu ho
   have hsl:=zBU ho
   have fr1:=fun h=>zEK (st:=st) (f:=f0) hf h
   generalize zAa st=r at *
   have o3:StOk (zAm f0 (zAd r.1) r.2):=m1.ok.edge hsl
   have hL3:=zAj f0 (zAd r.1) r.2
   have hF3:=zA4 f0 (zAd r.1) r.2
   generalize zAm f0 (zAd r.1) r.2=s3 at *
   have g0:=m1.grow
   have b1:=(hM x (by simp) r.1 s3 o3 (by omega)).1
   have fr2:=fun h=>hF x (by simp) r.1 s3 o3 (by omega) h
   generalize zAx x r.1 s3=p at *
   have g2:=b1.grow
   have o5:StOk (zAm p.1 (zAd to) p.2):=b1.ok.edge (show to<p.2.rows.length by omega)
   have hL5:=zAj p.1 (zAd to) p.2
   have hF5:=zA4 p.1 (zAd to) p.2
   have fe:=fun h=>zDT (st:=p.2) (f:=p.1) (to:=to) b1.lt h
   generalize zAm p.1 (zAd to) p.2=s5 at *
   have hal:=zEr l (fun y hy=>hM y (by simp [hy])) f0 to s5 o5 (by omega) (by omega)
   have h5:s5.full=false:=by cases hh:s5.full with
    | false=>rfl
    | true=>have h2:(altN l f0 to s5).full=true:=hal.keep hh;rw [h2] at hfull;cases hfull
   have hp:p.2.full=false:=hF5.symm.trans h5
   have h3:s3.full=false:=by cases hh:s3.full with
    | false=>rfl
    | true=>rw [b1.keep hh] at hp;cases hp
   have fr1:=fr1 (hF3.symm.trans h3)
   have fr2:=fr2 hp
   have hpne:to≠p.1:=by
    rcases fr2.tin with ⟨h,_⟩|h
    ·rcases fr1.tin with ⟨h4,_⟩|h4<;>omega
    ·omega
   have w1:=((fr1.then fr2 hf).thenTo (fe hpne) hf ht hne).congr (M:=zCk x) fun w=>⟨fun ⟨u,v,e,hu,hv⟩=>by
    rw [show v=[] from hv,List.append_nil] at e
    exact (zC5 _ w).1 (e▸hu),fun h=>⟨w,[],by simp,(zC5 _ w).2 h,rfl⟩⟩
   cases l with
   | nil =>
     rw [altN]
     exact w1.congr fun w=>⟨fun h=>by rw [altW];exact .inl h,fun h=>by
      rw [altW] at h
      rcases h with h|h
      ·exact h
      ·rw [altW] at h;exact h.elim⟩
   | cons y l =>
     have w2:=zGB (y::l) (by simp) (fun z hz=>hM z (by simp [hz])) (fun z hz=>hF z (by simp [hz])) f0 to s5 o5 (by omega) (by omega) hne hfull
     refine (w1.or w2 hf ht hne).congr fun w=>?_
     conv=>rhs;rw [altW]
theorem zKy:∀ (l:List RgD),(∀ x∈l,MadeF (cntN x) (zAn x) (zAx x))→(∀ x∈l,zIJ (zAx x) (zCk x))→zIJ (catN l) (catW l)
 | [],_,_=>fun f0 st ho hf hfull=>by
   rw [catN]
   exact (Frag.refl st f0).congr fun w=>by rw [catW];exact Iff.rfl
 | x::l,hM,hF=>fun f0 st ho hf hfull=>by
   rw [catN] at hfull ⊢
   have a1:=(hM x (by simp) f0 st ho hf).1
   have a2:=((zHe l (fun y hy=>hM y (by simp [hy]))) (zAx x f0 st).1 (zAx x f0 st).2 a1.ok a1.lt).1
   have h1:(zAx x f0 st).2.full=false:=by cases hh:(zAx x f0 st).2.full with
    | false=>rfl
    | true=>rw [a2.keep hh] at hfull;cases hfull
   refine ((hF x (by simp) f0 st ho hf h1).then (zKy l (fun y hy=>hM y (by simp [hy])) (fun y hy=>hF y (by simp [hy])) _ _ a1.ok a1.lt hfull) hf).congr fun w=>?_
   conv=>rhs;rw [catW]
   exact Iff.rfl
theorem zNp:∀ n:RgD,zAJ n=0→zIJ (zAx n) (zCk n):=RgD.ind fun k s l a b ih hw f0 st ho hf hfull=>by
 obtain ⟨hform,hk⟩:=zAM hw
 have hk:zBp l=0:=hk
 have hF:=zBm hform
 have hM:∀ x∈l,MadeF (cntN x) (zAn x) (zAx x):=fun x hx=>zB8 x (zB0 hk x hx)
 have hI:∀ x∈l,zIJ (zAx x) (zCk x):=fun x hx=>ih x hx (zB0 hk x hx)
 rw [zAx] at hfull ⊢
 dsimp only at hfull ⊢
 have hst:st.full=false:=by cases hh:st.full with
  | false=>rfl
  | true=>rw [if_pos hh] at hfull;have h2:st.full=false:=hfull;rw [hh] at h2;cases h2
 rw [if_neg (by rw [hst];decide)] at hfull ⊢
 cases hF with
 | none s a b =>
   rw [if_neg (by decide),if_neg (by decide),if_neg (by decide),if_neg (by decide)]
   refine (Frag.refl st f0).congr fun w=>?_
   rw [zCf,if_pos rfl];exact Iff.rfl
 | one s a b h =>
   rw [if_pos rfl] at hfull ⊢
   refine (zKw hf hfull (setE (zAa st).1 s) rfl).congr fun w=>?_
   rw [if_neg (show ¬(setE (zAa st).1 s).free=true from (by intro h;cases h)),zCf,if_neg (show ¬(2:Int)=1 by decide),if_pos rfl];exact Iff.rfl
 | cat s x y l a b =>
   rw [if_neg (by decide),if_pos rfl] at hfull ⊢
   refine (zKy (x::y::l) hM hI f0 st ho hf hfull).congr fun w=>?_
   rw [zCf,if_neg (by decide),if_neg (by decide),if_pos rfl]
 | alt s x y l a b =>
   rw [if_neg (by decide),if_neg (by decide),if_pos rfl] at hfull ⊢
   have m1:=zAu ho
   have g1:=m1.grow
   have hal:=zEr (x::y::l) hM f0 (zAa st).1 (zAa st).2 m1.ok (by omega) m1.lt
   have h1:(zAa st).2.full=false:=by cases hh:(zAa st).2.full with
    | false=>rfl
    | true=>have h2:(altN (x::y::l) f0 (zAa st).1 (zAa st).2).full=true:=hal.keep hh;rw [h2] at hfull;cases hfull
   obtain ⟨n1,n2,_⟩:=zC7 h1
   refine ((zGB (x::y::l) (by simp) hM hI f0 (zAa st).1 (zAa st).2 m1.ok (by omega) m1.lt (by omega) hfull).frag hf h1).congr fun w=>?_
   rw [zCf,if_neg (by decide),if_neg (by decide),if_neg (by decide),if_pos rfl]
 | rep s x a b h =>
   rw [if_neg (by decide),if_neg (by decide),if_neg (by decide),if_pos rfl] at hfull ⊢
   have hkid:kidN [x]=zAx x:=by rw [kidN]
   rw [hkid] at hfull ⊢
   refine (zJp (hM x (by simp)) (hI x (by simp)) (by omega) (by omega) ho hf hfull).congr fun w=>?_
   rw [zCf,if_neg (by decide),if_neg (by decide),if_neg (by decide),if_neg (by decide),if_pos rfl]
   have:(fun u=>kidW [x] u)=zCk x:=by funext u;rw [kidW]
   rw [this]
def zDI (rows:zAy):RelE:=fun i x=>x∈rows[i]?.getD []
theorem zM6 {E:RelE}{s t:Nat}{w:List UInt8} (h:PathE E s w t):∀ {x:zA9}{c:UInt8},E t x→x.free=false→x.set.has c.toNat=true→PathE E s (w++[c]) x.to:=by
 induction h with
 | nil s=>intro x c h1 h2 h3;exact .byte h1 h2 h3 (.nil _)
 | free h hf _ ih=>intro x c h1 h2 h3;exact .free h hf (ih h1 h2 h3)
 | byte h hf hc _ ih=>intro x c h1 h2 h3;exact .byte h hf hc (ih h1 h2 h3)
theorem zM7 {E:RelE}{s t:Nat}{w:List UInt8} (h:PathE E s w t) {x:zA9} (h1:E t x) (h2:x.free=true):PathE E s w x.to:=by
 have:=h.app (.free h1 h2 (.nil x.to))
 rwa [List.append_nil] at this
theorem zMv {rows:zAy}{list:List Int}{j:Nat}:Rch rows list j↔∃ i:Nat,(i:Int)∈list∧i<rows.length∧PathE (zDI rows) i [] j:=by
 constructor
 ·intro h
  induction h with
  | base h hj=>exact ⟨_,h,hj,.nil _⟩
  | step h hj ih =>
    obtain ⟨i,h1,h2,h3⟩:=ih
    unfold zCK at hj
    obtain ⟨x,hx,rfl⟩:=List.mem_map.1 hj
    obtain ⟨hx1,hx2⟩:=List.mem_filter.1 hx
    exact ⟨i,h1,h2,zM7 h3 hx1 hx2⟩
 ·rintro ⟨i,h1,h2,h3⟩
  have:∀ {s t:Nat}{w:List UInt8},PathE (zDI rows) s w t→w=[]→Rch rows list s→Rch rows list t:=by
   intro s t w hp
   induction hp with
   | nil=>exact fun _ h=>h
   | @free s x w u h hf _ ih =>
     intro e hs
     exact ih e (.step hs (List.mem_map.2 ⟨x,List.mem_filter.2 ⟨h,hf⟩,rfl⟩))
   | byte=>intro e;cases e
  exact this h3 rfl (.base h1 h2)
theorem path_cut {E:RelE}{s t:Nat}{w:List UInt8}{c:UInt8} (h:PathE E s (w++[c]) t):∃ m x,PathE E s w m∧E m x∧x.free=false∧x.set.has c.toNat=true∧PathE E x.to [] t:=by
 generalize hw:w++[c]=w2 at h
 induction h generalizing w with
 | nil s=>cases w<;>simp at hw
 | free h hf hp ih =>
   obtain ⟨m,x,h1,h2⟩:=ih hw
   exact ⟨m,x,.free h hf h1,h2⟩
 | @byte s x d v u h hf hc hp ih =>
   cases w with
   | nil =>
     simp at hw
     obtain ⟨rfl,rfl⟩:=hw
     exact ⟨s,x,.nil s,h,hf,hc,hp⟩
   | cons y w =>
     simp at hw
     obtain ⟨rfl,hw⟩:=hw
     obtain ⟨m,z,h1,h2⟩:=ih hw
     exact ⟨m,z,.byte h hf hc h1,h2⟩
theorem zJR (a:NfaD) (b:List UInt8) (c:UInt8):runN a (b++[c])=zBJ a.rows (zAp (runN a b)) c.toNat:=by
 unfold runN;rw [List.foldl_append];rfl
theorem zK5 {rows:zAy}{i:Nat}{x:zA9} (h:zDI rows i x):i<rows.length:=by
 apply Classical.byContradiction
 intro hn
 unfold zDI at h
 rw [List.getElem?_eq_none (by omega)] at h
 cases h
theorem byteTo_iff {rows:zAy}{c:Nat}{s:Int}{j:Nat}:(j:Int)∈zBj rows c s↔∃ (i:Nat) (x:zA9),s=(i:Int)∧zDI rows i x∧x.free=false∧x.set.has c=true∧x.to=j:=by
 unfold zBj
 constructor
 ·intro h
  split at h
  ·rename_i hs
   obtain ⟨x,hx,e⟩:=List.mem_map.1 h
   obtain ⟨h1,h2⟩:=List.mem_filter.1 hx
   rw [Bool.and_eq_true] at h2
   exact ⟨s.toNat,x,by omega,h1,by simpa using h2.1,h2.2,Int.ofNat.inj e⟩
  ·cases h
 ·rintro ⟨i,x,rfl,h1,h2,h3,rfl⟩
  have:=zK5 h1
  rw [if_pos (by omega)]
  refine List.mem_map.2 ⟨x,List.mem_filter.2 ⟨?_,by rw [h2,h3];rfl⟩,rfl⟩
  rw [Int.toNat_natCast];exact h1
theorem zMg {a:NfaD} (ha:ToIn a.rows) (h0:a.rows≠[]):∀ (n:Nat) (b:List UInt8),b.length=n→∀ j:Nat,j∈runN a b↔PathE (zDI a.rows) 0 b j
 | 0,b,hb,j=>by
   have:b=[]:=List.eq_nil_of_length_eq_zero hb
   subst this
   have hs:runN a []=zBQ a.rows [0]:=by unfold runN zBK;rw [if_neg h0];rfl
   rw [hs,zEi ha,zMv]
   constructor
   ·rintro ⟨i,h1,_,h3⟩
    rw [List.mem_singleton] at h1
    obtain rfl:i=0:=by omega
    exact h3
   ·intro h;exact ⟨0,by simp,List.length_pos_iff.2 h0,h⟩
 | n+1,b,hb,j=>by
   obtain ⟨w,c,rfl⟩:∃ w c,b=w++[c]:=⟨b.dropLast,b.getLast (by intro e;subst e;cases hb),(List.dropLast_concat_getLast _).symm⟩
   have ih:=zMg ha h0 n w (by simpa using hb)
   rw [zJR]
   unfold zBJ
   rw [zEi ha,zMv]
   constructor
   ·rintro ⟨i,h1,h2,h3⟩
    obtain ⟨s,hs,hi⟩:=List.mem_flatMap.1 h1
    obtain ⟨m,x,rfl,h4,h5,h6,rfl⟩:=byteTo_iff.1 hi
    have:=zM6 ((ih m).1 (mem_ints.1 hs)) h4 h5 h6
    have h7:=this.app h3
    rwa [List.append_nil] at h7
   ·intro hp
    obtain ⟨m,x,h1,h2,h3,h4,h5⟩:=path_cut hp
    refine ⟨x.to,List.mem_flatMap.2 ⟨(m:Int),mem_ints.2 ((ih m).2 h1),byteTo_iff.2 ⟨m,x,rfl,h2,h3,h4,rfl⟩⟩,?_,h5⟩
    have:=zK5 h2
    cases hr:a.rows[m]? with
    | none=>unfold zDI at h2;rw [hr] at h2;cases h2
    | some row=>unfold zDI at h2;rw [hr] at h2;exact ha row (List.mem_of_getElem? hr) x h2
theorem zMP (st:StD) (i:Nat) (x:zA9):NewE st0 st i x↔zDI st.rows i x:=by
 unfold NewE zDI
 have:rowN st0 i=[]:=by
  unfold rowN st0
  cases i with
  | zero=>rfl
  | succ i=>rfl
 rw [this];rfl
theorem zG6 {n:RgD} (hw:zAJ n=0) (h:(zA8 n).1=0) (b:List UInt8):zG7 (zA8 n).2 b=true↔zCk n b:=by
 have hok:=zJg hw
 have hlen:=zMW hw h
 have hm:(zAx n 0 st0).2.full=false∧(zA8 n).2=⟨(zAx n 0 st0).2.rows,(zAx n 0 st0).1⟩:=by
  unfold zA8 at h ⊢
  split
  ·rename_i h1;rw [if_pos h1] at h;exact absurd h h1
  ·rename_i h1
   rw [if_neg h1] at h
   split
   ·rename_i h2;rw [if_pos h2] at h;cases h
   ·rename_i h2;exact ⟨by simpa using h2,rfl⟩
 obtain ⟨hfull,he⟩:=hm
 have hf:=zNp n hw 0 st0 zGs (by decide) hfull
 have hne:(zA8 n).2.rows≠[]:=fun e=>by rw [e] at hlen;simp at hlen;omega
 rw [←hf.lang b]
 unfold zG7 zHo
 rw [Bool.and_eq_true,decide_eq_true_iff,List.contains_iff_mem]
 rw [he] at hne hok ⊢
 dsimp only at hne hok ⊢
 have hr:=zMg hok.to hne b.length b rfl (zAx n 0 st0).1
 rw [mem_ints,hr]
 constructor
 ·rintro ⟨_,hp⟩
  exact hp.mono fun i x hx=>(zMP _ i x).2 hx
 ·intro hp
  exact ⟨List.length_pos_iff.2 hne,hp.mono fun i x hx=>(zMP _ i x).1 hx⟩
theorem zKa {L:Lg}:∀ (k:Nat) (w:List UInt8),powW L (k+1) w→w.length≤k→powW L k w
 | 0,w,⟨u,v,e,hu,hv⟩,hl=>by
   have:w=[]:=List.eq_nil_of_length_eq_zero (by omega)
   exact this
 | k+1,w,⟨u,v,e,hu,hv⟩,hl=>by
   cases u with
   | nil=>rw [List.nil_append] at e;rw [e];exact hv
   | cons c u =>
     have hvl:v.length≤k:=by rw [e] at hl;simp at hl;omega
     exact ⟨c::u,v,e,hu,zKa k v hv hvl⟩
theorem zM3 {L:Lg}{w:List UInt8}{m:Nat} (hw:w.length≤m):∀ (j:Nat),powW L (m+j) w→powW L m w
 | 0,h=>h
 | j+1,h=>zM3 hw j (zKa (m+j) w h (by omega))
theorem rep_cap {L:Lg}{w:List UInt8}{a k n:Nat} (hw:w.length≤n) (hk:a≤k) (h:powW L k w):∃ j,j≤n∧powW L (a+j) w:=by
 by_cases hle:k≤a+n
 ·exact ⟨k-a,by omega,by rw [show a+(k-a)=k by omega];exact h⟩
 ·refine ⟨n,Nat.le_refl _,zM3 (m:=a+n) (by omega) (k-(a+n)) ?_⟩
  rw [show a+n+(k-(a+n))=k by omega];exact h
def addS (o:List SetD) (x:zA9):List SetD:=if x.free=true∨x.set∈o then o else o++[x.set]
def zB4 (rows:zAy):List SetD:=rows.foldl (fun o l=>l.foldl addS o) []
theorem zKL {s:SetD}:∀ (l:List zA9) (o:List SetD),s∈l.foldl addS o↔s∈o∨∃ x∈l,x.free=false∧x.set=s
 | [],o=>by simp
 | x::l,o=>by
   rw [List.foldl_cons,zKL l]
   have h:s∈addS o x↔s∈o∨(x.free=false∧x.set=s):=by
    unfold addS
    split
    ·rename_i h
     constructor
     ·exact .inl
     ·rintro (h1|⟨h1,h2⟩)
      ·exact h1
      ·rcases h with h|h
       ·rw [h1] at h;cases h
       ·exact h2▸h
    ·rename_i h
     rw [List.mem_append,List.mem_singleton]
     have hf:x.free=false:=by cases hh:x.free with
      | false=>rfl
      | true=>exact absurd (.inl hh) h
     exact ⟨fun h1=>h1.imp id (fun e=>⟨hf,e.symm⟩),fun h1=>h1.imp id (fun e=>e.2.symm)⟩
   rw [h]
   constructor
   ·rintro ((h1|h1)|⟨y,hy,h1⟩)
    ·exact .inl h1
    ·exact .inr ⟨x,by simp,h1⟩
    ·exact .inr ⟨y,by simp [hy],h1⟩
   ·rintro (h1|⟨y,hy,h1⟩)
    ·exact .inl (.inl h1)
    ·rcases List.mem_cons.1 hy with rfl|hy
     ·exact .inl (.inr h1)
     ·exact .inr ⟨y,hy,h1⟩
theorem zGK:∀ (l:List zA9) (o:List SetD),o.Nodup→(l.foldl addS o).Nodup
 | [],o,h=>h
 | x::l,o,h=>by
   rw [List.foldl_cons]
   refine zGK l _ ?_
   unfold addS
   split
   ·exact h
   ·rename_i hn
    exact List.nodup_append.2 ⟨h,by simp,fun a ha b hb e=>by
     rw [List.mem_singleton] at hb
     subst hb;subst e
     exact hn (.inr ha)⟩
theorem zHM {s:SetD}:∀ (rows:zAy) (o:List SetD),s∈rows.foldl (fun o l=>l.foldl addS o) o↔s∈o∨∃ l∈rows,∃ x∈l,x.free=false∧x.set=s
 | [],o=>by simp
 | l::rows,o=>by
   rw [List.foldl_cons,zHM rows,zKL]
   constructor
   ·rintro ((h|⟨x,h⟩)|⟨m,hm,h⟩)
    ·exact .inl h
    ·exact .inr ⟨l,by simp,x,h⟩
    ·exact .inr ⟨m,by simp [hm],h⟩
   ·rintro (h|⟨m,hm,h⟩)
    ·exact .inl (.inl h)
    ·rcases List.mem_cons.1 hm with rfl|hm
     ·exact .inl (.inr h)
     ·exact .inr ⟨m,hm,h⟩
theorem sets_mem {rows:zAy}{s:SetD}:s∈zB4 rows↔∃ l∈rows,∃ x∈l,x.free=false∧x.set=s:=by
 unfold zB4;rw [zHM];simp
theorem zKY (rows:zAy):(zB4 rows).Nodup:=by
 unfold zB4
 have:∀ (rows:zAy) (o:List SetD),o.Nodup→(rows.foldl (fun o l=>l.foldl addS o) o).Nodup:=by
  intro rows
  induction rows with
  | nil=>exact fun o h=>h
  | cons l rows ih=>intro o h;rw [List.foldl_cons];exact ih _ (zGK l o h)
 exact this rows [] List.nodup_nil
theorem zJ2 {rows:zAy}{c d:Nat} (h:∀ s∈zB4 rows,s.has c=s.has d) (i:Int):zBj rows c i=zBj rows d i:=by
 unfold zBj
 split
 ·congr 1
  cases hr:rows[i.toNat]? with
  | none=>rfl
  | some row =>
    simp only [Option.getD_some]
    apply List.filter_congr
    intro x hx
    cases hf:x.free with
    | true=>rfl
    | false =>
      have:=h x.set (sets_mem.2 ⟨row,List.mem_of_getElem? hr,x,hx,hf,rfl⟩)
      rw [this]
 ·rfl
theorem zLO {rows:zAy}{c d:Nat} (h:∀ s∈zB4 rows,s.has c=s.has d) (list:List Int):zBJ rows list c=zBJ rows list d:=by
 unfold zBJ
 congr 1
 rw [show zBj rows c=zBj rows d from funext fun i=>zJ2 h i]
mutual
def zFd:RgD→List SetD
 | .mk k s l a b=>if k=2 then [s] else zGY l
def zGY:List RgD→List SetD
 | []=>[]
 | x::r=>zFd x++zGY r
end
mutual
theorem zKf:∀ n:RgD,(zFd n).length≤zAn n
 | .mk k s l a b=>by
   rw [zFd,zAn]
   split
   ·simp
   ·have:=zHX l;omega
theorem zHX:∀ l:List RgD,(zGY l).length≤zAr l
 | []=>Nat.le_refl _
 | x::r=>by rw [zGY,zAr,List.length_append];have:=zKf x;have:=zHX r;omega
end
theorem zMC {l:List RgD}{x:RgD} (hx:x∈l) {s:SetD} (hs:s∈zFd x):s∈zGY l:=by
 induction l with
 | nil=>cases hx
 | cons y l ih =>
   rw [zGY,List.mem_append]
   rcases List.mem_cons.1 hx with rfl|hx
   ·exact .inl hs
   ·exact .inr (ih hx)
def SetsIn (O:SetD→Prop) (st:StD):Prop:=∀ row∈st.rows,∀ x∈row,x.free=true∨O x.set
theorem SetsIn.state {O:SetD→Prop}{st:StD} (h:SetsIn O st):SetsIn O (zAa st).2:=by
 unfold zAa
 split
 ·exact h
 ·intro row hr x hx
  rcases List.mem_append.1 hr with hr|hr
  ·exact h row hr x hx
  ·rw [List.mem_singleton] at hr;subst hr;cases hx
theorem SetsIn.edge {O:SetD→Prop}{st:StD} (h:SetsIn O st) {f:Nat}{y:zA9} (hy:y.free=true∨O y.set):SetsIn O (zAm f y st):=by
 intro row hr x hx
 unfold zAm at hr
 rcases List.mem_or_eq_of_mem_set hr with hr|rfl
 ·exact h row hr x hx
 ·rcases List.mem_append.1 hx with hx|hx
  ·cases hg:st.rows[f]? with
   | none=>rw [hg] at hx;cases hx
   | some r0=>rw [hg] at hx;exact h r0 (List.mem_of_getElem? hg) x hx
  ·rw [List.mem_singleton] at hx;subst hx;exact hy
def SetsF (O:SetD→Prop) (f:zBN):Prop:=∀ (f0:Nat) (st:StD),SetsIn O st→SetsIn O (f f0 st).2
theorem SetsF.min {O:SetD→Prop}{f:zBN} (h:SetsF O f):∀ (k f0:Nat) (st:StD),SetsIn O st→SetsIn O (minN f k f0 st).2.2
 | 0,f0,st,hs=>hs
 | k+1,f0,st,hs=>by
   rw [minN]
   split
   ·exact hs
   ·exact SetsF.min h k _ _ (h f0 st hs)
theorem SetsF.max {O:SetD→Prop}{f:zBN} (h:SetsF O f) (to:Nat):∀ (k f0:Nat) (st:StD),SetsIn O st→SetsIn O (maxN f to k f0 st).2.2
 | 0,f0,st,hs=>hs
 | k+1,f0,st,hs=>by
   rw [maxN]
   split
   ·exact hs
   ·exact SetsF.max h to k _ _ (h _ _ ((hs.edge (.inl rfl)).state.edge (.inl rfl)))
theorem zIU {O:SetD→Prop}{f:zBN} (h:SetsF O f) (a b:Int):SetsF O (zBs f a b):=by
 intro f0 st hs
 unfold zBs
 have h1:=h.min a.toNat f0 st hs
 generalize minN f a.toNat f0 st=M at *
 obtain ⟨stop,f1,s1⟩:=M
 cases stop with
 | true=>exact h1
 | false =>
   dsimp only at h1 ⊢
   split
   ·unfold zCT
    exact (h _ _ ((h1.state.state.edge (.inl rfl)).edge (.inl rfl))).edge (.inl rfl)
   ·have h2:=h.max (zAa s1).1 (b-a).toNat f1 (zAa s1).2 h1.state
    generalize maxN f (zAa s1).1 (b-a).toNat f1 (zAa s1).2=M2 at *
    obtain ⟨stop,f2,s2⟩:=M2
    cases stop with
    | true=>exact h2
    | false=>exact SetsIn.edge h2 (.inl rfl)
theorem zJP {O:SetD→Prop}:∀ (l:List RgD),(∀ x∈l,SetsF O (zAx x))→∀ (f0 to:Nat) (st:StD),SetsIn O st→SetsIn O (altN l f0 to st)
 | [],_,f0,to,st,hs=>by rw [altN];exact hs
 | x::l,h,f0,to,st,hs=>by
   rw [altN]
   exact zJP l (fun y hy=>h y (by simp [hy])) _ _ _ (SetsIn.edge (h x (by simp) _ _ (hs.state.edge (.inl rfl))) (.inl rfl))
theorem zJO {O:SetD→Prop}:∀ (l:List RgD),(∀ x∈l,SetsF O (zAx x))→SetsF O (catN l)
 | [],_=>fun f0 st hs=>by rw [catN];exact hs
 | x::l,h=>fun f0 st hs=>by
   rw [catN]
   exact zJO l (fun y hy=>h y (by simp [hy])) _ _ (h x (by simp) f0 st hs)
theorem zLX {O:SetD→Prop}:∀ n:RgD,(∀ s∈zFd n,O s)→SetsF O (zAx n):=RgD.ind fun k s l a b ih hO f0 st hs=>by
 rw [zAx]
 dsimp only
 split
 ·exact hs
 split
 ·rename_i h2
  rw [zFd,if_pos h2] at hO
  exact hs.state.edge (.inr (hO s (by simp)))
 rename_i h2
 rw [zFd,if_neg h2] at hO
 have hall:∀ x∈l,SetsF O (zAx x):=fun x hx=>ih x hx fun z hz=>hO z (zMC hx hz)
 split
 ·exact zJO l hall f0 st hs
 split
 ·exact zJP l hall _ _ _ hs.state
 split
 ·refine zIU ?_ a b f0 st hs
  cases l with
  | nil=>rw [kidN];exact fun _ _ h=>h
  | cons x l=>rw [kidN];exact hall x (by simp)
 ·exact hs
theorem zJN {n:RgD}:∀ s∈zB4 (zA8 n).2.rows,s∈zFd n:=by
 intro s hs
 obtain ⟨l,hl,x,hx,hf,rfl⟩:=sets_mem.1 hs
 have h0:SetsIn (fun s=>s∈zFd n) st0:=fun row hr x hx=>by simp [st0] at hr;subst hr;cases hx
 have h:=zLX n (O:=fun s=>s∈zFd n) (fun s h=>h) 0 st0 h0
 unfold zA8 at hl
 split at hl
 ·cases hl
 split at hl
 ·cases hl
 ·rcases h l hl x hx with h1|h1
  ·rw [hf] at h1;cases h1
  ·exact h1
theorem zB7 {α:Type} [DecidableEq α]:∀ {a b:List α},a.Nodup→(∀ x∈a,x∈b)→a.length≤b.length
 | [],b,_,_=>Nat.zero_le _
 | x::a,b,hn,h=>by
   obtain ⟨h1,h2⟩:=List.nodup_cons.1 hn
   have hx:=h x (by simp)
   have:=zB7 (a:=a) (b:=b.erase x) h2 (fun y hy=>(List.mem_erase_of_ne (show y≠x from fun e=>h1 (e▸hy))).2 (h y (by simp [hy])))
   rw [List.length_erase_of_mem hx] at this
   have hp:=List.length_pos_of_mem hx
   rw [List.length_cons];omega
theorem sets_len (n:RgD):(zB4 (zA8 n).2.rows).length≤zAn n:=Nat.le_trans (zB7 (zKY _) zJN) (zKf n)
theorem ne_has {s:SetD} (hs:SetIn s) (h:s≠⟨0,0,0,0⟩):∃ c,c<256∧s.has c=true:=by
 apply Classical.byContradiction
 intro hn
 exact h (SetD.ext hs SetIn.zero fun c hc=>by
  rw [SetD.has_zero]
  cases e:s.has c with
  | false=>rfl
  | true=>exact absurd ⟨c,hc,e⟩ hn)
theorem zCY {s:SetD}{c:Nat} (h:s.firstIs c=true):c<256∧s.has c=true∧∀ j,j<c→s.has j=false:=by
 unfold SetD.firstIs at h
 rw [beq_iff_eq,List.find?_range_eq_some] at h
 obtain ⟨h1,h2,h3⟩:=h
 exact ⟨List.mem_range.1 h2,h1,fun j hj=>by simpa using h3 j hj⟩
theorem zFp {s:SetD} (hs:SetIn s) (h:s≠⟨0,0,0,0⟩):∃ c,c<256∧s.firstIs c=true:=by
 obtain ⟨c,hc,e⟩:=ne_has hs h
 cases hf:(List.range 256).find? s.has with
 | none=>rw [List.find?_eq_none] at hf;exact absurd e (hf c (List.mem_range.2 hc))
 | some d=>exact ⟨d,List.mem_range.1 (List.mem_of_find?_eq_some hf),by unfold SetD.firstIs;rw [hf];simp⟩
def sig (l:List SetD) (c:Nat):List Bool:=l.map (·.has c)
structure Cut (o l:List SetD):Prop where
 each:∀ q∈o,SetIn q∧q≠⟨0,0,0,0⟩
 all:∀ c,c<256→∃ p∈o,p.has c=true
 like:∀ p∈o,∀ c d,c<256→d<256→p.has c=true→(p.has d=true↔sig l c=sig l d)
 apart:o.Pairwise fun p q=>∀ c,c<256→¬(p.has c=true∧q.has c=true)
theorem Cut.one:Cut [allD] []:=⟨fun q hq=>by simp at hq;subst hq;exact ⟨SetIn.all,by decide⟩,fun c _=>⟨allD,by simp,SetD.has_all c⟩,fun p hp c d _ _ _=>by simp at hp;subst hp;simp [SetD.has_all,sig],by simp⟩
theorem mem_cutD {s p q:SetD} (h:q∈cutD s p):q≠⟨0,0,0,0⟩∧(q=p.and s∨q=p.and s.not):=by
 unfold cutD at h
 obtain ⟨h1,h2⟩:=List.mem_filter.1 h
 exact ⟨by simpa using h2,by simpa using h1⟩
theorem zHj {s p q:SetD} (hs:SetIn s) (h:q∈cutD s p):∃ b,∀ c,q.has c=(p.has c&&(s.has c == b)):=by
 rcases (mem_cutD h).2 with rfl|rfl
 ·exact ⟨true,fun c=>by rw [SetD.has_and];cases p.has c<;>cases s.has c<;>rfl⟩
 ·exact ⟨false,fun c=>by rw [SetD.has_and,SetD.has_not hs];cases p.has c<;>cases s.has c<;>rfl⟩
theorem Cut.step {o l:List SetD}{s:SetD} (h:Cut o l) (hs:SetIn s):Cut (zGg o s) (l++[s]):=by
 have sg:∀ c,sig (l++[s]) c=sig l c++[s.has c]:=fun c=>by simp [sig]
 refine ⟨fun q hq=>?_,fun c hc=>?_,fun q hq c d hc hd hqc=>?_,?_⟩
 ·obtain ⟨p,hp,hq⟩:=List.mem_flatMap.1 hq
  exact zNE (h.each p hp).1 q hq
 ·obtain ⟨p,hp,hpc⟩:=h.all c hc
  have key:∀ q:SetD,q∈[p.and s,p.and s.not]→q.has c=true→∃ q∈zGg o s,q.has c=true:=fun q hq hqc=>by
   refine ⟨q,List.mem_flatMap.2 ⟨p,hp,?_⟩,hqc⟩
   unfold cutD
   refine List.mem_filter.2 ⟨hq,?_⟩
   have:q≠⟨0,0,0,0⟩:=fun e=>by rw [e,SetD.has_zero] at hqc;cases hqc
   simpa using this
  cases e:s.has c with
  | true=>exact key (p.and s) (by simp) (by rw [SetD.has_and,hpc,e];rfl)
  | false=>exact key (p.and s.not) (by simp) (by rw [SetD.has_and,SetD.has_not hs,hpc,e];rfl)
 ·obtain ⟨p,hp,hq⟩:=List.mem_flatMap.1 hq
  obtain ⟨b,hb⟩:=zHj hs hq
  rw [hb] at hqc ⊢
  rw [Bool.and_eq_true,beq_iff_eq] at hqc
  have hl:=h.like p hp c d hc hd hqc.1
  rw [sg,sg,Bool.and_eq_true,beq_iff_eq,hl]
  constructor
  ·rintro ⟨h1,h2⟩;rw [h1,h2,hqc.2]
  ·intro e
   obtain ⟨e1,e2⟩:=List.append_inj' e rfl
   rw [List.cons.injEq] at e2
   exact ⟨e1,by rw [←e2.1,hqc.2]⟩
 ·refine List.pairwise_flatMap.2 ⟨fun p hp=>?_,h.apart.imp fun {p q} hpq x hx y hy c hc hxy=>?_⟩
  ·unfold cutD
   refine List.Pairwise.filter _ ?_
   refine List.pairwise_cons.2 ⟨fun q hq c hc hpq=>?_,by simp⟩
   simp at hq
   subst hq
   rw [SetD.has_and,SetD.has_and,SetD.has_not hs,Bool.and_eq_true,Bool.and_eq_true] at hpq
   have h1:=hpq.1.2
   have h2:=hpq.2.2
   rw [h1] at h2
   cases h2
  ·obtain ⟨b1,hb1⟩:=zHj hs hx
   obtain ⟨b2,hb2⟩:=zHj hs hy
   rw [hb1,hb2,Bool.and_eq_true,Bool.and_eq_true] at hxy
   exact hpq c hc ⟨hxy.1.1,hxy.2.1⟩
theorem Cut.fold:∀ (l k:List SetD) (o:List SetD),Cut o k→(∀ s∈l,SetIn s)→Cut (l.foldl zGg o) (k++l)
 | [],k,o,h,_=>by simpa using h
 | s::l,k,o,h,hs=>by
   have:=Cut.fold l (k++[s]) (zGg o s) (h.step (hs s (by simp))) (fun x hx=>hs x (by simp [hx]))
   simpa using this
theorem zFC {o:List SetD} (h:∀ q∈o,SetIn q∧q≠⟨0,0,0,0⟩) {p:SetD}:p∈zFc o↔p∈o:=by
 unfold zFc
 constructor
 ·intro hp
  obtain ⟨c,_,hp⟩:=List.mem_flatMap.1 hp
  exact (List.mem_filter.1 hp).1
 ·intro hp
  obtain ⟨c,hc,hf⟩:=zFp (h p hp).1 (h p hp).2
  exact List.mem_flatMap.2 ⟨c,List.mem_range.2 hc,List.mem_filter.2 ⟨hp,hf⟩⟩
theorem zIS {o:List SetD} (ha:o.Pairwise fun p q=>∀ c,c<256→¬(p.has c=true∧q.has c=true)):(zFc o).Pairwise fun p q=>∃ c d,p.firstIs c=true∧q.firstIs d=true∧c<d:=by
 unfold zFc
 refine List.pairwise_flatMap.2 ⟨fun c hc=>?_,?_⟩
 ·refine (List.Pairwise.filter _ ha).imp_of_mem fun {p q} hp hq hpq=>?_
  have h1:=zCY (List.mem_filter.1 hp).2
  have h2:=zCY (List.mem_filter.1 hq).2
  exact absurd ⟨h1.2.1,h2.2.1⟩ (hpq c h1.1)
 ·exact List.pairwise_lt_range.imp fun {c d} hcd x hx y hy=>⟨c,d,(List.mem_filter.1 hx).2,(List.mem_filter.1 hy).2,hcd⟩
structure Cuts (o l:List SetD):Prop where
 each:∀ q∈o,SetIn q∧q≠⟨0,0,0,0⟩
 all:∀ c,c<256→∃ p∈o,p.has c=true
 like:∀ p∈o,∀ c d,c<256→d<256→p.has c=true→(p.has d=true↔sig l c=sig l d)
 rises:o.Pairwise fun p q=>∃ c d,p.firstIs c=true∧q.firstIs d=true∧c<d
theorem zCO {l:List SetD} (hs:∀ s∈l,SetIn s):Cuts (zEd l) l:=by
 have h:=Cut.fold l [] [allD] Cut.one hs
 rw [List.nil_append] at h
 rw [zHD]
 refine ⟨fun q hq=>h.each q ((zFC h.each).1 hq),fun c hc=>?_,fun p hp=>h.like p ((zFC h.each).1 hp),zIS h.apart⟩
 obtain ⟨p,hp,hpc⟩:=h.all c hc
 exact ⟨p,(zFC h.each).2 hp,hpc⟩
theorem Cuts.same {o l:List SetD} (h:Cuts o l) {p q:SetD} (hp:p∈o) (hq:q∈o) {c:Nat} (hc:c<256) (h1:p.has c=true) (h2:q.has c=true):p=q :=
 SetD.ext (h.each p hp).1 (h.each q hq).1 fun d hd=>by
  rw [Bool.eq_iff_iff,h.like p hp c d hc hd h1,h.like q hq c d hc hd h2]
theorem zGC {p:SetD}{c d:Nat} (h1:p.firstIs c=true) (h2:p.firstIs d=true):c=d:=by
 unfold SetD.firstIs at h1 h2
 rw [beq_iff_eq] at h1 h2
 rw [h1] at h2
 exact Option.some.inj h2
theorem Cuts.at {o l:List SetD} (h:Cuts o l) {i j:Nat}{p q:SetD} (hij:i<j) (hp:o[i]?=some p) (hq:o[j]?=some q):(∃ c d,p.firstIs c=true∧q.firstIs d=true∧c<d)∧∀ c,c<256→¬(p.has c=true∧q.has c=true):=by
 obtain ⟨hi,ei⟩:=List.getElem?_eq_some_iff.1 hp
 obtain ⟨hj,ej⟩:=List.getElem?_eq_some_iff.1 hq
 have hr:=List.pairwise_iff_getElem.1 h.rises i j hi hj hij
 rw [ei,ej] at hr
 refine ⟨hr,fun c hc hpq=>?_⟩
 have:=h.same (List.mem_of_getElem? hp) (List.mem_of_getElem? hq) hc hpq.1 hpq.2
 subst this
 obtain ⟨x,y,hx,hy,hxy⟩:=hr
 have:=zGC hx hy
 omega
theorem Cuts.rank {o l:List SetD} (h:Cuts o l):∀ (i:Nat) (p:SetD) (c:Nat),o[i]?=some p→p.firstIs c=true→i≤c
 | 0,_,_,_,_=>Nat.zero_le _
 | i+1,p,c,hp,hc=>by
   have hi:i<o.length:=by have:=(List.getElem?_eq_some_iff.1 hp).1;omega
   obtain ⟨x,y,hx,hy,hxy⟩:=(h.at (Nat.lt_succ_self i) (List.getElem?_eq_getElem hi) hp).1
   have h1:=h.rank i _ x (List.getElem?_eq_getElem hi) hx
   have:=zGC hy hc
   omega
theorem Cuts.len {o l:List SetD} (h:Cuts o l):o.length≤256:=by
 rcases Nat.lt_or_ge 256 o.length with hl|hl
 ·have hg:o[256]?=some o[256]:=List.getElem?_eq_getElem hl
  obtain ⟨c,hc,hf⟩:=zFp (h.each _ (List.mem_of_getElem? hg)).1 (h.each _ (List.mem_of_getElem? hg)).2
  have:=h.rank 256 _ c hg hf
  omega
 ·exact hl
theorem sig_at {l:List SetD}{c d:Nat} (h:sig l c=sig l d) {s:SetD} (hs:s∈l):s.has c=s.has d:=by
 unfold sig at h
 exact List.map_inj_left.1 h s hs
structure DfaA where
 cls:List Nat
 next:List (List Int)
 acc:List Bool
deriving DecidableEq
def zAb (a:DfaA) (s:Int) (c:Nat):Int:=if s<0∨(a.next.length:Int)≤s then -1 else ((a.next[s.toNat]?.getD [])[a.cls[c]?.getD 0]?).getD (-1)
def zAD (a:DfaA) (s:Int):Bool:=decide (0≤s)&&decide (s<a.acc.length)&&a.acc[s.toNat]?.getD false
def runA (a:DfaA) (b:List UInt8):Int:=b.foldl (fun s c=>zAb a s c.toNat) 0
def zBe (a:DfaA) (b:List UInt8):Bool:=zAD a (runA a b)
structure zAt (w:Nat) (a:DfaA):Prop where
 cls:a.cls.length=256
 low:∀ k∈a.cls,k<w
 acc:a.acc.length=a.next.length
 row:∀ r∈a.next,r.length=w
 to:∀ r∈a.next,∀ z∈r,z=-1∨(0≤z∧z<a.next.length)
def zCg (p:SetD):Nat:=((List.range 256).find? p.has).getD 0
def rowG (rows:zAy) (cur:List Nat):List SetD→List (List Nat)→List Int→Option (List (List Nat) × List Int)
 | [],sets,row=>some (sets,row)
 | p::ps,sets,row =>
   if zBJ rows (zAp cur) (zCg p)=[] then rowG rows cur ps sets (row++[-1])
   else match sets.idxOf? (zBJ rows (zAp cur) (zCg p)) with
    | some k=>rowG rows cur ps sets (row++[(k:Int)])
    | none=>if sets.length=1024 then none else rowG rows cur ps (sets++[zBJ rows (zAp cur) (zCg p)]) (row++[(sets.length:Int)])
def subG (a:NfaD) (P:List SetD):Nat→List (List Nat)→List (List Int)→List Bool→Option (List (List Nat) × List (List Int) × List Bool)
 | 0,sets,next,acc=>some (sets,next,acc)
 | k+1,sets,next,acc =>
   match sets[next.length]? with
   | none=>some (sets,next,acc)
   | some cur =>
     match rowG a.rows cur P sets [] with
     | none=>none
     | some r=>subG a P k r.1 (next++[r.2]) (acc++[zHo a (zAp cur)])
def clsG (P:List SetD):List Nat:=(List.range 256).map fun c=>(P.findIdx? fun p=>p.has c).getD 0
def nilA:DfaA:=⟨List.replicate 256 0,[],[]⟩
def zCv (a:NfaD):List SetD:=zEd (zB4 a.rows)
def zAP (a:NfaD):Nat × DfaA :=
 if a.rows=[] then (160,nilA) else
 match subG a (zCv a) 1025 [zBK a.rows] [] [] with
 | none=>(80,nilA)
 | some r=>(0,⟨clsG (zCv a),r.2.1,r.2.2⟩)
structure SubOk (a:NfaD) (P:List SetD) (sets:List (List Nat)) (next:List (List Int)) (acc:List Bool):Prop where
 start:sets[0]?=some (zBK a.rows)
 le:sets.length≤1024
 nlen:next.length≤sets.length
 alen:acc.length=next.length
 nodup:sets.Nodup
 some':∀ t∈sets,t≠[]
 row:∀ (s:Nat) (r:List Int) (cur:List Nat),next[s]?=some r→sets[s]?=some cur→r.length=P.length∧∀ (k:Nat) (p:SetD),P[k]?=some p →
  (zBJ a.rows (zAp cur) (zCg p)=[]∧r[k]?=some (-1))∨∃ i:Nat,sets[i]?=some (zBJ a.rows (zAp cur) (zCg p))∧r[k]?=some (i:Int)
 acc:∀ (s:Nat) (cur:List Nat),s<next.length→sets[s]?=some cur→acc[s]?=some (zHo a (zAp cur))
 met:∀ (i:Nat),0<i→i<sets.length→∃ (s k:Nat) (r:List Int),s<i∧next[s]?=some r∧r[k]?=some (i:Int)
theorem zJT {rows:zAy}{cur:List Nat}:∀ (ps:List SetD) (sets:List (List Nat)) (row:List Int) (sets2:List (List Nat)) (row2:List Int),rowG rows cur ps sets row=some (sets2,row2)→sets.length≤1024→sets.Nodup→(∀ t∈sets,t≠[]) →
  (∃ e,sets2=sets++e)∧sets2.length≤1024∧sets2.Nodup∧(∀ t∈sets2,t≠[])∧(∃ f:List Int,row2=row++f∧f.length=ps.length∧(∀ (k:Nat) (p:SetD),ps[k]?=some p→(zBJ rows (zAp cur) (zCg p)=[]∧f[k]?=some (-1))∨∃ i:Nat,sets2[i]?=some (zBJ rows (zAp cur) (zCg p))∧f[k]?=some (i:Int)) ∧
   (∀ i:Nat,sets.length≤i→i<sets2.length→∃ k:Nat,f[k]?=some (i:Int)))
 | [],sets,row,sets2,row2,h,hl,hn,hs=>by
   rw [rowG] at h
   cases h
   exact ⟨⟨[],by simp⟩,hl,hn,hs,[],by simp,rfl,(fun k p hp=>by simp at hp),fun i h1 h2=>by omega⟩
 | p::ps,sets,row,sets2,row2,h,hl,hn,hs=>by
   rw [rowG] at h
   split at h
   ·rename_i h0
    obtain ⟨a1,a2,a3,a4,f,f1,f2,f3,f4⟩:=zJT ps sets _ _ _ h hl hn hs
    refine ⟨a1,a2,a3,a4,-1::f,by rw [f1];simp,by simp [f2],fun k q hq=>?_,fun i h1 h2=>by obtain ⟨k,hk⟩:=f4 i h1 h2;exact ⟨k+1,hk⟩⟩
    cases k with
    | zero=>simp at hq;subst hq;exact .inl ⟨h0,rfl⟩
    | succ k=>exact f3 k q hq
   ·rename_i h0
    split at h
    ·rename_i k0 hk0
     obtain ⟨a1,a2,a3,a4,f,f1,f2,f3,f4⟩:=zJT ps sets _ _ _ h hl hn hs
     refine ⟨a1,a2,a3,a4,(k0:Int)::f,by rw [f1];simp,by simp [f2],fun k q hq=>?_,fun i h1 h2=>by obtain ⟨k,hk⟩:=f4 i h1 h2;exact ⟨k+1,hk⟩⟩
     cases k with
     | zero =>
       simp at hq;subst hq
       refine .inr ⟨k0,?_,rfl⟩
       obtain ⟨e,he⟩:=a1
       obtain ⟨hlt,h1,_⟩:=List.findIdx?_eq_some_iff_getElem.1 hk0
       rw [he,List.getElem?_append_left hlt,List.getElem?_eq_getElem hlt,eq_of_beq h1]
     | succ k=>exact f3 k q hq
    ·rename_i hk0
     split at h
     ·cases h
     ·rename_i hne
      have hnm:zBJ rows (zAp cur) (zCg p)∉sets:=fun hm=>by
       have:=List.findIdx?_eq_none_iff.1 hk0 _ hm
       simp at this
      have hn2:(sets++[zBJ rows (zAp cur) (zCg p)]).Nodup:=List.nodup_append.2 ⟨hn,by simp,fun x hx y hy e=>by
       rw [List.mem_singleton] at hy;subst hy;subst e;exact hnm hx⟩
      obtain ⟨a1,a2,a3,a4,f,f1,f2,f3,f4⟩:=zJT ps (sets++[zBJ rows (zAp cur) (zCg p)]) _ _ _ h (by simp;omega) hn2 (fun t ht=>by
       rcases List.mem_append.1 ht with ht|ht
       ·exact hs t ht
       ·rw [List.mem_singleton] at ht;rw [ht];exact h0)
      obtain ⟨e,he⟩:=a1
      refine ⟨⟨zBJ rows (zAp cur) (zCg p)::e,by rw [he];simp⟩,a2,a3,a4,(sets.length:Int)::f,by rw [f1];simp,by simp [f2],fun k q hq=>?_,fun i h1 h2=>?_⟩
      ·cases k with
       | zero =>
         simp at hq;subst hq
         refine .inr ⟨sets.length,?_,rfl⟩
         rw [he,List.getElem?_append_left (by simp),List.getElem?_append_right (Nat.le_refl _),Nat.sub_self];rfl
       | succ k=>exact f3 k q hq
      ·by_cases e2:i=sets.length
       ·exact ⟨0,by rw [e2];rfl⟩
       ·obtain ⟨k,hk⟩:=f4 i (by simp;omega) h2
        exact ⟨k+1,hk⟩
theorem sub_ok {a:NfaD}{P:List SetD}:∀ (fuel:Nat) (sets:List (List Nat)) (next:List (List Int)) (acc:List Bool) (r:List (List Nat) × List (List Int) × List Bool),subG a P fuel sets next acc=some r→SubOk a P sets next acc→1024<fuel+next.length→SubOk a P r.1 r.2.1 r.2.2∧r.2.1.length=r.1.length
 | 0,sets,next,acc,r,h,ho,hf=>by have:=ho.nlen;have:=ho.le;omega
 | fuel+1,sets,next,acc,r,h,ho,hf=>by
   rw [subG] at h
   split at h
   ·rename_i hn
    cases h
    have:=List.getElem?_eq_none_iff.1 hn
    exact ⟨ho,by have:=ho.nlen;dsimp only;omega⟩
   ·rename_i cur hcur
    split at h
    ·cases h
    ·rename_i r2 hr2
     obtain ⟨sets2,row2⟩:=r2
     obtain ⟨⟨e,he⟩,a2,a3,a4,f,f1,f2,f3,f4⟩:=zJT P sets [] sets2 row2 hr2 ho.le ho.nodup ho.some'
     rw [List.nil_append] at f1
     subst f1
     have hlt:=(List.getElem?_eq_some_iff.1 hcur).1
     have hold:∀ (i:Nat) (t:List Nat),sets[i]?=some t→sets2[i]?=some t:=fun i t h=>by
      have:=(List.getElem?_eq_some_iff.1 h).1
      rw [he,List.getElem?_append_left this,h]
     have hold2:∀ (i:Nat) (t:List Nat),i<sets.length→sets2[i]?=some t→sets[i]?=some t:=fun i t h1 h=>by
      rw [he,List.getElem?_append_left h1] at h;exact h
     refine sub_ok fuel sets2 (next++[row2]) (acc++[zHo a (zAp cur)]) r h ⟨hold _ _ ho.start,a2,?_,by simp [ho.alen],a3,a4,?_,?_,?_⟩ (by simp;omega)
     ·rw [he];simp;omega
     ·intro s r cs hs hcs
      by_cases e1:s<next.length
      ·rw [List.getElem?_append_left e1] at hs
       obtain ⟨q1,q2⟩:=ho.row s r cs hs (hold2 s cs (by have:=ho.nlen;omega) hcs)
       refine ⟨q1,fun k p hp=>?_⟩
       rcases q2 k p hp with h3|⟨i,h3,h4⟩
       ·exact .inl h3
       ·exact .inr ⟨i,hold _ _ h3,h4⟩
      ·have e2:s=next.length:=by have:=(List.getElem?_eq_some_iff.1 hs).1;simp at this;omega
       subst e2
       rw [List.getElem?_append_right (Nat.le_refl _),Nat.sub_self] at hs
       have hs:row2=r:=by simpa using hs
       subst hs
       have hcc:=hold2 _ _ hlt hcs
       rw [hcur] at hcc
       cases hcc
       exact ⟨f2,f3⟩
     ·intro s cs hs hcs
      rw [List.length_append,List.length_singleton] at hs
      by_cases e1:s<next.length
      ·rw [List.getElem?_append_left (by rw [ho.alen];exact e1)]
       exact ho.acc s cs e1 (hold2 s cs (by have:=ho.nlen;omega) hcs)
      ·have e2:s=next.length:=by omega
       subst e2
       have hcc:=hold2 _ _ hlt hcs
       rw [hcur] at hcc
       cases hcc
       rw [List.getElem?_append_right (by rw [ho.alen];exact Nat.le_refl _),ho.alen,Nat.sub_self];rfl
     ·intro i h0 h1
      by_cases e1:i<sets.length
      ·obtain ⟨s,k,r,q1,q2,q3⟩:=ho.met i h0 e1
       exact ⟨s,k,r,q1,by rw [List.getElem?_append_left (List.getElem?_eq_some_iff.1 q2).1];exact q2,q3⟩
      ·obtain ⟨k,hk⟩:=f4 i (by omega) h1
       exact ⟨next.length,k,row2,by omega,by rw [List.getElem?_append_right (Nat.le_refl _),Nat.sub_self];rfl,hk⟩
theorem zI1 {p:SetD}{c:Nat} (h:p.firstIs c=true):zCg p=c:=by
 unfold SetD.firstIs at h
 rw [beq_iff_eq] at h
 unfold zCg;rw [h];rfl
theorem zNI {P l:List SetD} (h:Cuts P l) {c:Nat} (hc:c<256):∃ (k:Nat) (p:SetD),(clsG P)[c]?=some k∧P[k]?=some p∧p.has c=true:=by
 obtain ⟨p,hp,hpc⟩:=h.all c hc
 unfold clsG
 rw [List.getElem?_map,List.getElem?_range hc]
 cases hf:P.findIdx? (fun p=>p.has c) with
 | none=>have:=List.findIdx?_eq_none_iff.1 hf p hp;rw [hpc] at this;cases this
 | some k =>
   obtain ⟨h1,h2,_⟩:=List.findIdx?_eq_some_iff_getElem.1 hf
   refine ⟨k,P[k],?_,List.getElem?_eq_getElem h1,h2⟩
   show some ((P.findIdx? fun p=>p.has c).getD 0)=some k
   rw [hf];rfl
theorem zJy (P:List SetD):(clsG P).length=256:=by simp [clsG]
structure Subs (a:NfaD) (d:DfaA) (sets:List (List Nat)):Prop where
 ok:SubOk a (zCv a) sets d.next d.acc
 len:d.next.length=sets.length
 cls:d.cls=clsG (zCv a)
theorem zLp {a:NfaD} (ha:ToIn a.rows) (h:(zAP a).1=0):∃ sets,Subs a (zAP a).2 sets∧a.rows≠[]:=by
 unfold zAP at h ⊢
 split at h
 ·cases h
 ·rename_i hne
  rw [if_neg hne]
  split at h
  ·cases h
  ·rename_i r hr
   have hst:zBK a.rows≠[]:=by
    unfold zBK
    rw [if_neg hne]
    intro e
    have:(0:Nat)∈zBQ a.rows [0]:=(zEi ha 0).2 (.base (by simp) (List.length_pos_iff.2 hne))
    rw [e] at this;cases this
   obtain ⟨h1,h2⟩:=sub_ok 1025 _ _ _ r hr ⟨rfl,by simp,by simp,rfl,by simp,(fun t ht=>by rw [List.mem_singleton] at ht;rw [ht];exact hst),(fun s r cur hs=>by simp at hs),(fun s cur hs=>by simp at hs),(fun i h0 h1=>by simp at h1;omega)⟩ (by simp)
   exact ⟨r.1,⟨h1,h2,rfl⟩,hne⟩
def resA (a:DfaA) (s:Int) (b:List UInt8):Bool:=zAD a (b.foldl (fun s c=>zAb a s c.toNat) s)
theorem zBL (a:DfaA) (b:List UInt8):zBe a b=resA a 0 b:=rfl
theorem zAY (a:DfaA) (s:Int) (c:UInt8) (b:List UInt8):resA a s (c::b)=resA a (zAb a s c.toNat) b:=rfl
theorem zC6 {a:DfaA}{s:Int} (h:s<0) (c:Nat):zAb a s c=-1:=by unfold zAb;rw [if_pos (.inl h)]
theorem zBz {a:DfaA}:∀ (b:List UInt8) {s:Int},s<0→resA a s b=false
 | [],s,h=>by
   unfold resA zAD
   rw [List.foldl_nil,decide_eq_false (show ¬0≤s by omega)];rfl
 | c::b,s,h=>by rw [zAY,zC6 h];exact zBz b (by omega)
def zGo (a:DfaA):Nat:=(a.next[0]?.getD []).length
def SurA (w:Nat) (a:DfaA):Prop:=∀ k,k<w→∃ c:Nat,c<256∧a.cls[c]?=some k
theorem zBb {w:Nat}{a:DfaA} (h:zAt w a) {s:Nat} (hs:s<a.next.length) {c:Nat} (hc:c<256):∃ (k:Nat) (r:List Int),a.cls[c]?=some k∧k<w∧a.next[s]?=some r∧r[k]?=some (zAb a (s:Int) c):=by
 have hcl:c<a.cls.length:=by rw [h.cls];exact hc
 have hk:=h.low _ (List.getElem_mem hcl)
 have hr:=h.row _ (List.getElem_mem hs)
 refine ⟨a.cls[c],a.next[s],List.getElem?_eq_getElem hcl,hk,List.getElem?_eq_getElem hs,?_⟩
 unfold zAb
 rw [if_neg (by omega),Int.toNat_natCast,List.getElem?_eq_getElem hs,List.getElem?_eq_getElem hcl]
 simp only [Option.getD_some]
 rw [List.getElem?_eq_getElem (show a.cls[c] < a.next[s].length by omega)];rfl
theorem zAE {w:Nat}{a:DfaA} (h:zAt w a) (s:Int) {c:Nat} (hc:c<256):zAb a s c=-1∨∃ t:Nat,zAb a s c=(t:Int)∧t<a.next.length:=by
 by_cases hs:0≤s∧s<a.next.length
 ·obtain ⟨n,rfl⟩:∃ n:Nat,s=(n:Int):=⟨s.toNat,by omega⟩
  obtain ⟨k,r,h1,h2,h3,h4⟩:=zBb h (s:=n) (by omega) hc
  rcases h.to r (List.mem_of_getElem? h3) _ (List.mem_of_getElem? h4) with h5|h5
  ·exact .inl h5
  ·exact .inr ⟨(zAb a (n:Int) c).toNat,by omega,by omega⟩
 ·unfold zAb
  rw [if_pos (by omega)];exact .inl rfl
def zA2 (a:DfaA) (s:Nat):Prop:=∃ b,resA a (s:Int) b=true
def zIo (a:DfaA) (m:List Bool):List Bool:=(List.range a.next.length).map fun s=>getB m s||(a.next[s]?.getD []).any fun z=>decide (0≤z)&&getB m z.toNat
def zJj (a:DfaA):Nat→List Bool→List Bool
 | 0,m=>m
 | k+1,m=>zJj a k (zIo a m)
def zBt (a:DfaA):List Bool:=zJj a a.next.length a.acc
def zDd (a:DfaA) (m:List Bool):Prop:=∀ (s:Nat) (z:Int),z∈a.next[s]?.getD []→0≤z→getB m z.toNat=true→getB m s=true
theorem zEt {a:DfaA} (m:List Bool) (s:Nat):getB (zIo a m) s=true↔s<a.next.length∧(getB m s=true∨∃ z∈a.next[s]?.getD [],0≤z∧getB m z.toNat=true):=by
 unfold zIo
 rw [zD9,Bool.and_eq_true,decide_eq_true_iff,Bool.or_eq_true,List.any_eq_true]
 simp only [Bool.and_eq_true,decide_eq_true_iff]
theorem zJo {m:List Bool}{i:Nat} (h:getB m i=true):i<m.length:=by
 apply Classical.byContradiction
 intro hn
 unfold getB at h
 rw [List.getElem?_eq_none (by omega)] at h;cases h
theorem zFA {a:DfaA}{s:Nat}{z:Int} (h:z∈a.next[s]?.getD []):s<a.next.length:=by
 apply Classical.byContradiction
 intro hn
 rw [List.getElem?_eq_none (by omega)] at h;cases h
theorem zEs (a:DfaA) (m:List Bool):(zIo a m).length=a.next.length:=by simp [zIo]
theorem zDR {a:DfaA}{m:List Bool} (hl:m.length=a.next.length) (i:Nat) (hi:getB m i=true):getB (zIo a m) i=true :=
 (zEt m i).2 ⟨by rw [←hl];exact zJo hi,.inl hi⟩
theorem zLq {a:DfaA}{m:List Bool} (hl:m.length=a.next.length):zDd a m∨cntB m+1≤cntB (zIo a m):=by
 by_cases hc:zDd a m
 ·exact .inl hc
 ·refine .inr ?_
  have hex:∃ (s:Nat) (z:Int),z∈a.next[s]?.getD []∧0≤z∧getB m z.toNat=true∧getB m s=false:=by
   apply Classical.byContradiction
   intro hn
   exact hc fun s z h1 h2 h3=>by
    cases h4:getB m s with
    | true=>rfl
    | false=>exact absurd ⟨s,z,h1,h2,h3,h4⟩ hn
  obtain ⟨s,z,h1,h2,h3,h4⟩:=hex
  exact zNH m _ (by rw [hl,zEs]) (zDR hl) ⟨s,h4,(zEt m s).2 ⟨zFA h1,.inr ⟨z,h1,h2,h3⟩⟩⟩
theorem zE1 {a:DfaA}{m:List Bool} (hl:m.length=a.next.length) (hc:zDd a m):zDd a (zIo a m):=by
 intro s z h1 h2 h3
 have hz:getB m z.toNat=true:=by
  rcases ((zEt m z.toNat).1 h3).2 with h4|⟨y,h4,h5,h6⟩
  ·exact h4
  ·exact hc _ y h4 h5 h6
 exact zDR hl s (hc s z h1 h2 hz)
theorem zDQ {a:DfaA}:∀ (k:Nat) (m:List Bool),m.length=a.next.length→(zDd a m∨a.next.length≤k+cntB m)→zDd a (zJj a k m)
 | 0,m,hl,hc=>by
   rcases hc with hc|hc
   ·exact hc
   ·intro s z h1 h2 h3
    exact zNG m (by omega) s (by rw [hl];exact zFA h1)
 | k+1,m,hl,hc=>by
   rw [zJj]
   refine zDQ k _ (zEs a m) ?_
   rcases hc with hc|hc
   ·exact .inl (zE1 hl hc)
   ·rcases zLq hl with h1|h1
    ·exact .inl (zE1 hl h1)
    ·exact .inr (by omega)
theorem zEG {a:DfaA}:∀ (k:Nat) (m:List Bool),m.length=a.next.length→∀ i,getB m i=true→getB (zJj a k m) i=true
 | 0,m,hl,i,hi=>hi
 | k+1,m,hl,i,hi=>zEG k _ (zEs a m) i (zDR hl i hi)
theorem zHg {a:DfaA}:∀ (k:Nat) (m:List Bool),m.length=a.next.length→(zJj a k m).length=a.next.length
 | 0,m,hl=>hl
 | k+1,m,hl=>zHg k _ (zEs a m)
theorem zEF {a:DfaA}{Q:Nat→Prop} (hstep:∀ (s:Nat) (z:Int),z∈a.next[s]?.getD []→0≤z→Q z.toNat→Q s):∀ (k:Nat) (m:List Bool),(∀ i,getB m i=true→Q i)→∀ i,getB (zJj a k m) i=true→Q i
 | 0,m,hs,i,hi=>hs i hi
 | k+1,m,hs,i,hi=>zEF hstep k _ (fun j hj=>by
   rcases ((zEt m j).1 hj).2 with h1|⟨z,h1,h2,h3⟩
   ·exact hs j h1
   ·exact hstep j z h1 h2 (hs _ h3)) i hi
theorem zBn {a:DfaA} (s:Nat):zAD a (s:Int)=getB a.acc s:=by
 unfold zAD getB
 by_cases h:s<a.acc.length
 ·rw [decide_eq_true (by omega),decide_eq_true (by omega),Int.toNat_natCast];simp
 ·rw [decide_eq_false (show ¬((s:Int)<a.acc.length) by omega),List.getElem?_eq_none (show a.acc.length≤s by omega)];simp
theorem zFl {w:Nat}{a:DfaA} (h:zAt w a) (hs:SurA w a) (s:Nat):getB (zBt a) s=true↔zA2 a s:=by
 have hcl:=zDQ a.next.length a.acc h.acc (.inr (by omega))
 unfold zBt
 constructor
 ·refine zEF (fun s z h1 h2 h3=>?_) _ _ (fun i hi=>⟨[],by unfold resA;rw [List.foldl_nil,zBn];exact hi⟩) s
  obtain ⟨b,hb⟩:=h3
  have hlt:=zFA h1
  rw [List.getElem?_eq_getElem hlt,Option.getD_some] at h1
  obtain ⟨k,hk,e⟩:=List.getElem_of_mem h1
  have hw:k<w:=by rw [←h.row _ (List.getElem_mem hlt)];exact hk
  obtain ⟨c,hc,hck⟩:=hs k hw
  obtain ⟨k2,r,g1,g2,g3,g4⟩:=zBb h hlt hc
  rw [hck] at g1;cases g1
  rw [List.getElem?_eq_getElem hlt] at g3;cases g3
  rw [List.getElem?_eq_getElem hk,e] at g4
  have hst:zAb a (s:Int) c=z:=(Option.some.inj g4).symm
  refine ⟨UInt8.ofNat c::b,?_⟩
  rw [zAY,UInt8.toNat_ofNat_of_lt' hc,hst,show z=((z.toNat:Nat):Int) by omega]
  exact hb
 ·rintro ⟨b,hb⟩
  induction b generalizing s with
  | nil =>
    unfold resA at hb
    rw [List.foldl_nil,zBn] at hb
    exact zEG _ _ h.acc s hb
  | cons c b ih =>
    rw [zAY] at hb
    rcases zAE h (s:Int) c.toNat_lt with h1|⟨t,h1,h2⟩
    ·rw [h1,zBz b (by omega)] at hb;cases hb
    ·rw [h1] at hb
     have hlt:s<a.next.length:=by
      apply Classical.byContradiction
      intro hn
      unfold zAb at h1
      rw [if_pos (by omega)] at h1;omega
     obtain ⟨k,r,g1,g2,g3,g4⟩:=zBb h hlt c.toNat_lt
     rw [h1] at g4
     exact hcl s (t:Int) (by rw [g3];exact List.mem_of_getElem? g4) (by omega) (by rw [Int.toNat_natCast];exact ih t hb)
end Go.Proofs.YtmaennnkaoollaaGreatDoor
end
