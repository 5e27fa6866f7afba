/- Texts of a walk, one behind the other. -/
import Derived.WideKeyArr
import Derived.StringKeys
import Derived.DeepKeys5
import Derived.Test.YtmaennnkaoollaaGreatDoorMg2
import Derived.Test.YtmaennnkaoollaaGreatDoorMg5
set_option linter.unusedVariables false
set_option linter.unusedSimpArgs false
set_option linter.unusedSectionVars false
set_option maxRecDepth 10000
section
namespace Go.Proofs.YtmaennnkaoollaaGreatDoor
open Go Go.E
def zAk (g:List Int) (s:Nat):Int:=g[s]?.getD (-1)
def zA5 (g:List Int) (z:Int):Int:=if 0≤z then zAk g z.toNat else z
def keyA (a:DfaA) (g:List Int) (s:Nat):List Int:=(zAk g s+1)::(a.next[s]?.getD []).map fun z=>zA5 g z+1
def refA (a:DfaA) (g:List Int):Nat→Nat→List (List Int)→List Int→List (List Int) × List Int
 | 0,_,seen,out=>(seen,out)
 | k+1,i,seen,out =>
   if zAk g i=-1 then refA a g k (i+1) seen (out++[-1])
   else match seen.idxOf? (keyA a g i) with
    | some j=>refA a g k (i+1) seen (out++[(j:Int)])
    | none=>refA a g k (i+1) (seen++[keyA a g i]) (out++[(seen.length:Int)])
def grpL (a:DfaA):Nat→Nat→List Int→List Int
 | 0,_,g=>g
 | f+1,m,g=>if (refA a g a.next.length 0 [] []).1.length=m then (refA a g a.next.length 0 [] []).2 else grpL a f (refA a g a.next.length 0 [] []).1.length (refA a g a.next.length 0 [] []).2
def grp0 (a:DfaA):List Int:=(List.range a.next.length).map fun s=>if getB (zBt a) s then (if getB a.acc s then 1 else 0) else -1
def grpA (a:DfaA):List Int:=grpL a (a.next.length+1) 0 (grp0 a)
structure Numb (a:DfaA) (g:List Int) (i:Nat) (seen:List (List Int)) (out:List Int):Prop where
 len:out.length=i
 nodup:seen.Nodup
 dead:∀ s,s<i→zAk g s=-1→zAk out s=-1
 at':∀ s,s<i→zAk g s≠-1→∃ k:Nat,zAk out s=(k:Int)∧seen[k]?=some (keyA a g s)
 from':∀ (k:Nat) (key:List Int),seen[k]?=some key→∃ s,s<i∧zAk g s≠-1∧key=keyA a g s∧zAk out s=(k:Int)
theorem zBw {out:List Int}{v:Int}{s:Nat}:zAk (out++[v]) s=if s=out.length then v else zAk out s:=by
 unfold zAk
 by_cases h:s<out.length
 ·rw [List.getElem?_append_left h,if_neg (by omega)]
 ·rw [List.getElem?_append_right (by omega)]
  by_cases e:s=out.length
  ·rw [if_pos e,e,Nat.sub_self];rfl
  ·rw [if_neg e,List.getElem?_eq_none (by simp;omega),List.getElem?_eq_none (by omega)]
theorem zJV {a:DfaA}{g:List Int}:∀ (k i:Nat) (seen:List (List Int)) (out:List Int),Numb a g i seen out→Numb a g (i+k) (refA a g k i seen out).1 (refA a g k i seen out).2
 | 0,i,seen,out,h=>h
 | k+1,i,seen,out,h=>by
   rw [refA]
   have e:i+(k+1)=i+1+k:=by omega
   split
   ·rename_i h0
    rw [e]
    refine zJV k (i+1) seen _ ⟨by simp [h.len],h.nodup,fun s hs hd=>?_,fun s hs hd=>?_,fun j key hj=>?_⟩
    ·rw [zBw];split
     ·rfl
     ·rename_i h1;exact h.dead s (by have:=h.len;omega) hd
    ·rw [zBw];split
     ·rename_i h1;rw [h1,h.len] at hd;exact absurd h0 hd
     ·rename_i h1;exact h.at' s (by have:=h.len;omega) hd
    ·obtain ⟨s,h1,h2,h3,h4⟩:=h.from' j key hj
     exact ⟨s,by omega,h2,h3,by rw [zBw,if_neg (by have:=h.len;omega)];exact h4⟩
   ·rename_i h0
    split
    ·rename_i j0 hj0
     rw [e]
     obtain ⟨hlt,hk,_⟩:=List.findIdx?_eq_some_iff_getElem.1 hj0
     have hk:seen[j0]=keyA a g i:=eq_of_beq hk
     refine zJV k (i+1) seen _ ⟨by simp [h.len],h.nodup,fun s hs hd=>?_,fun s hs hd=>?_,fun j key hj=>?_⟩
     ·rw [zBw];split
      ·rename_i h1;rw [h1,h.len] at hd;exact absurd hd h0
      ·rename_i h1;exact h.dead s (by have:=h.len;omega) hd
     ·rw [zBw];split
      ·rename_i h1
       refine ⟨j0,rfl,?_⟩
       rw [List.getElem?_eq_getElem hlt,hk,h1,h.len]
      ·rename_i h1;exact h.at' s (by have:=h.len;omega) hd
     ·obtain ⟨s,h1,h2,h3,h4⟩:=h.from' j key hj
      exact ⟨s,by omega,h2,h3,by rw [zBw,if_neg (by have:=h.len;omega)];exact h4⟩
    ·rename_i hj0
     rw [e]
     have hnm:keyA a g i∉seen:=fun hm=>by
      have:=List.findIdx?_eq_none_iff.1 hj0 _ hm
      simp at this
     refine zJV k (i+1) _ _ ⟨by simp [h.len],List.nodup_append.2 ⟨h.nodup,by simp,fun x hx y hy e=>by
      rw [List.mem_singleton] at hy;subst hy;subst e;exact hnm hx⟩,fun s hs hd=>?_,fun s hs hd=>?_,fun j key hj=>?_⟩
     ·rw [zBw];split
      ·rename_i h1;rw [h1,h.len] at hd;exact absurd hd h0
      ·rename_i h1;exact h.dead s (by have:=h.len;omega) hd
     ·rw [zBw];split
      ·rename_i h1
       refine ⟨seen.length,rfl,?_⟩
       rw [List.getElem?_append_right (Nat.le_refl _),Nat.sub_self,h1,h.len];rfl
      ·rename_i h1
       obtain ⟨k1,h2,h3⟩:=h.at' s (by have:=h.len;omega) hd
       exact ⟨k1,h2,by rw [List.getElem?_append_left (List.getElem?_eq_some_iff.1 h3).1];exact h3⟩
     ·by_cases hjl:j<seen.length
      ·rw [List.getElem?_append_left hjl] at hj
       obtain ⟨s,h1,h2,h3,h4⟩:=h.from' j key hj
       exact ⟨s,by omega,h2,h3,by rw [zBw,if_neg (by have:=h.len;omega)];exact h4⟩
      ·have hje:j=seen.length:=by have:=(List.getElem?_eq_some_iff.1 hj).1;simp at this;omega
       subst hje
       rw [List.getElem?_append_right (Nat.le_refl _),Nat.sub_self] at hj
       have hj:keyA a g i=key:=by simpa using hj
       exact ⟨i,by omega,h0,hj.symm,by rw [zBw,if_pos h.len.symm]⟩
theorem numb0 (a:DfaA) (g:List Int):Numb a g 0 [] []:=⟨rfl,List.nodup_nil,fun s h=>by omega,fun s h=>by omega,fun k key h=>by simp at h⟩
theorem zMq (a:DfaA) (g:List Int):Numb a g a.next.length (refA a g a.next.length 0 [] []).1 (refA a g a.next.length 0 [] []).2:=by
 have:=zJV a.next.length 0 [] [] (numb0 a g)
 rwa [Nat.zero_add] at this
structure GrpOk (a:DfaA) (g:List Int):Prop where
 len:g.length=a.next.length
 dead:∀ s,s<a.next.length→(zAk g s=-1↔¬zA2 a s)
 low:∀ s,s<a.next.length→-1≤zAk g s
 same:∀ s t,s<a.next.length→t<a.next.length→zA2 a s→(∀ b,resA a (s:Int) b=resA a (t:Int) b)→zAk g s=zAk g t
 acc:∀ s t,s<a.next.length→t<a.next.length→zA2 a s→zAk g s=zAk g t→getB a.acc s=getB a.acc t
structure zOf (a:DfaA) (m:Nat) (g:List Int):Prop where
 lt:∀ s,s<a.next.length→zAk g s<(m:Int)
 all:∀ k,k<m→∃ s,s<a.next.length∧zA2 a s∧zAk g s=(k:Int)
theorem zFD {a:DfaA}{s t:Nat} (h:zA2 a s) (hr:∀ b,resA a (s:Int) b=resA a (t:Int) b):zA2 a t:=by
 obtain ⟨b,hb⟩:=h
 exact ⟨b,by rw [←hr];exact hb⟩
theorem zCl {a:DfaA}{s:Nat} (h:¬zA2 a s) (b:List UInt8):resA a (s:Int) b=false:=by
 cases hb:resA a (s:Int) b with
 | false=>rfl
 | true=>exact absurd ⟨b,hb⟩ h
theorem zLs {w:Nat}{a:DfaA} (h:zAt w a) {g:List Int} (hg:GrpOk a g) {y z:Int} (hy:y=-1∨(0≤y∧y<a.next.length)) (hz:z=-1∨(0≤z∧z<a.next.length)) (hr:∀ b,resA a y b=resA a z b):zA5 g y=zA5 g z:=by
 have key:∀ {y z:Int},y=-1→(0≤z∧z<a.next.length)→(∀ b,resA a y b=resA a z b)→zA5 g y=zA5 g z:=by
  intro y z h1 h2 hr
  unfold zA5
  rw [if_neg (by omega),if_pos h2.1,h1]
  refine ((hg.dead z.toNat (by omega)).2 fun hl=>?_).symm
  obtain ⟨b,hb⟩:=hl
  rw [show ((z.toNat:Nat):Int)=z by omega,←hr,zBz b (by omega)] at hb;cases hb
 rcases hy with hy|hy
 ·rcases hz with hz|hz
  ·rw [hy,hz]
  ·exact key hy hz hr
 ·rcases hz with hz|hz
  ·exact (key hz hy (fun b=>(hr b).symm)).symm
  ·unfold zA5
   rw [if_pos hy.1,if_pos hz.1]
   have e1:((y.toNat:Nat):Int)=y:=by omega
   have e2:((z.toNat:Nat):Int)=z:=by omega
   by_cases hl:zA2 a y.toNat
   ·exact hg.same _ _ (by omega) (by omega) hl (fun b=>by rw [e1,e2];exact hr b)
   ·rw [(hg.dead y.toNat (by omega)).2 hl]
    refine ((hg.dead z.toNat (by omega)).2 fun h2=>hl ?_).symm
    exact zFD h2 (fun b=>by rw [e1,e2];exact (hr b).symm)
theorem key_same {w:Nat}{a:DfaA} (h:zAt w a) (hs:SurA w a) {g:List Int} (hg:GrpOk a g) {s t:Nat} (h1:s<a.next.length) (h2:t<a.next.length) (hl:zA2 a s) (hr:∀ b,resA a (s:Int) b=resA a (t:Int) b):keyA a g s=keyA a g t:=by
 unfold keyA
 rw [hg.same s t h1 h2 hl hr]
 congr 1
 rw [List.getElem?_eq_getElem h1,List.getElem?_eq_getElem h2,Option.getD_some,Option.getD_some]
 apply List.ext_getElem?
 intro k
 rw [List.getElem?_map,List.getElem?_map]
 by_cases hk:k<w
 ·obtain ⟨c,hc,hck⟩:=hs k hk
  obtain ⟨k1,r1,p1,p2,p3,p4⟩:=zBb h h1 hc
  obtain ⟨k2,r2,q1,q2,q3,q4⟩:=zBb h h2 hc
  rw [hck] at p1 q1
  cases p1;cases q1
  rw [List.getElem?_eq_getElem h1] at p3
  rw [List.getElem?_eq_getElem h2] at q3
  cases p3;cases q3
  rw [p4,q4]
  simp only [Option.map_some]
  congr 2
  have t1:=h.to _ (List.getElem_mem h1) _ (List.mem_of_getElem? p4)
  have t2:=h.to _ (List.getElem_mem h2) _ (List.mem_of_getElem? q4)
  refine zLs h hg t1 t2 fun b=>?_
  have:=hr (UInt8.ofNat c::b)
  rw [zAY,zAY,UInt8.toNat_ofNat_of_lt' hc] at this
  exact this
 ·rw [List.getElem?_eq_none (by rw [h.row _ (List.getElem_mem h1)];omega),List.getElem?_eq_none (by rw [h.row _ (List.getElem_mem h2)];omega)]
theorem zKn {a:DfaA}{g:List Int}{s t:Nat} (h:keyA a g s=keyA a g t):zAk g s=zAk g t:=by
 unfold keyA at h
 have:=(List.cons.inj h).1
 omega
theorem GrpOk.ref {w:Nat}{a:DfaA} (h:zAt w a) (hs:SurA w a) {g:List Int} (hg:GrpOk a g) {seen:List (List Int)}{out:List Int} (hn:Numb a g a.next.length seen out) :
  GrpOk a out∧zOf a seen.length out∧∀ s t,s<a.next.length→t<a.next.length→zA2 a s→zA2 a t→(zAk out s=zAk out t↔keyA a g s=keyA a g t):=by
 have hiff:∀ s t,s<a.next.length→t<a.next.length→zA2 a s→zA2 a t→(zAk out s=zAk out t↔keyA a g s=keyA a g t):=by
  intro s t h1 h2 l1 l2
  obtain ⟨k1,p1,p2⟩:=hn.at' s h1 (fun e=>((hg.dead s h1).1 e) l1)
  obtain ⟨k2,q1,q2⟩:=hn.at' t h2 (fun e=>((hg.dead t h2).1 e) l2)
  rw [p1,q1]
  constructor
  ·intro e
   have:k1=k2:=by omega
   subst this
   rw [p2] at q2;exact Option.some.inj q2
  ·intro e
   rw [e] at p2
   have:=(List.getElem?_inj (List.getElem?_eq_some_iff.1 p2).1 hn.nodup).1 (p2.trans q2.symm)
   omega
 have hdead:∀ s,s<a.next.length→(zAk out s=-1↔¬zA2 a s):=fun s h1=>by
  constructor
  ·intro e hl
   obtain ⟨k1,p1,_⟩:=hn.at' s h1 (fun e=>((hg.dead s h1).1 e) hl)
   omega
  ·intro hl;exact hn.dead s h1 ((hg.dead s h1).2 hl)
 have hlow:∀ s,s<a.next.length→-1≤zAk out s:=fun s h1=>by
  by_cases hl:zA2 a s
  ·obtain ⟨k1,p1,_⟩:=hn.at' s h1 (fun e=>((hg.dead s h1).1 e) hl)
   omega
  ·have:=(hdead s h1).2 hl;omega
 refine ⟨⟨hn.len,hdead,hlow,fun s t h1 h2 hl hr=>(hiff s t h1 h2 hl (zFD hl hr)).2 (key_same h hs hg h1 h2 hl hr),fun s t h1 h2 hl e=>?_⟩,⟨fun s h1=>?_,fun k hk=>?_⟩,hiff⟩
 ·have hl2:zA2 a t:=Classical.byContradiction fun hn2=>by
   have h3:=(hdead t h2).2 hn2
   exact ((hdead s h1).1 (e.trans h3)) hl
  exact hg.acc s t h1 h2 hl (zKn ((hiff s t h1 h2 hl hl2).1 e))
 ·by_cases hl:zA2 a s
  ·obtain ⟨k1,p1,p2⟩:=hn.at' s h1 (fun e=>((hg.dead s h1).1 e) hl)
   have:=(List.getElem?_eq_some_iff.1 p2).1
   omega
  ·have:=(hdead s h1).2 hl;omega
 ·obtain ⟨s,h1,h2,_,h4⟩:=hn.from' k _ (List.getElem?_eq_getElem hk)
  exact ⟨s,h1,Classical.byContradiction fun hn2=>h2 ((hg.dead s h1).2 hn2),h4⟩
theorem zGr {α:Type} [DecidableEq α]:∀ {U H:List α},U.Nodup→(∀ x∈U,x∈H)→H.length≤U.length→H.Nodup
 | U,[],_,_,_=>List.nodup_nil
 | U,x::H,hu,hm,hl=>by
   have hx:x∉H:=fun hx=>by
    have:U.length≤H.length:=zB7 hu fun y hy=>by
     rcases List.mem_cons.1 (hm y hy) with rfl|h
     ·exact hx
     ·exact h
    simp at hl;omega
   have he:∀ y∈U.erase x,y∈H:=fun y hy=>by
    have hne:y≠x:=fun e=>by subst e;exact (List.Nodup.not_mem_erase hu) hy
    rcases List.mem_cons.1 (hm y (List.mem_of_mem_erase hy)) with h|h
    ·exact absurd h hne
    ·exact h
   refine List.nodup_cons.2 ⟨hx,zGr (hu.erase x) he ?_⟩
   have:=List.length_erase_le (a:=x) (l:=U)
   by_cases hxu:x∈U
   ·rw [List.length_erase_of_mem hxu];simp at hl;omega
   ·rw [List.erase_of_not_mem hxu];simp at hl;omega
theorem zDq {a:DfaA}{g:List Int} (hg:GrpOk a g) {m:Nat} (hf:zOf a m g) {seen:List (List Int)}{out:List Int} (hn:Numb a g a.next.length seen out) :
  m≤seen.length∧(seen.length=m→∀ s t,s<a.next.length→t<a.next.length→zA2 a s→zA2 a t→zAk g s=zAk g t→keyA a g s=keyA a g t):=by
 have hU:((List.range m).map fun k:Nat=>(k:Int)+1).Nodup:=by
  refine List.pairwise_map.2 (List.nodup_range.imp fun {x y} h e=>h (by omega))
 have hmem:∀ x∈(List.range m).map fun k:Nat=>(k:Int)+1,x∈seen.map fun l=>l.headD 0:=fun x hx=>by
  obtain ⟨k,hk,rfl⟩:=List.mem_map.1 hx
  obtain ⟨s,h1,hl,h2⟩:=hf.all k (List.mem_range.1 hk)
  obtain ⟨j,_,h4⟩:=hn.at' s h1 (fun e=>((hg.dead s h1).1 e) hl)
  exact List.mem_map.2 ⟨keyA a g s,List.mem_of_getElem? h4,by unfold keyA;rw [h2];rfl⟩
 have hle:=zB7 hU hmem
 rw [List.length_map,List.length_map,List.length_range] at hle
 refine ⟨hle,fun e s t h1 h2 l1 l2 hst=>?_⟩
 have hH:=zGr hU hmem (by rw [List.length_map,List.length_map,List.length_range];omega)
 obtain ⟨j1,_,p2⟩:=hn.at' s h1 (fun e=>((hg.dead s h1).1 e) l1)
 obtain ⟨j2,_,q2⟩:=hn.at' t h2 (fun e=>((hg.dead t h2).1 e) l2)
 have hj:j1=j2:=by
  refine (List.getElem?_inj (by rw [List.length_map];exact (List.getElem?_eq_some_iff.1 p2).1) hH).1 ?_
  rw [List.getElem?_map,List.getElem?_map,p2,q2]
  unfold keyA;rw [hst];rfl
 subst hj
 rw [p2] at q2;exact Option.some.inj q2
structure zKN (a:DfaA) (g:List Int):Prop where
 ok:GrpOk a g
 iff:∀ s t,s<a.next.length→t<a.next.length→zA2 a s→zA2 a t→(zAk g s=zAk g t↔∀ b,resA a (s:Int) b=resA a (t:Int) b)
theorem zIv {w:Nat}{a:DfaA} (h:zAt w a) {g:List Int} (hg:GrpOk a g)
  (hst:∀ s t,s<a.next.length→t<a.next.length→zA2 a s→zA2 a t→zAk g s=zAk g t→∀ c,c<256→zA5 g (zAb a (s:Int) c)=zA5 g (zAb a (t:Int) c)) :
  ∀ (b:List UInt8) (s t:Nat),s<a.next.length→t<a.next.length→zA2 a s→zA2 a t→zAk g s=zAk g t→resA a (s:Int) b=resA a (t:Int) b
 | [],s,t,h1,h2,l1,l2,e=>by unfold resA;rw [List.foldl_nil,List.foldl_nil,zBn,zBn];exact hg.acc s t h1 h2 l1 e
 | c::b,s,t,h1,h2,l1,l2,e=>by
   rw [zAY,zAY]
   have hgr:=hst s t h1 h2 l1 l2 e c.toNat c.toNat_lt
   have dead:∀ {y:Int},(y=-1∨∃ n:Nat,y=(n:Int)∧n<a.next.length)→zA5 g y=-1→resA a y b=false:=by
    intro y hy hd
    rcases hy with hy|⟨n,rfl,hn⟩
    ·exact zBz b (by omega)
    ·unfold zA5 at hd
     rw [if_pos (by omega),Int.toNat_natCast] at hd
     exact zCl ((hg.dead n hn).1 hd) b
   have t1:=zAE h (s:Int) c.toNat_lt
   have t2:=zAE h (t:Int) c.toNat_lt
   generalize zAb a (s:Int) c.toNat=y at *
   generalize zAb a (t:Int) c.toNat=z at *
   by_cases hd:zA5 g y=-1
   ·rw [dead t1 hd,dead t2 (hgr.symm.trans hd)]
   ·have lv:∀ {y:Int},(y=-1∨∃ n:Nat,y=(n:Int)∧n<a.next.length)→zA5 g y≠-1→∃ n:Nat,y=(n:Int)∧n<a.next.length∧zA2 a n∧zA5 g y=zAk g n:=by
     intro y hy hd
     rcases hy with hy|⟨n,rfl,hn⟩
     ·exact absurd (by unfold zA5;rw [if_neg (by omega)];exact hy) hd
     ·have e:zA5 g (n:Int)=zAk g n:=by unfold zA5;rw [if_pos (by omega),Int.toNat_natCast]
      exact ⟨n,rfl,hn,Classical.byContradiction fun hl=>hd (e.trans ((hg.dead n hn).2 hl)),e⟩
    obtain ⟨n1,rfl,p1,p2,p3⟩:=lv t1 hd
    obtain ⟨n2,rfl,q1,q2,q3⟩:=lv t2 (fun e=>hd (hgr.trans e))
    exact zIv h hg hst b n1 n2 p1 q1 p2 q2 (by rw [←p3,←q3];exact hgr)
theorem key_step {w:Nat}{a:DfaA} (h:zAt w a) {g:List Int}{s t:Nat} (h1:s<a.next.length) (h2:t<a.next.length) (e:keyA a g s=keyA a g t) {c:Nat} (hc:c<256):zA5 g (zAb a (s:Int) c)=zA5 g (zAb a (t:Int) c):=by
 obtain ⟨k1,r1,p1,p2,p3,p4⟩:=zBb h h1 hc
 obtain ⟨k2,r2,q1,q2,q3,q4⟩:=zBb h h2 hc
 rw [p1] at q1;cases q1
 unfold keyA at e
 rw [p3,q3] at e
 have e2:=congrArg (fun l:List Int=>l[k1]?) (List.cons.inj e).2
 simp only [Option.getD_some] at e2
 rw [List.getElem?_map,List.getElem?_map,p4,q4] at e2
 simp only [Option.map_some,Option.some.injEq] at e2
 omega
theorem zKt {w:Nat}{a:DfaA} (h:zAt w a) (hs:SurA w a):∀ (f m:Nat) (g:List Int),GrpOk a g→(m=0∨zOf a m g)→a.next.length<f+m→zKN a (grpL a f m g)
 | 0,m,g,hg,hm,hf=>by
   rcases hm with hm|hm
   ·omega
   ·-- more groups than states: none
    exfalso
    have hU:(List.range m).Nodup:=List.nodup_range
    have:m≤a.next.length:=by
     have h1:∀ x∈(List.range m).map (fun k:Nat=>(k:Int)),x∈g:=fun x hx=>by
      obtain ⟨k,hk,rfl⟩:=List.mem_map.1 hx
      obtain ⟨s,h1,_,h2⟩:=hm.all k (List.mem_range.1 hk)
      unfold zAk at h2
      rw [List.getElem?_eq_getElem (by rw [hg.len];exact h1),Option.getD_some] at h2
      exact h2▸List.getElem_mem _
     have h3:((List.range m).map (fun k:Nat=>(k:Int))).Nodup:=List.pairwise_map.2 (List.nodup_range.imp fun {x y} h e=>h (by omega))
     have:=zB7 h3 h1
     rw [List.length_map,List.length_range,hg.len] at this;exact this
    omega
 | f+1,m,g,hg,hm,hf=>by
   rw [grpL]
   have hn:=zMq a g
   generalize refA a g a.next.length 0 [] []=r at *
   obtain ⟨o1,o2,o3⟩:=hg.ref h hs hn
   split
   ·rename_i he
    -- no more groups
    have hkey:∀ s t,s<a.next.length→t<a.next.length→zA2 a s→zA2 a t→zAk g s=zAk g t→keyA a g s=keyA a g t:=by
     rcases hm with hm|hm
     ·intro s t h1 h2 l1 l2 _
      obtain ⟨k,_,p2⟩:=hn.at' s h1 (fun e=>((hg.dead s h1).1 e) l1)
      have:=(List.getElem?_eq_some_iff.1 p2).1
      omega
     ·exact (zDq hg hm hn).2 he
    have hgg:∀ s t,s<a.next.length→t<a.next.length→zA2 a s→zA2 a t→(zAk r.2 s=zAk r.2 t↔zAk g s=zAk g t):=fun s t h1 h2 l1 l2 =>
     (o3 s t h1 h2 l1 l2).trans ⟨zKn,hkey s t h1 h2 l1 l2⟩
    have hat:∀ {y z:Int},(y=-1∨∃ n:Nat,y=(n:Int)∧n<a.next.length)→(z=-1∨∃ n:Nat,z=(n:Int)∧n<a.next.length)→zA5 g y=zA5 g z→zA5 r.2 y=zA5 r.2 z:=by
     intro y z hy hz e
     have val:∀ (g:List Int) (n:Nat),zA5 g (n:Int)=zAk g n:=fun g n=>by unfold zA5;rw [if_pos (by omega),Int.toNat_natCast]
     have neg:∀ (g:List Int),zA5 g (-1)=-1:=fun g=>by unfold zA5;rw [if_neg (by omega)]
     rcases hy with rfl|⟨n,rfl,hn1⟩
     ·rcases hz with rfl|⟨k,rfl,hk1⟩
      ·rfl
      ·rw [neg,val] at e ⊢
       exact ((o1.dead k hk1).2 ((hg.dead k hk1).1 e.symm)).symm
     ·rcases hz with rfl|⟨k,rfl,hk1⟩
      ·rw [neg,val] at e ⊢
       exact (o1.dead n hn1).2 ((hg.dead n hn1).1 e)
      ·rw [val,val] at e ⊢
       by_cases l1:zA2 a n
       ·have l2:zA2 a k:=Classical.byContradiction fun hh=>((hg.dead n hn1).1 (e.trans ((hg.dead k hk1).2 hh))) l1
        exact (hgg n k hn1 hk1 l1 l2).2 e
       ·have l2:¬zA2 a k:=(hg.dead k hk1).1 (e.symm.trans ((hg.dead n hn1).2 l1))
        rw [(o1.dead n hn1).2 l1,(o1.dead k hk1).2 l2]
    refine ⟨o1,fun s t h1 h2 l1 l2=>⟨fun e b=>?_,fun hr=>o1.same s t h1 h2 l1 hr⟩⟩
    refine zIv h o1 (fun s t h1 h2 l1 l2 e c hc=>?_) b s t h1 h2 l1 l2 e
    exact hat (zAE h _ hc) (zAE h _ hc) (key_step h h1 h2 ((o3 s t h1 h2 l1 l2).1 e) hc)
   ·rename_i he
    refine zKt h hs f r.1.length r.2 o1 (.inr o2) ?_
    rcases hm with hm|hm
    ·omega
    ·have:=(zDq hg hm hn).1;omega
theorem zNi {w:Nat}{a:DfaA} (h:zAt w a) (hs:SurA w a):GrpOk a (grp0 a):=by
 have hv:∀ s,s<a.next.length→zAk (grp0 a) s=if getB (zBt a) s then (if getB a.acc s then 1 else 0) else -1:=fun s h1=>by
  unfold zAk grp0
  rw [List.getElem?_map,List.getElem?_range h1];rfl
 have hacc:∀ s t,s<a.next.length→t<a.next.length→zA2 a s→zA2 a t→(zAk (grp0 a) s=zAk (grp0 a) t↔getB a.acc s=getB a.acc t):=fun s t h1 h2 l1 l2=>by
  rw [hv s h1,hv t h2,(zFl h hs s).2 l1,(zFl h hs t).2 l2,if_pos rfl,if_pos rfl]
  cases getB a.acc s<;>cases getB a.acc t<;>simp
 have hdead:∀ s,s<a.next.length→(zAk (grp0 a) s=-1↔¬zA2 a s):=fun s h1=>by
  rw [hv s h1,←zFl h hs s]
  cases getB (zBt a) s with
  | false=>simp
  | true=>simp;split<;>omega
 refine ⟨by simp [grp0],hdead,fun s h1=>by rw [hv s h1];split;split<;>omega;omega,fun s t h1 h2 hl hr=>?_,fun s t h1 h2 hl e=>?_⟩
 ·refine (hacc s t h1 h2 hl (zFD hl hr)).2 ?_
  have:=hr []
  unfold resA at this
  rwa [List.foldl_nil,List.foldl_nil,zBn,zBn] at this
 ·have l2:zA2 a t:=Classical.byContradiction fun hh=>((hdead s h1).1 (e.trans ((hdead t h2).2 hh))) hl
  exact (hacc s t h1 h2 hl l2).1 e
theorem zHk {w:Nat}{a:DfaA} (h:zAt w a) (hs:SurA w a):zKN a (grpA a):=zKt h hs _ 0 _ (zNi h hs) (.inl rfl) (by omega)
def Bef (s c s2 c2:Nat):Prop:=s<s2∨(s=s2∧c<c2)
structure zJA (w:Nat) (a:DfaA):Prop where
 ok:zAt w a
 sur:SurA w a
 pos:0<a.next.length
 live:∀ s,s<a.next.length→zA2 a s
 diff:∀ s t,s<a.next.length→t<a.next.length→(∀ b,resA a (s:Int) b=resA a (t:Int) b)→s=t
 met:∀ t,0<t→t<a.next.length→∃ s c,s<t∧c<256∧zAb a (s:Int) c=(t:Int)
 order:∀ (s c t:Nat),s<a.next.length→c<256→zAb a (s:Int) c=(t:Int)→∀ u,0<u→u<t→∃ s2 c2,s2<a.next.length∧c2<256∧Bef s2 c2 s c∧zAb a (s2:Int) c2=(u:Int)
 like:∀ c d k,c<256→d<256→a.cls[c]?=some k→(a.cls[d]?=some k↔∀ s:Nat,s<a.next.length→zAb a (s:Int) c=zAb a (s:Int) d)
 first:∀ c k,c<256→a.cls[c]?=some k→∀ j,j<k→∃ d,d<c∧a.cls[d]?=some j
theorem zNT {s c s2 c2 s3 c3:Nat} (h:Bef s c s2 c2) (h2:Bef s2 c2 s3 c3):Bef s c s3 c3:=by unfold Bef at *;omega
theorem zLw {n:Nat}{f:Nat→Nat→Int}{t:Int} (h:∃ s c,s<n∧c<256∧f s c=t):∃ s c,s<n∧c<256∧f s c=t∧∀ s2 c2,s2<n→c2<256→Bef s2 c2 s c→f s2 c2≠t:=by
 -- by the number 256 s+c
 have key:∀ m:Nat,∀ s c,s*256+c=m→s<n→c<256→f s c=t→∃ s c,s<n∧c<256∧f s c=t∧∀ s2 c2,s2<n→c2<256→Bef s2 c2 s c→f s2 c2≠t:=by
  intro m
  induction m using Nat.strongRecOn with
  | _ m ih =>
    intro s c hm hs hc hf
    by_cases hex:∃ s2 c2,s2<n∧c2<256∧Bef s2 c2 s c∧f s2 c2=t
    ·obtain ⟨s2,c2,h1,h2,h3,h4⟩:=hex
     refine ih (s2*256+c2) ?_ s2 c2 rfl h1 h2 h4
     unfold Bef at h3;omega
    ·exact ⟨s,c,hs,hc,hf,fun s2 c2 h1 h2 h3 h4=>hex ⟨s2,c2,h1,h2,h3,h4⟩⟩
 obtain ⟨s,c,h1,h2,h3⟩:=h
 exact key _ s c rfl h1 h2 h3
theorem zD6 {a:DfaA} (s:Int) {c:Nat} (hc:c<256) (b:List UInt8):resA a (zAb a s c) b=resA a s (UInt8.ofNat c::b):=by rw [zAY,UInt8.toNat_ofNat_of_lt' hc]
theorem zJi {w:Nat}{a:DfaA} (h:zAt w a) {s:Int}{c:Nat} (hc:c<256) {b:List UInt8} (hb:resA a (zAb a s c) b=true):∃ t:Nat,zAb a s c=(t:Int)∧t<a.next.length:=by
 rcases zAE h s hc with h1|h1
 ·rw [h1,zBz b (by omega)] at hb;cases hb
 ·exact h1
theorem zCt {w v:Nat}{a b:DfaA} (ha:zJA w a) (hb:zJA v b) (h0:∀ x,resA a 0 x=resA b 0 x):∀ i:Nat,i<a.next.length→i<b.next.length∧∀ x,resA a (i:Int) x=resA b (i:Int) x:=by
 intro i
 induction i using Nat.strongRecOn with
 | _ i ih =>
   intro hi
   by_cases hz:i=0
   ·subst hz;exact ⟨hb.pos,h0⟩
   ·obtain ⟨s0,c0,hs0,hc0,hf0⟩:=ha.met i (by omega) hi
    obtain ⟨s,c,hs,hc,hf,hmin⟩:=zLw (n:=a.next.length) (f:=fun s c=>zAb a (s:Int) c) (t:=(i:Int)) ⟨s0,c0,by omega,hc0,hf0⟩
    have hsi:s<i:=by
     apply Classical.byContradiction
     intro hn
     exact hmin s0 c0 (by omega) hc0 (.inl (by omega)) hf0
    obtain ⟨hsb,hsr⟩:=ih s hsi hs
    have hres:∀ x,resA b (zAb b (s:Int) c) x=resA a (i:Int) x:=fun x=>by rw [zD6 _ hc,←hsr,←zD6 _ hc,hf]
    obtain ⟨x0,hx0⟩:=ha.live i hi
    obtain ⟨j,hj,hjn⟩:=zJi hb.ok hc (by rw [hres];exact hx0)
    rw [hj] at hres
    have hij:j=i:=by
     rcases Nat.lt_trichotomy j i with h|h|h
     ·obtain ⟨_,hjr⟩:=ih j h (by omega)
      exact ha.diff j i (by omega) hi fun x=>by rw [hjr,hres]
     ·exact h
     ·-- i is met ahead of j in b
      exfalso
      obtain ⟨s2,c2,h2,hc2,hbef,hf2⟩:=hb.order s c j hsb hc hj i (by omega) h
      have hs2:s2≤s:=by unfold Bef at hbef;omega
      obtain ⟨_,hr2⟩:=ih s2 (by omega) (by omega)
      have hres2:∀ x,resA a (zAb a (s2:Int) c2) x=resA b (i:Int) x:=fun x=>by rw [zD6 _ hc2,hr2,←zD6 _ hc2,hf2]
      have hib:i<b.next.length:=by omega
      obtain ⟨x1,hx1⟩:=hb.live i hib
      obtain ⟨t,ht,htn⟩:=zJi ha.ok hc2 (by rw [hres2];exact hx1)
      rw [ht] at hres2
      rcases Nat.lt_trichotomy t i with h3|h3|h3
      ·obtain ⟨htb,htr⟩:=ih t h3 htn
       have:=hb.diff t i htb hib fun x=>by rw [←htr,hres2]
       omega
      ·subst h3
       exact hmin s2 c2 (by omega) hc2 hbef ht
      ·obtain ⟨s3,c3,h4,hc3,hb3,hf3⟩:=ha.order s2 c2 t (by omega) hc2 ht i (by omega) h3
       exact hmin s3 c3 h4 hc3 (zNT hb3 hbef) hf3
    subst hij
    exact ⟨hjn,fun x=>(hres x).symm⟩
theorem zJ0 {w v:Nat}{a b:DfaA} (ha:zJA w a) (hb:zJA v b) (h0:∀ x,resA a 0 x=resA b 0 x) {s c:Nat} (hs:s<a.next.length) (hc:c<256):zAb a (s:Int) c=zAb b (s:Int) c:=by
 have hA:=zCt ha hb h0
 have hB:=zCt hb ha (fun x=>(h0 x).symm)
 obtain ⟨hsb,hsr⟩:=hA s hs
 have hres:∀ x,resA a (zAb a (s:Int) c) x=resA b (zAb b (s:Int) c) x:=fun x=>by rw [zD6 _ hc,zD6 _ hc,hsr]
 rcases zAE ha.ok (s:Int) hc with h1|⟨t,h1,h2⟩
 ·rcases zAE hb.ok (s:Int) hc with h3|⟨u,h3,h4⟩
  ·rw [h1,h3]
  ·obtain ⟨x,hx⟩:=hb.live u h4
   rw [h1,h3] at hres
   rw [←hres,zBz x (by omega)] at hx;cases hx
 ·obtain ⟨x,hx⟩:=ha.live t h2
  rw [h1] at hres
  obtain ⟨u,h3,h4⟩:=zJi hb.ok hc (by rw [←hres];exact hx)
  rw [h3] at hres
  obtain ⟨h5,h6⟩:=hA t h2
  rw [h1,h3,hb.diff t u h5 h4 fun x=>by rw [←h6,hres]]
theorem zID {w v:Nat}{a b:DfaA} (ha:zJA w a) (hb:zJA v b) (h0:∀ x,resA a 0 x=resA b 0 x):a=b:=by
 have hA:=zCt ha hb h0
 have hB:=zCt hb ha (fun x=>(h0 x).symm)
 have hlen:a.next.length=b.next.length:=by
  have h1:a.next.length≤b.next.length:=by have:=(hA (a.next.length-1) (by have:=ha.pos;omega)).1;have:=ha.pos;omega
  have h2:b.next.length≤a.next.length:=by have:=(hB (b.next.length-1) (by have:=hb.pos;omega)).1;have:=hb.pos;omega
  omega
 have hst:∀ s c,s<a.next.length→c<256→zAb a (s:Int) c=zAb b (s:Int) c:=fun s c hs hc=>zJ0 ha hb h0 hs hc
 have hcls:∀ c,c<256→a.cls[c]?=b.cls[c]?:=by
  intro c
  induction c using Nat.strongRecOn with
  | _ c ih =>
    intro hc
    obtain ⟨k,e1⟩:∃ k,a.cls[c]?=some k:=⟨_,List.getElem?_eq_getElem (by rw [ha.ok.cls];exact hc)⟩
    obtain ⟨m,e2⟩:∃ m,b.cls[c]?=some m:=⟨_,List.getElem?_eq_getElem (by rw [hb.ok.cls];exact hc)⟩
    rw [e1,e2]
    congr 1
    have same:∀ d,d<c→(a.cls[d]?=some k↔b.cls[d]?=some m):=fun d hd=>by
     rw [ha.like c d k hc (by omega) e1,hb.like c d m hc (by omega) e2]
     constructor
     ·intro h s hs;rw [←hst s c (by omega) hc,←hst s d (by omega) (by omega)];exact h s (by omega)
     ·intro h s hs;rw [hst s c hs hc,hst s d hs (by omega)];exact h s (by omega)
    rcases Nat.lt_trichotomy k m with h|h|h
    ·obtain ⟨d,hd,hdk⟩:=hb.first c m hc e2 k h
     have:a.cls[d]?=some k:=by rw [ih d hd (by omega)];exact hdk
     have:=(same d hd).1 this
     rw [hdk] at this
     exact Option.some.inj this
    ·exact h
    ·obtain ⟨d,hd,hdk⟩:=ha.first c k hc e1 m h
     have:b.cls[d]?=some m:=by rw [←ih d hd (by omega)];exact hdk
     have:=(same d hd).2 this
     rw [hdk] at this
     exact (Option.some.inj this).symm
 have hcl:a.cls=b.cls:=by
  apply List.ext_getElem?
  intro c
  by_cases hc:c<256
  ·exact hcls c hc
  ·rw [List.getElem?_eq_none (by rw [ha.ok.cls];omega),List.getElem?_eq_none (by rw [hb.ok.cls];omega)]
 have hw:w=v:=by
  rcases Nat.lt_trichotomy w v with h|h|h
  ·obtain ⟨c,hc,hk⟩:=hb.sur w h
   rw [←hcl] at hk
   have:=ha.ok.low w (List.mem_of_getElem? hk);omega
  ·exact h
  ·obtain ⟨c,hc,hk⟩:=ha.sur v h
   rw [hcl] at hk
   have:=hb.ok.low v (List.mem_of_getElem? hk);omega
 have hnext:a.next=b.next:=by
  apply List.ext_getElem?
  intro s
  by_cases hs:s<a.next.length
  ·have hsb:s<b.next.length:=by omega
   rw [List.getElem?_eq_getElem hs,List.getElem?_eq_getElem hsb]
   congr 1
   apply List.ext_getElem?
   intro k
   have r1:=ha.ok.row _ (List.getElem_mem hs)
   have r2:=hb.ok.row _ (List.getElem_mem hsb)
   by_cases hk:k<w
   ·obtain ⟨c,hc,hck⟩:=ha.sur k hk
    obtain ⟨k1,x1,p1,p2,p3,p4⟩:=zBb ha.ok hs hc
    obtain ⟨k2,x2,q1,q2,q3,q4⟩:=zBb hb.ok hsb hc
    rw [hck] at p1;cases p1
    rw [←hcl,hck] at q1;cases q1
    rw [List.getElem?_eq_getElem hs] at p3;cases p3
    rw [List.getElem?_eq_getElem hsb] at q3;cases q3
    rw [p4,q4,hst s c hs hc]
   ·rw [List.getElem?_eq_none (by omega),List.getElem?_eq_none (by omega)]
  ·rw [List.getElem?_eq_none (by omega),List.getElem?_eq_none (by omega)]
 have hacc:a.acc=b.acc:=by
  apply List.ext_getElem?
  intro s
  by_cases hs:s<a.next.length
  ·have h1:=(hA s hs).2 []
   unfold resA at h1
   rw [List.foldl_nil,List.foldl_nil,zBn,zBn] at h1
   unfold getB at h1
   have s1:s<a.acc.length:=by rw [ha.ok.acc];exact hs
   have s2:s<b.acc.length:=by rw [hb.ok.acc];omega
   rw [List.getElem?_eq_getElem s1,List.getElem?_eq_getElem s2] at h1 ⊢
   exact congrArg some h1
  ·rw [List.getElem?_eq_none (by rw [ha.ok.acc];omega),List.getElem?_eq_none (by rw [hb.ok.acc];omega)]
 obtain ⟨c1,n1,k1⟩:=a
 obtain ⟨c2,n2,k2⟩:=b
 dsimp only at hcl hnext hacc
 rw [hcl,hnext,hacc]
def colA (a:DfaA) (c:Nat):List Int:=a.next.map fun r=>(r[a.cls[c]?.getD 0]?).getD (-1)+1
def narL (a:DfaA):Nat→Nat→List (List Int)→List Nat→List (List Int) × List Nat
 | 0,_,seen,out=>(seen,out)
 | k+1,c,seen,out =>
   match seen.idxOf? (colA a c) with
   | some j=>narL a k (c+1) seen (out++[j])
   | none=>narL a k (c+1) (seen++[colA a c]) (out++[seen.length])
def zDO (a:DfaA):DfaA:=⟨(narL a 256 0 [] []).2,(List.range a.next.length).map fun s=>(narL a 256 0 [] []).1.map fun col=>(col[s]?.getD 0)-1,a.acc⟩
structure NumC (a:DfaA) (i:Nat) (seen:List (List Int)) (out:List Nat):Prop where
 len:out.length=i
 nodup:seen.Nodup
 at':∀ c,c<i→∃ k,out[c]?=some k∧seen[k]?=some (colA a c)
 from':∀ k,k<seen.length→∃ c,c<i∧out[c]?=some k
 first:∀ c k,c<i→out[c]?=some k→∀ j,j<k→∃ d,d<c∧out[d]?=some j
theorem zAI {α:Type}{l:List α}{v x:α}{i:Nat} (h:(l++[v])[i]?=some x):(i<l.length∧l[i]?=some x)∨(i=l.length∧x=v):=by
 by_cases hi:i<l.length
 ·rw [List.getElem?_append_left hi] at h;exact .inl ⟨hi,h⟩
 ·have:=(List.getElem?_eq_some_iff.1 h).1
  have e:i=l.length:=by simp at this;omega
  subst e
  rw [List.getElem?_append_right (Nat.le_refl _),Nat.sub_self] at h
  exact .inr ⟨rfl,(Option.some.inj h).symm⟩
theorem zAf {α:Type}{l:List α}{v x:α}{i:Nat} (h:l[i]?=some x):(l++[v])[i]?=some x:=by
 rw [List.getElem?_append_left (List.getElem?_eq_some_iff.1 h).1];exact h
theorem zAH {α:Type} (l:List α) (v:α):(l++[v])[l.length]?=some v:=by
 rw [List.getElem?_append_right (Nat.le_refl _),Nat.sub_self];rfl
theorem zMS {a:DfaA}:∀ (k i:Nat) (seen:List (List Int)) (out:List Nat),NumC a i seen out→NumC a (i+k) (narL a k i seen out).1 (narL a k i seen out).2
 | 0,i,seen,out,h=>h
 | k+1,i,seen,out,h=>by
   rw [narL,show i+(k+1)=i+1+k by omega]
   have hl:=h.len
   split
   ·rename_i j0 hj0
    obtain ⟨hlt,hk,_⟩:=List.findIdx?_eq_some_iff_getElem.1 hj0
    have hk:seen[j0]=colA a i:=eq_of_beq hk
    refine zMS k (i+1) seen _ ⟨by simp [hl],h.nodup,fun c hc=>?_,fun j hj=>?_,fun c m hc hm j hj=>?_⟩
    ·by_cases e:c=i
     ·subst e
      exact ⟨j0,by rw [←hl];exact zAH out j0,by rw [List.getElem?_eq_getElem hlt,hk]⟩
     ·obtain ⟨m,h1,h2⟩:=h.at' c (by omega)
      exact ⟨m,zAf h1,h2⟩
    ·obtain ⟨c,h1,h2⟩:=h.from' j hj
     exact ⟨c,by omega,zAf h2⟩
    ·rcases zAI hm with ⟨h1,h2⟩|⟨h1,h2⟩
     ·obtain ⟨d,h3,h4⟩:=h.first c m (by omega) h2 j hj
      exact ⟨d,h3,zAf h4⟩
     ·obtain ⟨d,h3,h4⟩:=h.from' j (by omega)
      exact ⟨d,by omega,zAf h4⟩
   ·rename_i hj0
    have hnm:colA a i∉seen:=fun hm=>by
     have:=List.findIdx?_eq_none_iff.1 hj0 _ hm
     simp at this
    refine zMS k (i+1) _ _ ⟨by simp [hl],List.nodup_append.2 ⟨h.nodup,by simp,fun x hx y hy e=>by
     rw [List.mem_singleton] at hy;subst hy;subst e;exact hnm hx⟩,fun c hc=>?_,fun j hj=>?_,fun c m hc hm j hj=>?_⟩
    ·by_cases e:c=i
     ·subst e
      exact ⟨seen.length,by rw [←hl];exact zAH out seen.length,zAH _ _⟩
     ·obtain ⟨m,h1,h2⟩:=h.at' c (by omega)
      exact ⟨m,zAf h1,zAf h2⟩
    ·by_cases e:j=seen.length
     ·exact ⟨i,by omega,by rw [e,←hl];exact zAH out seen.length⟩
     ·obtain ⟨c,h1,h2⟩:=h.from' j (by simp at hj;omega)
      exact ⟨c,by omega,zAf h2⟩
    ·rcases zAI hm with ⟨h1,h2⟩|⟨h1,h2⟩
     ·obtain ⟨d,h3,h4⟩:=h.first c m (by omega) h2 j hj
      exact ⟨d,h3,zAf h4⟩
     ·obtain ⟨d,h3,h4⟩:=h.from' j (by omega)
      exact ⟨d,by omega,zAf h4⟩
theorem nar_all (a:DfaA):NumC a 256 (narL a 256 0 [] []).1 (narL a 256 0 [] []).2:=by
 have:=zMS 256 0 [] [] (a:=a) ⟨rfl,List.nodup_nil,fun c h=>by omega,fun k h=>by simp at h,fun c k h=>by omega⟩
 rwa [Nat.zero_add] at this
structure Narrow (a m:DfaA) (w:Nat):Prop where
 ok:zAt w m
 sur:SurA w m
 nlen:m.next.length=a.next.length
 acc:m.acc=a.acc
 step:∀ (s c:Nat),s<a.next.length→c<256→zAb m (s:Int) c=zAb a (s:Int) c
 like:∀ c d k,c<256→d<256→m.cls[c]?=some k→(m.cls[d]?=some k↔∀ s:Nat,s<a.next.length→zAb a (s:Int) c=zAb a (s:Int) d)
 first:∀ c k,c<256→m.cls[c]?=some k→∀ j,j<k→∃ d,d<c∧m.cls[d]?=some j
theorem zDW {w:Nat}{a:DfaA} (h:zAt w a) {s c:Nat} (hs:s<a.next.length) (hc:c<256):(colA a c)[s]?=some (zAb a (s:Int) c+1):=by
 obtain ⟨k,r,h1,h2,h3,h4⟩:=zBb h hs hc
 unfold colA
 rw [List.getElem?_map,h3,h1]
 simp only [Option.map_some,Option.getD_some]
 rw [h4];rfl
theorem zMR {w:Nat}{a:DfaA} (h:zAt w a) (hpos:0<a.next.length):∃ v,Narrow a (zDO a) v∧v≤256:=by
 have hn:=nar_all a
 unfold zDO
 generalize narL a 256 0 [] []=r at *
 obtain ⟨seen,out⟩:=r
 dsimp only at hn ⊢
 have hseen:∀ k,k<seen.length→∃ c,c<256∧out[c]?=some k∧seen[k]?=some (colA a c):=fun k hk=>by
  obtain ⟨c,h1,h2⟩:=hn.from' k hk
  obtain ⟨m,h3,h4⟩:=hn.at' c h1
  rw [h2] at h3;cases h3
  exact ⟨c,h1,h2,h4⟩
 have hlow:∀ k∈out,k<seen.length:=fun k hk=>by
  obtain ⟨i,hi,e⟩:=List.getElem_of_mem hk
  obtain ⟨m,h3,h4⟩:=hn.at' i (by have:=hn.len;omega)
  rw [List.getElem?_eq_getElem hi,e] at h3;cases h3
  exact (List.getElem?_eq_some_iff.1 h4).1
 have hrow:∀ s,s<a.next.length→∀ k c,c<256→out[c]?=some k→((seen.map fun col=>(col[s]?.getD 0)-1)[k]?)=some (zAb a (s:Int) c):=fun s hs k c hc hk=>by
  obtain ⟨m,h3,h4⟩:=hn.at' c hc
  rw [hk] at h3;cases h3
  rw [List.getElem?_map,h4,Option.map_some,zDW h hs hc,Option.getD_some,Int.add_sub_cancel]
 have hstep:∀ (s c:Nat),s<a.next.length→c<256→zAb ⟨out,(List.range a.next.length).map fun s=>seen.map fun col=>(col[s]?.getD 0)-1,a.acc⟩ (s:Int) c=zAb a (s:Int) c:=fun s c hs hc=>by
  obtain ⟨k,h1,h2⟩:=hn.at' c hc
  show (if _ then _ else _)=_
  rw [if_neg (by simp;omega),Int.toNat_natCast]
  dsimp only
  rw [List.getElem?_map,List.getElem?_range hs,h1]
  simp only [Option.map_some,Option.getD_some]
  rw [hrow s hs k c hc h1];rfl
 refine ⟨seen.length,⟨⟨hn.len,hlow,by simp [h.acc],fun r hr=>?_,fun r hr z hz=>?_⟩,fun k hk=>?_,by simp,rfl,hstep,fun c d k hc hd hk=>?_,fun c k hc hk=>hn.first c k hc hk⟩,?_⟩
 ·obtain ⟨s,_,rfl⟩:=List.mem_map.1 hr
  simp
 ·obtain ⟨s,hs,rfl⟩:=List.mem_map.1 hr
  have hs:=List.mem_range.1 hs
  obtain ⟨k,hk,e⟩:=List.getElem_of_mem hz
  have hk2:k<seen.length:=by simpa using hk
  obtain ⟨c,h1,h2,_⟩:=hseen k hk2
  have h3:=hrow s hs k c h1 h2
  rw [List.getElem?_eq_getElem hk,e] at h3
  rw [Option.some.inj h3]
  rcases zAE h (s:Int) h1 with h4|⟨t,h4,h5⟩
  ·exact .inl h4
  ·refine .inr ⟨by omega,?_⟩
   simp;omega
 ·obtain ⟨c,h1,h2,_⟩:=hseen k hk
  exact ⟨c,h1,h2⟩
 ·obtain ⟨k1,p1,p2⟩:=hn.at' c hc
  obtain ⟨k2,q1,q2⟩:=hn.at' d hd
  have hk:out[c]?=some k:=hk
  have hkk:k1=k:=by rw [p1] at hk;exact Option.some.inj hk
  rw [hkk] at p1 p2
  have hcol:(out[d]?=some k)↔colA a c=colA a d:=by
   rw [q1]
   constructor
   ·intro e;cases e;rw [p2] at q2;exact Option.some.inj q2
   ·intro e
    rw [e] at p2
    have:=(List.getElem?_inj (List.getElem?_eq_some_iff.1 p2).1 hn.nodup).1 (p2.trans q2.symm)
    rw [this]
  show out[d]?=some k↔_
  rw [hcol]
  constructor
  ·intro e s hs
   have h1:=zDW h hs hc
   rw [e,zDW h hs hd] at h1
   have:=Option.some.inj h1
   omega
  ·intro e
   apply List.ext_getElem?
   intro s
   by_cases hs:s<a.next.length
   ·rw [zDW h hs hc,zDW h hs hd,e s hs]
   ·rw [List.getElem?_eq_none (by simp [colA];omega),List.getElem?_eq_none (by simp [colA];omega)]
 ·-- no more classes than bytes
  have h1:∀ x∈List.range seen.length,x∈out:=fun x hx=>by
   obtain ⟨c,_,h2,_⟩:=hseen x (List.mem_range.1 hx)
   exact List.mem_of_getElem? h2
  have:=zB7 List.nodup_range h1
  rw [List.length_range,hn.len] at this;exact this
def clsA (a:DfaA) (c:Nat):Nat:=a.cls[c]?.getD 0
def rowO (a:DfaA) (g:List Int) (cur:Nat):Nat→Nat→List Nat→List Int→List Nat × List Int
 | 0,_,order,row=>(order,row)
 | k+1,c,order,row =>
   if zA5 g (zAb a (cur:Int) c)=-1 then rowO a g cur k (c+1) order (row.set (clsA a c) (-1))
   else match order.findIdx? (fun s=>zAk g s == zA5 g (zAb a (cur:Int) c)) with
    | some n=>rowO a g cur k (c+1) order (row.set (clsA a c) (n:Int))
    | none=>rowO a g cur k (c+1) (order++[(zAb a (cur:Int) c).toNat]) (row.set (clsA a c) (order.length:Int))
def ordL (a:DfaA) (g:List Int):Nat→List Nat→List (List Int)→List Bool→List Nat × List (List Int) × List Bool
 | 0,order,next,acc=>(order,next,acc)
 | f+1,order,next,acc =>
   match order[next.length]? with
   | none=>(order,next,acc)
   | some cur=>ordL a g f (rowO a g cur 256 0 order (List.replicate (zGo a) 0)).1 (next++[(rowO a g cur 256 0 order (List.replicate (zGo a) 0)).2]) (acc++[getB a.acc cur])
def deadA:DfaA:=⟨List.replicate 256 0,[[-1]],[false]⟩
def zAR (a:DfaA):DfaA :=
 if a.next=[] then nilA else
 if zAk (grpA a) 0=-1 then deadA else
 zDO ⟨a.cls,(ordL a (grpA a) (a.next.length+1) [0] [] []).2.1,(ordL a (grpA a) (a.next.length+1) [0] [] []).2.2⟩
structure OrdB (a:DfaA) (g:List Int) (order:List Nat):Prop where
 zero:order[0]?=some 0
 lt:∀ s∈order,s<a.next.length
 live:∀ s∈order,zA2 a s
 nodup:(order.map (zAk g)).Nodup
def RowV (a:DfaA) (g:List Int) (cur:Nat) (order:List Nat) (row:List Int) (d:Nat):Prop :=
 (zA5 g (zAb a (cur:Int) d)=-1∧row[clsA a d]?=some (-1))∨∃ i t:Nat,row[clsA a d]?=some (i:Int)∧order[i]?=some t∧zAk g t=zA5 g (zAb a (cur:Int) d)
structure RowI (a:DfaA) (g:List Int) (cur w:Nat) (base order:List Nat) (row:List Int) (c:Nat):Prop where
 pre:∃ e,order=base++e
 len:row.length=w
 ord:OrdB a g order
 at':∀ d,d<c→RowV a g cur order row d
 new:∀ i:Nat,base.length≤i→i<order.length→∃ d,d<c∧row[clsA a d]?=some (i:Int)
 first:∀ d t:Nat,d<c→row[clsA a d]?=some (t:Int)→∀ u:Nat,base.length≤u→u<t→∃ e,e<d∧row[clsA a e]?=some (u:Int)
theorem zI8 {w:Nat}{a:DfaA} (h:zAt w a) {c:Nat} (hc:c<256):clsA a c<w∧a.cls[c]?=some (clsA a c):=by
 have hcl:c<a.cls.length:=by rw [h.cls];exact hc
 unfold clsA
 rw [List.getElem?_eq_getElem hcl]
 exact ⟨h.low _ (List.getElem_mem hcl),rfl⟩
theorem zFh {a:DfaA}{s:Int}{c d:Nat} (h:clsA a c=clsA a d):zAb a s c=zAb a s d:=by
 unfold clsA at h
 unfold zAb;rw [h]
theorem nodup_at {α:Type}{l:List α} (h:l.Nodup) {i j:Nat}{x:α} (hi:l[i]?=some x) (hj:l[j]?=some x):i=j :=
 (List.getElem?_inj (List.getElem?_eq_some_iff.1 hi).1 h).1 (hi.trans hj.symm)
theorem OrdB.uniq {a:DfaA}{g:List Int}{order:List Nat} (h:OrdB a g order) {i j s t:Nat} (hi:order[i]?=some s) (hj:order[j]?=some t) (e:zAk g s=zAk g t):i=j :=
 nodup_at h.nodup (x:=zAk g s) (by rw [List.getElem?_map,hi];rfl) (by rw [List.getElem?_map,hj,e];rfl)
theorem zEw {a:DfaA}{g:List Int} (hg:GrpOk a g) {s:Nat} (h1:s<a.next.length) (h2:zA2 a s):zAk g s≠-1:=fun e=>(hg.dead s h1).1 e h2
theorem RowI.put {w:Nat}{a:DfaA}{g:List Int}{cur:Nat}{base order order2:List Nat}{row:List Int}{c:Nat}{v:Int} (ha:zAt w a) (hg:GrpOk a g) (hc:c<256) (h:RowI a g cur w base order row c)
  (hp:∃ e,order2=order++e) (ho:OrdB a g order2)
  (hv:(zA5 g (zAb a (cur:Int) c)=-1∧v=-1)∨∃ i t:Nat,v=(i:Int)∧order2[i]?=some t∧zAk g t=zA5 g (zAb a (cur:Int) c))
  (hn:∀ i:Nat,order.length≤i→i<order2.length→v=(i:Int))
  (hf:∀ t:Nat,v=(t:Int)→t≤order.length):RowI a g cur w base order2 (row.set (clsA a c) v) (c+1):=by
 obtain ⟨hcw,_⟩:=zI8 ha hc
 have hold:∀ (i t:Nat),order[i]?=some t→order2[i]?=some t:=fun i t hi=>by
  obtain ⟨e,he⟩:=hp
  rw [he,List.getElem?_append_left (List.getElem?_eq_some_iff.1 hi).1,hi]
 have hnew:(row.set (clsA a c) v)[clsA a c]?=some v:=by rw [List.getElem?_set_self (by rw [h.len];exact hcw)]
 have hsame:∀ d,d<c→(row.set (clsA a c) v)[clsA a d]?=row[clsA a d]?:=fun d hd=>by
  by_cases e:clsA a c=clsA a d
  ·rw [←e,hnew,e]
   have hst:=zFh (a:=a) (s:=(cur:Int)) e
   rcases h.at' d hd with ⟨h1,h2⟩|⟨i,t,h1,h2,h3⟩
   ·rcases hv with ⟨h4,h5⟩|⟨j,u,h4,h5,h6⟩
    ·rw [h2,h5]
    ·rw [hst,h1] at h6
     have hm:=List.mem_of_getElem? h5
     exact absurd h6 (zEw hg (ho.lt _ hm) (ho.live _ hm))
   ·rcases hv with ⟨h4,h5⟩|⟨j,u,h4,h5,h6⟩
    ·rw [←hst,h4] at h3
     have hm:=List.mem_of_getElem? h2
     exact absurd h3 (zEw hg (h.ord.lt _ hm) (h.ord.live _ hm))
    ·have:=ho.uniq h5 (hold _ _ h2) (by rw [h6,h3,hst])
     rw [h1,h4,this]
  ·rw [List.getElem?_set_ne e]
 obtain ⟨e1,he1⟩:=h.pre
 obtain ⟨e2,he2⟩:=hp
 have hlen:base.length≤order.length:=by rw [he1];simp
 refine ⟨⟨e1++e2,by rw [he2,he1,List.append_assoc]⟩,by rw [List.length_set,h.len],ho,fun d hd=>?_,fun i hi1 hi2=>?_,fun d t hd ht u hu1 hu2=>?_⟩
 ·by_cases e:d=c
  ·subst e
   unfold RowV
   rw [hnew]
   rcases hv with ⟨h4,h5⟩|⟨j,u,h4,h5,h6⟩
   ·exact .inl ⟨h4,by rw [h5]⟩
   ·exact .inr ⟨j,u,by rw [h4],h5,h6⟩
  ·have hd:d<c:=by omega
   unfold RowV
   rw [hsame d hd]
   rcases h.at' d hd with h1|⟨i,t,h1,h2,h3⟩
   ·exact .inl h1
   ·exact .inr ⟨i,t,h1,hold _ _ h2,h3⟩
 ·by_cases e:i<order.length
  ·obtain ⟨d,hd,hr⟩:=h.new i hi1 e
   exact ⟨d,by omega,by rw [hsame d hd];exact hr⟩
  ·exact ⟨c,by omega,by rw [hnew,hn i (by omega) hi2]⟩
 ·by_cases e:d=c
  ·subst e
   rw [hnew] at ht
   have htl:=hf t (Option.some.inj ht)
   obtain ⟨x,hx,hr⟩:=h.new u hu1 (by omega)
   exact ⟨x,hx,by rw [hsame x hx];exact hr⟩
  ·have hd:d<c:=by omega
   rw [hsame d hd] at ht
   obtain ⟨x,hx,hr⟩:=h.first d t hd ht u hu1 hu2
   exact ⟨x,hx,by rw [hsame x (by omega)];exact hr⟩
theorem zFz {w:Nat}{a:DfaA}{g:List Int}{cur:Nat}{base:List Nat} (ha:zAt w a) (hg:GrpOk a g):∀ (k c:Nat) (order:List Nat) (row:List Int),c+k≤256→RowI a g cur w base order row c→RowI a g cur w base (rowO a g cur k c order row).1 (rowO a g cur k c order row).2 (c+k)
 | 0,c,order,row,_,h=>h
 | k+1,c,order,row,hk,h=>by
   rw [rowO,show c+(k+1)=c+1+k by omega]
   have hc:c<256:=by omega
   split
   ·rename_i h0
    exact zFz ha hg k (c+1) _ _ (by omega) (h.put ha hg hc ⟨[],by simp⟩ h.ord (.inl ⟨h0,rfl⟩) (fun i h1 h2=>by omega) (fun t ht=>by omega))
   ·rename_i h0
    split
    ·rename_i n hn
     obtain ⟨hlt,hkk,_⟩:=List.findIdx?_eq_some_iff_getElem.1 hn
     exact zFz ha hg k (c+1) _ _ (by omega) (h.put ha hg hc ⟨[],by simp⟩ h.ord (.inr ⟨n,order[n],rfl,List.getElem?_eq_getElem hlt,eq_of_beq hkk⟩) (fun i h1 h2=>by omega) (fun t ht=>by omega))
    ·rename_i hn
     rcases zAE ha (cur:Int) hc with h1|⟨t,h1,h2⟩
     ·exact absurd (by rw [h1];rfl) h0
     ·have hgt:zA5 g (zAb a (cur:Int) c)=zAk g t:=by rw [h1];unfold zA5;rw [if_pos (by omega),Int.toNat_natCast]
      have htn:(zAb a (cur:Int) c).toNat=t:=by rw [h1];rfl
      rw [htn]
      have hnm:zAk g t∉order.map (zAk g):=fun hm=>by
       obtain ⟨s,hs,e⟩:=List.mem_map.1 hm
       have:=List.findIdx?_eq_none_iff.1 hn s hs
       rw [hgt,e] at this
       simp at this
      have hlv:zA2 a t:=Classical.byContradiction fun hl=>h0 (by rw [hgt];exact (hg.dead t h2).2 hl)
      refine zFz ha hg k (c+1) _ _ (by omega) (h.put ha hg hc ⟨[t],rfl⟩ ⟨?_,?_,?_,?_⟩ (.inr ⟨order.length,t,rfl,by rw [List.getElem?_append_right (Nat.le_refl _),Nat.sub_self];rfl,hgt.symm⟩) (fun i h3 h4=>by simp at h4;omega) (fun t ht=>by omega))
      ·rw [List.getElem?_append_left (List.getElem?_eq_some_iff.1 h.ord.zero).1];exact h.ord.zero
      ·intro s hs
       rcases List.mem_append.1 hs with hs|hs
       ·exact h.ord.lt s hs
       ·rw [List.mem_singleton] at hs;rw [hs];exact h2
      ·intro s hs
       rcases List.mem_append.1 hs with hs|hs
       ·exact h.ord.live s hs
       ·rw [List.mem_singleton] at hs;rw [hs];exact hlv
      ·rw [List.map_append]
       exact List.nodup_append.2 ⟨h.ord.nodup,by simp,fun x hx y hy e=>by
        rw [List.map_singleton,List.mem_singleton] at hy;subst hy;subst e;exact hnm hx⟩
structure OrdI (a:DfaA) (g:List Int) (w:Nat) (order:List Nat) (next:List (List Int)) (acc:List Bool):Prop where
 ord:OrdB a g order
 nlen:next.length≤order.length
 alen:acc.length=next.length
 row:∀ (s:Nat) (r:List Int) (cur:Nat),next[s]?=some r→order[s]?=some cur→r.length=w∧∀ c,c<256→RowV a g cur order r c
 acc:∀ (s cur:Nat),s<next.length→order[s]?=some cur→acc[s]?=some (getB a.acc cur)
 met:∀ u:Nat,0<u→u<order.length→∃ (s c:Nat) (r:List Int),s<u∧c<256∧next[s]?=some r∧r[clsA a c]?=some (u:Int)
 first:∀ (s c:Nat) (r:List Int) (t:Nat),next[s]?=some r→c<256→r[clsA a c]?=some (t:Int)→∀ u:Nat,0<u→u<t→∃ (s2 c2:Nat) (r2:List Int),Bef s2 c2 s c∧c2<256∧next[s2]?=some r2∧r2[clsA a c2]?=some (u:Int)
theorem zJE {w:Nat}{a:DfaA} (h:zAt w a) (hp:0<a.next.length):zGo a=w:=by
 unfold zGo
 rw [List.getElem?_eq_getElem hp]
 exact h.row _ (List.getElem_mem hp)
theorem zGX {w:Nat}{a:DfaA}{g:List Int}{order:List Nat} (h:OrdB a g order):order.length≤a.next.length:=by
 have hn:order.Nodup:=by
  have:=h.nodup
  unfold List.Nodup at this ⊢
  rw [List.pairwise_map] at this
  exact this.imp fun {x y} hxy e=>hxy (congrArg _ e)
 have:=zB7 hn (b:=List.range a.next.length) (fun x hx=>List.mem_range.2 (h.lt x hx))
 rwa [List.length_range] at this
theorem zMA {w:Nat}{a:DfaA}{g:List Int} (ha:zAt w a) (hp:0<a.next.length) (hg:GrpOk a g):∀ (f:Nat) (order:List Nat) (next:List (List Int)) (acc:List Bool),OrdI a g w order next acc→a.next.length<f+next.length →
  OrdI a g w (ordL a g f order next acc).1 (ordL a g f order next acc).2.1 (ordL a g f order next acc).2.2∧(ordL a g f order next acc).2.1.length=(ordL a g f order next acc).1.length
 | 0,order,next,acc,h,hf=>by have:=h.nlen;have:=zGX (w:=w) h.ord;omega
 | f+1,order,next,acc,h,hf=>by
   rw [ordL]
   split
   ·rename_i hn
    have:=List.getElem?_eq_none_iff.1 hn
    exact ⟨h,by have:=h.nlen;dsimp only;omega⟩
   ·rename_i cur hcur
    have hr:=zFz (cur:=cur) (base:=order) ha hg 256 0 order (List.replicate w 0) (by omega) ⟨⟨[],by simp⟩,by simp,h.ord,fun d hd=>by omega,fun i h1 h2=>by omega,fun d t hd=>by omega⟩
    rw [zJE ha hp]
    rw [Nat.zero_add] at hr
    generalize rowO a g cur 256 0 order (List.replicate w 0)=R at *
    obtain ⟨order2,row2⟩:=R
    dsimp only at hr ⊢
    obtain ⟨e,he⟩:=hr.pre
    have hlt:=(List.getElem?_eq_some_iff.1 hcur).1
    have hold:∀ (i t:Nat),order[i]?=some t→order2[i]?=some t:=fun i t hi=>by
     rw [he,List.getElem?_append_left (List.getElem?_eq_some_iff.1 hi).1,hi]
    have hold2:∀ (i t:Nat),i<order.length→order2[i]?=some t→order[i]?=some t:=fun i t h1 hi=>by
     rw [he,List.getElem?_append_left h1] at hi;exact hi
    have hsn:(next++[row2])[next.length]?=some row2:=zAH _ _
    refine zMA ha hp hg f order2 (next++[row2]) (acc++[getB a.acc cur]) ⟨hr.ord,?_,by simp [h.alen],?_,?_,?_,?_⟩ (by simp;omega)
    ·rw [he];simp;omega
    ·intro s r cs hs hcs
     rcases zAI hs with ⟨h1,h2⟩|⟨h1,h2⟩
     ·obtain ⟨q1,q2⟩:=h.row s r cs h2 (hold2 s cs (by have:=h.nlen;omega) hcs)
      refine ⟨q1,fun c hc=>?_⟩
      rcases q2 c hc with q|⟨i,t,q3,q4,q5⟩
      ·exact .inl q
      ·exact .inr ⟨i,t,q3,hold _ _ q4,q5⟩
     ·subst h1;subst h2
      have hcc:=hold2 _ _ hlt hcs
      rw [hcur] at hcc;cases hcc
      exact ⟨hr.len,fun c hc=>hr.at' c hc⟩
    ·intro s cs hs hcs
     rw [List.length_append,List.length_singleton] at hs
     by_cases e1:s<next.length
     ·exact zAf (h.acc s cs e1 (hold2 s cs (by have:=h.nlen;omega) hcs))
     ·have e2:s=next.length:=by omega
      subst e2
      have hcc:=hold2 _ _ hlt hcs
      rw [hcur] at hcc;cases hcc
      rw [←h.alen];exact zAH _ _
    ·intro u h0 h1
     by_cases e1:u<order.length
     ·obtain ⟨s,c,r,q1,q2,q3,q4⟩:=h.met u h0 e1
      exact ⟨s,c,r,q1,q2,zAf q3,q4⟩
     ·obtain ⟨d,hd,hrd⟩:=hr.new u (by omega) h1
      exact ⟨next.length,d,row2,by omega,hd,hsn,hrd⟩
    ·intro s c r t hs hc ht u hu1 hu2
     rcases zAI hs with ⟨h1,h2⟩|⟨h1,h2⟩
     ·obtain ⟨s2,c2,r2,q1,q2,q3,q4⟩:=h.first s c r t h2 hc ht u hu1 hu2
      exact ⟨s2,c2,r2,q1,q2,zAf q3,q4⟩
     ·subst h1;subst h2
      by_cases e1:u<order.length
      ·obtain ⟨s,c3,r3,q1,q2,q3,q4⟩:=h.met u hu1 e1
       exact ⟨s,c3,r3,.inl (List.getElem?_eq_some_iff.1 q3).1,q2,zAf q3,q4⟩
      ·obtain ⟨e,he1,he2⟩:=hr.first c t hc ht u (by omega) hu2
       exact ⟨next.length,e,r,.inr ⟨rfl,he1⟩,by omega,hsn,he2⟩
theorem zJb {w:Nat}{a:DfaA}{g:List Int}{order:List Nat}{next:List (List Int)}{acc:List Bool} (ha:zAt w a) (hs:SurA w a) (hg:zKN a g) (h:OrdI a g w order next acc) (hl:next.length=order.length) :
  zAt w ⟨a.cls,next,acc⟩∧SurA w ⟨a.cls,next,acc⟩∧(∀ (s c cur:Nat),order[s]?=some cur→c<256→(zA5 g (zAb a (cur:Int) c)=-1∧zAb ⟨a.cls,next,acc⟩ (s:Int) c=-1)∨∃ i t:Nat,zAb ⟨a.cls,next,acc⟩ (s:Int) c=(i:Int)∧order[i]?=some t∧zAk g t=zA5 g (zAb a (cur:Int) c)):=by
 have hstep:∀ (s c:Nat) (r:List Int),next[s]?=some r→zAb ⟨a.cls,next,acc⟩ (s:Int) c=(r[clsA a c]?).getD (-1):=fun s c r hr=>by
  unfold zAb
  have:=(List.getElem?_eq_some_iff.1 hr).1
  rw [if_neg (by dsimp only;omega),Int.toNat_natCast]
  dsimp only
  rw [hr];rfl
 refine ⟨⟨ha.cls,ha.low,h.alen,fun r hr=>?_,fun r hr z hz=>?_⟩,hs,fun s c cur hcur hc=>?_⟩
 ·obtain ⟨s,hs1,e⟩:=List.getElem_of_mem hr
  have hs1:s<next.length:=hs1
  have hr2:next[s]?=some r:=by rw [List.getElem?_eq_getElem hs1];exact congrArg some e
  exact (h.row s r (order[s]'(by omega)) hr2 (List.getElem?_eq_getElem (by omega))).1
 ·obtain ⟨s,hs1,e⟩:=List.getElem_of_mem hr
  have hs1:s<next.length:=hs1
  have hr2:next[s]?=some r:=by rw [List.getElem?_eq_getElem hs1];exact congrArg some e
  obtain ⟨q1,q2⟩:=h.row s r (order[s]'(by omega)) hr2 (List.getElem?_eq_getElem (by omega))
  obtain ⟨k,hk,e2⟩:=List.getElem_of_mem hz
  obtain ⟨c,hc,hcc⟩:=hs k (by omega)
  have hck:clsA a c=k:=by unfold clsA;rw [hcc];rfl
  rcases q2 c hc with ⟨_,q⟩|⟨i,t,q3,q4,_⟩
  ·rw [hck,List.getElem?_eq_getElem hk,e2] at q
   exact .inl (Option.some.inj q)
  ·rw [hck,List.getElem?_eq_getElem hk,e2] at q3
   have:=(List.getElem?_eq_some_iff.1 q4).1
   have:=Option.some.inj q3
   exact .inr ⟨by omega,by dsimp only;omega⟩
 ·have hs1:s<next.length:=by have:=(List.getElem?_eq_some_iff.1 hcur).1;omega
  obtain ⟨q1,q2⟩:=h.row s next[s] cur (List.getElem?_eq_getElem hs1) hcur
  have hst:=hstep s c next[s] (List.getElem?_eq_getElem hs1)
  rcases q2 c hc with ⟨p,q⟩|⟨i,t,q3,q4,q5⟩
  ·exact .inl ⟨p,by rw [hst,q];rfl⟩
  ·exact .inr ⟨i,t,by rw [hst,q3];rfl,q4,q5⟩
theorem zJY {w:Nat}{a:DfaA}{g:List Int}{order:List Nat}{next:List (List Int)}{acc:List Bool} (ha:zAt w a) (hs:SurA w a) (hg:zKN a g) (h:OrdI a g w order next acc) (hl:next.length=order.length) :
  ∀ (b:List UInt8) (s cur:Nat),order[s]?=some cur→resA ⟨a.cls,next,acc⟩ (s:Int) b=resA a (cur:Int) b
 | [],s,cur,hcur=>by
   have hs1:s<next.length:=by have:=(List.getElem?_eq_some_iff.1 hcur).1;omega
   unfold resA
   rw [List.foldl_nil,List.foldl_nil,zBn,zBn]
   show getB acc s=_
   unfold getB
   rw [h.acc s cur hs1 hcur];rfl
 | c::b,s,cur,hcur=>by
   obtain ⟨_,_,q⟩:=zJb ha hs hg h hl
   have hc:c.toNat<256:=UInt8.toNat_lt c
   rw [zAY,zAY]
   have hm:=List.mem_of_getElem? hcur
   rcases q s c.toNat cur hcur hc with ⟨h1,h2⟩|⟨i,t,h1,h2,h3⟩
   ·rw [h2,zBz b (by omega)]
    rcases zAE ha (cur:Int) hc with h4|⟨u,h4,h5⟩
    ·rw [h4,zBz b (by omega)]
    ·rw [h4] at h1 ⊢
     unfold zA5 at h1
     rw [if_pos (by omega),Int.toNat_natCast] at h1
     exact (zCl ((hg.ok.dead u h5).1 h1) b).symm
   ·rw [h1,zJY ha hs hg h hl b i t h2]
    have hmt:=List.mem_of_getElem? h2
    have htl:=h.ord.lt t hmt
    have hlv:=h.ord.live t hmt
    rcases zAE ha (cur:Int) hc with h4|⟨u,h4,h5⟩
    ·rw [h4] at h3
     exact absurd h3 (zEw hg.ok htl hlv)
    ·rw [h4] at h3 ⊢
     unfold zA5 at h3
     rw [if_pos (by omega),Int.toNat_natCast] at h3
     have hlu:zA2 a u:=Classical.byContradiction fun hn=>zEw hg.ok htl hlv (by rw [h3];exact (hg.ok.dead u h5).2 hn)
     exact (hg.iff t u htl h5 hlv hlu).1 h3 b
theorem zDS {w:Nat}{a:DfaA} (ha:zAt w a) (hs:SurA w a) (hp:0<a.next.length) (hl:zA2 a 0) :
  (∃ v,zJA v (zAR a)∧v≤256)∧(∀ b,resA (zAR a) 0 b=resA a 0 b)∧(zAR a).next.length≤a.next.length:=by
 have hg:=zHk ha hs
 unfold zAR
 rw [if_neg (by intro e;rw [e] at hp;cases hp),if_neg (zEw hg.ok hp hl)]
 obtain ⟨h,hlen⟩:=zMA ha hp hg.ok (a.next.length+1) [0] [] [] ⟨⟨rfl,(fun s hs=>by rw [List.mem_singleton] at hs;rw [hs];exact hp),(fun s hs=>by rw [List.mem_singleton] at hs;rw [hs];exact hl),by simp⟩,by simp,rfl,(fun s r cur hs=>by simp at hs),(fun s cur hs=>by simp at hs),(fun u h0 h1=>by simp at h1;omega),fun s c r t hs=>by simp at hs⟩ (by simp)
 generalize ordL a (grpA a) (a.next.length+1) [0] [] []=R at *
 obtain ⟨order,next,acc⟩:=R
 dsimp only at h hlen ⊢
 obtain ⟨q1,q2,q3⟩:=zJb ha hs hg h hlen
 have q4:=zJY ha hs hg h hlen
 have hzl:=(List.getElem?_eq_some_iff.1 h.ord.zero).1
 have hol:=zGX (w:=w) h.ord
 have hat:∀ s,s<next.length→order[s]?=some (order[s]?.getD 0):=fun s hs=>by rw [List.getElem?_eq_getElem (by omega)];rfl
 have hlv:∀ s,s<next.length→zA2 ⟨a.cls,next,acc⟩ s:=fun s hs=>by
  obtain ⟨b,hb⟩:=h.ord.live _ (List.mem_of_getElem? (hat s hs))
  exact ⟨b,by rw [q4 b s _ (hat s hs)];exact hb⟩
 have hdf:∀ s t,s<next.length→t<next.length→(∀ b,resA ⟨a.cls,next,acc⟩ (s:Int) b=resA ⟨a.cls,next,acc⟩ (t:Int) b)→s=t:=fun s t h1 h2 hr=>by
  have m1:=List.mem_of_getElem? (hat s h1)
  have m2:=List.mem_of_getElem? (hat t h2)
  refine h.ord.uniq (hat s h1) (hat t h2) ((hg.iff _ _ (h.ord.lt _ m1) (h.ord.lt _ m2) (h.ord.live _ m1) (h.ord.live _ m2)).2 fun b=>?_)
  rw [←q4 b s _ (hat s h1),←q4 b t _ (hat t h2),hr]
 have hst:∀ (s c:Nat) (r:List Int) (t:Nat),next[s]?=some r→r[clsA a c]?=some (t:Int)→zAb ⟨a.cls,next,acc⟩ (s:Int) c=(t:Int):=fun s c r t h1 h2=>by
  have:=(List.getElem?_eq_some_iff.1 h1).1
  unfold zAb
  rw [if_neg (by dsimp only;omega),Int.toNat_natCast]
  dsimp only
  rw [h1]
  show (r[clsA a c]?).getD (-1)=_
  rw [h2];rfl
 have hst2:∀ (s c t:Nat),s<next.length→c<256→zAb ⟨a.cls,next,acc⟩ (s:Int) c=(t:Int)→∃ r,next[s]?=some r∧r[clsA a c]?=some (t:Int):=fun s c t h1 hc h2=>by
  obtain ⟨k,r,p1,p2,p3,p4⟩:=zBb q1 (s:=s) h1 hc
  refine ⟨r,p3,?_⟩
  have:clsA a c=k:=by unfold clsA;rw [show a.cls[c]?=some k from p1];rfl
  rw [this,p4,h2]
 obtain ⟨v,hn,hv⟩:=zMR q1 (by dsimp only;omega)
 generalize zDO ⟨a.cls,next,acc⟩=m at *
 have nl:m.next.length=next.length:=hn.nlen
 have hres:∀ (b:List UInt8) (s:Nat),s<next.length→resA m (s:Int) b=resA ⟨a.cls,next,acc⟩ (s:Int) b:=by
  intro b
  induction b with
  | nil=>intro s hs1;unfold resA;rw [List.foldl_nil,List.foldl_nil,zBn,zBn,hn.acc]
  | cons c b ih =>
    intro s hs1
    have hc:c.toNat<256:=UInt8.toNat_lt c
    rw [zAY,zAY,hn.step s c.toNat hs1 hc]
    rcases zAE q1 (s:Int) hc with h4|⟨u,h4,h5⟩
    ·rw [h4,zBz b (by omega),zBz b (by omega)]
    ·rw [h4];exact ih u h5
 refine ⟨⟨v,⟨hn.ok,hn.sur,by omega,fun s hs1=>?_,fun s t h1 h2 hr=>?_,fun t h0 h1=>?_,fun s c t h1 hc h2 u hu1 hu2=>?_,fun c d k hc hd hk=>?_,hn.first⟩,hv⟩,fun b=>?_,by omega⟩
 ·obtain ⟨b,hb⟩:=hlv s (by omega)
  exact ⟨b,by rw [hres b s (by omega)];exact hb⟩
 ·exact hdf s t (by omega) (by omega) fun b=>by rw [←hres b s (by omega),←hres b t (by omega),hr]
 ·obtain ⟨s,c,r,p1,p2,p3,p4⟩:=h.met t h0 (by omega)
  exact ⟨s,c,p1,p2,by rw [hn.step s c (List.getElem?_eq_some_iff.1 p3).1 p2];exact hst s c r t p3 p4⟩
 ·rw [hn.step s c (by dsimp only;omega) hc] at h2
  obtain ⟨r,p1,p2⟩:=hst2 s c t (by omega) hc h2
  obtain ⟨s2,c2,r2,p3,p4,p5,p6⟩:=h.first s c r t p1 hc p2 u hu1 hu2
  have hs2:=(List.getElem?_eq_some_iff.1 p5).1
  exact ⟨s2,c2,by omega,p4,p3,by rw [hn.step s2 c2 hs2 p4];exact hst s2 c2 r2 u p5 p6⟩
 ·rw [hn.like c d k hc hd hk]
  constructor
  ·intro hx s hs1
   rw [hn.step s c (by dsimp only;omega) hc,hn.step s d (by dsimp only;omega) hd];exact hx s (by dsimp only;omega)
  ·intro hx s hs1
   have:=hx s (by dsimp only at hs1;omega)
   rwa [hn.step s c hs1 hc,hn.step s d hs1 hd] at this
 ·have h0:=hres b 0 (by omega)
  have h1:=q4 b 0 0 h.ord.zero
  exact h0.trans h1
theorem zEH {w:Nat}{a:DfaA} (ha:zAt w a) (hs:SurA w a) (hp:0<a.next.length) (hl:¬zA2 a 0):zAR a=deadA:=by
 have hg:=zHk ha hs
 unfold zAR
 rw [if_neg (by intro e;rw [e] at hp;cases hp),if_pos ((hg.ok.dead 0 hp).2 hl)]
theorem dead_ok:zAt 1 deadA:=⟨by simp [deadA],(fun k hk=>by have:=List.eq_of_mem_replicate hk;omega),rfl,(fun r hr=>by rw [show r=[-1] by simpa [deadA] using hr];rfl),fun r hr z hz=>by rw [show r=[-1] by simpa [deadA] using hr,List.mem_singleton] at hz;exact .inl hz⟩
theorem zK9:SurA 1 deadA:=fun k hk=>⟨0,by omega,by rw [show k=0 by omega];rfl⟩
theorem zKA:¬zA2 deadA 0:=fun ⟨b,hb⟩=>by
 cases b with
 | nil=>cases hb
 | cons c b =>
   rw [zAY] at hb
   have:zAb deadA ((0:Nat):Int) c.toNat=-1:=by
    rcases zAE dead_ok ((0:Nat):Int) (UInt8.toNat_lt c) with h|⟨t,h,h2⟩
    ·exact h
    ·obtain ⟨k,r,p1,p2,p3,p4⟩:=zBb dead_ok (s:=0) (by decide) (UInt8.toNat_lt c)
     have hr:r=[-1]:=by simpa [deadA] using p3.symm
     have hk:k=0:=by omega
     rw [hr,hk] at p4
     exact (Option.some.inj p4).symm
   rw [this,zBz b (by omega)] at hb;cases hb
theorem zJl {w:Nat}{a:DfaA} (ha:zAt w a) (hs:SurA w a) (hp:0<a.next.length):zAR (zAR a)=zAR a:=by
 by_cases hl:zA2 a 0
 ·obtain ⟨⟨v,hc,_⟩,hr,_⟩:=zDS ha hs hp hl
  obtain ⟨⟨v2,hc2,_⟩,hr2,_⟩:=zDS hc.ok hc.sur hc.pos (hc.live 0 hc.pos)
  exact zID hc2 hc hr2
 ·rw [zEH ha hs hp hl]
  exact zEH dead_ok zK9 (by decide) zKA
structure MadeA (d:DfaA):Prop where
 ok:∃ w,w≤256∧zAt w d∧SurA w d
 pos:0<d.next.length
 le:d.next.length≤1024
structure zDl (d:DfaA):Prop where
 ok:∃ w,w≤256∧zAt w d∧SurA w d∧(∀ c e k,c<256→e<256→d.cls[c]?=some k→(d.cls[e]?=some k↔∀ s:Nat,s<d.next.length→zAb d (s:Int) c=zAb d (s:Int) e))∧(∀ c k,c<256→d.cls[c]?=some k→∀ j,j<k→∃ e,e<c∧d.cls[e]?=some j)
 pos:0<d.next.length
 le:d.next.length≤1024
 again:zAR d=d
 diff:∀ s t,s<d.next.length→t<d.next.length→(∀ b,resA d (s:Int) b=resA d (t:Int) b)→s=t
 lives:d.next.length=1∨((∀ s,s<d.next.length→zA2 d s)∧∀ t,0<t→t<d.next.length→∃ s c,s<t∧c<256∧zAb d (s:Int) c=(t:Int))
theorem MadeA.least {a:DfaA} (h:MadeA a):zDl (zAR a)∧(∀ b,zBe (zAR a) b=zBe a b)∧(zAR a).next.length≤a.next.length:=by
 obtain ⟨⟨w,hw,ha,hs⟩,hp,hle⟩:=h
 have hag:=zJl ha hs hp
 by_cases hl:zA2 a 0
 ·obtain ⟨⟨v,hc,hv⟩,hr,hn⟩:=zDS ha hs hp hl
  refine ⟨⟨⟨v,hv,hc.ok,hc.sur,hc.like,hc.first⟩,hc.pos,by omega,hag,hc.diff,.inr ⟨hc.live,hc.met⟩⟩,fun b=>?_,hn⟩
  rw [zBL,zBL];exact hr b
 ·rw [zEH ha hs hp hl] at hag ⊢
  refine ⟨⟨⟨1,by decide,dead_ok,zK9,fun c e k hc he hk=>?_,fun c k hc hk j hj=>?_⟩,by decide,by decide,hag,fun s t h1 h2 _=>by have h1:s<1:=h1;have h2:t<1:=h2;omega,.inl rfl⟩,fun b=>?_,hp⟩
  ·have h0:∀ x,x<256→deadA.cls[x]?=some 0:=fun x hx=>by
    show (List.replicate 256 0)[x]?=some 0
    rw [List.getElem?_replicate,if_pos hx]
   rw [h0 c hc] at hk
   rw [h0 e he]
   refine ⟨fun _ s _=>zFh (by unfold clsA;rw [h0 c hc,h0 e he]),fun _=>hk⟩
  ·have:=dead_ok.low k (List.mem_of_getElem? hk)
   omega
  ·rw [zBL,zBL]
   rw [show resA deadA 0 b=false from zCl zKA b,show resA a 0 b=false from zCl hl b]
def orR (m n:List Bool) (len:Nat):List Bool:=(List.range (len+1)).map fun k=>getB m k||getB n k
def itR (F:List Bool→List Bool):Nat→List Bool→List Bool
 | 0,m=>m
 | k+1,m=>itR F k (F m)
def zMU (F:List Bool→List Bool) (len:Nat):Nat→List Bool→List Bool→List Bool
 | 0,out,m=>orR out m len
 | k+1,out,m=>zMU F len k (orR out m len) (F m)
def zHb (len:Nat):List Bool:=List.replicate (len+1) false
def zMT (a b:Int) (len:Nat):Nat:=if 0≤b∧b-a<len+1 then (b-a).toNat else len+1
mutual
def zFQ (t:List UInt8):RgD→List Bool→List Bool
 | .mk k s l a b=>fun m =>
   if k=1 then (List.range (t.length+1)).map (getB m)
   else if k=2 then (List.range (t.length+1)).map fun j=>decide (0<j)&&getB m (j-1)&&s.has (t[j-1]?.getD 0).toNat
   else if k=3 then catE t l m
   else if k=4 then altE t l m (zHb t.length)
   else if k=5 then zMU (kidE t l) t.length (zMT a b t.length) (zHb t.length) (itR (kidE t l) a.toNat m)
   else zHb t.length
def catE (t:List UInt8):List RgD→List Bool→List Bool
 | []=>fun m=>m
 | x::r=>fun m=>catE t r (zFQ t x m)
def altE (t:List UInt8):List RgD→List Bool→List Bool→List Bool
 | []=>fun _ o=>o
 | x::r=>fun m o=>altE t r m (orR o (zFQ t x m) t.length)
def kidE (t:List UInt8):List RgD→List Bool→List Bool
 | []=>fun m=>m
 | x::_=>fun m=>zFQ t x m
end
def zK1 (len:Nat):List Bool:=true::List.replicate len false
def refM (n:RgD) (t:List UInt8):Bool:=getB (zFQ t n (zK1 t.length)) t.length
def subT (t:List UInt8) (i j:Nat):List UInt8:=(t.take j).drop i
theorem zLN (t:List UInt8) {i j k:Nat} (h1:i≤j) (h2:j≤k) (h3:k≤t.length):subT t i k=subT t i j++subT t j k:=by
 unfold subT
 have e:t.take k=t.take j++(t.take k).drop j:=by
  have:=(List.take_append_drop j (t.take k)).symm
  rwa [List.take_take,Nat.min_eq_left h2] at this
 have hl:(t.take j).length=j:=by simp;omega
 have:(t.take k).drop i=(t.take j).drop i++(t.take k).drop j:=by
  conv=>lhs;rw [e]
  rw [List.drop_append,hl,show i-j=0 by omega,List.drop_zero]
 exact this
theorem zE8 (t:List UInt8) {i j:Nat} (h2:j≤t.length):(subT t i j).length=j-i:=by unfold subT;simp;omega
theorem zLL {t:List UInt8}{i j:Nat} (h1:i≤j) (h2:j≤t.length) {u v:List UInt8} (h:subT t i j=u++v):∃ k,i≤k∧k≤j∧u=subT t i k∧v=subT t k j:=by
 have hl:=zE8 t (i:=i) h2
 rw [h,List.length_append] at hl
 refine ⟨i+u.length,by omega,by omega,?_⟩
 have ha:=zLN t (i:=i) (j:=i+u.length) (k:=j) (by omega) (by omega) h2
 rw [h] at ha
 have hlu:=zE8 t (i:=i) (j:=i+u.length) (by omega)
 exact List.append_inj ha (by omega)
theorem zGQ {t:List UInt8}{i j:Nat} (h1:i≤j) (h2:j≤t.length):subT t i j=[]↔i=j:=by
 constructor
 ·intro h
  have:=zE8 t (i:=i) h2
  rw [h] at this;simp at this;omega
 ·intro h;subst h
  exact List.eq_nil_of_length_eq_zero (by rw [zE8 t h2];omega)
theorem zLM {t:List UInt8}{i j:Nat} (h1:i≤j) (h2:j≤t.length) {c:UInt8}:subT t i j=[c]↔j=i+1∧t[i]?=some c:=by
 constructor
 ·intro h
  have hl:=zE8 t (i:=i) h2
  rw [h] at hl
  have hj:j=i+1:=by simp at hl;omega
  refine ⟨hj,?_⟩
  have h0:(subT t i j)[0]?=some c:=by rw [h];rfl
  unfold subT at h0
  rw [List.getElem?_drop,List.getElem?_take,if_pos (by omega)] at h0
  exact h0
 ·rintro ⟨rfl,h⟩
  apply List.ext_getElem?
  intro k
  unfold subT
  rw [List.getElem?_drop,List.getElem?_take]
  cases k with
  | zero=>rw [if_pos (by omega)];exact h
  | succ k=>rw [if_neg (by omega)];rfl
def zJ8 (L:Lg) (t:List UInt8) (m:List Bool) (j:Nat):Prop:=∃ i,i≤j∧j≤t.length∧getB m i=true∧L (subT t i j)
def SpecR (t:List UInt8) (F:List Bool→List Bool) (L:Lg):Prop:=∀ m:List Bool,m.length=t.length+1→(F m).length=t.length+1∧∀ j,getB (F m) j=true↔zJ8 L t m j
theorem zFI {n:Nat} (p:Nat→Bool) (j:Nat):getB ((List.range (n+1)).map p) j=true↔j≤n∧p j=true:=by
 rw [zD9,Bool.and_eq_true,decide_eq_true_iff]
 exact ⟨fun ⟨h1,h2⟩=>⟨by omega,h2⟩,fun ⟨h1,h2⟩=>⟨by omega,h2⟩⟩
theorem SpecR.congr {t:List UInt8}{F:List Bool→List Bool}{L M:Lg} (h:SpecR t F L) (hl:∀ w,L w↔M w):SpecR t F M:=fun m hm =>
 ⟨(h m hm).1,fun j=>((h m hm).2 j).trans ⟨fun ⟨i,a,b,c,d⟩=>⟨i,a,b,c,(hl _).1 d⟩,fun ⟨i,a,b,c,d⟩=>⟨i,a,b,c,(hl _).2 d⟩⟩⟩
theorem SpecR.id' (t:List UInt8):SpecR t (fun m=>m) zFR:=fun m hm=>⟨hm,fun j=>by
 constructor
 ·intro h
  have h:getB m j=true:=h
  have hj:j≤t.length:=by have:=zJo h;omega
  exact ⟨j,Nat.le_refl _,hj,h,(zGQ (Nat.le_refl _) hj).2 rfl⟩
 ·rintro ⟨i,h1,h2,h3,h4⟩
  rw [←(zGQ h1 h2).1 h4];exact h3⟩
theorem SpecR.then {t:List UInt8}{F G:List Bool→List Bool}{L M:Lg} (h1:SpecR t F L) (h2:SpecR t G M):SpecR t (fun m=>G (F m)) (zFu L M):=fun m hm=>by
 obtain ⟨a1,a2⟩:=h1 m hm
 obtain ⟨b1,b2⟩:=h2 (F m) a1
 refine ⟨b1,fun j=>(b2 j).trans ?_⟩
 constructor
 ·rintro ⟨k,k1,k2,k3,k4⟩
  obtain ⟨i,i1,i2,i3,i4⟩:=(a2 k).1 k3
  exact ⟨i,by omega,k2,i3,_,_,zLN t i1 k1 k2,i4,k4⟩
 ·rintro ⟨i,i1,i2,i3,u,v,e,hu,hv⟩
  obtain ⟨k,k1,k2,e1,e2⟩:=zLL i1 i2 e
  exact ⟨k,k2,i2,(a2 k).2 ⟨i,k1,by omega,i3,e1▸hu⟩,e2▸hv⟩
theorem SpecR.it {t:List UInt8}{F:List Bool→List Bool}{L:Lg} (h:SpecR t F L):∀ k,SpecR t (itR F k) (powW L k)
 | 0=>SpecR.id' t
 | k+1=>by
   have:=SpecR.then (F:=F) (G:=itR F k) h (SpecR.it h k)
   exact this
theorem zJe (m n:List Bool) (len j:Nat):getB (orR m n len) j=true↔j≤len∧(getB m j=true∨getB n j=true):=by
 unfold orR
 rw [zFI,Bool.or_eq_true]
theorem zMB (m n:List Bool) (len:Nat):(orR m n len).length=len+1:=by simp [orR]
theorem zIe (len j:Nat):getB (zHb len) j=false:=by
 unfold zHb getB
 rw [List.getElem?_replicate]
 split<;>rfl
theorem zIi {t:List UInt8}{F:List Bool→List Bool}{L:Lg} (h:SpecR t F L):∀ (k:Nat) (o m:List Bool),m.length=t.length+1→(zMU F t.length k o m).length=t.length+1∧∀ j,getB (zMU F t.length k o m) j=true↔(j≤t.length∧getB o j=true)∨∃ i,i≤k∧zJ8 (powW L i) t m j
 | 0,o,m,hm=>⟨zMB _ _ _,fun j=>by
   show getB (orR o m t.length) j=true↔_
   rw [zJe]
   constructor
   ·rintro ⟨h1,h2|h2⟩
    ·exact .inl ⟨h1,h2⟩
    ·exact .inr ⟨0,Nat.le_refl _,((SpecR.id' t m hm).2 j).1 h2⟩
   ·rintro (⟨h1,h2⟩|⟨i,h1,h2⟩)
    ·exact ⟨h1,.inl h2⟩
    ·obtain rfl:i=0:=by omega
     exact ⟨h2.choose_spec.2.1,.inr (((SpecR.id' t m hm).2 j).2 h2)⟩⟩
 | k+1,o,m,hm=>by
   obtain ⟨f1,f2⟩:=h m hm
   obtain ⟨g1,g2⟩:=zIi h k (orR o m t.length) (F m) f1
   refine ⟨g1,fun j=>(g2 j).trans ?_⟩
   rw [zJe]
   have hsucc:∀ i,zJ8 (powW L i) t (F m) j↔zJ8 (powW L (i+1)) t m j:=fun i=>by
    have h3:=(SpecR.then h (SpecR.it h i) m hm).2 j
    have h4:=(SpecR.it h i (F m) f1).2 j
    exact h4.symm.trans h3
   constructor
   ·rintro (⟨h1,_,h2|h2⟩|⟨i,h1,h2⟩)
    ·exact .inl ⟨h1,h2⟩
    ·exact .inr ⟨0,by omega,((SpecR.id' t m hm).2 j).1 h2⟩
    ·exact .inr ⟨i+1,by omega,(hsucc i).1 h2⟩
   ·rintro (⟨h1,h2⟩|⟨i,h1,h2⟩)
    ·exact .inl ⟨h1,h1,.inl h2⟩
    ·cases i with
     | zero =>
       have hj:=h2.choose_spec.2.1
       exact .inl ⟨hj,hj,.inr (((SpecR.id' t m hm).2 j).2 h2)⟩
     | succ i=>exact .inr ⟨i,by omega,(hsucc i).2 h2⟩
theorem rep_spec {t:List UInt8}{F:List Bool→List Bool}{L:Lg} (h:SpecR t F L) {a b:Int} (h0:0≤a) (hab:b<0∨a≤b):SpecR t (fun m=>zMU F t.length (zMT a b t.length) (zHb t.length) (itR F a.toNat m)) (repW L a b):=fun m hm=>by
 obtain ⟨a1,a2⟩:=SpecR.it h a.toNat m hm
 obtain ⟨g1,g2⟩:=zIi h (zMT a b t.length) (zHb t.length) (itR F a.toNat m) a1
 refine ⟨g1,fun j=>(g2 j).trans ?_⟩
 have hadd:∀ i,zJ8 (powW L i) t (itR F a.toNat m) j↔zJ8 (powW L (a.toNat+i)) t m j:=fun i=>by
  have h3:=(SpecR.then (SpecR.it h a.toNat) (SpecR.it h i) m hm).2 j
  have h4:=(SpecR.it h i (itR F a.toNat m) a1).2 j
  refine (h4.symm.trans h3).trans ?_
  exact ⟨fun ⟨i0,x1,x2,x3,x4⟩=>⟨i0,x1,x2,x3,(zDv L _ _ _).1 x4⟩,fun ⟨i0,x1,x2,x3,x4⟩=>⟨i0,x1,x2,x3,(zDv L _ _ _).2 x4⟩⟩
 constructor
 ·rintro (⟨_,h2⟩|⟨i,h1,h2⟩)
  ·rw [zIe] at h2;cases h2
  ·obtain ⟨i0,x1,x2,x3,x4⟩:=(hadd i).1 h2
   refine ⟨i0,x1,x2,x3,a.toNat+i,by omega,?_,x4⟩
   unfold zMT at h1
   split at h1<;>omega
 ·rintro ⟨i0,x1,x2,x3,k,k1,k2,k3⟩
  refine .inr ?_
  unfold zMT
  split
  ·rename_i hc
   exact ⟨k-a.toNat,by omega,(hadd _).2 ⟨i0,x1,x2,x3,by rw [show a.toNat+(k-a.toNat)=k by omega];exact k3⟩⟩
  ·obtain ⟨q,q1,q2⟩:=rep_cap (w:=subT t i0 j) (a:=a.toNat) (n:=t.length+1) (by rw [zE8 t x2];omega) (by omega) k3
   exact ⟨q,by omega,(hadd _).2 ⟨i0,x1,x2,x3,q2⟩⟩
theorem zKD {t:List UInt8}:∀ (l:List RgD),(∀ x∈l,SpecR t (zFQ t x) (zCk x))→SpecR t (catE t l) (catW l)
 | [],_=>by
   have:=SpecR.id' t
   exact (show SpecR t (catE t []) zFR by rw [catE];exact this).congr fun w=>by rw [catW];rfl
 | x::r,h=>by
   have h1:=SpecR.then (h x (by simp)) (zKD r fun y hy=>h y (by simp [hy]))
   have h2:SpecR t (catE t (x::r)) (zFu (zCk x) (catW r)):=by rw [catE];exact h1
   exact h2.congr fun w=>by rw [catW];rfl
theorem zKK {t:List UInt8}:∀ (l:List RgD),(∀ x∈l,SpecR t (zFQ t x) (zCk x))→∀ (m o:List Bool),m.length=t.length+1→o.length=t.length+1→(altE t l m o).length=t.length+1∧∀ j,getB (altE t l m o) j=true↔getB o j=true∨zJ8 (altW l) t m j
 | [],_,m,o,hm,ho=>by
   rw [altE]
   refine ⟨ho,fun j=>⟨.inl,?_⟩⟩
   rintro (h|⟨i,_,_,_,h⟩)
   ·exact h
   ·rw [altW] at h;exact h.elim
 | x::r,h,m,o,hm,ho=>by
   obtain ⟨f1,f2⟩:=h x (by simp) m hm
   obtain ⟨g1,g2⟩:=zKK r (fun y hy=>h y (by simp [hy])) m (orR o (zFQ t x m) t.length) hm (zMB _ _ _)
   rw [altE]
   refine ⟨g1,fun j=>(g2 j).trans ?_⟩
   rw [zJe,f2]
   constructor
   ·rintro (⟨h1,h2|⟨i,x1,x2,x3,x4⟩⟩|⟨i,x1,x2,x3,x4⟩)
    ·exact .inl h2
    ·exact .inr ⟨i,x1,x2,x3,by rw [altW];exact .inl x4⟩
    ·exact .inr ⟨i,x1,x2,x3,by rw [altW];exact .inr x4⟩
   ·rintro (h1|⟨i,x1,x2,x3,x4⟩)
    ·have:=zJo h1
     exact .inl ⟨by omega,.inl h1⟩
    ·rw [altW] at x4
     rcases x4 with x4|x4
     ·exact .inl ⟨x2,.inr ⟨i,x1,x2,x3,x4⟩⟩
     ·exact .inr ⟨i,x1,x2,x3,x4⟩
theorem zN3 (t:List UInt8):∀ n:RgD,zAJ n=0→SpecR t (zFQ t n) (zCk n):=RgD.ind fun k s l a b ih hw m hm=>by
 obtain ⟨hf,hk⟩:=zAM hw
 have hall:=zB0 hk
 have hspec:∀ x∈l,SpecR t (zFQ t x) (zCk x):=fun x hx=>ih x hx (hall x hx)
 rw [zFQ]
 dsimp only
 have hlang:=zCf k s l a b
 by_cases h1:k=1
 ·rw [if_pos h1]
  refine ⟨by simp,fun j=>?_⟩
  rw [zFI]
  constructor
  ·rintro ⟨x1,x2⟩
   exact ⟨j,Nat.le_refl _,x1,x2,by rw [hlang,if_pos h1];exact (zGQ (Nat.le_refl _) x1).2 rfl⟩
  ·rintro ⟨i,x1,x2,x3,x4⟩
   rw [hlang,if_pos h1] at x4
   rw [←(zGQ x1 x2).1 x4]
   exact ⟨by omega,x3⟩
 rw [if_neg h1]
 by_cases h2:k=2
 ·rw [if_pos h2]
  refine ⟨by simp,fun j=>?_⟩
  rw [zFI,Bool.and_eq_true,Bool.and_eq_true,decide_eq_true_iff]
  constructor
  ·rintro ⟨x1,⟨x2,x3⟩,x4⟩
   have hlt:j-1<t.length:=by omega
   rw [List.getElem?_eq_getElem hlt] at x4
   refine ⟨j-1,by omega,x1,x3,?_⟩
   rw [hlang,if_neg h1,if_pos h2]
   exact ⟨t[j-1],(zLM (by omega) x1).2 ⟨by omega,List.getElem?_eq_getElem hlt⟩,x4⟩
  ·rintro ⟨i,x1,x2,x3,x4⟩
   rw [hlang,if_neg h1,if_pos h2] at x4
   obtain ⟨c,e,hc⟩:=x4
   obtain ⟨rfl,hti⟩:=(zLM x1 x2).1 e
   refine ⟨x2,⟨by omega,by rw [Nat.add_sub_cancel];exact x3⟩,?_⟩
   rw [Nat.add_sub_cancel,hti];exact hc
 rw [if_neg h2]
 by_cases h3:k=3
 ·rw [if_pos h3]
  exact (zKD l hspec).congr (fun w=>by rw [hlang,if_neg h1,if_neg h2,if_pos h3]) m hm
 rw [if_neg h3]
 by_cases h4:k=4
 ·rw [if_pos h4]
  obtain ⟨g1,g2⟩:=zKK l hspec m (zHb t.length) hm (by simp [zHb])
  refine ⟨g1,fun j=>(g2 j).trans ?_⟩
  rw [zIe]
  constructor
  ·rintro (h|⟨i,x1,x2,x3,x4⟩)
   ·cases h
   ·exact ⟨i,x1,x2,x3,by rw [hlang,if_neg h1,if_neg h2,if_neg h3,if_pos h4];exact x4⟩
  ·rintro ⟨i,x1,x2,x3,x4⟩
   rw [hlang,if_neg h1,if_neg h2,if_neg h3,if_pos h4] at x4
   exact .inr ⟨i,x1,x2,x3,x4⟩
 rw [if_neg h4]
 have hF:=zBm hf
 cases hF with
 | none s a b=>exact absurd rfl h1
 | one s a b h=>exact absurd rfl h2
 | cat s x y l a b=>exact absurd rfl h3
 | alt s x y l a b=>exact absurd rfl h4
 | rep s x a b h =>
   rw [if_pos rfl]
   have hk1:SpecR t (kidE t [x]) (fun u=>kidW [x] u):=by
    have:=hspec x (by simp)
    rw [show kidE t [x]=zFQ t x by rw [kidE]]
    exact this.congr fun w=>by rw [kidW]
   refine (rep_spec hk1 (by omega) (by omega)).congr (fun w=>?_) m hm
   rw [hlang,if_neg (by decide),if_neg (by decide),if_neg (by decide),if_neg (by decide),if_pos rfl]
theorem zGW {n:RgD} (hw:zAJ n=0) (t:List UInt8):refM n t=true↔zCk n t:=by
 obtain ⟨h1,h2⟩:=zN3 t n hw (zK1 t.length) (by simp [zK1])
 unfold refM
 rw [h2]
 constructor
 ·rintro ⟨i,x1,x2,x3,x4⟩
  have:i=0:=by
   cases i with
   | zero=>rfl
   | succ i =>
     unfold zK1 getB at x3
     rw [List.getElem?_cons_succ,List.getElem?_replicate] at x3
     split at x3<;>cases x3
  subst this
  unfold subT at x4
  rwa [List.take_length,List.drop_zero] at x4
 ·intro h
  exact ⟨0,Nat.zero_le _,Nat.le_refl _,rfl,by unfold subT;rwa [List.take_length,List.drop_zero]⟩
end Go.Proofs.YtmaennnkaoollaaGreatDoor
end
section
namespace Go.E
open Go
structure KeyEnc (P:Program) (kt:TypeId) {κ:Type} (kv:κ→Value) (ok:κ→Prop):Prop where
 check:∀ k,ok k→∀ (w:World) (em:Bool),(Instr.checkKey em 10000 kt (kv k)).run P w=.ok () w
 search:∀ (w:World) (k:κ),ok k→∀ es:List MapEntry,(∀ e∈es,∃ j,ok j∧e.key=kv j)→((Instr.findKey kt (kv k) es).run P w=.ok none w∧∀ e∈es,e.key≠kv k)∨∃ j e,(Instr.findKey kt (kv k) es).run P w=.ok (some (j,e.val)) w∧es[j]?=some e∧e.key=kv k
 stays:∀ k,ok k→∀ w:World,(Instr.keyThatStays (kv k) (kv k)).run P w=.ok (kv k) w
 inj:∀ a b,kv a=kv b→a=b
theorem KeyEnc.ofLaw {P:Program}{kt:TypeId}{κ:Type}{kv:κ→Value}{ok:κ→Prop} (law:WideMaps.KeyLaw P kt) (is:∀ k,ok k→∃ l,keyOf P kt (kv k)=some l) (inj:∀ a b,kv a=kv b→a=b):KeyEnc P kt kv ok where
 check k hk w em:=by obtain ⟨l,hl⟩:=is k hk;exact law.check w em hl
 search w k hk es he:=by
  obtain ⟨l,hl⟩:=is k hk
  exact law.find w hl es fun e h=>by
   obtain ⟨j,hj,e2⟩:=he e h
   rw [e2];exact is j hj
 stays k hk w:=by obtain ⟨l,hl⟩:=is k hk;exact law.stays w hl
 inj:=inj
section
variable {κ ν:Type}
def entG (kv:κ→Value) (vv:ν→Value) (p:κ × ν × Nat):MapEntry:={ key:=kv p.1,val:=vv p.2.1,born:=p.2.2 }
def mapG (kv:κ→Value) (vv:ν→Value) (l:List (κ × ν × Nat)) (c:Nat):Obj:=.map (l.map (entG kv vv)).toArray c
structure MapOk (ok:κ→Prop) (l:List (κ × ν × Nat)):Prop where
 nodup:(l.map (·.1)).Nodup
 all:∀ p∈l,ok p.1
variable [DecidableEq κ]
def getG:List (κ × ν × Nat)→κ→Option ν
 | [],_=>none
 | p::r,k=>if k=p.1 then some p.2.1 else getG r k
def putG:List (κ × ν × Nat)→Nat→κ→ν→List (κ × ν × Nat)
 | [],c,k,v=>[(k,v,c)]
 | p::r,c,k,v=>if k=p.1 then (k,v,p.2.2)::r else p::putG r c k v
theorem zKu:∀ {l:List (κ × ν × Nat)}{k:κ},(∀ p∈l,p.1≠k)→getG l k=none∧∀ c v,putG l c k v=l++[(k,v,c)]
 | [],k,h=>⟨rfl,fun _ _=>rfl⟩
 | p::r,k,h=>by
   have hp:¬k=p.1:=fun e=>h p (by simp) e.symm
   obtain ⟨h1,h2⟩:=zKu (l:=r) (k:=k) (fun q hq=>h q (by simp [hq]))
   exact ⟨by rw [getG,if_neg hp];exact h1,fun c v=>by rw [putG,if_neg hp,h2];rfl⟩
theorem get_at:∀ {l:List (κ × ν × Nat)}{j:Nat}{p:κ × ν × Nat},(l.map (·.1)).Nodup→l[j]?=some p→getG l p.1=some p.2.1∧∀ c v,putG l c p.1 v=l.set j (p.1,v,p.2.2)
 | [],j,p,hn,h=>by simp at h
 | q::r,0,p,hn,h=>by
   simp at h;subst h
   exact ⟨by rw [getG,if_pos rfl],fun c v=>by rw [putG,if_pos rfl];rfl⟩
 | q::r,j+1,p,hn,h=>by
   have hn2:q.1∉r.map (·.1)∧(r.map (·.1)).Nodup:=by simpa using hn
   have h:r[j]?=some p:=by simpa using h
   have hne:¬p.1=q.1:=fun e=>hn2.1 (e▸List.mem_map_of_mem (List.mem_of_getElem? h))
   obtain ⟨h1,h2⟩:=get_at hn2.2 h
   exact ⟨by rw [getG,if_neg hne];exact h1,fun c v=>by rw [putG,if_neg hne,h2];rfl⟩
theorem zJc:∀ {l:List (κ × ν × Nat)}{c:Nat}{k:κ}{v:ν}{p:κ × ν × Nat},p∈putG l c k v→p.1=k∨p∈l
 | [],c,k,v,p,h=>by simp [putG] at h;exact .inl (by rw [h])
 | q::r,c,k,v,p,h=>by
   rw [putG] at h
   split at h
   ·rcases List.mem_cons.1 h with rfl|h
    ·exact .inl rfl
    ·exact .inr (by simp [h])
   ·rcases List.mem_cons.1 h with rfl|h
    ·exact .inr (by simp)
    ·rcases zJc h with h|h
     ·exact .inl h
     ·exact .inr (by simp [h])
theorem MapOk.put {ok:κ→Prop}{l:List (κ × ν × Nat)} (h:MapOk ok l) {k:κ} (hk:ok k) (c:Nat) (v:ν):MapOk ok (putG l c k v):=by
 refine ⟨?_,fun p hp=>?_⟩
 ·obtain ⟨hn,ha⟩:=h
  clear ha
  induction l with
  | nil=>simp [putG]
  | cons q r ih =>
    have hn2:q.1∉r.map (·.1)∧(r.map (·.1)).Nodup:=by simpa using hn
    rw [putG]
    split
    ·rename_i e;subst e;simpa using hn
    ·rename_i e
     rw [List.map_cons,List.nodup_cons]
     refine ⟨fun hmo=>?_,ih hn2.2⟩
     obtain ⟨p,hp,hpe⟩:=List.mem_map.1 hmo
     rcases zJc hp with h|h
     ·exact e (h.symm.trans hpe)
     ·exact hn2.1 (hpe▸List.mem_map_of_mem h)
 ·rcases zJc hp with e|hp
  ·rw [e];exact hk
  ·exact h.all p hp
theorem MapOk.nil {ok:κ→Prop}:MapOk ok ([]:List (κ × ν × Nat)):=⟨by simp,by simp⟩
theorem zDz {l:List (κ × ν × Nat)}{c:Nat}{k j:κ}{v:ν}:getG (putG l c k v) j=if j=k then some v else getG l j:=by
 induction l with
 | nil=>simp only [putG,getG]
 | cons p r ih =>
   unfold putG
   split
   ·rename_i h
    simp only [getG]
    by_cases hj:j=k
    ·simp [hj]
    ·rw [if_neg hj,if_neg hj,if_neg (fun e=>hj (e.trans h.symm))]
   ·rename_i h
    simp only [getG]
    rw [ih]
    by_cases hj:j=p.1
    ·rw [if_pos hj,if_pos hj,if_neg (fun e=>h (e.symm.trans hj))]
    ·rw [if_neg hj,if_neg hj]
variable {P:Program}{T:TT} [hT:TTab P T] {ty:TypeId}{env:Env}{ro:Ro}{own:Chs}{K:Value→Ro→Chs→Prop}{kt:TypeId}{kv:κ→Value}{vv:ν→Value}{ok:κ→Prop}
theorem KeyEnc.find (E:KeyEnc P kt kv ok) {l:List (κ × ν × Nat)} (hmo:MapOk ok l) {k:κ} (hk:ok k) (w:World) :
  ((Instr.findKey kt (kv k) (l.map (entG kv vv))).run P w=.ok none w∧getG l k=none∧∀ c v,putG l c k v=l++[(k,v,c)]) ∨
  ∃ (j:Nat) (p:κ × ν × Nat),(Instr.findKey kt (kv k) (l.map (entG kv vv))).run P w=.ok (some (j,vv p.2.1)) w∧l[j]?=some p∧p.1=k∧getG l k=some p.2.1∧∀ c v,putG l c k v=l.set j (k,v,p.2.2):=by
 rcases E.search w k hk (l.map (entG kv vv)) (fun e he=>by
  obtain ⟨p,hp,rfl⟩:=List.mem_map.1 he
  exact ⟨p.1,hmo.all p hp,rfl⟩) with ⟨h1,h2⟩|⟨j,e,h1,h2,h3⟩
 ·obtain ⟨g1,g2⟩:=zKu (l:=l) (k:=k) (fun p hp e=>h2 (entG kv vv p) (List.mem_map_of_mem hp) (congrArg kv e))
  exact .inl ⟨h1,g1,g2⟩
 ·rw [List.getElem?_map] at h2
  obtain ⟨p,hp,rfl⟩:=Option.map_eq_some_iff.1 h2
  obtain rfl:=E.inj _ _ h3
  obtain ⟨g1,g2⟩:=get_at hmo.nodup hp
  exact .inr ⟨j,p,h1,hp,rfl,g1,g2⟩
theorem OpOk.lookupG {t et:TypeId}{x y:Operand}{b c:Nat}{k:κ}{l:List (κ × ν × Nat)}{z:Value}{f:Chunk→Chs} (hx:ev env x=some (.map (some b))) (hy:ev env y=some (kv k)) (ht:P.underlying t=some (.map kt et))
  (E:KeyEnc P kt kv ok) (hmo:MapOk ok l) (hkk:ok k) (hz:(P.info? et).map (fun i=>i.zero)=some (some z)) [hb:HasObj own b (mapG kv vv l c) f] (hk:K (((getG l k).map vv).getD z) ro own):OpOk P (.lookup t x y false) ty env ro own K :=
 OpOk.pu (fun h hs d pos af g=>.mk fun ρ w hρ hw=>by
  have hg:h[b]?=some (.map (l.map (entG kv vv)).toArray c):=(hb.repl (.obj 0 default)).get hs
  subst hw
  obtain ⟨i,hi,hi2⟩:=Option.map_eq_some_iff.1 hz
  have hc:=fun em=>E.check k hkk w em
  rcases E.find (vv:=vv) hmo hkk w with ⟨h1,h2,h3⟩|⟨j,q,h1,h2,h3,h4,h5⟩
  ·rw [h2]
   simp [execOp,hρ _ _ hx,hρ _ _ hy,Instr.lookup,run_underlying ht,MapKept.run_getObj_map hg,hc,h1,zeroValue,typeInfo,hi,hi2,Result.andThen]
  ·rw [h4]
   simp [execOp,hρ _ _ hx,hρ _ _ hy,Instr.lookup,run_underlying ht,MapKept.run_getObj_map hg,hc,h1,Result.andThen]) hk
theorem OpOk.lookupOkG {t et:TypeId}{x y:Operand}{b c:Nat}{k:κ}{l:List (κ × ν × Nat)}{z:Value}{f:Chunk→Chs} (hx:ev env x=some (.map (some b))) (hy:ev env y=some (kv k)) (ht:P.underlying t=some (.map kt et))
  (E:KeyEnc P kt kv ok) (hmo:MapOk ok l) (hkk:ok k) (hz:(P.info? et).map (fun i=>i.zero)=some (some z)) [hb:HasObj own b (mapG kv vv l c) f] (hk:K (.tuple #[((getG l k).map vv).getD z,.bool (getG l k).isSome]) ro own):OpOk P (.lookup t x y true) ty env ro own K :=
 OpOk.pu (fun h hs d pos af g=>.mk fun ρ w hρ hw=>by
  have hg:h[b]?=some (.map (l.map (entG kv vv)).toArray c):=(hb.repl (.obj 0 default)).get hs
  subst hw
  obtain ⟨i,hi,hi2⟩:=Option.map_eq_some_iff.1 hz
  have hc:=fun em=>E.check k hkk w em
  rcases E.find (vv:=vv) hmo hkk w with ⟨h1,h2,h3⟩|⟨j,q,h1,h2,h3,h4,h5⟩
  ·rw [h2]
   simp [execOp,hρ _ _ hx,hρ _ _ hy,Instr.lookup,run_underlying ht,MapKept.run_getObj_map hg,hc,h1,zeroValue,typeInfo,hi,hi2,Result.andThen]
  ·rw [h4]
   simp [execOp,hρ _ _ hx,hρ _ _ hy,Instr.lookup,run_underlying ht,MapKept.run_getObj_map hg,hc,h1,Result.andThen]) hk
theorem OpOk.mapUpdateG {t et:TypeId}{x y z:Operand}{b c:Nat}{k:κ}{v:ν}{l:List (κ × ν × Nat)}{f:Chunk→Chs} (hx:ev env x=some (.map (some b))) (hy:ev env y=some (kv k)) (hz:ev env z=some (vv v)) (ht:P.underlying t=some (.map kt et))
  (E:KeyEnc P kt kv ok) (hmo:MapOk ok l) (hkk:ok k) [hb:HasObj own b (mapG kv vv l c) f] (hk:∀ c',K undef ro (f (.obj b (mapG kv vv (putG l c k v) c')))):OpOk P (.mapUpdate t x y z) ty env ro own K :=
 ⟨fun h hs d pos af g=>⟨fun ρ w hρ hw=>by
  have hg:h[b]?=some (.map (l.map (entG kv vv)).toArray c):=(hb.repl (.obj 0 default)).get hs
  subst hw
  have hc:=fun em=>E.check k hkk w em
  have hst:=E.stays k hkk w
  have key:∃ c',(execOp ρ ⟨d,.mapUpdate t x y z,ty,pos,af,g⟩).run P w=.ok .skip { w with heap:=w.heap.setIfInBounds b (mapG kv vv (putG l c k v) c') }:=by
   rcases E.find (vv:=vv) hmo hkk w with ⟨h1,h2,h3⟩|⟨j,q,h1,h2,h3,h4,h5⟩
   ·refine ⟨c+1,?_⟩
    have e:mapG kv vv (putG l c k v) (c+1)=.map ((l.map (entG kv vv)).toArray.push { key:=kv k,val:=vv v,born:=c }) (c+1):=by
     rw [h3];simp [mapG,entG]
    rw [e]
    simp [execOp,hρ _ _ hx,hρ _ _ hy,hρ _ _ hz,Instr.mapUpdate,run_underlying ht,MapKept.run_getObj_map hg,MapKept.run_setObj_map _ hg,hc,h1,Result.andThen]
   ·refine ⟨c,?_⟩
    have hj:(l.map (entG kv vv)).toArray[j]?=some (entG kv vv q):=by simp [h2]
    have e:mapG kv vv (putG l c k v) c=.map ((l.map (entG kv vv)).toArray.modify j fun e=>{ e with key:=kv k,val:=vv v }) c:=by
     rw [h5]
     refine congrArg (fun z=>Obj.map z c) ?_
     apply Array.ext'
     rw [Array.toList_modify]
     apply List.ext_getElem?
     intro i
     by_cases hij:j=i
     ·subst hij
      have hlt:j<l.length:=(List.getElem?_eq_some_iff.1 h2).1
      have hq:=(List.getElem?_eq_some_iff.1 h2).2
      simp [List.getElem?_set,hlt,List.getElem?_modify,entG,hq]
     ·simp [List.getElem?_set,hij,List.getElem?_modify]
    rw [e]
    have hq:(entG kv vv q).key=kv k:=by rw [←h3];rfl
    simp [execOp,hρ _ _ hx,hρ _ _ hy,hρ _ _ hz,Instr.mapUpdate,run_underlying ht,MapKept.run_getObj_map hg,MapKept.run_setObj_map _ hg,hc,h1,Result.andThen,h2,hq,hst]
  obtain ⟨c',key⟩:=key
  obtain ⟨r,p1,p2⟩:=(hb.repl (.obj b (mapG kv vv (putG l c k v) c'))).perm
  have hsat:=hs.perm p1
  have hlt:b<w.heap.size:=by
   rcases Nat.lt_or_ge b w.heap.size with h|h
   ·exact h
   ·rw [Array.getElem?_eq_none h] at hg;cases hg
  refine ⟨undef,_,.inr ⟨key,rfl⟩,⟨rfl,rfl,rfl,rfl⟩,ro,_,Le.refl _,(hsat.put (c':=.obj b (mapG kv vv (putG l c k v) c')) (fun i _ hi=>?_) ?_ (fun k hk=>.inl hk) (by simp [Chunk.fp])).perm p2.symm,hk c'⟩
  ·have:b≠i:=by simpa [Chunk.fp,eq_comm] using hi
   simp [Array.getElem?_setIfInBounds,this]
  ·simp [Chunk.holds,hm,hlt]⟩⟩
theorem OpOk.makeMapG {t:TypeId} (hk:∀ b,K (.map (some b)) ro (.obj b (mapG kv vv ([]:List (κ × ν × Nat)) 0)::own)):OpOk P (.makeMap t none) ty env ro own K:=OpOk.makeMap hk
theorem OpOk.insertG {t:TypeId}{x y z:Operand} (h:OpOk P (.mapUpdate t x y z) ty env ro own K):OpOk P (.insert t x y z) ty env ro own K :=
 ⟨fun g hs d pos af gd=>⟨fun ρ w hρ hw=>(h.run g hs d pos af gd).run ρ w hρ hw⟩⟩
theorem OpOk.lenG {t et:TypeId}{x:Operand}{b c:Nat}{l:List (κ × ν × Nat)}{f:Chunk→Chs} (hx:ev env x=some (.map (some b))) (ht:P.underlying t=some (.map kt et))
  [hb:HasObj own b (mapG kv vv l c) f] (hk:K (.int .i64 (l.length:Int)) ro own):OpOk P (.call ⟨.builtin .len,#[x],#[t]⟩) ty env ro own K :=
 OpOk.pu (fun h hs d pos af g=>.mk fun ρ w hρ hw=>by
  have hg:h[b]?=some (.map (l.map (entG kv vv)).toArray c):=(hb.repl (.obj 0 default)).get hs
  subst hw
  simp [execOp,resolve,invoke,builtin,hρ _ _ hx,Builtin.len_,run_underlying ht,MapKept.run_getObj_map hg,Result.andThen,goInt]) hk
end
theorem KeyEnc.text {P:Program}{kt:TypeId} (hk:P.underlying kt=some .string):KeyEnc P kt str (fun l=>l.length≤maxLen) :=
 KeyEnc.ofLaw (WideMaps.string_law hk) (fun l h=>⟨_,WideMaps.keyOf_string_mk hk (by simpa [ByteArray.size] using h)⟩) (fun a b h=>by
  have h2:ByteArray.mk a.toArray=ByteArray.mk b.toArray:=by injection h
  have h3:a.toArray=b.toArray:=by injection h2
  exact congrArg Array.toList h3)
theorem KeyEnc.int {P:Program}{kt:TypeId} (hk:P.underlying kt=some (.int .i64)):KeyEnc P kt (Value.int .i64) (fun _=>True) where
 check k _ w em:=MapKept.run_checkKey hk (d:=.int .i64) (k:=.int .i64 k) rfl em 9999
 search w k _ es he:=by
  rcases MapKept.findNow_spec (d:=.int .i64) (k:=.int .i64 k) rfl es 0 (fun x hx=>by
   obtain ⟨j,_,e⟩:=he x hx
   rw [e];rfl) with ⟨h1,h2⟩|⟨j,e0,h1,h2,h3⟩
  ·exact .inl ⟨MapKept.run_findKey hk h1,h2⟩
  ·exact .inr ⟨j,e0,by simpa using MapKept.run_findKey hk h1,h2,h3⟩
 stays k _ w:=MapKept.run_keyThatStays (d:=.int .i64) (k:=.int .i64 k) rfl
 inj a b h:=by injection h
end Go.E
end
section
namespace Go.Proofs.YtmaennnkaoollaaGreatDoor
open Go Go.E
def keyT (l:List Int):List UInt8:=l.flatMap fun z=>[UInt8.ofNat (z.toNat / 256),UInt8.ofNat z.toNat]
def AdmK (l:List Int):Prop:=∀ z∈l,0≤z∧z<65536
theorem zDy (z:Int) (l:List Int):keyT (z::l)=UInt8.ofNat (z.toNat / 256)::UInt8.ofNat z.toNat::keyT l:=rfl
theorem zNd (l:List Int) (z:Int):keyT (l++[z])=keyT l++[UInt8.ofNat (z.toNat / 256),UInt8.ofNat z.toNat]:=by
 unfold keyT;rw [List.flatMap_append];simp
theorem zCm:∀ l:List Int,(keyT l).length=2*l.length
 | []=>rfl
 | z::l=>by rw [zDy,List.length_cons,List.length_cons,zCm l,List.length_cons];omega
theorem zKp:∀ {l m:List Int},AdmK l→AdmK m→keyT l=keyT m→l=m
 | [],[],_,_,_=>rfl
 | [],z::m,_,_,h=>by rw [zDy] at h;cases h
 | z::l,[],_,_,h=>by rw [zDy] at h;cases h
 | x::l,y::m,h1,h2,h=>by
   rw [zDy,zDy] at h
   injection h with a1 h
   injection h with a2 h
   have e1:=congrArg UInt8.toNat a1
   have e2:=congrArg UInt8.toNat a2
   rw [UInt8.toNat_ofNat',UInt8.toNat_ofNat'] at e1 e2
   have hx:=h1 x (by simp)
   have hy:=h2 y (by simp)
   have:x=y:=by omega
   rw [this,zKp (fun z hz=>h1 z (by simp [hz])) (fun z hz=>h2 z (by simp [hz])) h]
structure KeyM (W:Nat) (seen:List (List Int)) (M:List (List UInt8 × Nat × Nat)):Prop where
 map:MapOk (fun l=>l.length≤maxLen) M
 len:M.length=seen.length
 adm:∀ l∈seen,AdmK l∧l.length≤W
 at':∀ l,AdmK l→getG M (keyT l)=seen.idxOf? l
theorem zMw {κ ν:Type} [DecidableEq κ]:∀ {l:List (κ × ν × Nat)}{c:Nat}{k:κ}{v:ν},getG l k=none→(putG l c k v).length=l.length+1
 | [],c,k,v,_=>rfl
 | p::r,c,k,v,h=>by
   rw [getG] at h
   split at h
   ·cases h
   ·rename_i hn
    rw [putG,if_neg hn,List.length_cons,zMw h,List.length_cons]
theorem KeyM.nil (W:Nat):KeyM W [] []:=⟨MapOk.nil,rfl,(fun l h=>by cases h),fun l _=>rfl⟩
theorem idx_snoc (s:List (List Int)) (l x:List Int):(s++[l]).idxOf? x=(s.idxOf? x).or (if x=l then some s.length else none):=by
 unfold List.idxOf?
 rw [List.findIdx?_append,List.findIdx?_cons]
 by_cases e:x=l
 ·subst e;simp
 ·have:(l == x)=false:=by simpa using fun h=>e h.symm
  rw [this,if_neg e];simp
theorem KeyM.push {W:Nat}{seen:List (List Int)}{M:List (List UInt8 × Nat × Nat)} (h:KeyM W seen M) (hW:W≤1000000) {l:List Int} (ha:AdmK l) (hl:l.length≤W) (hn:seen.idxOf? l=none) (c:Nat):KeyM W (seen++[l]) (putG M c (keyT l) seen.length):=by
 have hg:=h.at' l ha
 rw [hn] at hg
 refine ⟨h.map.put (by rw [zCm];unfold maxLen;omega) c _,by rw [zMw hg,h.len];simp,fun x hx=>?_,fun x hx=>?_⟩
 ·rcases List.mem_append.1 hx with hx|hx
  ·exact h.adm x hx
  ·rw [List.mem_singleton] at hx;rw [hx];exact ⟨ha,hl⟩
 ·rw [zDz]
  rw [idx_snoc]
  by_cases e:x=l
  ·subst e
   rw [if_pos rfl,hn,if_pos rfl];rfl
  ·rw [if_neg (fun h2=>e (zKp hx ha h2)),h.at' x hx,if_neg e]
   cases seen.idxOf? x<;>rfl
theorem getB_ext {m n:List Bool} (hl:m.length=n.length) (h:∀ i,getB m i=true↔getB n i=true):m=n:=by
 apply List.ext_getElem hl
 intro i h1 h2
 have:=h i
 unfold getB at this
 rw [List.getElem?_eq_getElem h1,List.getElem?_eq_getElem h2] at this
 simp only [Option.getD_some] at this
 cases ha:m[i]<;>cases hb:n[i]<;>simp_all
theorem zFE {w:Nat}{a:DfaA} (h:zAt w a):(zBt a).length=a.next.length:=zHg _ _ h.acc
theorem zIp {w:Nat}{a:DfaA} (h:zAt w a):zDd a (zBt a):=zDQ _ _ h.acc (.inr (by omega))
theorem zNb {w:Nat}{a:DfaA} (h:zAt w a) (i:Nat) (hi:getB a.acc i=true):getB (zBt a) i=true:=zEG _ _ h.acc i hi
theorem zOc {w:Nat}{a:DfaA} (h:zAt w a) {m:List Bool} (hl:m.length=a.next.length) (h1:∀ i,getB a.acc i=true→getB m i=true) (h2:∀ i,getB m i=true→getB (zBt a) i=true) (hc:zDd a m):m=zBt a :=
 getB_ext (by rw [hl,zFE h]) fun i=>⟨h2 i,zEF (Q:=fun i=>getB m i=true) (fun s z hz h0 hq=>hc s z hz h0 hq) _ _ h1 i⟩
def numW (t:List UInt8):Nat:=t.foldl (fun n c=>n*256+c.toNat+1) 0
theorem zF7 (t:List UInt8) (c:UInt8):numW (t++[c])=numW t*256+c.toNat+1:=by unfold numW;rw [List.foldl_append];rfl
theorem zHL (a:DfaA) (t:List UInt8) (c:UInt8):runA a (t++[c])=zAb a (runA a t) c.toNat:=by unfold runA;rw [List.foldl_append];rfl
def bfsC (a:DfaA) (s:Nat):Nat→Nat→List Int→List Nat→List Nat→List Int × List Nat × List Nat
 | 0,_,fr,bs,wk=>(fr,bs,wk)
 | k+1,c,fr,bs,wk =>
   if zAb a (s:Int) c≠-1∧fr[(zAb a (s:Int) c).toNat]?.getD 0=-2 then bfsC a s k (c+1) (fr.set (zAb a (s:Int) c).toNat (s:Int)) (bs.set (zAb a (s:Int) c).toNat c) (wk++[(zAb a (s:Int) c).toNat])
   else bfsC a s k (c+1) fr bs wk
def bfsL (a:DfaA):Nat→Nat→List Int→List Nat→List Nat→Option (List Int × List Nat × Nat)
 | 0,_,_,_,_=>none
 | f+1,i,fr,bs,wk=>match wk[i]? with
   | none=>none
   | some s=>if zAD a (s:Int) then some (fr,bs,s) else bfsL a f (i+1) (bfsC a s 256 0 fr bs wk).1 (bfsC a s 256 0 fr bs wk).2.1 (bfsC a s 256 0 fr bs wk).2.2
def zNU (fr:List Int) (bs:List Nat):Nat→Nat→List UInt8→List UInt8
 | 0,_,out=>out
 | f+1,s,out=>if 0≤fr[s]?.getD 0 then zNU fr bs f (fr[s]?.getD 0).toNat (UInt8.ofNat (bs[s]?.getD 0)::out) else out
def zDf (a:DfaA):Option (List UInt8) :=
 if a.next.length=0 then none else
 match bfsL a (a.next.length+1) 0 ((List.replicate a.next.length (-2)).set 0 (-1)) (List.replicate a.next.length 0) [0] with
 | none=>none
 | some r=>some (zNU r.1 r.2.1 (a.next.length+1) r.2.2 [])
structure BfsI (a:DfaA) (i c:Nat) (fr:List Int) (bs:List Nat) (wk:List Nat) (W:List (List UInt8)):Prop where
 frl:fr.length=a.next.length
 bsl:bs.length=a.next.length
 len:W.length=wk.length
 zero:wk[0]?=some 0∧W[0]?=some []
 run:∀ (j s:Nat) (w:List UInt8),wk[j]?=some s→W[j]?=some w→s<a.next.length∧runA a w=(s:Int)
 sort:∀ (j k:Nat) (u v:List UInt8),j<k→W[j]?=some u→W[k]?=some v→numW u<numW v
 seen:∀ t,t<a.next.length→(fr[t]?=some (-2)↔t∉wk)
 nodup:wk.Nodup
 par:∀ (j s:Nat) (w:List UInt8),wk[j]?=some s→W[j]?=some w→(j=0∧fr[s]?=some (-1)∧w=[])∨∃ (p q d:Nat) (v:List UInt8),p<j∧wk[p]?=some q∧W[p]?=some v∧fr[s]?=some (q:Int)∧bs[s]?=some d∧d<256∧w=v++[UInt8.ofNat d]
 exp:∀ (j d s:Nat) (w:List UInt8),(j<i∨(j=i∧d<c))→d<256→wk[j]?=some s→W[j]?=some w→zAb a (s:Int) d=-1∨∃ (k u:Nat) (v:List UInt8),wk[k]?=some u∧zAb a (s:Int) d=(u:Int)∧W[k]?=some v∧numW v≤numW w*256+d+1
 bnd:∀ (w:List UInt8),W[i]?=some w→∀ (k:Nat) (v:List UInt8),W[k]?=some v→numW v≤numW w*256+c
section
variable {a:DfaA}{w0:Nat}{i c:Nat}{fr:List Int}{bs wk:List Nat}{W:List (List UInt8)}
theorem BfsI.skip (h:BfsI a i c fr bs wk W) {s:Nat} (hs:wk[i]?=some s) (hc:c<256) (ho:zAt w0 a)
  (hno:¬(zAb a (s:Int) c≠-1∧fr[(zAb a (s:Int) c).toNat]?.getD 0=-2)):BfsI a i (c+1) fr bs wk W:=by
 refine ⟨h.frl,h.bsl,h.len,h.zero,h.run,h.sort,h.seen,h.nodup,h.par,fun j d s' w hj hd h1 h2=>?_,fun w hw k v hv=>by have:=h.bnd w hw k v hv;omega⟩
 by_cases e:j=i∧d=c
 ·obtain ⟨rfl,rfl⟩:=e
  rw [hs] at h1;cases h1
  rcases zAE ho (s:Int) hc with hz|⟨t,hz,ht⟩
  ·exact .inl hz
  ·rw [hz] at hno ⊢
   refine .inr ?_
   have hmem:t∈wk:=Classical.byContradiction fun hn=>by
    have h3:=(h.seen t ht).2 hn
    exact hno ⟨by omega,by rw [Int.toNat_natCast,h3];rfl⟩
   obtain ⟨k,hk,e⟩:=List.getElem_of_mem hmem
   have hkw:k<W.length:=by rw [h.len];exact hk
   have hk1:wk[k]?=some t:=by rw [List.getElem?_eq_getElem hk,e]
   have hk2:=List.getElem?_eq_getElem hkw
   have:=h.bnd w h2 k _ hk2
   exact ⟨k,t,_,hk1,rfl,hk2,by omega⟩
 ·exact h.exp j d s' w (by omega) hd h1 h2
theorem BfsI.put (h:BfsI a i c fr bs wk W) {s:Nat}{w:List UInt8} (hs:wk[i]?=some s) (hw:W[i]?=some w) (hc:c<256) {t:Nat} (ht:t<a.next.length) (hz:zAb a (s:Int) c=(t:Int)) (hf:fr[t]?=some (-2)) :
  BfsI a i (c+1) (fr.set t (s:Int)) (bs.set t c) (wk++[t]) (W++[w++[UInt8.ofNat c]]):=by
 have hnm:=(h.seen t ht).1 hf
 have hfl:t<fr.length:=by rw [h.frl];exact ht
 have hbl:t<bs.length:=by rw [h.bsl];exact ht
 have hu:(UInt8.ofNat c).toNat=c:=UInt8.toNat_ofNat_of_lt' hc
 have hil:=(List.getElem?_eq_some_iff.1 hs).1
 have hold:∀ j s',wk[j]?=some s'→s'≠t:=fun j s' hj e=>hnm (e▸List.mem_of_getElem? hj)
 have hnew:∀ j s',(wk++[t])[j]?=some s'→(wk[j]?=some s'∧j<wk.length)∨(j=wk.length∧s'=t):=fun j s' hj=>by
  rcases zAI hj with ⟨h1,h2⟩|⟨h1,h2⟩
  ·exact .inl ⟨h2,h1⟩
  ·exact .inr ⟨h1,h2⟩
 have hwn:∀ j v,(W++[w++[UInt8.ofNat c]])[j]?=some v→(W[j]?=some v∧j<wk.length)∨(j=wk.length∧v=w++[UInt8.ofNat c]):=fun j v hj=>by
  rcases zAI hj with ⟨h1,h2⟩|⟨h1,h2⟩
  ·exact .inl ⟨h2,by rw [←h.len];exact h1⟩
  ·exact .inr ⟨by rw [←h.len];exact h1,h2⟩
 have hnum:numW (w++[UInt8.ofNat c])=numW w*256+c+1:=by rw [zF7,hu]
 refine ⟨by rw [List.length_set,h.frl],by rw [List.length_set,h.bsl],by simp [h.len],⟨zAf h.zero.1,zAf h.zero.2⟩,?_,?_,?_,?_,?_,?_,?_⟩
 ·intro j s' v h1 h2
  rcases hnew j s' h1 with ⟨p1,p2⟩|⟨p1,p2⟩
  ·rcases hwn j v h2 with ⟨q1,q2⟩|⟨q1,q2⟩
   ·exact h.run j s' v p1 q1
   ·omega
  ·rcases hwn j v h2 with ⟨q1,q2⟩|⟨q1,q2⟩
   ·omega
   ·subst p2;subst q2
    refine ⟨ht,?_⟩
    rw [zHL,(h.run i s w hs hw).2,hu,hz]
 ·intro j k u v hjk h1 h2
  rcases hwn k v h2 with ⟨q1,q2⟩|⟨q1,q2⟩
  ·rcases hwn j u h1 with ⟨p1,p2⟩|⟨p1,p2⟩
   ·exact h.sort j k u v hjk p1 q1
   ·omega
  ·rcases hwn j u h1 with ⟨p1,p2⟩|⟨p1,p2⟩
   ·subst q2;rw [hnum];have:=h.bnd w hw j u p1;omega
   ·omega
 ·intro x hx
  by_cases e:x=t
  ·subst e
   rw [List.getElem?_set_self hfl]
   constructor
   ·intro h1;have h2:=Option.some.inj h1;omega
   ·intro h1;exact absurd (by simp) h1
  ·rw [List.getElem?_set_ne (fun h=>e h.symm),h.seen x hx]
   simp [e]
 ·rw [List.nodup_append]
  exact ⟨h.nodup,by simp,fun x hx y hy=>by rw [List.mem_singleton] at hy;subst hy;exact fun e=>hnm (e▸hx)⟩
 ·intro j s' v h1 h2
  rcases hnew j s' h1 with ⟨p1,p2⟩|⟨p1,p2⟩
  ·rcases hwn j v h2 with ⟨q1,q2⟩|⟨q1,q2⟩
   ·have hne:=hold j s' p1
    rcases h.par j s' v p1 q1 with ⟨r1,r2,r3⟩|⟨p,q,d,v',r1,r2,r3,r4,r5,r6,r7⟩
    ·exact .inl ⟨r1,by rw [List.getElem?_set_ne (fun e=>hne e.symm)];exact r2,r3⟩
    ·exact .inr ⟨p,q,d,v',r1,zAf r2,zAf r3,by rw [List.getElem?_set_ne (fun e=>hne e.symm)];exact r4,by rw [List.getElem?_set_ne (fun e=>hne e.symm)];exact r5,r6,r7⟩
   ·omega
  ·rcases hwn j v h2 with ⟨q1,q2⟩|⟨q1,q2⟩
   ·omega
   ·subst p2;subst q2
    exact .inr ⟨i,s,c,w,by omega,zAf hs,zAf hw,List.getElem?_set_self hfl,List.getElem?_set_self hbl,hc,rfl⟩
 ·intro j d s' v hj hd h1 h2
  have hjl:j<wk.length:=by omega
  rcases hnew j s' h1 with ⟨p1,_⟩|⟨p1,_⟩
  ·rcases hwn j v h2 with ⟨q1,_⟩|⟨q1,_⟩
   ·by_cases e:j=i∧d=c
    ·obtain ⟨rfl,rfl⟩:=e
     rw [hs] at p1;cases p1
     rw [hw] at q1;cases q1
     refine .inr ⟨wk.length,t,_,zAH _ _,hz,?_,by rw [hnum];exact Nat.le_refl _⟩
     rw [←h.len];exact zAH _ _
    ·rcases h.exp j d s' v (by omega) hd p1 q1 with r|⟨k,u,v',r1,r2,r3,r4⟩
     ·exact .inl r
     ·exact .inr ⟨k,u,v',zAf r1,r2,zAf r3,r4⟩
   ·omega
  ·omega
 ·intro w' hw' k v hv
  have hw2:w'=w:=by
   rcases hwn i w' hw' with ⟨q1,_⟩|⟨q1,_⟩
   ·rw [hw] at q1;exact (Option.some.inj q1).symm
   ·omega
  subst hw2
  rcases hwn k v hv with ⟨q1,_⟩|⟨_,q2⟩
  ·have:=h.bnd w' hw k v q1;omega
  ·subst q2;rw [hnum];omega
theorem zJ4 (ho:zAt w0 a) {s:Nat}:∀ (k c:Nat) (fr:List Int) (bs wk:List Nat) (W:List (List UInt8)),c+k=256→BfsI a i c fr bs wk W→wk[i]?=some s →
  ∃ W2,BfsI a i 256 (bfsC a s k c fr bs wk).1 (bfsC a s k c fr bs wk).2.1 (bfsC a s k c fr bs wk).2.2 W2∧∀ (j x:Nat),wk[j]?=some x→(bfsC a s k c fr bs wk).2.2[j]?=some x
 | 0,c,fr,bs,wk,W,hk,h,hs=>by
   obtain rfl:c=256:=by omega
   exact ⟨W,h,fun j x hx=>hx⟩
 | k+1,c,fr,bs,wk,W,hk,h,hs=>by
   rw [bfsC]
   split
   ·rename_i hp
    rcases zAE ho (s:Int) (show c<256 by omega) with hz|⟨t,hz,ht⟩
    ·exact absurd hz hp.1
    ·rw [hz,Int.toNat_natCast] at hp ⊢
     have hil:=(List.getElem?_eq_some_iff.1 hs).1
     have hw:=List.getElem?_eq_getElem (show i<W.length by rw [h.len];exact hil)
     have hf:fr[t]?=some (-2):=by
      have h1:=List.getElem?_eq_getElem (show t<fr.length by rw [h.frl];exact ht)
      rw [h1] at hp ⊢
      exact congrArg some hp.2
     obtain ⟨W2,r1,r2⟩:=zJ4 ho k (c+1) _ _ _ _ (by omega) (h.put hs hw (by omega) ht hz hf) (zAf hs)
     exact ⟨W2,r1,fun j x hx=>r2 j x (zAf hx)⟩
   ·rename_i hp
    exact zJ4 ho k (c+1) fr bs wk W (by omega) (h.skip hs (by omega) ho hp) hs
theorem BfsI.next (h:BfsI a i 256 fr bs wk W):BfsI a (i+1) 0 fr bs wk W :=
 ⟨h.frl,h.bsl,h.len,h.zero,h.run,h.sort,h.seen,h.nodup,h.par,fun j d s w hj hd h1 h2=>h.exp j d s w (by omega) hd h1 h2,fun w hw k v hv=>by
  have hl:=(List.getElem?_eq_some_iff.1 hw).1
  have hi:=List.getElem?_eq_getElem (show i<W.length by omega)
  have h1:=h.bnd _ hi k v hv
  have h2:=h.sort i (i+1) _ _ (by omega) hi hw
  omega⟩
theorem BfsI.all (ho:zAt w0 a) (h:BfsI a i 0 fr bs wk W):∀ (n:Nat) (t:List UInt8),t.length=n→runA a t<0∨(∃ (j s:Nat) (w:List UInt8),j<i∧wk[j]?=some s∧W[j]?=some w∧runA a t=(s:Int)∧numW w≤numW t)∨(∃ (j:Nat) (w:List UInt8),i≤j∧W[j]?=some w∧numW w≤numW t)
 | 0,t,ht=>by
   obtain rfl:=List.eq_nil_of_length_eq_zero ht
   by_cases e:0<i
   ·exact .inr (.inl ⟨0,0,[],e,h.zero.1,h.zero.2,rfl,Nat.le_refl _⟩)
   ·exact .inr (.inr ⟨0,[],by omega,h.zero.2,Nat.le_refl _⟩)
 | n+1,t,ht=>by
   obtain ⟨u,c,rfl⟩:∃ u c,t=u++[c]:=⟨t.dropLast,t.getLast (by intro e;rw [e] at ht;cases ht),(List.dropLast_concat_getLast _).symm⟩
   have hul:u.length=n:=by simpa using ht
   have hc:c.toNat<256:=UInt8.toNat_lt c
   rw [zHL,zF7]
   rcases BfsI.all ho h n u hul with h1|⟨j,s,w,h1,h2,h3,h4,h5⟩|⟨j,w,h1,h2,h3⟩
   ·exact .inl (by rw [zC6 h1];decide)
   ·rw [h4]
    rcases h.exp j c.toNat s w (.inl h1) hc h2 h3 with h6|⟨k,x,v,r1,r2,r3,r4⟩
    ·exact .inl (by rw [h6];decide)
    ·by_cases e:k<i
     ·exact .inr (.inl ⟨k,x,v,e,r1,r3,r2,by omega⟩)
     ·exact .inr (.inr ⟨k,v,by omega,r3,by omega⟩)
   ·exact .inr (.inr ⟨j,w,h1,h2,by omega⟩)
theorem zH2 (h:BfsI a i c fr bs wk W):∀ (f j s:Nat) (w out:List UInt8),j<f→wk[j]?=some s→W[j]?=some w→zNU fr bs f s out=w++out
 | 0,j,s,w,out,hf,h1,h2=>absurd hf (Nat.not_lt_zero _)
 | f+1,j,s,w,out,hf,h1,h2=>by
   rw [zNU]
   rcases h.par j s w h1 h2 with ⟨r1,r2,r3⟩|⟨p,q,d,v,r1,r2,r3,r4,r5,r6,r7⟩
   ·rw [r2,Option.getD_some,if_neg (by decide),r3];rfl
   ·rw [r4,Option.getD_some,if_pos (by omega),Int.toNat_natCast,r5,Option.getD_some,zH2 h f p q v _ (by omega) r2 r3,r7,List.append_assoc];rfl
theorem BfsI.wkl (h:BfsI a i c fr bs wk W):wk.length≤a.next.length:=by
 have h1:∀ x∈wk,x<a.next.length:=fun x hx=>by
  obtain ⟨j,hj,e⟩:=List.getElem_of_mem hx
  have hw:=List.getElem?_eq_getElem (show j<W.length by rw [h.len];exact hj)
  exact (h.run j x _ (by rw [List.getElem?_eq_getElem hj,e]) hw).1
 have h2:wk.length≤(List.range a.next.length).length:=zB7 h.nodup (fun x hx=>List.mem_range.2 (h1 x hx))
 rwa [List.length_range] at h2
def ShortR (a:DfaA) (r:Option (List Int × List Nat × Nat)):Prop:=match r with
 | none=>∀ t,resA a 0 t=false
 | some r=>∃ s,zNU r.1 r.2.1 (a.next.length+1) r.2.2 []=s∧resA a 0 s=true∧∀ t,resA a 0 t=true→numW s≤numW t
theorem zJ3 (ho:zAt w0 a):∀ (f i:Nat) (fr:List Int) (bs wk:List Nat) (W:List (List UInt8)),BfsI a i 0 fr bs wk W→(∀ (j s:Nat),j<i→wk[j]?=some s→zAD a (s:Int)=false)→i≤wk.length→a.next.length<f+i→ShortR a (bfsL a f i fr bs wk)
 | 0,i,fr,bs,wk,W,h,he,hi,hf=>by have:=h.wkl;omega
 | f+1,i,fr,bs,wk,W,h,he,hi,hf=>by
   rw [bfsL]
   cases hs:wk[i]? with
   | none =>
     have hil:=List.getElem?_eq_none_iff.1 hs
     intro t
     cases hr:resA a 0 t with
     | false=>rfl
     | true =>
       rcases h.all ho t.length t rfl with h1|⟨j,s,w,h1,h2,h3,h4,h5⟩|⟨j,w,h1,h2,h3⟩
       ·have:resA a 0 t=zAD a (runA a t):=rfl
        rw [this] at hr
        unfold zAD at hr
        simp at hr;omega
       ·have:resA a 0 t=zAD a (runA a t):=rfl
        rw [this,h4,he j s h1 h2] at hr;cases hr
       ·have:=(List.getElem?_eq_some_iff.1 h2).1
        rw [h.len] at this;omega
   | some s =>
     dsimp only
     have hil:=(List.getElem?_eq_some_iff.1 hs).1
     obtain ⟨w0',hw⟩:∃ w,W[i]?=some w:=⟨_,List.getElem?_eq_getElem (show i<W.length by rw [h.len];exact hil)⟩
     split
     ·rename_i hen
      refine ⟨_,rfl,?_,fun t hr=>?_⟩
      ·rw [zH2 h (a.next.length+1) i s _ [] (by have:=h.wkl;omega) hs hw,List.append_nil]
       have:resA a 0 w0'=zAD a (runA a w0'):=rfl
       rw [this,(h.run i s _ hs hw).2];exact hen
      ·rw [zH2 h (a.next.length+1) i s _ [] (by have:=h.wkl;omega) hs hw,List.append_nil]
       rcases h.all ho t.length t rfl with h1|⟨j,s',w,h1,h2,h3,h4,h5⟩|⟨j,w,h1,h2,h3⟩
       ·have:resA a 0 t=zAD a (runA a t):=rfl
        rw [this] at hr
        unfold zAD at hr
        simp at hr;omega
       ·have:resA a 0 t=zAD a (runA a t):=rfl
        rw [this,h4,he j s' h1 h2] at hr;cases hr
       ·by_cases e:i=j
        ·subst e;rw [hw] at h2;cases h2;exact h3
        ·have:=h.sort i j _ _ (by omega) hw h2;omega
     ·rename_i hen
      obtain ⟨W2,h2,h3⟩:=zJ4 ho 256 0 fr bs wk W rfl h hs
      refine zJ3 ho f (i+1) _ _ _ W2 h2.next (fun j s' hj hs'=>?_) ?_ (by omega)
      ·have hy:=List.getElem?_eq_getElem (show j<wk.length by omega)
       have hy2:=h3 j _ hy
       rw [hs'] at hy2
       have e2:=Option.some.inj hy2
       by_cases e:j=i
       ·subst e;rw [hs] at hy;cases hy;rw [e2];exact Bool.eq_false_iff.2 hen
       ·exact he j s' (by omega) (by rw [hy,e2])
      ·exact (List.getElem?_eq_some_iff.1 (h3 i s hs)).1
theorem BfsI.start (hp:0<a.next.length):BfsI a 0 0 ((List.replicate a.next.length (-2)).set 0 (-1)) (List.replicate a.next.length 0) [0] [[]]:=by
 have one:∀ {α:Type}{x y:α}{j:Nat},[x][j]?=some y→j=0∧y=x:=fun {α x y j} h=>by
  cases j with
  | zero=>exact ⟨rfl,(Option.some.inj h).symm⟩
  | succ j=>simp at h
 refine ⟨by simp,by simp,rfl,⟨rfl,rfl⟩,?_,?_,?_,by simp,?_,?_,?_⟩
 ·intro j s w h1 h2
  obtain ⟨_,rfl⟩:=one h1
  obtain ⟨_,rfl⟩:=one h2
  exact ⟨hp,rfl⟩
 ·intro j k u v hjk h1 h2
  have:=(one h1).1;have:=(one h2).1;omega
 ·intro t ht
  by_cases e:t=0
  ·subst e
   rw [List.getElem?_set_self (by simpa using hp)]
   simp
  ·rw [List.getElem?_set_ne (fun h=>e h.symm),List.getElem?_replicate,if_pos ht]
   simp [e]
 ·intro j s w h1 h2
  obtain ⟨r1,rfl⟩:=one h1
  obtain ⟨_,rfl⟩:=one h2
  exact .inl ⟨r1,List.getElem?_set_self (by simpa using hp),rfl⟩
 ·intro j d s w hj hd h1 h2
  omega
 ·intro w h1 k v h2
  obtain ⟨_,rfl⟩:=one h1
  obtain ⟨_,rfl⟩:=one h2
  omega
theorem zGv (ho:zAt w0 a) {s:List UInt8} (h:zDf a=some s):resA a 0 s=true∧∀ t,resA a 0 t=true→numW s≤numW t:=by
 unfold zDf at h
 split at h
 ·cases h
 ·rename_i hp
  have:=zJ3 ho (a.next.length+1) 0 _ _ _ _ (BfsI.start (by omega)) (fun j s hj=>by omega) (Nat.zero_le _) (by omega)
  split at h
  ·cases h
  ·rename_i r hr
   rw [hr] at this
   obtain ⟨s',h1,h2,h3⟩:=this
   cases h
   rw [h1]
   exact ⟨h2,h3⟩
theorem zKX (ho:zAt w0 a) (hp:0<a.next.length) (h:zDf a=none):∀ t,resA a 0 t=false:=by
 unfold zDf at h
 rw [if_neg (by omega)] at h
 have:=zJ3 ho (a.next.length+1) 0 _ _ _ _ (BfsI.start hp) (fun j s hj=>by omega) (Nat.zero_le _) (by omega)
 split at h
 ·rename_i hr;rw [hr] at this;exact this
 ·cases h
end
def lowW:Nat→Nat
 | 0=>0
 | n+1=>lowW n*256+1
theorem zMZ {n m:Nat} (h:n≤m):lowW n≤lowW m:=by
 induction h with
 | refl=>exact Nat.le_refl _
 | step _ ih=>rw [lowW];omega
theorem zG2:∀ (n:Nat) (t:List UInt8),t.length=n→lowW n≤numW t∧numW t<lowW (n+1):=by
 intro n
 induction n with
 | zero=>intro t ht;rw [List.eq_nil_of_length_eq_zero ht];decide
 | succ n ih =>
   intro t ht
   obtain ⟨u,c,rfl⟩:∃ u c,t=u++[c]:=⟨t.dropLast,t.getLast (by intro e;rw [e] at ht;cases ht),(List.dropLast_concat_getLast _).symm⟩
   obtain ⟨h1,h2⟩:=ih u (by simpa using ht)
   have hc:c.toNat<256:=UInt8.toNat_lt c
   rw [zF7]
   rw [lowW] at h2
   rw [lowW,lowW,lowW]
   omega
theorem numW_len {s t:List UInt8} (h:numW s≤numW t):s.length≤t.length:=by
 apply Classical.byContradiction
 intro hn
 have h1:=(zG2 t.length t rfl).2
 have h2:=(zG2 s.length s rfl).1
 have h3:=zMZ (show t.length+1≤s.length by omega)
 omega
end Go.Proofs.YtmaennnkaoollaaGreatDoor
end
