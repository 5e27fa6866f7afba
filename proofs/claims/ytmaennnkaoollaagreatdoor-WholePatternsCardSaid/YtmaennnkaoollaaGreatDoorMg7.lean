/- Texts of a walk, one behind the other. -/
import Derived.Lib.LaidTab
import Derived.Shelf.Bits.Mul64
import Derived.Ground.NamesProg
import Derived.Test.YtmaennnkaoollaaGreatDoorMg2
import Derived.Test.YtmaennnkaoollaaGreatDoorMg3
import Derived.Test.YtmaennnkaoollaaGreatDoorMg4
import Derived.Test.YtmaennnkaoollaaGreatDoorMg6
set_option linter.unusedVariables false
set_option linter.unusedSimpArgs false
set_option linter.unusedSectionVars false
set_option maxRecDepth 10000
section
namespace Go.Proofs.YtmaennnkaoollaaGreatDoor
open Go Go.E
theorem zHh {α:Type} [BEq α] [LawfulBEq α] {l:List α}{x:α}{n:Nat} (h:l.idxOf? x=some n):l[n]?=some x:=by
 unfold List.idxOf? at h
 rw [List.findIdx?_eq_some_iff_getElem] at h
 obtain ⟨h1,h2,_⟩:=h
 rw [List.getElem?_eq_getElem h1,eq_of_beq h2]
theorem zKs {α:Type} [BEq α] [LawfulBEq α] {l:List α}{x:α} (h:l.idxOf? x=none):x∉l:=by
 rwa [List.idxOf?_eq_none_iff] at h
def keyJ (a b:DfaA) (c:Nat):Nat × Nat:=(clsA a c,clsA b c)
def zCn (a b:DfaA):Nat→Nat→List (Nat × Nat)→List Nat→List Nat→List (Nat × Nat) × List Nat × List Nat
 | 0,_,seen,out,first=>(seen,out,first)
 | k+1,c,seen,out,first=>match seen.idxOf? (keyJ a b c) with
   | some n=>zCn a b k (c+1) seen (out++[n]) first
   | none=>zCn a b k (c+1) (seen++[keyJ a b c]) (out++[seen.length]) (first++[c])
def zCo (a b:DfaA):List Nat × List Nat:=(zCn a b 256 0 [] [] []).2
structure zKM (a b:DfaA) (c:Nat) (seen:List (Nat × Nat)) (out first:List Nat):Prop where
 olen:out.length=c
 flen:first.length=seen.length
 at':∀ d,d<c→∃ k e:Nat,out[d]?=some k∧first[k]?=some e∧keyJ a b e=keyJ a b d
 first':∀ k e:Nat,first[k]?=some e→e<c∧seen[k]?=some (keyJ a b e)∧out[e]?=some k
theorem zFm {a b:DfaA}:∀ (k c:Nat) (seen:List (Nat × Nat)) (out first:List Nat),zKM a b c seen out first→zKM a b (c+k) (zCn a b k c seen out first).1 (zCn a b k c seen out first).2.1 (zCn a b k c seen out first).2.2
 | 0,c,seen,out,first,h=>h
 | k+1,c,seen,out,first,h=>by
   rw [zCn,show c+(k+1)=c+1+k by omega]
   split
   ·rename_i n hn
    refine zFm k (c+1) _ _ _ ⟨by simp [h.olen],h.flen,fun d hd=>?_,fun j e he=>?_⟩
    ·by_cases e:d=c
     ·subst e
      have hk:=zHh hn
      obtain ⟨f0,hf⟩:∃ x,first[n]?=some x:=⟨_,List.getElem?_eq_getElem (show n<first.length by rw [h.flen];exact (List.getElem?_eq_some_iff.1 hk).1)⟩
      obtain ⟨_,h2,_⟩:=h.first' n _ hf
      rw [hk] at h2
      exact ⟨n,_,by have:=zAH out n;rwa [h.olen] at this,hf,(Option.some.inj h2).symm⟩
     ·obtain ⟨k',e',h1,h2,h3⟩:=h.at' d (by omega)
      exact ⟨k',e',zAf h1,h2,h3⟩
    ·obtain ⟨h1,h2,h3⟩:=h.first' j e he
     exact ⟨by omega,h2,zAf h3⟩
   ·rename_i hn
    refine zFm k (c+1) _ _ _ ⟨by simp [h.olen],by simp [h.flen],fun d hd=>?_,fun j e he=>?_⟩
    ·by_cases e:d=c
     ·subst e
      exact ⟨seen.length,d,by have:=zAH out seen.length;rwa [h.olen] at this,by have:=zAH first d;rwa [h.flen] at this,rfl⟩
     ·obtain ⟨k',e',h1,h2,h3⟩:=h.at' d (by omega)
      exact ⟨k',e',zAf h1,zAf h2,h3⟩
    ·rcases zAI he with ⟨_,h1⟩|⟨h1,h2⟩
     ·obtain ⟨r1,r2,r3⟩:=h.first' j e h1
      exact ⟨by omega,zAf r2,zAf r3⟩
     ·subst h2
      rw [h1,h.flen]
      exact ⟨by omega,zAH _ _,by have:=zAH out seen.length;rwa [h.olen] at this⟩
theorem zFH (a b:DfaA):∃ seen,zKM a b 256 seen (zCo a b).1 (zCo a b).2 :=
 ⟨_,zFm 256 0 [] [] [] ⟨rfl,rfl,fun d hd=>by omega,fun k e h=>by simp at h⟩⟩
def zBO (how:Nat) (q:Int × Int):Bool:=(decide (q.1=-1)&&(decide (q.2=-1)||!decide (how=2)))||(decide (how=1)&&decide (q.2=-1))
def accP (how:Nat) (x y:Bool):Bool:=decide (how=1)&&x&&y||decide (how=2)&&(x||y)||decide (how=3)&&x&&!y
def zDM (a b:DfaA) (how:Nat) (p:Int × Int):List Nat→List (Int × Int)→List Int→Option (List (Int × Int) × List Int)
 | [],list,row=>some (list,row)
 | c::cs,list,row =>
   if zBO how (zAb a p.1 c,zAb b p.2 c) then zDM a b how p cs list (row++[-1]) else
   match list.idxOf? (zAb a p.1 c,zAb b p.2 c) with
   | some n=>zDM a b how p cs list (row++[(n:Int)])
   | none=>if list.length=1024 then none else zDM a b how p cs (list++[(zAb a p.1 c,zAb b p.2 c)]) (row++[(list.length:Int)])
def zGj (a b:DfaA) (how:Nat) (first:List Nat):Nat→List (Int × Int)→List (List Int)→List Bool→Option (List (Int × Int) × List (List Int) × List Bool)
 | 0,_,_,_=>none
 | f+1,list,next,acc=>match list[next.length]? with
   | none=>some (list,next,acc)
   | some p=>match zDM a b how p first list [] with
     | none=>none
     | some r=>zGj a b how first f r.1 (next++[r.2]) (acc++[accP how (zAD a p.1) (zAD b p.2)])
def zEl (a b:DfaA) (how:Nat):Option DfaA:=match zGj a b how (zCo a b).2 1025 [(0,0)] [] [] with
 | none=>none
 | some r=>some ⟨(zCo a b).1,r.2.1,r.2.2⟩
def EntP (a b:DfaA) (how:Nat) (list:List (Int × Int)) (p:Int × Int) (c:Nat) (z:Int):Prop :=
 (z=-1∧zBO how (zAb a p.1 c,zAb b p.2 c)=true)∨∃ n:Nat,z=(n:Int)∧list[n]?=some (zAb a p.1 c,zAb b p.2 c)∧zBO how (zAb a p.1 c,zAb b p.2 c)=false
theorem zEC {a b:DfaA}{how:Nat}{p:Int × Int}{first:List Nat}:∀ (cs pre:List Nat) (list:List (Int × Int)) (row:List Int) (r:List (Int × Int) × List Int),zDM a b how p cs list row=some r→first=pre++cs→row.length=pre.length→list.length≤1024→list.Nodup →
  (∀ (k c:Nat) (z:Int),pre[k]?=some c→row[k]?=some z→EntP a b how list p c z) →
  (∃ e,r.1=list++e)∧r.2.length=first.length∧r.1.length≤1024∧r.1.Nodup∧∀ (k c:Nat) (z:Int),first[k]?=some c→r.2[k]?=some z→EntP a b how r.1 p c z
 | [],pre,list,row,r,h,hf,hr,hl,hn,hp=>by
   rw [zDM] at h
   cases h
   rw [List.append_nil] at hf
   subst hf
   exact ⟨⟨[],by simp⟩,hr,hl,hn,hp⟩
 | c::cs,pre,list,row,r,h,hf,hr,hl,hn,hp=>by
   have hup:∀ {l e:List (Int × Int)}{c:Nat}{z:Int},EntP a b how l p c z→EntP a b how (l++e) p c z:=fun {l e c z} hh=>by
    rcases hh with h1|⟨n,h1,h2,h3⟩
    ·exact .inl h1
    ·exact .inr ⟨n,h1,by rw [List.getElem?_append_left (List.getElem?_eq_some_iff.1 h2).1];exact h2,h3⟩
   have step:∀ (list':List (Int × Int)) (z:Int),EntP a b how list' p c z→(∃ e,list'=list++e)→∀ (k d:Nat) (y:Int),(pre++[c])[k]?=some d→(row++[z])[k]?=some y→EntP a b how list' p d y:=fun list' z hz ⟨e,he⟩ k d y h1 h2=>by
    rcases zAI h1 with ⟨q1,q2⟩|⟨q1,q2⟩
    ·rcases zAI h2 with ⟨r1,r2⟩|⟨r1,r2⟩
     ·rw [he];exact hup (hp k d y q2 r2)
     ·omega
    ·rcases zAI h2 with ⟨r1,r2⟩|⟨r1,r2⟩
     ·omega
     ·rw [q2,r2];exact hz
   rw [zDM] at h
   split at h
   ·rename_i hs
    exact zEC cs (pre++[c]) list (row++[-1]) r h (by simp [hf]) (by simp [hr]) hl hn (step list (-1) (.inl ⟨rfl,hs⟩) ⟨[],by simp⟩)
   ·rename_i hs
    have hs':=Bool.eq_false_iff.2 hs
    split at h
    ·rename_i n hi
     exact zEC cs (pre++[c]) list (row++[(n:Int)]) r h (by simp [hf]) (by simp [hr]) hl hn (step list n (.inr ⟨n,rfl,zHh hi,hs'⟩) ⟨[],by simp⟩)
    ·rename_i hi
     split at h
     ·cases h
     ·rename_i hlt
      obtain ⟨⟨e,he⟩,h2⟩:=zEC (first:=first) cs (pre++[c]) (list++[(zAb a p.1 c,zAb b p.2 c)]) (row++[(list.length:Int)]) r h (by simp [hf]) (by simp [hr]) (by simp;omega)
       (by rw [List.nodup_append];exact ⟨hn,by simp,fun x hx y hy=>by rw [List.mem_singleton] at hy;subst hy;exact fun e=>zKs hi (e▸hx)⟩)
       (step _ (list.length:Int) (.inr ⟨list.length,rfl,zAH _ _,hs'⟩) ⟨_,rfl⟩)
      exact ⟨⟨(zAb a p.1 c,zAb b p.2 c)::e,by rw [he];simp⟩,h2⟩
structure ProdI (a b:DfaA) (how:Nat) (first:List Nat) (list:List (Int × Int)) (next:List (List Int)) (acc:List Bool):Prop where
 zero:list[0]?=some (0,0)
 le:list.length≤1024
 nodup:list.Nodup
 nle:next.length≤list.length
 alen:acc.length=next.length
 row:∀ (i:Nat) (r:List Int) (p:Int × Int),next[i]?=some r→list[i]?=some p→r.length=first.length∧∀ (k c:Nat) (z:Int),first[k]?=some c→r[k]?=some z→EntP a b how list p c z
 acc:∀ (i:Nat) (x:Bool) (p:Int × Int),acc[i]?=some x→list[i]?=some p→x=accP how (zAD a p.1) (zAD b p.2)
theorem zJZ {a b:DfaA}{how:Nat}{first:List Nat}:∀ (f:Nat) (list:List (Int × Int)) (next:List (List Int)) (acc:List Bool) (r:List (Int × Int) × List (List Int) × List Bool),zGj a b how first f list next acc=some r→ProdI a b how first list next acc→ProdI a b how first r.1 r.2.1 r.2.2∧r.1.length=r.2.1.length
 | 0,list,next,acc,r,h,hI=>by rw [zGj] at h;cases h
 | f+1,list,next,acc,r,h,hI=>by
   rw [zGj] at h
   split at h
   ·rename_i hn
    cases h
    have:=List.getElem?_eq_none_iff.1 hn
    have:=hI.nle
    exact ⟨hI,by dsimp only;omega⟩
   ·rename_i p hp
    split at h
    ·cases h
    ·rename_i q hq
     have hpl:=(List.getElem?_eq_some_iff.1 hp).1
     obtain ⟨⟨e,he⟩,h2,h3,h4,h5⟩:=zEC first [] list [] q hq rfl rfl hI.le hI.nodup (fun k c z h=>by simp at h)
     have hup:∀ {p:Int × Int}{c:Nat}{z:Int},EntP a b how list p c z→EntP a b how q.1 p c z:=fun {p c z} hh=>by
      rcases hh with h1|⟨n,h1,h2,h3⟩
      ·exact .inl h1
      ·exact .inr ⟨n,h1,by rw [he,List.getElem?_append_left (List.getElem?_eq_some_iff.1 h2).1];exact h2,h3⟩
     have hold:∀ {i:Nat}{x:Int × Int},i<list.length→q.1[i]?=some x→list[i]?=some x:=fun {i x} hi hx=>by rwa [he,List.getElem?_append_left hi] at hx
     refine zJZ f q.1 _ _ r h ⟨by rw [he,List.getElem?_append_left (List.getElem?_eq_some_iff.1 hI.zero).1];exact hI.zero,h3,h4,by rw [he];simp;omega,by simp [hI.alen],fun i x y hx hy=>?_,fun i x y hx hy=>?_⟩
     ·rcases zAI hx with ⟨r1,r2⟩|⟨r1,r2⟩
      ·obtain ⟨s1,s2⟩:=hI.row i x y r2 (hold (by omega) hy)
       exact ⟨s1,fun k c z t1 t2=>hup (s2 k c z t1 t2)⟩
      ·subst r2
       have:=hold (by omega) hy
       rw [r1,hp] at this
       cases this
       exact ⟨h2,h5⟩
     ·rcases zAI hx with ⟨r1,r2⟩|⟨r1,r2⟩
      ·exact hI.acc i x y r2 (hold (by have:=hI.alen;omega) hy)
      ·subst r2
       have:=hold (by have:=hI.alen;omega) hy
       rw [r1,hI.alen,hp] at this
       cases this
       rfl
theorem zLT {a b:DfaA}{how:Nat}{q:Int × Int} (h:zBO how q=true) (c:Nat):zBO how (zAb a q.1 c,zAb b q.2 c)=true:=by
 unfold zBO at h ⊢
 simp only [Bool.or_eq_true,Bool.and_eq_true,decide_eq_true_eq,Bool.not_eq_true'] at h ⊢
 rcases h with ⟨h1,h2⟩|⟨h1,h2⟩
 ·refine .inl ⟨by rw [h1];exact zC6 (by decide) c,?_⟩
  rcases h2 with h2|h2
  ·exact .inl (by rw [h2];exact zC6 (by decide) c)
  ·exact .inr h2
 ·exact .inr ⟨h1,by rw [h2];exact zC6 (by decide) c⟩
theorem skip_acc {a b:DfaA}{how:Nat}{q:Int × Int} (h:zBO how q=true):accP how (zAD a q.1) (zAD b q.2)=false:=by
 have hd:∀ {d:DfaA},zAD d (-1)=false:=fun {d}=>by unfold zAD;simp
 unfold zBO at h
 simp only [Bool.or_eq_true,Bool.and_eq_true,decide_eq_true_eq,Bool.not_eq_true',decide_eq_false_iff_not] at h
 unfold accP
 rcases h with ⟨h1,h2⟩|⟨h1,h2⟩
 ·rw [h1,hd]
  rcases h2 with h2|h2
  ·rw [h2,hd];simp
  ·simp [h2]
 ·rw [h2,hd,h1];simp
section
variable {a b:DfaA}{how:Nat}{P:DfaA}
theorem zHU (h:zEl a b how=some P):MadeA P∧∀ t,zBe P t=accP how (zBe a t) (zBe b t):=by
 unfold zEl at h
 split at h
 ·cases h
 rename_i r hr
 cases h
 obtain ⟨seen,hJ⟩:=zFH a b
 generalize zCo a b=J at *
 obtain ⟨cls,first⟩:=J
 dsimp only at hJ hr ⊢
 obtain ⟨hI,hl⟩:=zJZ 1025 _ _ _ r hr ⟨rfl,by decide,by simp,by decide,rfl,fun i r p h=>by simp at h,fun i x p h=>by simp at h⟩
 obtain ⟨list,next,acc⟩:=r
 dsimp only at hI hl ⊢
 have hfl:first.length≤256:=by
  have h1:first.Nodup:=by
   rw [List.Nodup,List.pairwise_iff_getElem]
   intro i j hi0 hj hij e2
   have hi:=List.getElem?_eq_getElem hi0
   have hj':=List.getElem?_eq_getElem hj
   have q1:=(hJ.first' i _ hi).2.2
   have q2:=(hJ.first' j _ hj').2.2
   rw [e2,q2] at q1
   have:=Option.some.inj q1
   omega
  have h2:first.length≤(List.range 256).length:=zB7 h1 (fun x hx=>by
   obtain ⟨j,hj,e⟩:=List.getElem_of_mem hx
   have:=(hJ.first' j x (by rw [List.getElem?_eq_getElem hj,e])).1
   exact List.mem_range.2 this)
  rwa [List.length_range] at h2
 have hnp:0<next.length:=by
  have:=(List.getElem?_eq_some_iff.1 hI.zero).1;omega
 have hent:∀ (i:Nat) (p:Int × Int) (c:Nat),list[i]?=some p→c<256→∃ (k:Nat) (r:List Int) (z:Int),cls[c]?=some k∧k<first.length∧next[i]?=some r∧r[k]?=some z∧EntP a b how list p c z:=fun i p c hp hc=>by
  obtain ⟨k,e,h1,h2,h3⟩:=hJ.at' c hc
  obtain ⟨rw',hin⟩:∃ x,next[i]?=some x:=⟨_,List.getElem?_eq_getElem (show i<next.length by have:=(List.getElem?_eq_some_iff.1 hp).1;omega)⟩
  obtain ⟨q1,q2⟩:=hI.row i _ p hin hp
  have hk:=(List.getElem?_eq_some_iff.1 h2).1
  have hz:=List.getElem?_eq_getElem (show k<rw'.length by omega)
  have:=q2 k e _ h2 hz
  unfold keyJ at h3
  have h4:=Prod.mk.inj h3
  have s1:zAb a p.1 e=zAb a p.1 c:=zFh h4.1
  have s2:zAb b p.2 e=zAb b p.2 c:=zFh h4.2
  unfold EntP at this
  rw [s1,s2] at this
  exact ⟨k,_,_,h1,hk,hin,hz,this⟩
 have hok:zAt first.length ⟨cls,next,acc⟩:=by
  refine ⟨hJ.olen,fun k hk=>?_,hI.alen,fun r hr=>?_,fun r hr z hz=>?_⟩
  ·obtain ⟨c,hc,e⟩:=List.getElem_of_mem hk
   have hc6:c<256:=by have:=hJ.olen;dsimp only at hc;omega
   obtain ⟨k',e',h1,h2,_⟩:=hJ.at' c hc6
   have:cls[c]?=some k:=by rw [List.getElem?_eq_getElem hc,e]
   rw [h1] at this
   cases this
   exact (List.getElem?_eq_some_iff.1 h2).1
  ·obtain ⟨i,hi,e⟩:=List.getElem_of_mem hr
   dsimp only at hi
   have hil:=List.getElem?_eq_getElem (show i<list.length by omega)
   exact (hI.row i r _ (by rw [List.getElem?_eq_getElem hi,e]) hil).1
  ·obtain ⟨i,hi,e⟩:=List.getElem_of_mem hr
   dsimp only at hi
   have hil:=List.getElem?_eq_getElem (show i<list.length by omega)
   obtain ⟨q1,q2⟩:=hI.row i r _ (by rw [List.getElem?_eq_getElem hi,e]) hil
   obtain ⟨k,hk,e2⟩:=List.getElem_of_mem hz
   have hf:=List.getElem?_eq_getElem (show k<first.length by omega)
   rcases q2 k _ z hf (by rw [List.getElem?_eq_getElem hk,e2]) with ⟨h1,_⟩|⟨n,h1,h2,_⟩
   ·exact .inl h1
   ·have:=(List.getElem?_eq_some_iff.1 h2).1
    exact .inr ⟨by omega,by dsimp only;omega⟩
 have hsur:SurA first.length ⟨cls,next,acc⟩:=fun k hk=>by
  have hf:=List.getElem?_eq_getElem hk
  obtain ⟨h1,_,h3⟩:=hJ.first' k _ hf
  exact ⟨_,h1,h3⟩
 refine ⟨⟨⟨first.length,hfl,hok,hsur⟩,hnp,by have:=hI.le;dsimp only;omega⟩,?_⟩
 -- a word leads to its pair,or nothing comes any more
 have hrun:∀ (n:Nat) (t:List UInt8),t.length=n→(runA ⟨cls,next,acc⟩ t=-1∧zBO how (runA a t,runA b t)=true)∨∃ i:Nat,runA ⟨cls,next,acc⟩ t=(i:Int)∧list[i]?=some (runA a t,runA b t):=by
  intro n
  induction n with
  | zero=>intro t ht;rw [List.eq_nil_of_length_eq_zero ht];exact .inr ⟨0,rfl,hI.zero⟩
  | succ n ih =>
    intro t ht
    obtain ⟨u,c,rfl⟩:∃ u c,t=u++[c]:=⟨t.dropLast,t.getLast (by intro e;rw [e] at ht;cases ht),(List.dropLast_concat_getLast _).symm⟩
    have hs:∀ d:DfaA,runA d (u++[c])=zAb d (runA d u) c.toNat:=fun d=>by unfold runA;rw [List.foldl_append];rfl
    have hc:c.toNat<256:=UInt8.toNat_lt c
    rw [hs,hs,hs]
    rcases ih u (by simpa using ht) with ⟨h1,h2⟩|⟨i,h1,h2⟩
    ·exact .inl ⟨by rw [h1];exact zC6 (by decide) _,zLT h2 _⟩
    ·rw [h1]
     obtain ⟨k,r,z,q1,q2,q3,q4,q5⟩:=hent i _ c.toNat h2 hc
     have hst:zAb ⟨cls,next,acc⟩ (i:Int) c.toNat=z:=by
      obtain ⟨k',r',p1,p2,p3,p4⟩:=zBb hok (s:=i) (List.getElem?_eq_some_iff.1 q3).1 hc
      dsimp only at p1 p3
      rw [q1] at p1;cases p1
      rw [q3] at p3;cases p3
      rw [q4] at p4;exact (Option.some.inj p4).symm
     rw [hst]
     rcases q5 with ⟨r1,r2⟩|⟨m,r1,r2,_⟩
     ·exact .inl ⟨r1,r2⟩
     ·exact .inr ⟨m,r1,r2⟩
 intro t
 show zAD _ (runA _ t)=accP how (zAD a (runA a t)) (zAD b (runA b t))
 rcases hrun t.length t rfl with ⟨h1,h2⟩|⟨i,h1,h2⟩
 ·rw [h1,skip_acc h2];unfold zAD;simp
 ·rw [h1,zBn]
  have hia:=List.getElem?_eq_getElem (show i<acc.length by have:=(List.getElem?_eq_some_iff.1 h2).1;have:=hI.alen;omega)
  have:=hI.acc i _ _ hia h2
  unfold getB
  dsimp only
  rw [hia,Option.getD_some,this]
end
def rowA (a:DfaA) (s:Nat):List Int:=a.next[s]?.getD []
theorem zBh {m:List Bool}{i j:Nat}{v:Bool} (hi:i<m.length):getB (m.set i v) j=if j=i then v else getB m j:=by
 unfold getB
 by_cases e:j=i
 ·subst e;rw [if_pos rfl,List.getElem?_set_self hi];rfl
 ·rw [if_neg e,List.getElem?_set_ne (fun h=>e h.symm)]
theorem zFJ {m k:List Bool} (hl:m.length=k.length) (h:∀ t,t<m.length→getB m t=getB k t):m=k:=by
 apply List.ext_getElem hl
 intro i h1 h2
 have:=h i h1
 unfold getB at this
 rwa [List.getElem?_eq_getElem h1,List.getElem?_eq_getElem h2] at this
theorem zFV {m:List Bool}{k:Nat} (hk:k<m.length) (h:getB m k=false):cntB (m.set k true)=cntB m+1:=by
 unfold getB at h
 rw [List.getElem?_eq_getElem hk,Option.getD_some] at h
 unfold cntB
 rw [List.count_set hk,h]
 simp
theorem row_step {w:Nat}{a:DfaA} (ho:zAt w a) (hs:SurA w a) {s:Nat}{z:Int} (hz:z∈rowA a s):s<a.next.length∧∃ c:Nat,c<256∧zAb a (s:Int) c=z:=by
 have hl:=zFA hz
 refine ⟨hl,?_⟩
 unfold rowA at hz
 have hr:=List.getElem?_eq_getElem hl
 rw [hr,Option.getD_some] at hz
 obtain ⟨k,hk,e⟩:=List.getElem_of_mem hz
 have hkw:k<w:=by rw [←ho.row _ (List.getElem_mem hl)];exact hk
 obtain ⟨c,hc,hck⟩:=hs k hkw
 obtain ⟨k2,r,p1,p2,p3,p4⟩:=zBb ho hl hc
 rw [hck] at p1;cases p1
 rw [hr] at p3;cases p3
 rw [List.getElem?_eq_getElem hk,e] at p4
 exact ⟨c,hc,(Option.some.inj p4).symm⟩
theorem zJJ {w:Nat}{a:DfaA} (ho:zAt w a) {s:Nat} (hl:s<a.next.length) {c:Nat} (hc:c<256):zAb a (s:Int) c∈rowA a s:=by
 obtain ⟨k2,r,p1,p2,p3,p4⟩:=zBb ho hl hc
 unfold rowA
 rw [p3,Option.getD_some]
 exact List.mem_of_getElem? p4
theorem zNa {w:Nat}{a:DfaA} (ho:zAt w a) (hs:SurA w a) {s:Nat}{z:Int} (hz:z∈rowA a s) (h0:0≤z) (hl:zA2 a z.toNat):zA2 a s:=by
 obtain ⟨_,c,hc,e⟩:=row_step ho hs hz
 obtain ⟨b,hb⟩:=hl
 refine ⟨UInt8.ofNat c::b,?_⟩
 rw [zAY,UInt8.toNat_ofNat_of_lt' hc,e]
 rwa [Int.toNat_of_nonneg h0] at hb
theorem live_end {a:DfaA}{s:Nat} (h:zAD a (s:Int)=true):zA2 a s:=⟨[],h⟩
structure LivR (a:DfaA) (m0 m:List Bool) (ch:Bool) (s:Nat):Prop where
 len:m.length=a.next.length
 sound:∀ t,getB m t=true→zA2 a t
 go:ch=true→cntB m0<cntB m
 stay:ch=false→m=m0∧∀ t,t<s→getB m0 t=false→zAD a (t:Int)=false∧∀ z∈rowA a t,0≤z→getB m0 z.toNat=false
def anyR (m:List Bool) (l:List Int):Bool:=l.any fun z=>decide (0≤z)&&getB m z.toNat
section
variable {w:Nat}{a:DfaA}{m0 m:List Bool}{ch:Bool}{s:Nat}
theorem LivR.start (hl:m.length=a.next.length) (hs:∀ t,getB m t=true→zA2 a t):LivR a m m false 0 :=
 ⟨hl,hs,(fun h=>by cases h),fun _=>⟨rfl,fun t h=>absurd h (Nat.not_lt_zero _)⟩⟩
theorem LivR.has (h:LivR a m0 m ch s) (hb:getB m s=true):LivR a m0 m ch (s+1) :=
 ⟨h.len,h.sound,h.go,fun hc=>⟨(h.stay hc).1,fun t ht hf=>by
  by_cases e:t=s
  ·subst e;rw [(h.stay hc).1] at hb;rw [hb] at hf;cases hf
  ·exact (h.stay hc).2 t (by omega) hf⟩⟩
theorem LivR.put (ho:zAt w a) (hs:SurA w a) (h:LivR a m0 m ch s) (hl:s<a.next.length) (hb:getB m s=false):LivR a m0 (m.set s (zAD a (s:Int)||anyR m (rowA a s))) (ch||(zAD a (s:Int)||anyR m (rowA a s))) (s+1):=by
 have hml:s<m.length:=by rw [h.len];exact hl
 cases hv:(zAD a (s:Int)||anyR m (rowA a s)) with
 | true =>
   have hlive:zA2 a s:=by
    rcases Bool.or_eq_true_iff.1 hv with h1|h1
    ·exact live_end h1
    ·unfold anyR at h1
     rw [List.any_eq_true] at h1
     obtain ⟨z,h2,h3⟩:=h1
     rw [Bool.and_eq_true,decide_eq_true_eq] at h3
     exact zNa ho hs h2 h3.1 (h.sound _ h3.2)
   refine ⟨by rw [List.length_set,h.len],fun t ht=>?_,fun _=>?_,fun hc=>by simp at hc⟩
   ·rw [zBh hml] at ht
    split at ht
    ·rename_i e;subst e;exact hlive
    ·exact h.sound t ht
   ·rw [zFV hml hb]
    cases ch with
    | true=>have:=h.go rfl;omega
    | false=>rw [(h.stay rfl).1];omega
 | false =>
   have hm:m.set s false=m:=zFJ (by simp) (fun t ht=>by
    rw [zBh hml]
    split
    ·rename_i e;subst e;exact hb.symm
    ·rfl)
   rw [hm,Bool.or_false]
   refine ⟨h.len,h.sound,h.go,fun hc=>⟨(h.stay hc).1,fun t ht hf=>?_⟩⟩
   by_cases e:t=s
   ·subst e
    rw [Bool.or_eq_false_iff] at hv
    refine ⟨hv.1,fun z hz h0=>?_⟩
    have:=hv.2
    unfold anyR at this
    rw [List.any_eq_false] at this
    have h2:=this z hz
    rw [(h.stay hc).1] at h2
    cases hg:getB m0 z.toNat with
    | false=>rfl
    | true=>rw [hg] at h2;exact absurd h0 (by simpa using h2)
   ·exact (h.stay hc).2 t (by omega) hf
theorem LivR.fin (ho:zAt w a) (hs:SurA w a) (h:LivR a m0 m false s) (hn:a.next.length≤s):m=zBt a:=by
 obtain ⟨e,hst⟩:=h.stay rfl
 subst e
 have hcl:∀ (b:List UInt8) (t:Nat),t<a.next.length→resA a (t:Int) b=true→getB m t=true:=by
  intro b
  induction b with
  | nil =>
    intro t ht hr
    cases hg:getB m t with
    | true=>rfl
    | false =>
      have:=(hst t (by omega) hg).1
      have h2:zAD a (t:Int)=true:=hr
      rw [this] at h2;cases h2
  | cons c b ih =>
    intro t ht hr
    have hc:c.toNat<256:=UInt8.toNat_lt c
    rw [zAY] at hr
    rcases zAE ho (t:Int) hc with hz|⟨u,hz,hu⟩
    ·rw [hz,zBz b (by decide)] at hr;cases hr
    ·have hmem:=zJJ ho ht hc
     rw [hz] at hr hmem
     have hg:=ih u hu hr
     cases hgt:getB m t with
     | true=>rfl
     | false =>
       have:=(hst t (by omega) hgt).2 _ hmem (by omega)
       rw [Int.toNat_natCast,hg] at this;cases this
 refine zFJ (by rw [h.len,show (zBt a).length=a.next.length from zHg _ _ ho.acc]) (fun t ht=>?_)
 rw [Bool.eq_iff_iff,zFl ho hs t]
 exact ⟨h.sound t,fun ⟨b,hb⟩=>hcl b t (by rw [←h.len];exact ht) hb⟩
end
structure MetD (a:DfaA) (m:List Bool) (wk:List Nat):Prop where
 len:m.length=a.next.length
 zero:getB m 0=true
 in':∀ s∈wk,s<a.next.length∧getB m s=true
 closed:∀ s,getB m s=true→s∉wk→∀ z∈rowA a s,0≤z→getB m z.toNat=true
theorem MetD.fin {a:DfaA} (hL:zDl a) {m:List Bool} (h:MetD a m []):m=List.replicate a.next.length true:=by
 obtain ⟨w,_,ho,_⟩:=hL.ok
 have hall:∀ t,t<a.next.length→getB m t=true:=by
  rcases hL.lives with h1|⟨_,hmet⟩
  ·intro t ht
   obtain rfl:t=0:=by omega
   exact h.zero
  ·intro t
   induction t using Nat.strongRecOn with
   | _ t ih =>
     intro ht
     by_cases e:t=0
     ·subst e;exact h.zero
     ·obtain ⟨s,c,h1,h2,h3⟩:=hmet t (by omega) ht
      have hm:=zJJ ho (s:=s) (by omega) h2
      rw [h3] at hm
      have:=h.closed s (ih s h1 (by omega)) (by simp) _ hm (by omega)
      rwa [Int.toNat_natCast] at this
 refine zFJ (by simp [h.len]) (fun t ht=>?_)
 rw [hall t (by rw [←h.len];exact ht)]
 unfold getB
 rw [List.getElem?_replicate,if_pos (by rw [←h.len];exact ht)];rfl
def prefA (a:DfaA):Bool:=(List.range a.next.length).all fun s=>!(zAD a (s:Int))||!(anyR (zBt a) (rowA a s))
section
variable {a:DfaA}
end
theorem TabOk.ofLaid {W : World} {rest : List (String × DataW Unit)} (h : laidMet Tryz.prog (("math/bits.deBruijn64tab", Lib.tabData .u8 debr) :: rest) W) : TabOk (hm W.heap) := by
 have hg : Tryz.prog.globalNamed "math/bits.deBruijn64tab" = some 3 := by kernel_rfl
 have hT:=Lib.tabIs_of_head (n:=64) hg (by kernel_rfl) Tryz.underlying169 Tryz.underlying5 (by kernel_rfl) (by kernel_rfl) h
 unfold Lib.TabIs World.var? at hT
 rw [hg] at hT
 simp only [Option.bind_some] at hT
 split at hT
 ·rename_i cs t fr he
  cases hT
  refine ⟨⟨_,_,_,he,fun i hi=>?_⟩⟩
  have:i<debr.length:=hi
  simp [List.getD,this]
 ·cases hT
section
variable {ro:Ro}{cs:List Value}
end
def rsV (t:List UInt8) (s:RS):List Value:=[str t,.int .i64 (s.p:Int),.int .i64 (s.n:Int),.int .i64 (s.e:Int),.int .i64 (s.f:Int)]
def zA7 (k:Int) (z:SetD) (a:Option Addr) (m c:Nat) (x y:Int):List Value:=[.int .i64 k,wV z.a,wV z.b,wV z.c,wV z.d,.slice a m c,.int .i64 x,.int .i64 y]
section
variable {ro:Ro}{own r:Chs}{K:Value→Ro→Chs→Prop}{g:Chunk→Chs}{q:Nat}{t:List UInt8}
theorem zAv {s:RS} [hb:HasBlk own q 68 (rsV t s) g] {x y:Int} (e a:Nat) (hx:x=(e:Int)) (hy:y=(a:Int)) (hk:K (.tuple #[]) ro (g (.blk q 68 (rsV t (s.wrong e a))))) :
  CallOk Tryz.prog 24 #[ptr' q,.int .i64 x,.int .i64 y] ro own K:=by
 subst hx;subst hy
 obtain ⟨r,p1,p2⟩:=hb.split
 refine CallOk.perm p1 ?_
 refine CallOk.intro (args:=[_,_,_]) (rs:=[]) T_ok Tryz.func24 Tryz.call24 rfl rfl (by kernel_rfl) rfl rfl ?_
 repeat first|exact zE|refine zP ?_|refine zB fun b=>?_|refine zC fun a' c' hc1 hc2=>?_|(apply GJ.a;exact rfl;intro hg)|(apply GJ.o;exact rfl;intro hg)
 refine Br.cases (fun h=>?_) (fun h=>?_)
 ·have h:s.e=0:=by omega
  unfold RS.wrong at hk
  rw [if_pos h] at hk
  repeat first|exact zE|refine zP ?_|refine zB fun b=>?_|refine zC fun a' c' hc1 hc2=>?_|(apply GJ.a;exact rfl;intro hg)|(apply GJ.o;exact rfl;intro hg)
  refine OpOk.storePart rfl rfl rfl rfl rfl (by exact Nat.le_refl 5) Nf.auto ?_
  repeat first|exact zE|refine zP ?_|refine zB fun b=>?_|refine zC fun a' c' hc1 hc2=>?_|(apply GJ.a;exact rfl;intro hg)|(apply GJ.o;exact rfl;intro hg)
  exact Wk.outS Sup.z (p2 _) hk
 ·have h:s.e≠0:=by omega
  unfold RS.wrong at hk
  rw [if_neg h] at hk
  repeat first|exact zE|refine zP ?_|refine zB fun b=>?_|refine zC fun a' c' hc1 hc2=>?_|(apply GJ.a;exact rfl;intro hg)|(apply GJ.o;exact rfl;intro hg)
  exact Wk.outS Sup.z (p2 _) hk
theorem zCC {s:RS} [hb:HasBlk own q 68 (rsV t s) g] (hk:K (.bool (decide ((s.e:Int)=0))) ro own) :
  CallOk Tryz.prog 23 #[ptr' q] ro own K:=by
 obtain ⟨r,p1,p2⟩:=hb.split
 refine CallOk.perm p1 ?_
 refine CallOk.intro (args:=[_]) (rs:=[_]) T_ok Tryz.func23 Tryz.call23 rfl rfl (by kernel_rfl) rfl rfl ?_
 repeat first|exact zE|refine zP ?_|refine zB fun b=>?_|refine zC fun a' c' hc1 hc2=>?_|(apply GJ.a;exact rfl;intro hg)|(apply GJ.o;exact rfl;intro hg)
 exact Wk.outS Sup.z p1.symm hk
theorem zCc {s:RS} [hb:HasBlk own q 68 (rsV t s) g] (hk:K (.int .u8 (zAe t s:Int)) ro own) :
  CallOk Tryz.prog 85 #[ptr' q] ro own K:=by
 obtain ⟨r,p1,p2⟩:=hb.split
 refine CallOk.perm p1 ?_
 by_cases h1:s.p<t.length
 ·by_cases h2:s.e=0
  ·rw [zAe,if_pos ⟨h1,h2⟩] at hk
   refine CallOk.intro (args:=[_]) (rs:=[_]) T_ok Tryz.func85 Tryz.call85 rfl rfl (by kernel_rfl) rfl rfl ?_
   repeat (first|exact zE|refine wkT ?_|refine Bs.all ?_|(show QOk _ _ _ _ _ _ _;refine QOk.build rfl rfl Nf.auto ?_)|refine zB (fun b=>?_)|refine zC (fun a' c' hc1 hc2=>?_)|(show GJ _ _ _ _ _ _ _;first|refine GJ.t (by decide) ?_|refine GJ.t zO ?_))
   refine zCC (t:=t) (s:=s) ?_
   repeat (first|exact zE|refine wkT ?_|refine Bs.all ?_|(show QOk _ _ _ _ _ _ _;refine QOk.build rfl rfl Nf.auto ?_)|refine zB (fun b=>?_)|refine zC (fun a' c' hc1 hc2=>?_)|(show GJ _ _ _ _ _ _ _;first|refine GJ.t (by decide) ?_|refine GJ.t zO ?_))
   exact Wk.outS Sup.z p1.symm hk
  ·rw [zAe,if_neg (fun x=>h2 x.2)] at hk
   refine CallOk.intro (args:=[_]) (rs:=[_]) T_ok Tryz.func85 Tryz.call85 rfl rfl (by kernel_rfl) rfl rfl ?_
   repeat (first|exact zE|refine wkT ?_|refine Bs.all ?_|(show QOk _ _ _ _ _ _ _;refine QOk.build rfl rfl Nf.auto ?_)|refine zB (fun b=>?_)|refine zC (fun a' c' hc1 hc2=>?_)|(show GJ _ _ _ _ _ _ _;first|refine GJ.t (by decide) ?_|refine GJ.t zO ?_))
   refine zCC (t:=t) (s:=s) ?_
   repeat first|exact zE|refine wkA ?_|refine zB fun b=>?_|refine zC fun a' c' hc1 hc2=>?_|(apply GJ.a;exact rfl;intro hg)|(apply GJ.o;exact rfl;intro hg)
   exact Wk.outS Sup.z p1.symm hk
 ·rw [zAe,if_neg (fun x=>h1 x.1)] at hk
  refine CallOk.intro (args:=[_]) (rs:=[_]) T_ok Tryz.func85 Tryz.call85 rfl rfl (by kernel_rfl) rfl rfl ?_
  repeat first|exact zE|refine zP ?_|refine zB fun b=>?_|refine zC fun a' c' hc1 hc2=>?_|(apply GJ.a;exact rfl;intro hg)|(apply GJ.o;exact rfl;intro hg)
  exact Wk.outS Sup.z p1.symm hk
theorem zDN (t:List UInt8) (s:RS):zAe t s<256:=by
 unfold zAe;split
 ·exact (t[s.p]!).toNat_lt
 ·decide
theorem zDk {s:RS} [hb:HasBlk own q 68 (rsV t s) g] {x:Int} (c:Nat) (hx:x=(c:Int)) (h0:c≠0) (hp:s.p≤10000000) (hk:K (.bool (decide (zAe t s=c))) ro (g (.blk q 68 (rsV t (eatS t c s))))) :
  CallOk Tryz.prog 53 #[ptr' q,.int .u8 x] ro own K:=by
 subst hx
 obtain ⟨r,p1,p2⟩:=hb.split
 refine CallOk.perm p1 ?_
 refine CallOk.intro (args:=[_,_]) (rs:=[_]) T_ok Tryz.func53 Tryz.call53 rfl rfl (by kernel_rfl) rfl rfl ?_
 repeat first|exact zE|refine wkA ?_|refine zB fun b=>?_|refine zC fun a' c' hc1 hc2=>?_|(apply GJ.a;exact rfl;intro hg)|(apply GJ.o;exact rfl;intro hg)
 refine zCc (t:=t) (s:=s) ?_
 by_cases h:zAe t s=c
 ·rw [decide_eq_true h,eatS,if_pos h] at hk
  repeat first|exact zE|refine wkA ?_|refine zB fun b=>?_|refine zC fun a' c' hc1 hc2=>?_|(apply GJ.a;exact rfl;intro hg)|(apply GJ.o;exact rfl;intro hg)
  exact Wk.outS Sup.z (p2 _) hk
 ·rw [decide_eq_false h,eatS,if_neg h] at hk
  repeat first|exact zE|refine wkA ?_|refine zB fun b=>?_|refine zC fun a' c' hc1 hc2=>?_|(apply GJ.a;exact rfl;intro hg)|(apply GJ.o;exact rfl;intro hg)
  exact Wk.outS Sup.z (p2 _) hk
theorem zDP {s:RS} [hb:HasBlk own q 68 (rsV t s) g] {x:Int} (c:Nat) (hx:x=(c:Int)) (h0:c≠0) (hp:s.p≤10000000) (hk:K (.tuple #[]) ro (g (.blk q 68 (rsV t (zBc t c s))))) :
  CallOk Tryz.prog 109 #[ptr' q,.int .u8 x] ro own K:=by
 obtain ⟨r,p1,p2⟩:=hb.split
 refine CallOk.perm p1 ?_
 refine CallOk.intro (args:=[_,_]) (rs:=[]) T_ok Tryz.func109 Tryz.call109 rfl rfl (by kernel_rfl) rfl rfl ?_
 repeat first|exact zE|refine wkA ?_|refine zB fun b=>?_|refine zC fun a' c' hc1 hc2=>?_|(apply GJ.a;exact rfl;intro hg)|(apply GJ.o;exact rfl;intro hg)
 refine zDk (t:=t) (s:=s) c hx h0 hp ?_
 by_cases h:zAe t s=c
 ·rw [zBc,if_pos h] at hk
  rw [decide_eq_true h,eatS,if_pos h]
  repeat first|exact zE|refine wkA ?_|refine zB fun b=>?_|refine zC fun a' c' hc1 hc2=>?_|(apply GJ.a;exact rfl;intro hg)|(apply GJ.o;exact rfl;intro hg)
  exact Wk.outS Sup.z (p2 _) hk
 ·rw [zBc,if_neg h] at hk
  rw [decide_eq_false h,eatS,if_neg h]
  repeat first|exact zE|refine wkA ?_|refine zB fun b=>?_|refine zC fun a' c' hc1 hc2=>?_|(apply GJ.a;exact rfl;intro hg)|(apply GJ.o;exact rfl;intro hg)
  refine zAv (t:=t) (s:=s) 5 s.p rfl rfl ?_
  repeat first|exact zE|refine wkA ?_|refine zB fun b=>?_|refine zC fun a' c' hc1 hc2=>?_|(apply GJ.a;exact rfl;intro hg)|(apply GJ.o;exact rfl;intro hg)
  exact Wk.outS Sup.z (p2 _) hk
theorem zCw {s:RS} [hb:HasBlk own q 68 (rsV t s) g] {k x y:Int}{z:SetD}{a:Option Addr}{m c:Nat} (hn:s.n≤10000000)
  (hk:K (.agg (zA7 k z a m c x y).toArray) ro (g (.blk q 68 (rsV t (zA3 s))))) :
  CallOk Tryz.prog 54 #[ptr' q,.agg (zA7 k z a m c x y).toArray] ro own K:=by
 obtain ⟨r,p1,p2⟩:=hb.split
 refine CallOk.perm p1 ?_
 refine CallOk.intro (args:=[_,_]) (rs:=[_]) T_ok Tryz.func54 Tryz.call54 rfl rfl (by kernel_rfl) rfl rfl ?_
 repeat first|exact zE|refine zP ?_|refine zB fun b=>?_|refine zC fun a' c' hc1 hc2=>?_|(apply GJ.a;exact rfl;intro hg)|(apply GJ.o;exact rfl;intro hg)
 have e1:(.blk q 68 [str t,.int .i64 (s.p:Int),.int .i64 ((s.n:Int)+1),.int .i64 (s.e:Int),.int .i64 (s.f:Int)]:Chunk)=.blk q 68 (rsV t { s with n:=s.n+1 }):=rfl
 refine Br.cases (fun h=>?_) (fun h=>?_)
 ·rw [zA3,if_pos (by omega)] at hk
  repeat first|exact zE|refine wkA ?_|refine zB fun b=>?_|refine zC fun a' c' hc1 hc2=>?_|(apply GJ.a;exact rfl;intro hg)|(apply GJ.o;exact rfl;intro hg)
  rw [e1]
  refine zAv (t:=t) (s:={ s with n:=s.n+1 }) 2 s.p rfl rfl ?_
  repeat first|exact zE|refine zP ?_|refine zB fun b=>?_|refine zC fun a' c' hc1 hc2=>?_|(apply GJ.a;exact rfl;intro hg)|(apply GJ.o;exact rfl;intro hg)
  exact Wk.outS Sup.z (p2 _) hk
 ·rw [zA3,if_neg (by omega)] at hk
  repeat first|exact zE|refine zP ?_|refine zB fun b=>?_|refine zC fun a' c' hc1 hc2=>?_|(apply GJ.a;exact rfl;intro hg)|(apply GJ.o;exact rfl;intro hg)
  exact Wk.outS Sup.z (p2 _) hk
theorem zK6 {s:RS} [hb:HasBlk own q 68 (rsV t s) g] {x:Int} (a:Nat) (hx:x=(a:Int)) (hp:s.p≤10000000) (hk:K (.int .u8 ((zAA t a s).1:Int)) ro (g (.blk q 68 (rsV t (zAA t a s).2)))) :
  CallOk Tryz.prog 132 #[ptr' q,.int .i64 x] ro own K:=by
 obtain ⟨r,p1,p2⟩:=hb.split
 refine CallOk.perm p1 ?_
 have hlt:=zDN t s
 refine CallOk.intro (args:=[_,_]) (rs:=[_]) T_ok Tryz.func132 Tryz.call132 rfl rfl (by kernel_rfl) rfl rfl ?_
 repeat first|exact zE|refine wkA ?_|refine zB fun b=>?_|refine zC fun a' c' hc1 hc2=>?_|(apply GJ.a;exact rfl;intro hg)|(apply GJ.o;exact rfl;intro hg)
 refine zCc (t:=t) (s:=s) ?_
 have e1:(.blk q 68 [str t,.int .i64 ((s.p:Int)+1),.int .i64 (s.n:Int),.int .i64 (s.e:Int),.int .i64 (s.f:Int)]:Chunk)=.blk q 68 (rsV t s.adv):=rfl
 unfold zAA at hk
 generalize zAe t s=c at hlt hk ⊢
 by_cases h1:zAS c=true
 ·rw [if_pos h1] at hk
  simp only [zAS,Bool.and_eq_true,decide_eq_true_iff] at h1
  repeat first|exact zE|refine wkA ?_|refine zB fun b=>?_|refine zC fun a' c' hc1 hc2=>?_|(apply GJ.a;exact rfl;intro hg)|(apply GJ.o;exact rfl;intro hg)
  exact Wk.outE Sup.z (p2 _) hk (congrArg (Value.int .u8) (by dsimp only;omega))
 ·rw [if_neg h1] at hk
  simp only [zAS,Bool.and_eq_true,decide_eq_true_iff] at h1
  by_cases h2:97≤c∧c≤102
  ·rw [if_pos h2] at hk
   repeat first|exact zE|refine wkA ?_|refine zB fun b=>?_|refine zC fun a' c' hc1 hc2=>?_|(apply GJ.a;exact rfl;intro hg)|(apply GJ.o;exact rfl;intro hg)
   exact Wk.outE Sup.z (p2 _) hk (congrArg (Value.int .u8) (by dsimp only;omega))
  ·rw [if_neg h2] at hk
   repeat first|exact zE|refine wkA ?_|refine zB fun b=>?_|refine zC fun a' c' hc1 hc2=>?_|(apply GJ.a;exact rfl;intro hg)|(apply GJ.o;exact rfl;intro hg)
   rw [e1]
   refine zAv (t:=t) (s:=s.adv) 5 a rfl hx ?_
   repeat first|exact zE|refine wkA ?_|refine zB fun b=>?_|refine zC fun a' c' hc1 hc2=>?_|(apply GJ.a;exact rfl;intro hg)|(apply GJ.o;exact rfl;intro hg)
   exact Wk.outS Sup.z (p2 _) hk
end
theorem zKW:∀ c:Nat,c<256→decide (0≤firstIdx ⟨⟨signsR⟩⟩ (UInt8.ofNat c))=(signsR.map (·.toNat)).contains c:=by decide +kernel
theorem hexes_or:∀ a:Nat,a<16→∀ b:Nat,b<16→nor2 ((a:Int)*2 ^ (4:Int).toNat % 256) (b:Int)=((16*a+b:Nat):Int):=by decide +kernel
theorem zEz {t:List UInt8}{a:Nat}{s:RS}:(zAA t a s).1<16:=by
 unfold zAA zAS
 split
 ·rename_i h;simp at h;dsimp only;omega
 ·split
  ·dsimp only;omega
  ·show (0:Nat)<16;decide
theorem zHq {t:List UInt8}{a:Nat}{s:RS}:(zAA t a s).2.p=s.p+1:=by
 unfold zAA
 split
 ·rfl
 ·split
  ·rfl
  ·unfold RS.wrong;split<;>rfl
section
variable {ro:Ro}{own r:Chs}{K:Value→Ro→Chs→Prop}{g:Chunk→Chs}{q:Nat}{t:List UInt8}
theorem zI7 {u:UInt8} (hk:K (.bool (decide (0≤firstIdx ⟨⟨signsR⟩⟩ u))) ro own):CallOk Tryz.prog 7 #[str signsR,str [u]] ro own K:=by
 refine CallOk.intro (args:=[_,_]) (rs:=[_]) T_ok Tryz.func7 Tryz.call7 rfl rfl (by kernel_rfl) rfl rfl ?_
 repeat first|exact zE|refine wkG ?_|refine zB fun b=>?_|refine zC fun a' c' hc1 hc2=>?_|(show GJ _ _ _ _ _ _ _;first|(apply GJ.a;exact rfl;intro hg)|(apply GJ.o;exact rfl;intro hg)|refine GJ.t zO ?_|refine GJ.f zO ?_|refine GJ.ft zO ?_|refine GJ.ff zO ?_)
 refine zKr (by intro h;cases h) ?_
 repeat first|exact zE|refine wkG ?_|refine zB fun b=>?_|refine zC fun a' c' hc1 hc2=>?_|(show GJ _ _ _ _ _ _ _;first|(apply GJ.a;exact rfl;intro hg)|(apply GJ.o;exact rfl;intro hg)|refine GJ.t zO ?_|refine GJ.f zO ?_|refine GJ.ft zO ?_|refine GJ.ff zO ?_)
 exact Wk.outS Sup.z (.refl _) hk
set_option maxHeartbeats 4000000 in
theorem zNz {s:RS} [hb:HasBlk own q 68 (rsV t s) g] {x:Int} (a:Nat) (hx:x=(a:Int)) (hp:s.p≤1000000) (hk:K (.int .u8 ((escD t a s).1:Int)) ro (g (.blk q 68 (rsV t (escD t a s).2)))) :
  CallOk Tryz.prog 118 #[ptr' q,.int .i64 x] ro own K:=by
 obtain ⟨r,p1,p2⟩:=hb.split
 refine CallOk.perm p1 ?_
 have hlt:=zDN t s
 refine CallOk.intro (args:=[_,_]) (rs:=[_]) T_ok Tryz.func118 Tryz.call118 rfl rfl (by kernel_rfl) rfl rfl ?_
 repeat first|exact zE|refine wkA ?_|refine zB fun b=>?_|refine zC fun a' c' hc1 hc2=>?_|(apply GJ.a;exact rfl;intro hg)|(apply GJ.o;exact rfl;intro hg)
 refine zCc (t:=t) (s:=s) ?_
 have e1:(.blk q 68 [str t,.int .i64 ((s.p:Int)+1),.int .i64 (s.n:Int),.int .i64 (s.e:Int),.int .i64 (s.f:Int)]:Chunk)=.blk q 68 (rsV t s.adv):=rfl
 unfold escD at hk
 generalize zAe t s=c at hlt hk ⊢
 by_cases h1:c=110
 ·rw [if_pos h1] at hk
  repeat first|exact zE|refine zP ?_|refine zB fun b=>?_|refine zC fun a' c' hc1 hc2=>?_|(apply GJ.a;exact rfl;intro hg)|(apply GJ.o;exact rfl;intro hg)
  exact Wk.outS Sup.z (p2 _) hk
 rw [if_neg h1] at hk
 by_cases h2:c=114
 ·rw [if_pos h2] at hk
  repeat first|exact zE|refine zP ?_|refine zB fun b=>?_|refine zC fun a' c' hc1 hc2=>?_|(apply GJ.a;exact rfl;intro hg)|(apply GJ.o;exact rfl;intro hg)
  exact Wk.outS Sup.z (p2 _) hk
 rw [if_neg h2] at hk
 by_cases h3:c=116
 ·rw [if_pos h3] at hk
  repeat first|exact zE|refine zP ?_|refine zB fun b=>?_|refine zC fun a' c' hc1 hc2=>?_|(apply GJ.a;exact rfl;intro hg)|(apply GJ.o;exact rfl;intro hg)
  exact Wk.outS Sup.z (p2 _) hk
 rw [if_neg h3] at hk
 by_cases h4:c=48
 ·rw [if_pos h4] at hk
  repeat first|exact zE|refine zP ?_|refine zB fun b=>?_|refine zC fun a' c' hc1 hc2=>?_|(apply GJ.a;exact rfl;intro hg)|(apply GJ.o;exact rfl;intro hg)
  exact Wk.outS Sup.z (p2 _) hk
 rw [if_neg h4] at hk
 by_cases h5:c=120
 ·rw [if_pos h5] at hk
  repeat first|exact zE|refine zP ?_|refine zB fun b=>?_|refine zC fun a' c' hc1 hc2=>?_|(apply GJ.a;exact rfl;intro hg)|(apply GJ.o;exact rfl;intro hg)
  rw [e1]
  refine zK6 (t:=t) (s:=s.adv) a hx (by show s.p+1≤_;omega) ?_
  repeat first|exact zE|refine zP ?_|refine zB fun b=>?_|refine zC fun a' c' hc1 hc2=>?_|(apply GJ.a;exact rfl;intro hg)|(apply GJ.o;exact rfl;intro hg)
  refine zK6 (t:=t) (s:=(zAA t a s.adv).2) a hx (by rw [zHq];show s.p+1+1≤_;omega) ?_
  have l1:=zEz (t:=t) (a:=a) (s:=s.adv)
  have l2:=zEz (t:=t) (a:=a) (s:=(zAA t a s.adv).2)
  have l3:=hexes_or _ l1 _ l2
  generalize (zAA t a s.adv).1=y at l1 l3 hk ⊢
  generalize (zAA t a (zAA t a s.adv).2).1=z at l2 l3 hk ⊢
  repeat first|exact zE|refine zP ?_|refine zB fun b=>?_|refine zC fun a' c' hc1 hc2=>?_|(apply GJ.a;exact rfl;intro hg)|(apply GJ.o;exact rfl;intro hg)
  exact Wk.outE Sup.z (p2 _) hk (congrArg (Value.int .u8) l3.symm)
 rw [if_neg h5] at hk
 cases hbad:zFa c with
 | true =>
   rw [hbad,if_pos rfl] at hk
   simp only [zFa,zAS,Bool.or_eq_true,Bool.and_eq_true,decide_eq_true_iff] at hbad
   repeat first|exact zE|refine zP ?_|refine zB fun b=>?_|refine zC fun a' c' hc1 hc2=>?_|(apply GJ.a;exact rfl;intro hg)|(apply GJ.o;exact rfl;intro hg)
   rw [e1]
   refine zAv (t:=t) (s:=s.adv) 5 a rfl hx ?_
   repeat first|exact zE|refine zP ?_|refine zB fun b=>?_|refine zC fun a' c' hc1 hc2=>?_|(apply GJ.a;exact rfl;intro hg)|(apply GJ.o;exact rfl;intro hg)
   exact Wk.outS Sup.z (p2 _) hk
 | false =>
   rw [hbad,if_neg (by decide)] at hk
   have hbad:¬zFa c=true:=by rw [hbad];decide
   simp only [zFa,zAS,Bool.or_eq_true,Bool.and_eq_true,decide_eq_true_iff] at hbad
   repeat first|exact zE|refine zP ?_|refine zB fun b=>?_|refine zC fun a' c' hc1 hc2=>?_|(apply GJ.a;exact rfl;intro hg)|(apply GJ.o;exact rfl;intro hg)
   exact Wk.outS Sup.z (p2 _) hk
theorem escD_p {a:Nat}{s:RS}:(escD t a s).2.p≤s.p+3:=by
 unfold escD
 repeat' split
 all_goals first|(show s.p+1≤_;omega)|(dsimp only;rw [zHq,zHq];show s.p+1+1+1≤_;omega)|(dsimp only;unfold RS.wrong;split<;>(show s.p+1≤_;omega))|(dsimp only;show s.p+1≤_;omega)
theorem zNP {s:RS}:(zAw t s).2.p≤s.p+4:=by
 unfold zAw
 split
 ·have:=escD_p (t:=t) (a:=s.p) (s:=s.adv)
  have e:s.adv.p=s.p+1:=rfl
  omega
 ·split
  ·dsimp only;unfold RS.wrong;split<;>(first|omega|(dsimp only;omega))
  ·show s.p+1≤_;omega
theorem escD_lt {a:Nat}{s:RS}:(escD t a s).1<256:=by
 have l1:=zEz (t:=t) (a:=a) (s:=s.adv)
 have l2:=zEz (t:=t) (a:=a) (s:=(zAA t a s.adv).2)
 have l3:=zDN t s
 unfold escD
 repeat' split
 all_goals first|omega|(dsimp only;omega)
theorem zE3 {s:RS}:(zAw t s).1<256:=by
 have l3:=zDN t s
 unfold zAw
 split
 ·exact escD_lt
 ·split
  ·show (0:Nat)<256;decide
  ·exact l3
set_option maxHeartbeats 4000000 in
theorem zJ1 {s:RS} [hb:HasBlk own q 68 (rsV t s) g] (hp:s.p≤100000) (hk:K (.int .u8 ((zAw t s).1:Int)) ro (g (.blk q 68 (rsV t (zAw t s).2)))) :
  CallOk Tryz.prog 112 #[ptr' q] ro own K:=by
 obtain ⟨r,p1,p2⟩:=hb.split
 refine CallOk.perm p1 ?_
 have hlt:=zDN t s
 refine CallOk.intro (args:=[_]) (rs:=[_]) T_ok Tryz.func112 Tryz.call112 rfl rfl (by kernel_rfl) rfl rfl ?_
 repeat first|exact zE|refine zP ?_|refine zB fun b=>?_|refine zC fun a' c' hc1 hc2=>?_|(apply GJ.a;exact rfl;intro hg)|(apply GJ.o;exact rfl;intro hg)
 refine zCc (t:=t) (s:=s) ?_
 have e1:(.blk q 68 [str t,.int .i64 ((s.p:Int)+1),.int .i64 (s.n:Int),.int .i64 (s.e:Int),.int .i64 (s.f:Int)]:Chunk)=.blk q 68 (rsV t s.adv):=rfl
 unfold zAw at hk
 generalize zAe t s=c at hlt hk ⊢
 by_cases h1:c=92
 ·rw [if_pos h1] at hk
  repeat first|exact zE|refine zP ?_|refine zB fun b=>?_|refine zC fun a' c' hc1 hc2=>?_|(apply GJ.a;exact rfl;intro hg)|(apply GJ.o;exact rfl;intro hg)
  rw [e1]
  refine zNz (t:=t) (s:=s.adv) s.p rfl (by show s.p+1≤_;omega) ?_
  repeat first|exact zE|refine zP ?_|refine zB fun b=>?_|refine zC fun a' c' hc1 hc2=>?_|(apply GJ.a;exact rfl;intro hg)|(apply GJ.o;exact rfl;intro hg)
  exact Wk.outS Sup.z (p2 _) hk
 rw [if_neg h1] at hk
 obtain ⟨u,hu⟩:∃ u:UInt8,u.toNat=c:=⟨UInt8.ofNat c,UInt8.toNat_ofNat_of_lt' hlt⟩
 have hsg:=zKW c hlt
 rw [←hu,UInt8.ofNat_toNat,hu] at hsg
 unfold badB at hk
 by_cases h2:c<32
 ·rw [decide_eq_true h2] at hk
  repeat first|exact zE|refine zP ?_|refine zB fun b=>?_|refine zC fun a' c' hc1 hc2=>?_|(apply GJ.a;exact rfl;intro hg)|(apply GJ.o;exact rfl;intro hg)
  refine zAv (t:=t) (s:=s) 5 s.p rfl rfl ?_
  repeat first|exact zE|refine zP ?_|refine zB fun b=>?_|refine zC fun a' c' hc1 hc2=>?_|(apply GJ.a;exact rfl;intro hg)|(apply GJ.o;exact rfl;intro hg)
  exact Wk.outS Sup.z (p2 _) hk
 rw [decide_eq_false h2] at hk
 by_cases h3:126<c
 ·rw [decide_eq_true h3] at hk
  repeat first|exact zE|refine zP ?_|refine zB fun b=>?_|refine zC fun a' c' hc1 hc2=>?_|(apply GJ.a;exact rfl;intro hg)|(apply GJ.o;exact rfl;intro hg)
  refine zAv (t:=t) (s:=s) 5 s.p rfl rfl ?_
  repeat first|exact zE|refine zP ?_|refine zB fun b=>?_|refine zC fun a' c' hc1 hc2=>?_|(apply GJ.a;exact rfl;intro hg)|(apply GJ.o;exact rfl;intro hg)
  exact Wk.outS Sup.z (p2 _) hk
 rw [decide_eq_false h3,Bool.false_or,Bool.false_or,←hsg] at hk
 repeat first|exact zE|refine zP ?_|refine zB fun b=>?_|refine zC fun a' c' hc1 hc2=>?_|(apply GJ.a;exact rfl;intro hg)|(apply GJ.o;exact rfl;intro hg)
 subst hu
 refine OpOk.toStr (l:=[u]) rfl rfl rfl rfl (Rds.hasSl (cs:=[u8 u]) (by omega) (by decide) rfl) ?_
 repeat first|exact zE|refine zP ?_|refine zB fun b=>?_|refine zC fun a' c' hc1 hc2=>?_|(apply GJ.a;exact rfl;intro hg)|(apply GJ.o;exact rfl;intro hg)
 refine zI7 ?_
 generalize decide (0≤firstIdx ⟨⟨signsR⟩⟩ u)=d at hk ⊢
 cases d with
 | true =>
   repeat first|exact zE|refine zP ?_|refine zB fun b=>?_|refine zC fun a' c' hc1 hc2=>?_|(apply GJ.a;exact rfl;intro hg)|(apply GJ.o;exact rfl;intro hg)
   refine zAv (t:=t) (s:=s) 5 s.p rfl rfl ?_
   repeat first|exact zE|refine zP ?_|refine zB fun b=>?_|refine zC fun a' c' hc1 hc2=>?_|(apply GJ.a;exact rfl;intro hg)|(apply GJ.o;exact rfl;intro hg)
   exact Wk.outS Sup.z (p2 _) hk
 | false =>
   repeat first|exact zE|refine zP ?_|refine zB fun b=>?_|refine zC fun a' c' hc1 hc2=>?_|(apply GJ.a;exact rfl;intro hg)|(apply GJ.o;exact rfl;intro hg)
   exact Wk.outS Sup.z (p2 _) hk
end
theorem pairD_lt {t:List UInt8}{s:RS}:(zAZ t s).1.1<256∧(zAZ t s).1.2<256:=by
 unfold zAZ
 split
 ·exact ⟨zE3,zE3⟩
 ·exact ⟨zE3,zE3⟩
theorem zMb {t:List UInt8}{a k:Nat}{z:SetD}{s:RS} (h:s.e≠0):setL t a k z s=(z,s):=by
 cases k with
 | zero=>rfl
 | succ k=>rw [setL,if_neg (fun x=>h x.1)]
theorem zIV {t:List UInt8}{a:Nat}:∀ {k:Nat}{z:SetD}{s:RS},SetIn z→SetIn (setL t a k z s).1
 | 0,z,s,h=>h
 | k+1,z,s,h=>by
   rw [setL]
   split
   ·split
    ·exact h
    ·exact zIV (h.or (zBW _ _))
   ·exact h
theorem zM8 {t:List UInt8}{s:RS} (h:Inv t s) (h0:s.e=0):(zAZ t s).2.e=0→s.p+1≤(zAZ t s).2.p:=by
 intro he
 obtain ⟨l,⟨r1,r2⟩,_⟩:=zG1 he
 rw [r1]
 show s.p+1≤s.p+l.length
 by_cases hl:l=[]
 ·subst hl
  exfalso
  have:(zAw t s).2.e=0:=by
   unfold zAZ at he
   split at he
   ·exact zBB (f:=fun s=>zAw t s) (fun h=>zGc h) (s:=(zAw t s).2.adv) he
   ·exact he
  obtain ⟨m,⟨b1,b2⟩,hb⟩:=zCa this
  obtain ⟨x,q,hx,_⟩:=hb.head
  have h1:(zAw t s).2.p≤(zAZ t s).2.p:=by
   unfold zAZ at he ⊢
   split
   ·rename_i e
    rw [if_pos e] at he
    obtain ⟨m2,⟨c1,c2⟩,_⟩:=zCa he
    rw [c1];show (zAw t s).2.p≤(zAw t s).2.p+1+m2.length;omega
   ·exact Nat.le_refl _
  rw [r1,b1] at h1
  have h1:s.p+m.length≤s.p+0:=h1
  subst hx
  simp at h1
  omega
 ·have:0<l.length:=List.length_pos_iff.2 hl
  omega
section
variable {ro:Ro}{own r:Chs}{K:Value→Ro→Chs→Prop}{g:Chunk→Chs}{q:Nat}{t:List UInt8}
theorem zF3 {x y:Nat} (hx:x<256) (hy:y<256) (hk:K (.agg (setV (zDi x y)).toArray) ro own):CallOk Tryz.prog 117 #[.int .u8 (x:Int),.int .u8 (y:Int)] ro own K :=
 range_ok hx hy fun s h1 h2=>by
  have:s=zDi x y:=SetD.ext h1 (zBW x y) fun c hc=>by rw [h2 c hc,zHT x y hc]
  rw [this];exact hk
set_option maxHeartbeats 8000000 in
theorem set_ok {s:RS} [hb:HasBlk own q 68 (rsV t s) g] {x:Int} (a:Nat) (hx:x=(a:Int)) (ha:a≤t.length) (hi:Inv t s) (h0:s.e=0) (hl:t.length≤10000) (hk:K (.agg (setV (setD t a s).1).toArray) ro (g (.blk q 68 (rsV t (setD t a s).2)))) :
  CallOk Tryz.prog 110 #[ptr' q,.int .i64 x] ro own K:=by
 subst hx
 obtain ⟨r,p1,p2⟩:=hb.split
 refine CallOk.perm p1 ?_
 have hip:=hi.p
 refine CallOk.intro (args:=[_,_]) (rs:=[_]) T_ok Tryz.func110 Tryz.call110 rfl rfl (by kernel_rfl) rfl rfl ?_
 repeat first|exact zE|refine zP ?_|refine zB fun b=>?_|refine zC fun a' c' hc1 hc2=>?_|(apply GJ.a;exact rfl;intro hg)|(apply GJ.o;exact rfl;intro hg)
 obtain ⟨b1,hb1⟩:∃ z:Nat,z=b:=⟨_,rfl⟩
 subst hb1
 refine zDk (t:=t) (s:=s) 94 rfl (by decide) (by omega) ?_
 have hi1:Inv t (eatS t 94 s):=hi.eat (by decide)
 have h01:(eatS t 94 s).e=0:=by rw [eat_keep];exact h0
 obtain ⟨R,hR⟩:∃ R,R=setL t a (t.length+1) zeroS (eatS t 94 s):=⟨_,rfl⟩
 have hRin:SetIn R.1:=by rw [hR];exact zIV zeroS_in
 unfold setD at hk
 dsimp only at hk
 rw [←hR] at hk
 generalize eatS t 94 s=s0 at hi1 h01 hR
 generalize decide (zAe t s=94)=tb at hk ⊢
 have hfin:∀ z s2,R=(z,s2)→Inv t s2→s2.p≤10000000:=fun z s2 _ h=>by have:=h.p;omega
 repeat first|exact zE|refine zP ?_|refine zB fun b=>?_|refine zC fun a' c' hc1 hc2=>?_|(apply GJ.a;exact rfl;intro hg)|(apply GJ.o;exact rfl;intro hg)
 obtain ⟨b2,hb2⟩:∃ z:Nat,z=b:=⟨_,rfl⟩
 subst hb2
 refine LoopOk.at (ι:=Nat × SetD × RS) Keep.z (fun (k,z,s1)=>[]) (fun (k,z,s1)=>.blk b2 113 (setV z)::.blk b1 113 (setV zeroS)::.blk q 68 (rsV t s1)::r) (fun (k,z,s1)=>setL t a k z s1=R∧SetIn z∧Inv t s1∧(s1.e=0→t.length+1≤k+s1.p)) (fun (k,z,s1)=>k) (t.length+1,zeroS,s0) ?_ Sub.z Sup.z ?_
 ·exact ⟨hR.symm,zeroS_in,hi1,fun _=>by omega⟩
 rintro ⟨k,z,s1⟩ ⟨i1,i2,i3,i4⟩
 dsimp only [List.cons_append,List.nil_append] at i1 i2 i3 i4 ⊢
 have hp1:=i3.p
 repeat first|exact zE|refine zP ?_|refine zB fun b=>?_|refine zC fun a' c' hc1 hc2=>?_|(apply GJ.a;exact rfl;intro hg)|(apply GJ.o;exact rfl;intro hg)
 refine zCC (t:=t) (s:=s1) ?_
 by_cases he:¬s1.e=0
 ·have hRz:R=(z,s1):=i1.symm.trans (zMb he)
  rw [decide_eq_false (show ¬(s1.e:Int)=0 by omega)]
  repeat first|exact zE|refine zP ?_|refine zB fun b=>?_|refine zC fun a' c' hc1 hc2=>?_|(apply GJ.a;exact rfl;intro hg)|(apply GJ.o;exact rfl;intro hg)
  refine zDP (t:=t) (s:=s1) 93 rfl (by decide) (hfin _ _ hRz i3) ?_
  rw [hRz] at hk hRin
  dsimp only at hk hRin
  generalize zBc t 93 s1=s5 at hk ⊢
  have hzin:SetIn (zDm tb z):=by
   cases tb with
   | true=>exact SetIn.not _
   | false=>exact hRin
  have hck:K (.agg (setV (zDm tb z)).toArray) ro (g (.blk q 68 (rsV t (if s5.e=0∧zDm tb z=zeroS then s5.wrong 160 a else s5)))):=hk
  cases tb with
  | true =>
    rw [show zDm true z=SetD.not z from rfl] at hck
    repeat first|exact zE|refine zP ?_|refine zB fun b=>?_|refine zC fun a' c' hc1 hc2=>?_|(apply GJ.a;exact rfl;intro hg)|(apply GJ.o;exact rfl;intro hg)
    refine zIb hRin ?_
    repeat first|exact zE|refine zP ?_|refine zB fun b=>?_|refine zC fun a' c' hc1 hc2=>?_|(apply GJ.a;exact rfl;intro hg)|(apply GJ.o;exact rfl;intro hg)
    refine zCC (t:=t) (s:=s5) ?_
    by_cases he5:s5.e=0
    ·rw [decide_eq_true (show (s5.e:Int)=0 by omega)]
     repeat first|exact zE|refine zP ?_|refine zB fun b=>?_|refine zC fun a' c' hc1 hc2=>?_|(apply GJ.a;exact rfl;intro hg)|(apply GJ.o;exact rfl;intro hg)
     refine zCs ?_
     by_cases hz0:SetD.not z=zeroS
     ·rw [if_pos ⟨he5,hz0⟩] at hck
      rw [if_pos (show SetD.not z=⟨0,0,0,0⟩ from hz0)]
      repeat first|exact zE|refine zP ?_|refine zB fun b=>?_|refine zC fun a' c' hc1 hc2=>?_|(apply GJ.a;exact rfl;intro hg)|(apply GJ.o;exact rfl;intro hg)
      refine zAv (t:=t) (s:=s5) 160 a rfl rfl ?_
      repeat first|exact zE|refine zP ?_|refine zB fun b=>?_|refine zC fun a' c' hc1 hc2=>?_|(apply GJ.a;exact rfl;intro hg)|(apply GJ.o;exact rfl;intro hg)
      exact Wk.outS Sup.z (p2 _) hck
     ·rw [if_neg (fun x=>hz0 x.2)] at hck
      rw [if_neg (show ¬SetD.not z=⟨0,0,0,0⟩ from hz0)]
      repeat first|exact zE|refine zP ?_|refine zB fun b=>?_|refine zC fun a' c' hc1 hc2=>?_|(apply GJ.a;exact rfl;intro hg)|(apply GJ.o;exact rfl;intro hg)
      exact Wk.outS Sup.z (p2 _) hck
    ·rw [decide_eq_false (show ¬(s5.e:Int)=0 by omega)]
     rw [if_neg (fun x=>he5 x.1)] at hck
     repeat first|exact zE|refine zP ?_|refine zB fun b=>?_|refine zC fun a' c' hc1 hc2=>?_|(apply GJ.a;exact rfl;intro hg)|(apply GJ.o;exact rfl;intro hg)
     exact Wk.outS Sup.z (p2 _) hck
  | false =>
    rw [show zDm false z=z from rfl] at hck
    repeat first|exact zE|refine zP ?_|refine zB fun b=>?_|refine zC fun a' c' hc1 hc2=>?_|(apply GJ.a;exact rfl;intro hg)|(apply GJ.o;exact rfl;intro hg)
    refine zCC (t:=t) (s:=s5) ?_
    by_cases he5:s5.e=0
    ·rw [decide_eq_true (show (s5.e:Int)=0 by omega)]
     repeat first|exact zE|refine zP ?_|refine zB fun b=>?_|refine zC fun a' c' hc1 hc2=>?_|(apply GJ.a;exact rfl;intro hg)|(apply GJ.o;exact rfl;intro hg)
     refine zCs ?_
     by_cases hz0:z=zeroS
     ·rw [if_pos ⟨he5,hz0⟩] at hck
      rw [if_pos (show z=⟨0,0,0,0⟩ from hz0)]
      repeat first|exact zE|refine zP ?_|refine zB fun b=>?_|refine zC fun a' c' hc1 hc2=>?_|(apply GJ.a;exact rfl;intro hg)|(apply GJ.o;exact rfl;intro hg)
      refine zAv (t:=t) (s:=s5) 160 a rfl rfl ?_
      repeat first|exact zE|refine zP ?_|refine zB fun b=>?_|refine zC fun a' c' hc1 hc2=>?_|(apply GJ.a;exact rfl;intro hg)|(apply GJ.o;exact rfl;intro hg)
      exact Wk.outS Sup.z (p2 _) hck
     ·rw [if_neg (fun x=>hz0 x.2)] at hck
      rw [if_neg (show ¬z=⟨0,0,0,0⟩ from hz0)]
      repeat first|exact zE|refine zP ?_|refine zB fun b=>?_|refine zC fun a' c' hc1 hc2=>?_|(apply GJ.a;exact rfl;intro hg)|(apply GJ.o;exact rfl;intro hg)
      exact Wk.outS Sup.z (p2 _) hck
    ·rw [decide_eq_false (show ¬(s5.e:Int)=0 by omega)]
     rw [if_neg (fun x=>he5 x.1)] at hck
     repeat first|exact zE|refine zP ?_|refine zB fun b=>?_|refine zC fun a' c' hc1 hc2=>?_|(apply GJ.a;exact rfl;intro hg)|(apply GJ.o;exact rfl;intro hg)
     exact Wk.outS Sup.z (p2 _) hck
 have he:=Decidable.of_not_not he
 rw [decide_eq_true (show (s1.e:Int)=0 by omega)]
 have h4:=i4 he
 have h5:=i3.p0 he
 obtain ⟨k,rfl⟩:∃ j,k=j+1:=⟨k-1,by omega⟩
 rw [setL] at i1
 repeat first|exact zE|refine zP ?_|refine zB fun b=>?_|refine zC fun a' c' hc1 hc2=>?_|(apply GJ.a;exact rfl;intro hg)|(apply GJ.o;exact rfl;intro hg)
 refine zCc (t:=t) (s:=s1) ?_
 by_cases h93:zAe t s1=93
 ·rw [if_neg (fun x=>x.2 h93)] at i1
  have hRz:R=(z,s1):=i1.symm
  rw [h93]
  repeat first|exact zE|refine zP ?_|refine zB fun b=>?_|refine zC fun a' c' hc1 hc2=>?_|(apply GJ.a;exact rfl;intro hg)|(apply GJ.o;exact rfl;intro hg)
  refine zDP (t:=t) (s:=s1) 93 rfl (by decide) (hfin _ _ hRz i3) ?_
  rw [hRz] at hk hRin
  dsimp only at hk hRin
  generalize zBc t 93 s1=s5 at hk ⊢
  have hzin:SetIn (zDm tb z):=by
   cases tb with
   | true=>exact SetIn.not _
   | false=>exact hRin
  have hck:K (.agg (setV (zDm tb z)).toArray) ro (g (.blk q 68 (rsV t (if s5.e=0∧zDm tb z=zeroS then s5.wrong 160 a else s5)))):=hk
  cases tb with
  | true =>
    rw [show zDm true z=SetD.not z from rfl] at hck
    repeat first|exact zE|refine zP ?_|refine zB fun b=>?_|refine zC fun a' c' hc1 hc2=>?_|(apply GJ.a;exact rfl;intro hg)|(apply GJ.o;exact rfl;intro hg)
    refine zIb hRin ?_
    repeat first|exact zE|refine zP ?_|refine zB fun b=>?_|refine zC fun a' c' hc1 hc2=>?_|(apply GJ.a;exact rfl;intro hg)|(apply GJ.o;exact rfl;intro hg)
    refine zCC (t:=t) (s:=s5) ?_
    by_cases he5:s5.e=0
    ·rw [decide_eq_true (show (s5.e:Int)=0 by omega)]
     repeat first|exact zE|refine zP ?_|refine zB fun b=>?_|refine zC fun a' c' hc1 hc2=>?_|(apply GJ.a;exact rfl;intro hg)|(apply GJ.o;exact rfl;intro hg)
     refine zCs ?_
     by_cases hz0:SetD.not z=zeroS
     ·rw [if_pos ⟨he5,hz0⟩] at hck
      rw [if_pos (show SetD.not z=⟨0,0,0,0⟩ from hz0)]
      repeat first|exact zE|refine zP ?_|refine zB fun b=>?_|refine zC fun a' c' hc1 hc2=>?_|(apply GJ.a;exact rfl;intro hg)|(apply GJ.o;exact rfl;intro hg)
      refine zAv (t:=t) (s:=s5) 160 a rfl rfl ?_
      repeat first|exact zE|refine zP ?_|refine zB fun b=>?_|refine zC fun a' c' hc1 hc2=>?_|(apply GJ.a;exact rfl;intro hg)|(apply GJ.o;exact rfl;intro hg)
      exact Wk.outS Sup.z (p2 _) hck
     ·rw [if_neg (fun x=>hz0 x.2)] at hck
      rw [if_neg (show ¬SetD.not z=⟨0,0,0,0⟩ from hz0)]
      repeat first|exact zE|refine zP ?_|refine zB fun b=>?_|refine zC fun a' c' hc1 hc2=>?_|(apply GJ.a;exact rfl;intro hg)|(apply GJ.o;exact rfl;intro hg)
      exact Wk.outS Sup.z (p2 _) hck
    ·rw [decide_eq_false (show ¬(s5.e:Int)=0 by omega)]
     rw [if_neg (fun x=>he5 x.1)] at hck
     repeat first|exact zE|refine zP ?_|refine zB fun b=>?_|refine zC fun a' c' hc1 hc2=>?_|(apply GJ.a;exact rfl;intro hg)|(apply GJ.o;exact rfl;intro hg)
     exact Wk.outS Sup.z (p2 _) hck
  | false =>
    rw [show zDm false z=z from rfl] at hck
    repeat first|exact zE|refine zP ?_|refine zB fun b=>?_|refine zC fun a' c' hc1 hc2=>?_|(apply GJ.a;exact rfl;intro hg)|(apply GJ.o;exact rfl;intro hg)
    refine zCC (t:=t) (s:=s5) ?_
    by_cases he5:s5.e=0
    ·rw [decide_eq_true (show (s5.e:Int)=0 by omega)]
     repeat first|exact zE|refine zP ?_|refine zB fun b=>?_|refine zC fun a' c' hc1 hc2=>?_|(apply GJ.a;exact rfl;intro hg)|(apply GJ.o;exact rfl;intro hg)
     refine zCs ?_
     by_cases hz0:z=zeroS
     ·rw [if_pos ⟨he5,hz0⟩] at hck
      rw [if_pos (show z=⟨0,0,0,0⟩ from hz0)]
      repeat first|exact zE|refine zP ?_|refine zB fun b=>?_|refine zC fun a' c' hc1 hc2=>?_|(apply GJ.a;exact rfl;intro hg)|(apply GJ.o;exact rfl;intro hg)
      refine zAv (t:=t) (s:=s5) 160 a rfl rfl ?_
      repeat first|exact zE|refine zP ?_|refine zB fun b=>?_|refine zC fun a' c' hc1 hc2=>?_|(apply GJ.a;exact rfl;intro hg)|(apply GJ.o;exact rfl;intro hg)
      exact Wk.outS Sup.z (p2 _) hck
     ·rw [if_neg (fun x=>hz0 x.2)] at hck
      rw [if_neg (show ¬z=⟨0,0,0,0⟩ from hz0)]
      repeat first|exact zE|refine zP ?_|refine zB fun b=>?_|refine zC fun a' c' hc1 hc2=>?_|(apply GJ.a;exact rfl;intro hg)|(apply GJ.o;exact rfl;intro hg)
      exact Wk.outS Sup.z (p2 _) hck
    ·rw [decide_eq_false (show ¬(s5.e:Int)=0 by omega)]
     rw [if_neg (fun x=>he5 x.1)] at hck
     repeat first|exact zE|refine zP ?_|refine zB fun b=>?_|refine zC fun a' c' hc1 hc2=>?_|(apply GJ.a;exact rfl;intro hg)|(apply GJ.o;exact rfl;intro hg)
     exact Wk.outS Sup.z (p2 _) hck
 rw [if_pos ⟨he,h93⟩] at i1
 repeat first|exact zE|refine zP ?_|refine zB fun b=>?_|refine zC fun a' c' hc1 hc2=>?_|(apply GJ.a;exact rfl;intro hg)|(apply GJ.o;exact rfl;intro hg)
 refine zCc (t:=t) (s:=s1) ?_
 by_cases hz:zAe t s1=0
 ·rw [if_pos hz] at i1
  have hRz:R=(z,s1.wrong 5 s1.p):=i1.symm
  have hiw:Inv t (s1.wrong 5 s1.p):=i3.wrong (.inr (.inr (.inl rfl))) (fun _=>h5)
  rw [hz]
  repeat first|exact zE|refine zP ?_|refine zB fun b=>?_|refine zC fun a' c' hc1 hc2=>?_|(apply GJ.a;exact rfl;intro hg)|(apply GJ.o;exact rfl;intro hg)
  refine zAv (t:=t) (s:=s1) 5 s1.p rfl rfl ?_
  generalize s1.wrong 5 s1.p=s4 at hRz hiw ⊢
  repeat first|exact zE|refine zP ?_|refine zB fun b=>?_|refine zC fun a' c' hc1 hc2=>?_|(apply GJ.a;exact rfl;intro hg)|(apply GJ.o;exact rfl;intro hg)
  refine zDP (t:=t) (s:=s4) 93 rfl (by decide) (hfin _ _ hRz hiw) ?_
  rw [hRz] at hk hRin
  dsimp only at hk hRin
  generalize zBc t 93 s4=s5 at hk ⊢
  have hzin:SetIn (zDm tb z):=by
   cases tb with
   | true=>exact SetIn.not _
   | false=>exact hRin
  have hck:K (.agg (setV (zDm tb z)).toArray) ro (g (.blk q 68 (rsV t (if s5.e=0∧zDm tb z=zeroS then s5.wrong 160 a else s5)))):=hk
  cases tb with
  | true =>
    rw [show zDm true z=SetD.not z from rfl] at hck
    repeat first|exact zE|refine zP ?_|refine zB fun b=>?_|refine zC fun a' c' hc1 hc2=>?_|(apply GJ.a;exact rfl;intro hg)|(apply GJ.o;exact rfl;intro hg)
    refine zIb hRin ?_
    repeat first|exact zE|refine zP ?_|refine zB fun b=>?_|refine zC fun a' c' hc1 hc2=>?_|(apply GJ.a;exact rfl;intro hg)|(apply GJ.o;exact rfl;intro hg)
    refine zCC (t:=t) (s:=s5) ?_
    by_cases he5:s5.e=0
    ·rw [decide_eq_true (show (s5.e:Int)=0 by omega)]
     repeat first|exact zE|refine zP ?_|refine zB fun b=>?_|refine zC fun a' c' hc1 hc2=>?_|(apply GJ.a;exact rfl;intro hg)|(apply GJ.o;exact rfl;intro hg)
     refine zCs ?_
     by_cases hz0:SetD.not z=zeroS
     ·rw [if_pos ⟨he5,hz0⟩] at hck
      rw [if_pos (show SetD.not z=⟨0,0,0,0⟩ from hz0)]
      repeat first|exact zE|refine zP ?_|refine zB fun b=>?_|refine zC fun a' c' hc1 hc2=>?_|(apply GJ.a;exact rfl;intro hg)|(apply GJ.o;exact rfl;intro hg)
      refine zAv (t:=t) (s:=s5) 160 a rfl rfl ?_
      repeat first|exact zE|refine zP ?_|refine zB fun b=>?_|refine zC fun a' c' hc1 hc2=>?_|(apply GJ.a;exact rfl;intro hg)|(apply GJ.o;exact rfl;intro hg)
      exact Wk.outS Sup.z (p2 _) hck
     ·rw [if_neg (fun x=>hz0 x.2)] at hck
      rw [if_neg (show ¬SetD.not z=⟨0,0,0,0⟩ from hz0)]
      repeat first|exact zE|refine zP ?_|refine zB fun b=>?_|refine zC fun a' c' hc1 hc2=>?_|(apply GJ.a;exact rfl;intro hg)|(apply GJ.o;exact rfl;intro hg)
      exact Wk.outS Sup.z (p2 _) hck
    ·rw [decide_eq_false (show ¬(s5.e:Int)=0 by omega)]
     rw [if_neg (fun x=>he5 x.1)] at hck
     repeat first|exact zE|refine zP ?_|refine zB fun b=>?_|refine zC fun a' c' hc1 hc2=>?_|(apply GJ.a;exact rfl;intro hg)|(apply GJ.o;exact rfl;intro hg)
     exact Wk.outS Sup.z (p2 _) hck
  | false =>
    rw [show zDm false z=z from rfl] at hck
    repeat first|exact zE|refine zP ?_|refine zB fun b=>?_|refine zC fun a' c' hc1 hc2=>?_|(apply GJ.a;exact rfl;intro hg)|(apply GJ.o;exact rfl;intro hg)
    refine zCC (t:=t) (s:=s5) ?_
    by_cases he5:s5.e=0
    ·rw [decide_eq_true (show (s5.e:Int)=0 by omega)]
     repeat first|exact zE|refine zP ?_|refine zB fun b=>?_|refine zC fun a' c' hc1 hc2=>?_|(apply GJ.a;exact rfl;intro hg)|(apply GJ.o;exact rfl;intro hg)
     refine zCs ?_
     by_cases hz0:z=zeroS
     ·rw [if_pos ⟨he5,hz0⟩] at hck
      rw [if_pos (show z=⟨0,0,0,0⟩ from hz0)]
      repeat first|exact zE|refine zP ?_|refine zB fun b=>?_|refine zC fun a' c' hc1 hc2=>?_|(apply GJ.a;exact rfl;intro hg)|(apply GJ.o;exact rfl;intro hg)
      refine zAv (t:=t) (s:=s5) 160 a rfl rfl ?_
      repeat first|exact zE|refine zP ?_|refine zB fun b=>?_|refine zC fun a' c' hc1 hc2=>?_|(apply GJ.a;exact rfl;intro hg)|(apply GJ.o;exact rfl;intro hg)
      exact Wk.outS Sup.z (p2 _) hck
     ·rw [if_neg (fun x=>hz0 x.2)] at hck
      rw [if_neg (show ¬z=⟨0,0,0,0⟩ from hz0)]
      repeat first|exact zE|refine zP ?_|refine zB fun b=>?_|refine zC fun a' c' hc1 hc2=>?_|(apply GJ.a;exact rfl;intro hg)|(apply GJ.o;exact rfl;intro hg)
      exact Wk.outS Sup.z (p2 _) hck
    ·rw [decide_eq_false (show ¬(s5.e:Int)=0 by omega)]
     rw [if_neg (fun x=>he5 x.1)] at hck
     repeat first|exact zE|refine zP ?_|refine zB fun b=>?_|refine zC fun a' c' hc1 hc2=>?_|(apply GJ.a;exact rfl;intro hg)|(apply GJ.o;exact rfl;intro hg)
     exact Wk.outS Sup.z (p2 _) hck
 rw [if_neg hz] at i1
 repeat first|exact zE|refine zP ?_|refine zB fun b=>?_|refine zC fun a' c' hc1 hc2=>?_|(apply GJ.a;exact rfl;intro hg)|(apply GJ.o;exact rfl;intro hg)
 refine zJ1 (t:=t) (s:=s1) (by omega) ?_
 repeat first|exact zE|refine zP ?_|refine zB fun b=>?_|refine zC fun a' c' hc1 hc2=>?_|(apply GJ.a;exact rfl;intro hg)|(apply GJ.o;exact rfl;intro hg)
 refine zDk (t:=t) (s:=(zAw t s1).2) 45 rfl (by decide) (by have:=zNP (t:=t) (s:=s1);omega) ?_
 have hmore:=zM8 i3 he
 have hi3:=i3.pair
 obtain ⟨hc2,hd2⟩:=pairD_lt (t:=t) (s:=s1)
 by_cases h45:zAe t (zAw t s1).2=45
 ·have e1:zAZ t s1=(((zAw t s1).1,(zAw t (zAw t s1).2.adv).1),(zAw t (zAw t s1).2.adv).2):=by unfold zAZ;rw [if_pos h45]
  rw [decide_eq_true h45,eatS,if_pos h45]
  repeat first|exact zE|refine zP ?_|refine zB fun b=>?_|refine zC fun a' c' hc1 hc2=>?_|(apply GJ.a;exact rfl;intro hg)|(apply GJ.o;exact rfl;intro hg)
  refine zJ1 (t:=t) (s:=(zAw t s1).2.adv) (by have:=zNP (t:=t) (s:=s1);show (zAw t s1).2.p+1≤_;omega) ?_
  rw [e1] at i1 hmore hi3 hc2 hd2
  dsimp only at i1 hmore hi3 hc2 hd2
  generalize (zAw t (zAw t s1).2.adv).2=s3 at i1 hmore hi3 ⊢
  generalize (zAw t (zAw t s1).2.adv).1=d2 at i1 hd2 ⊢
  generalize (zAw t s1).1=c2 at i1 hc2 ⊢
  repeat first|exact zE|refine zP ?_|refine zB fun b=>?_|refine zC fun a' c' hc1 hc2=>?_|(apply GJ.a;exact rfl;intro hg)|(apply GJ.o;exact rfl;intro hg)
  by_cases hlt:d2<c2
  ·rw [if_pos hlt] at i1
   repeat first|exact zE|refine zP ?_|refine zB fun b=>?_|refine zC fun a' c' hc1 hc2=>?_|(apply GJ.a;exact rfl;intro hg)|(apply GJ.o;exact rfl;intro hg)
   refine zAv (t:=t) (s:=s3) 1 a rfl rfl ?_
   repeat first|exact zE|refine zP ?_|refine zB fun b=>?_|refine zC fun a' c' hc1 hc2=>?_|(apply GJ.a;exact rfl;intro hg)|(apply GJ.o;exact rfl;intro hg)
   refine zF3 hc2 hd2 ?_
   repeat first|exact zE|refine zP ?_|refine zB fun b=>?_|refine zC fun a' c' hc1 hc2=>?_|(apply GJ.a;exact rfl;intro hg)|(apply GJ.o;exact rfl;intro hg)
   refine or_ok i2 (zBW c2 d2) ?_
   repeat first|exact zE|refine zP ?_|refine zB fun b=>?_|refine zC fun a' c' hc1 hc2=>?_|(apply GJ.a;exact rfl;intro hg)|(apply GJ.o;exact rfl;intro hg)
   refine Wk.id ⟨(k,z.or (zDi c2 d2),s3.wrong 1 a),⟨rfl,?_⟩,?_,Sub.z,Sup.z⟩
   all_goals try dsimp only
   ·exact ⟨i1,i2.or (zBW _ _),hi3.wrong (.inl rfl) (fun _=>ha),fun h=>(zD3 (by decide) h).elim⟩
   ·omega
  ·rw [if_neg hlt] at i1
   repeat first|exact zE|refine zP ?_|refine zB fun b=>?_|refine zC fun a' c' hc1 hc2=>?_|(apply GJ.a;exact rfl;intro hg)|(apply GJ.o;exact rfl;intro hg)
   refine zF3 hc2 hd2 ?_
   repeat first|exact zE|refine zP ?_|refine zB fun b=>?_|refine zC fun a' c' hc1 hc2=>?_|(apply GJ.a;exact rfl;intro hg)|(apply GJ.o;exact rfl;intro hg)
   refine or_ok i2 (zBW c2 d2) ?_
   repeat first|exact zE|refine zP ?_|refine zB fun b=>?_|refine zC fun a' c' hc1 hc2=>?_|(apply GJ.a;exact rfl;intro hg)|(apply GJ.o;exact rfl;intro hg)
   refine Wk.id ⟨(k,z.or (zDi c2 d2),s3),⟨rfl,?_⟩,?_,Sub.z,Sup.z⟩
   all_goals try dsimp only
   ·exact ⟨i1,i2.or (zBW _ _),hi3,fun h=>by have:=hmore h;omega⟩
   ·omega
 ·have e1:zAZ t s1=(((zAw t s1).1,(zAw t s1).1),(zAw t s1).2):=by unfold zAZ;rw [if_neg h45]
  rw [decide_eq_false h45,eatS,if_neg h45]
  rw [e1] at i1 hmore hi3 hc2 hd2
  dsimp only at i1 hmore hi3 hc2 hd2
  generalize (zAw t s1).2=s3 at i1 hmore hi3 ⊢
  generalize (zAw t s1).1=c2 at i1 hc2 hd2 ⊢
  have hlt:¬c2<c2:=Nat.lt_irrefl _
  rw [if_neg hlt] at i1
  repeat first|exact zE|refine zP ?_|refine zB fun b=>?_|refine zC fun a' c' hc1 hc2=>?_|(apply GJ.a;exact rfl;intro hg)|(apply GJ.o;exact rfl;intro hg)
  refine zF3 hc2 hd2 ?_
  repeat first|exact zE|refine zP ?_|refine zB fun b=>?_|refine zC fun a' c' hc1 hc2=>?_|(apply GJ.a;exact rfl;intro hg)|(apply GJ.o;exact rfl;intro hg)
  refine or_ok i2 (zBW c2 c2) ?_
  repeat first|exact zE|refine zP ?_|refine zB fun b=>?_|refine zC fun a' c' hc1 hc2=>?_|(apply GJ.a;exact rfl;intro hg)|(apply GJ.o;exact rfl;intro hg)
  refine Wk.id ⟨(k,z.or (zDi c2 c2),s3),⟨rfl,?_⟩,?_,Sub.z,Sup.z⟩
  all_goals try dsimp only
  ·exact ⟨i1,i2.or (zBW _ _),hi3,fun h=>by have:=hmore h;omega⟩
  ·omega
end
end Go.Proofs.YtmaennnkaoollaaGreatDoor
end
section
namespace Go.Proofs
open Go.Shelf
def Tryz.laysMul_ren:Go.Shelf.Ren:=⟨fun|264=>143|n=>n,fun|53=>22|46=>137|n=>n,fun|n=>n⟩
theorem Tryz.laysMul:Go.Proofs.Lays.n264 Tryz.prog Tryz.laysMul_ren:={
 mixed:=by kernel_rfl
 f264:=Tryz.func143.trans (congrArg some (by kernel_rfl))
 t46:=Tryz.underlying137
 a46:=Tryz.isAgg137
 z46:=Tryz.sizeOf137
 v46:=Tryz.zeroValue137
 t53:=Tryz.underlying22
 a53:=Tryz.isAgg22
 z53:=Tryz.sizeOf22
 v53:=Tryz.zeroValue22 }
end Go.Proofs
namespace Go.Proofs.YtmaennnkaoollaaGreatDoor
open Go Go.E
section
variable {ro:Ro}{own r:Chs}{K:Value→Ro→Chs→Prop}{g:Chunk→Chs}
theorem mul64_ok {x y:Nat} (hx:x<18446744073709551616) (hy:y<18446744073709551616) (hk:K (.tuple #[.int .u64 ((x*y / 18446744073709551616:Nat):Int),.int .u64 ((x*y % 18446744073709551616:Nat):Int)]) ro own) :
  CallOk Tryz.prog 143 #[.int .u64 (x:Int),.int .u64 (y:Int)] ro own K:=by
 refine CallOk.ofBelow Tryz.call143 (fun w=>?_) hk
 have h:=Go.Proofs.Any.bits_Mul64 Tryz.laysMul x y hx hy w
 rw [show Tryz.laysMul_ren.f 264=143 by kernel_rfl] at h
 refine h.mono fun e w' ⟨he,hb⟩=>⟨he,?_⟩
 rw [hb]
 exact Go.RowKit.Below.refl _ _
theorem wmul_ok {x y:Nat} (hx:x<18446744073709551616) (hy:y<18446744073709551616) (h1:x*y<18446744073709551616→K (.tuple #[.int .u64 ((x*y:Nat):Int),.int .i64 0]) ro own) (h2:18446744073709551616≤x*y→K (.tuple #[.int .u64 0,.int .i64 40]) ro own) :
  CallOk Tryz.prog 140 #[.int .u64 (x:Int),.int .u64 (y:Int)] ro own K:=by
 refine CallOk.intro (args:=[_,_]) (rs:=[_,_]) T_ok Tryz.func140 Tryz.call140 rfl rfl (by kernel_rfl) rfl rfl ?_
 repeat first|exact zE|refine zP ?_|refine zB fun b=>?_|refine zC fun a' c' hc1 hc2=>?_|(apply GJ.a;exact rfl;intro hg)|(apply GJ.o;exact rfl;intro hg)
 refine mul64_ok hx hy ?_
 generalize x*y=z at h1 h2 ⊢
 repeat first|exact zE|refine zP ?_|refine zB fun b=>?_|refine zC fun a' c' hc1 hc2=>?_|(apply GJ.a;exact rfl;intro hg)|(apply GJ.o;exact rfl;intro hg)
 refine Br.cases (fun h=>?_) (fun h=>?_)
 ·repeat first|exact zE|refine zP ?_|refine zB fun b=>?_|refine zC fun a' c' hc1 hc2=>?_|(apply GJ.a;exact rfl;intro hg)|(apply GJ.o;exact rfl;intro hg)
  exact Wk.outS Sup.z (.refl _) (h2 (by omega))
 ·have h3:z<18446744073709551616:=by omega
  rw [Nat.mod_eq_of_lt h3]
  repeat first|exact zE|refine zP ?_|refine zB fun b=>?_|refine zC fun a' c' hc1 hc2=>?_|(apply GJ.a;exact rfl;intro hg)|(apply GJ.o;exact rfl;intro hg)
  exact Wk.outS Sup.z (.refl _) (h1 h3)
theorem wadd_ok {x y:Nat} (hx:x<18446744073709551616) (hy:y<18446744073709551616) (h1:x+y<18446744073709551616→K (.tuple #[.int .u64 ((x+y:Nat):Int),.int .i64 0]) ro own) (h2:18446744073709551616≤x+y→K (.tuple #[.int .u64 0,.int .i64 40]) ro own) :
  CallOk Tryz.prog 141 #[.int .u64 (x:Int),.int .u64 (y:Int)] ro own K:=by
 refine CallOk.intro (args:=[_,_]) (rs:=[_,_]) T_ok Tryz.func141 Tryz.call141 rfl rfl (by kernel_rfl) rfl rfl ?_
 repeat first|exact zE|refine zP ?_|refine zB fun b=>?_|refine zC fun a' c' hc1 hc2=>?_|(apply GJ.a;exact rfl;intro hg)|(apply GJ.o;exact rfl;intro hg)
 refine CallOk.add64 Tryz.func144 (by kernel_rfl) (by kernel_rfl) (by kernel_rfl) (by kernel_rfl) ?_
 generalize x+y=z at h1 h2 ⊢
 repeat first|exact zE|refine zP ?_|refine zB fun b=>?_|refine zC fun a' c' hc1 hc2=>?_|(apply GJ.a;exact rfl;intro hg)|(apply GJ.o;exact rfl;intro hg)
 refine Br.cases (fun h=>?_) (fun h=>?_)
 ·repeat first|exact zE|refine zP ?_|refine zB fun b=>?_|refine zC fun a' c' hc1 hc2=>?_|(apply GJ.a;exact rfl;intro hg)|(apply GJ.o;exact rfl;intro hg)
  exact Wk.outS Sup.z (.refl _) (h2 (by omega))
 ·have h3:z<18446744073709551616:=by omega
  rw [Nat.mod_eq_of_lt h3]
  repeat first|exact zE|refine zP ?_|refine zB fun b=>?_|refine zC fun a' c' hc1 hc2=>?_|(apply GJ.a;exact rfl;intro hg)|(apply GJ.o;exact rfl;intro hg)
  exact Wk.outS Sup.z (.refl _) (h1 h3)
theorem zJD {m x y:Nat} (hm:m<18446744073709551616) (hx:x<18446744073709551616) (hy:y<18446744073709551616) (h1:m*x+y<18446744073709551616→K (.tuple #[.int .u64 ((m*x+y:Nat):Int),.int .i64 0]) ro own) (h2:18446744073709551616≤m*x+y→K (.tuple #[.int .u64 0,.int .i64 40]) ro own) :
  CallOk Tryz.prog 133 #[.int .u64 (m:Int),.int .u64 (x:Int),.int .u64 (y:Int)] ro own K:=by
 refine CallOk.intro (args:=[_,_,_]) (rs:=[_,_]) T_ok Tryz.func133 Tryz.call133 rfl rfl (by kernel_rfl) rfl rfl ?_
 repeat first|exact zE|refine zP ?_|refine zB fun b=>?_|refine zC fun a' c' hc1 hc2=>?_|(apply GJ.a;exact rfl;intro hg)|(apply GJ.o;exact rfl;intro hg)
 refine wmul_ok hm hx (fun h=>?_) (fun h=>?_)
 ·repeat first|exact zE|refine zP ?_|refine zB fun b=>?_|refine zC fun a' c' hc1 hc2=>?_|(apply GJ.a;exact rfl;intro hg)|(apply GJ.o;exact rfl;intro hg)
  refine wadd_ok h hy (fun h3=>?_) (fun h3=>?_)
  ·repeat first|exact zE|refine zP ?_|refine zB fun b=>?_|refine zC fun a' c' hc1 hc2=>?_|(apply GJ.a;exact rfl;intro hg)|(apply GJ.o;exact rfl;intro hg)
   exact Wk.outS Sup.z (.refl _) (h1 h3)
  ·repeat first|exact zE|refine zP ?_|refine zB fun b=>?_|refine zC fun a' c' hc1 hc2=>?_|(apply GJ.a;exact rfl;intro hg)|(apply GJ.o;exact rfl;intro hg)
   exact Wk.outS Sup.z (.refl _) (h2 h3)
 ·repeat first|exact zE|refine zP ?_|refine zB fun b=>?_|refine zC fun a' c' hc1 hc2=>?_|(apply GJ.a;exact rfl;intro hg)|(apply GJ.o;exact rfl;intro hg)
  exact Wk.outS Sup.z (.refl _) (h2 (by omega))
theorem zLC {n m:Nat} (hn:n<18446744073709551616) (hm:m<1000000000) (h1:n≤m→K (.tuple #[.int .i64 (n:Int),.int .i64 0]) ro own) (h2:m<n→K (.tuple #[.int .i64 0,.int .i64 40]) ro own) :
  CallOk Tryz.prog 120 #[.int .u64 (n:Int),.int .i64 (m:Int)] ro own K:=by
 by_cases h:n≤m
 ·refine CallOk.intro (args:=[_,_]) (rs:=[_,_]) T_ok Tryz.func120 Tryz.call120 rfl rfl (by kernel_rfl) rfl rfl ?_
  repeat first|exact zE|refine zP ?_|refine zB fun b=>?_|refine zC fun a' c' hc1 hc2=>?_|(apply GJ.a;exact rfl;intro hg)|(apply GJ.o;exact rfl;intro hg)
  rw [zD4 (by omega)]
  exact Wk.outS Sup.z (.refl _) (h1 h)
 ·refine CallOk.intro (args:=[_,_]) (rs:=[_,_]) T_ok Tryz.func120 Tryz.call120 rfl rfl (by kernel_rfl) rfl rfl ?_
  repeat first|exact zE|refine zP ?_|refine zB fun b=>?_|refine zC fun a' c' hc1 hc2=>?_|(apply GJ.a;exact rfl;intro hg)|(apply GJ.o;exact rfl;intro hg)
  exact Wk.outS Sup.z (.refl _) (h2 (by omega))
theorem zGp (l:List UInt8) (c:UInt8):zBT (l++[c])=10*zBT l+(c.toNat-48):=by simp [zBT]
def zCj (l:List UInt8):Bool:=l.all fun c=>zAS c.toNat
def numD (l:List UInt8):Nat × Nat:=if zDH l=true∨zCj l=false then (0,5) else if 18446744073709551616≤zBT l then (0,40) else (zBT l,0)
set_option maxHeartbeats 4000000 in
theorem zLB {l:List UInt8} (hl:l.length≤100000) (hk:K (.tuple #[.int .u64 ((numD l).1:Int),.int .i64 ((numD l).2:Int)]) ro own) :
  CallOk Tryz.prog 119 #[str l] ro own K:=by
 by_cases hb:zDH l=true
 ·have hn:numD l=(0,5):=by unfold numD;rw [if_pos (.inl hb)]
  rw [hn] at hk
  match l,hl,hb with
  | [],hl,hb =>
    refine CallOk.intro (args:=[_]) (rs:=[_,_]) T_ok Tryz.func119 Tryz.call119 rfl rfl (by kernel_rfl) rfl rfl ?_
    repeat first|exact zE|refine zP ?_|refine zB fun b=>?_|refine zC fun a' c' hc1 hc2=>?_|(apply GJ.a;exact rfl;intro hg)|(apply GJ.o;exact rfl;intro hg)
    exact Wk.outS Sup.z (.refl _) hk
  | [c],hl,hb=>simp [zDH] at hb
  | c::d::r,hl,hb =>
    have hc:c=48:=by simpa [zDH] using hb
    subst hc
    have hlen:1<(48::d::r:List UInt8).length:=by simp
    have hne:¬(48::d::r:List UInt8)=[]:=by simp
    refine CallOk.intro (args:=[_]) (rs:=[_,_]) T_ok Tryz.func119 Tryz.call119 rfl rfl (by kernel_rfl) rfl rfl ?_
    repeat first|exact zE|refine zP ?_|refine zB fun b=>?_|refine zC fun a' c' hc1 hc2=>?_|(apply GJ.a;exact rfl;intro hg)|(apply GJ.o;exact rfl;intro hg)
    refine Br.t rfl ?_
    repeat first|exact zE|refine zP ?_|refine zB fun b=>?_|refine zC fun a' c' hc1 hc2=>?_|(apply GJ.a;exact rfl;intro hg)|(apply GJ.o;exact rfl;intro hg)
    exact Wk.outS Sup.z (.refl _) hk
 ·have hne:¬l=[]:=by intro e;subst e;exact hb rfl
  have h0:1<l.length→¬(l[0]!).toNat=48:=by
   intro h e
   apply hb
   match l,h,e with
   | c::d::r,h,e =>
     have hc:c=48:=UInt8.toNat_inj.1 e
     subst hc;rfl
  have hnum:numD l=if zCj l=false then (0,5) else if 18446744073709551616≤zBT l then (0,40) else (zBT l,0):=by
   unfold numD
   by_cases ha:zCj l=false
   ·rw [if_pos (.inr ha),if_pos ha]
   ·rw [if_neg (fun x=>x.elim hb ha),if_neg ha]
  have rest:True:=trivial
  have hz:(Int.toNat 0)=0:=rfl
  refine CallOk.intro (args:=[_]) (rs:=[_,_]) T_ok Tryz.func119 Tryz.call119 rfl rfl (by kernel_rfl) rfl rfl ?_
  by_cases h1:1<l.length
  ·have h0:=h0 h1
   repeat first|exact zE|refine zP ?_|refine zB fun b=>?_|refine zC fun a' c' hc1 hc2=>?_|(apply GJ.a;exact rfl;intro hg)|(apply GJ.o;exact rfl;intro hg)
   refine Br.f (by rw [hz];omega) ?_
   repeat first|exact zE|refine zP ?_|refine zB fun b=>?_|refine zC fun a' c' hc1 hc2=>?_|(apply GJ.a;exact rfl;intro hg)|(apply GJ.o;exact rfl;intro hg)
   refine LoopOk.at (ι:=Nat × Nat × Bool) Keep.z (fun (i,n,gr)=>[(23,.int .i64 (i:Int)),(4,.int .u64 (n:Int)),(5,.bool gr)]) (fun (i,n,gr)=>own) (fun (i,n,gr)=>i≤l.length∧zCj (l.take i)=true∧n<18446744073709551616∧(gr=false→n=zBT (l.take i))∧(gr=true→18446744073709551616≤zBT (l.take i))) (fun (i,n,gr)=>l.length-i) (0,0,false) ?_ Sub.z Sup.z ?_
   ·exact ⟨Nat.zero_le _,rfl,by decide,fun _=>rfl,fun h=>by cases h⟩
   rintro ⟨i,n,gr⟩ ⟨i1,i2,i3,i4,i5⟩
   dsimp only [List.cons_append,List.nil_append] at i1 i2 i3 i4 i5 ⊢
   repeat first|exact zE|refine zP ?_|refine zB fun b=>?_|refine zC fun a' c' hc1 hc2=>?_|(apply GJ.a;exact rfl;intro hg)|(apply GJ.o;exact rfl;intro hg)
   refine Br.cases (fun hg=>?_) (fun hg=>?_)
   ·have hi:i<l.length:=by omega
    obtain ⟨c,hc⟩:∃ c,l[i]?=some c:=⟨_,List.getElem?_eq_getElem hi⟩
    have htk:l.take (i+1)=l.take i++[c]:=by rw [List.take_add_one,hc];rfl
    have hgc:l[(i:Int).toNat]! = c:=by rw [Int.toNat_natCast,List.getElem!_eq_getElem?_getD,hc];rfl
    have hcn:=c.toNat_lt
    have hbad:zAS c.toNat=false→zCj l=false:=fun h=>by
     unfold zCj
     rw [List.all_eq_false]
     exact ⟨c,List.mem_of_getElem? hc,by rw [h];decide⟩
    repeat first|exact zE|refine zP ?_|refine zB fun b=>?_|refine zC fun a' c' hc1 hc2=>?_|(apply GJ.a;exact rfl;intro hg)|(apply GJ.o;exact rfl;intro hg)
    try rw [hgc]
    by_cases hlo:c.toNat<48
    ·have hd:=hbad (by simp [zAS];omega)
     rw [hnum,if_pos hd] at hk
     repeat first|exact zE|refine zP ?_|refine zB fun b=>?_|refine zC fun a' c' hc1 hc2=>?_|(apply GJ.a;exact rfl;intro hg)|(apply GJ.o;exact rfl;intro hg)
     exact Wk.outS Sup.z (.refl _) hk
    by_cases hhi:57<c.toNat
    ·have hd:=hbad (by simp [zAS];omega)
     rw [hnum,if_pos hd] at hk
     repeat first|exact zE|refine zP ?_|refine zB fun b=>?_|refine zC fun a' c' hc1 hc2=>?_|(apply GJ.a;exact rfl;intro hg)|(apply GJ.o;exact rfl;intro hg)
     try rw [hgc]
     repeat first|exact zE|refine zP ?_|refine zB fun b=>?_|refine zC fun a' c' hc1 hc2=>?_|(apply GJ.a;exact rfl;intro hg)|(apply GJ.o;exact rfl;intro hg)
     exact Wk.outS Sup.z (.refl _) hk
    have hdig:zAS c.toNat=true:=by simp [zAS];omega
    have hall:zCj (l.take (i+1))=true:=by
     rw [htk];unfold zCj at i2 ⊢;rw [List.all_append,i2];simp [hdig]
    have hv:zBT (l.take (i+1))=10*zBT (l.take i)+(c.toNat-48):=by rw [htk,zGp]
    repeat first|exact zE|refine zP ?_|refine zB fun b=>?_|refine zC fun a' c' hc1 hc2=>?_|(apply GJ.a;exact rfl;intro hg)|(apply GJ.o;exact rfl;intro hg)
    try rw [hgc]
    repeat first|exact zE|refine zP ?_|refine zB fun b=>?_|refine zC fun a' c' hc1 hc2=>?_|(apply GJ.a;exact rfl;intro hg)|(apply GJ.o;exact rfl;intro hg)
    try rw [hgc]
    repeat first|exact zE|refine zP ?_|refine zB fun b=>?_|refine zC fun a' c' hc1 hc2=>?_|(apply GJ.a;exact rfl;intro hg)|(apply GJ.o;exact rfl;intro hg)
    rw [show ((c.toNat:Int)-48) % 256=((c.toNat-48:Nat):Int) by omega]
    refine zJD (m:=10) (x:=n) (y:=c.toNat-48) (by decide) i3 (by omega) (fun h=>?_) (fun h=>?_)
    ·repeat first|exact zE|refine zP ?_|refine zB fun b=>?_|refine zC fun a' c' hc1 hc2=>?_|(apply GJ.a;exact rfl;intro hg)|(apply GJ.o;exact rfl;intro hg)
     refine Wk.id ⟨(i+1,10*n+(c.toNat-48),gr),⟨rfl,?_⟩,?_,Sub.z,Sup.z⟩
     all_goals try dsimp only
     ·exact ⟨by omega,hall,h,fun e=>by rw [hv,i4 e],fun e=>by have:=i5 e;omega⟩
     ·omega
    ·repeat first|exact zE|refine zP ?_|refine zB fun b=>?_|refine zC fun a' c' hc1 hc2=>?_|(apply GJ.a;exact rfl;intro hg)|(apply GJ.o;exact rfl;intro hg)
     refine Wk.id ⟨(i+1,0,true),⟨rfl,?_⟩,?_,Sub.z,Sup.z⟩
     all_goals try dsimp only
     ·refine ⟨by omega,hall,by decide,fun e=>(by cases e),fun _=>?_⟩
      rw [hv]
      cases gr with
      | false=>rw [←i4 rfl];exact h
      | true=>have:=i5 rfl;omega
     ·omega
   ·obtain rfl:i=l.length:=by omega
    rw [List.take_length] at i2 i4 i5
    rw [hnum,if_neg (by rw [i2];decide)] at hk
    cases gr with
    | true =>
      rw [if_pos (i5 rfl)] at hk
      repeat first|exact zE|refine zP ?_|refine zB fun b=>?_|refine zC fun a' c' hc1 hc2=>?_|(apply GJ.a;exact rfl;intro hg)|(apply GJ.o;exact rfl;intro hg)
      exact Wk.outS Sup.z (.refl _) hk
    | false =>
      rw [←i4 rfl,if_neg (by omega)] at hk
      repeat first|exact zE|refine zP ?_|refine zB fun b=>?_|refine zC fun a' c' hc1 hc2=>?_|(apply GJ.a;exact rfl;intro hg)|(apply GJ.o;exact rfl;intro hg)
      exact Wk.outS Sup.z (.refl _) hk
  ·repeat first|exact zE|refine zP ?_|refine zB fun b=>?_|refine zC fun a' c' hc1 hc2=>?_|(apply GJ.a;exact rfl;intro hg)|(apply GJ.o;exact rfl;intro hg)
   refine LoopOk.at (ι:=Nat × Nat × Bool) Keep.z (fun (i,n,gr)=>[(23,.int .i64 (i:Int)),(4,.int .u64 (n:Int)),(5,.bool gr)]) (fun (i,n,gr)=>own) (fun (i,n,gr)=>i≤l.length∧zCj (l.take i)=true∧n<18446744073709551616∧(gr=false→n=zBT (l.take i))∧(gr=true→18446744073709551616≤zBT (l.take i))) (fun (i,n,gr)=>l.length-i) (0,0,false) ?_ Sub.z Sup.z ?_
   ·exact ⟨Nat.zero_le _,rfl,by decide,fun _=>rfl,fun h=>by cases h⟩
   rintro ⟨i,n,gr⟩ ⟨i1,i2,i3,i4,i5⟩
   dsimp only [List.cons_append,List.nil_append] at i1 i2 i3 i4 i5 ⊢
   repeat first|exact zE|refine zP ?_|refine zB fun b=>?_|refine zC fun a' c' hc1 hc2=>?_|(apply GJ.a;exact rfl;intro hg)|(apply GJ.o;exact rfl;intro hg)
   refine Br.cases (fun hg=>?_) (fun hg=>?_)
   ·have hi:i<l.length:=by omega
    obtain ⟨c,hc⟩:∃ c,l[i]?=some c:=⟨_,List.getElem?_eq_getElem hi⟩
    have htk:l.take (i+1)=l.take i++[c]:=by rw [List.take_add_one,hc];rfl
    have hgc:l[(i:Int).toNat]! = c:=by rw [Int.toNat_natCast,List.getElem!_eq_getElem?_getD,hc];rfl
    have hcn:=c.toNat_lt
    have hbad:zAS c.toNat=false→zCj l=false:=fun h=>by
     unfold zCj
     rw [List.all_eq_false]
     exact ⟨c,List.mem_of_getElem? hc,by rw [h];decide⟩
    repeat first|exact zE|refine zP ?_|refine zB fun b=>?_|refine zC fun a' c' hc1 hc2=>?_|(apply GJ.a;exact rfl;intro hg)|(apply GJ.o;exact rfl;intro hg)
    try rw [hgc]
    by_cases hlo:c.toNat<48
    ·have hd:=hbad (by simp [zAS];omega)
     rw [hnum,if_pos hd] at hk
     repeat first|exact zE|refine zP ?_|refine zB fun b=>?_|refine zC fun a' c' hc1 hc2=>?_|(apply GJ.a;exact rfl;intro hg)|(apply GJ.o;exact rfl;intro hg)
     exact Wk.outS Sup.z (.refl _) hk
    by_cases hhi:57<c.toNat
    ·have hd:=hbad (by simp [zAS];omega)
     rw [hnum,if_pos hd] at hk
     repeat first|exact zE|refine zP ?_|refine zB fun b=>?_|refine zC fun a' c' hc1 hc2=>?_|(apply GJ.a;exact rfl;intro hg)|(apply GJ.o;exact rfl;intro hg)
     try rw [hgc]
     repeat first|exact zE|refine zP ?_|refine zB fun b=>?_|refine zC fun a' c' hc1 hc2=>?_|(apply GJ.a;exact rfl;intro hg)|(apply GJ.o;exact rfl;intro hg)
     exact Wk.outS Sup.z (.refl _) hk
    have hdig:zAS c.toNat=true:=by simp [zAS];omega
    have hall:zCj (l.take (i+1))=true:=by
     rw [htk];unfold zCj at i2 ⊢;rw [List.all_append,i2];simp [hdig]
    have hv:zBT (l.take (i+1))=10*zBT (l.take i)+(c.toNat-48):=by rw [htk,zGp]
    repeat first|exact zE|refine zP ?_|refine zB fun b=>?_|refine zC fun a' c' hc1 hc2=>?_|(apply GJ.a;exact rfl;intro hg)|(apply GJ.o;exact rfl;intro hg)
    try rw [hgc]
    repeat first|exact zE|refine zP ?_|refine zB fun b=>?_|refine zC fun a' c' hc1 hc2=>?_|(apply GJ.a;exact rfl;intro hg)|(apply GJ.o;exact rfl;intro hg)
    try rw [hgc]
    repeat first|exact zE|refine zP ?_|refine zB fun b=>?_|refine zC fun a' c' hc1 hc2=>?_|(apply GJ.a;exact rfl;intro hg)|(apply GJ.o;exact rfl;intro hg)
    rw [show ((c.toNat:Int)-48) % 256=((c.toNat-48:Nat):Int) by omega]
    refine zJD (m:=10) (x:=n) (y:=c.toNat-48) (by decide) i3 (by omega) (fun h=>?_) (fun h=>?_)
    ·repeat first|exact zE|refine zP ?_|refine zB fun b=>?_|refine zC fun a' c' hc1 hc2=>?_|(apply GJ.a;exact rfl;intro hg)|(apply GJ.o;exact rfl;intro hg)
     refine Wk.id ⟨(i+1,10*n+(c.toNat-48),gr),⟨rfl,?_⟩,?_,Sub.z,Sup.z⟩
     all_goals try dsimp only
     ·exact ⟨by omega,hall,h,fun e=>by rw [hv,i4 e],fun e=>by have:=i5 e;omega⟩
     ·omega
    ·repeat first|exact zE|refine zP ?_|refine zB fun b=>?_|refine zC fun a' c' hc1 hc2=>?_|(apply GJ.a;exact rfl;intro hg)|(apply GJ.o;exact rfl;intro hg)
     refine Wk.id ⟨(i+1,0,true),⟨rfl,?_⟩,?_,Sub.z,Sup.z⟩
     all_goals try dsimp only
     ·refine ⟨by omega,hall,by decide,fun e=>(by cases e),fun _=>?_⟩
      rw [hv]
      cases gr with
      | false=>rw [←i4 rfl];exact h
      | true=>have:=i5 rfl;omega
     ·omega
   ·obtain rfl:i=l.length:=by omega
    rw [List.take_length] at i2 i4 i5
    rw [hnum,if_neg (by rw [i2];decide)] at hk
    cases gr with
    | true =>
      rw [if_pos (i5 rfl)] at hk
      repeat first|exact zE|refine zP ?_|refine zB fun b=>?_|refine zC fun a' c' hc1 hc2=>?_|(apply GJ.a;exact rfl;intro hg)|(apply GJ.o;exact rfl;intro hg)
      exact Wk.outS Sup.z (.refl _) hk
    | false =>
      rw [←i4 rfl,if_neg (by omega)] at hk
      repeat first|exact zE|refine zP ?_|refine zB fun b=>?_|refine zC fun a' c' hc1 hc2=>?_|(apply GJ.a;exact rfl;intro hg)|(apply GJ.o;exact rfl;intro hg)
      exact Wk.outS Sup.z (.refl _) hk
end
theorem dropW {α:Type}{p:α→Bool}:∀ {l q:List α}{x:α},l.dropWhile p=x::q→p x=false
 | [],_,_,h=>by cases h
 | y::l,q,x,h=>by
   rw [List.dropWhile_cons] at h
   split at h
   ·exact dropW h
   ·rename_i hy;cases h;simpa using hy
theorem zM5 {t:List UInt8}{s:RS}{j:Nat} (h0:s.e=0) (hj:j≤(zBx (t.drop s.p)).length):zAS (zAe t { s with p:=s.p+j })=decide (j<(zBx (t.drop s.p)).length):=by
 have h3:t.drop s.p=zBx (t.drop s.p)++(t.drop s.p).dropWhile (fun c=>zAS c.toNat):=List.takeWhile_append_dropWhile.symm
 have hall:=zFr (t.drop s.p)
 have h4:∀ x q,(t.drop s.p).dropWhile (fun c=>zAS c.toNat)=x::q→zAS x.toNat=false:=fun x q h=>dropW (p:=fun c:UInt8=>zAS c.toNat) h
 generalize zBx (t.drop s.p)=ds at h3 hj hall ⊢
 generalize (t.drop s.p).dropWhile (fun c=>zAS c.toNat)=rs at h3 h4
 have h5:t.drop (s.p+j)=ds.drop j++rs:=by rw [←List.drop_drop,h3,List.drop_append_of_le_length hj]
 rcases Nat.lt_or_ge j ds.length with hlt|hge
 ·rw [decide_eq_true hlt]
  have h6:t.drop (s.p+j)=ds[j]::(ds.drop (j+1)++rs):=by rw [h5,List.drop_eq_getElem_cons hlt];rfl
  rw [zAl (s:={ s with p:=s.p+j }) h0 h6]
  exact hall _ (List.getElem_mem hlt)
 ·rw [decide_eq_false (by omega)]
  rw [List.drop_eq_nil_of_le hge,List.nil_append] at h5
  cases rs with
  | nil=>rw [zEn (s:={ s with p:=s.p+j }) h5];rfl
  | cons x q=>rw [zAl (s:={ s with p:=s.p+j }) h0 h5];exact h4 x q rfl
section
variable {ro:Ro}{own r:Chs}{K:Value→Ro→Chs→Prop}{g:Chunk→Chs}{q:Nat}{t:List UInt8}
set_option maxHeartbeats 4000000 in
theorem zHS {s:RS} [hb:HasBlk own q 68 (rsV t s) g] (h0:s.e=0) (hp:s.p≤t.length) (hl:t.length≤10000) (hk:K (.int .i64 ((zAg t s).1:Int)) ro (g (.blk q 68 (rsV t (zAg t s).2)))) :
  CallOk Tryz.prog 113 #[ptr' q] ro own K:=by
 obtain ⟨r,p1,p2⟩:=hb.split
 refine CallOk.perm p1 ?_
 have hdl:=zJv (t.drop s.p)
 rw [List.length_drop] at hdl
 have hall:=zFr (t.drop s.p)
 have hpk:=fun j=>zM5 (t:=t) (s:=s) (j:=j) h0
 have hcut:(t.drop s.p).take (zBx (t.drop s.p)).length=zBx (t.drop s.p):=by
  have h3:t.drop s.p=zBx (t.drop s.p)++(t.drop s.p).dropWhile (fun c=>zAS c.toNat):=List.takeWhile_append_dropWhile.symm
  conv=>lhs;rw [h3]
  rw [show (zBx (zBx (t.drop s.p)++(t.drop s.p).dropWhile (fun c=>zAS c.toNat)))=zBx (t.drop s.p) by rw [←h3]]
  simp
 unfold zAg at hk
 dsimp only at hk
 generalize zBx (t.drop s.p)=ds at hdl hall hpk hcut hk
 refine CallOk.intro (args:=[_]) (rs:=[_]) T_ok Tryz.func113 Tryz.call113 rfl rfl (by kernel_rfl) rfl rfl ?_
 repeat first|exact zE|refine zP ?_|refine zB fun b=>?_|refine zC fun a' c' hc1 hc2=>?_|(apply GJ.a;exact rfl;intro hg)|(apply GJ.o;exact rfl;intro hg)
 refine zCc (t:=t) (s:=s) ?_
 repeat first|exact zE|refine zP ?_|refine zB fun b=>?_|refine zC fun a' c' hc1 hc2=>?_|(apply GJ.a;exact rfl;intro hg)|(apply GJ.o;exact rfl;intro hg)
 refine LoopOk.at (ι:=Nat) Keep.z (fun j=>[(4,.int .u8 (zAe t { s with p:=s.p+j }:Int))]) (fun j=>.blk q 68 (rsV t { s with p:=s.p+j })::r) (fun j=>j≤ds.length) (fun j=>ds.length-j) 0 ?_ Sub.z Sup.z ?_
 ·exact Nat.zero_le _
 rintro j j1
 dsimp only [List.cons_append,List.nil_append] at j1 ⊢
 have hd:=hpk j j1
 have hlt:=zDN t { s with p:=s.p+j }
 by_cases hj:j<ds.length
 ·rw [decide_eq_true hj] at hd
  simp only [zAS,Bool.and_eq_true,decide_eq_true_iff] at hd
  generalize zAe t { s with p:=s.p+j }=c at hd hlt ⊢
  repeat first|exact zE|refine zP ?_|refine zB fun b=>?_|refine zC fun a' c' hc1 hc2=>?_|(apply GJ.a;exact rfl;intro hg)|(apply GJ.o;exact rfl;intro hg)
  have e1:(.blk q 68 [str t,.int .i64 (((s.p+j:Nat):Int)+1),.int .i64 (s.n:Int),.int .i64 (s.e:Int),.int .i64 (s.f:Int)]:Chunk)=.blk q 68 (rsV t { s with p:=s.p+(j+1) }):=rfl
  rw [e1]
  refine zCc (t:=t) (s:={ s with p:=s.p+(j+1) }) ?_
  repeat first|exact zE|refine zP ?_|refine zB fun b=>?_|refine zC fun a' c' hc1 hc2=>?_|(apply GJ.a;exact rfl;intro hg)|(apply GJ.o;exact rfl;intro hg)
  refine Wk.id ⟨j+1,⟨rfl,?_⟩,?_,Sub.z,Sup.z⟩
  all_goals try dsimp only
  ·omega
  ·omega
 ·obtain rfl:j=ds.length:=by omega
  rw [decide_eq_false hj] at hd
  have hd:¬zAS (zAe t { s with p:=s.p+ds.length })=true:=by rw [hd];decide
  simp only [zAS,Bool.and_eq_true,decide_eq_true_iff] at hd
  generalize zAe t { s with p:=s.p+ds.length }=c at hd hlt ⊢
  have hs1e:({ s with p:=s.p+ds.length }:RS).e=0:=h0
  repeat first|exact zE|refine zP ?_|refine zB fun b=>?_|refine zC fun a' c' hc1 hc2=>?_|(apply GJ.a;exact rfl;intro hg)|(apply GJ.o;exact rfl;intro hg)
  rw [show ((s.p+ds.length:Nat):Int).toNat-((s.p:Nat):Int).toNat=ds.length by omega,Int.toNat_natCast,hcut]
  refine zLB (l:=ds) (by omega) ?_
  have hall2:zCj ds=true:=by unfold zCj;rw [List.all_eq_true];exact hall
  have hnum:numD ds=if zDH ds=true then (0,5) else if 18446744073709551616≤zBT ds then (0,40) else (zBT ds,0):=by
   unfold numD
   by_cases ha:zDH ds=true
   ·rw [if_pos (.inl ha),if_pos ha]
   ·rw [if_neg (fun x=>x.elim ha (by rw [hall2];decide)),if_neg ha]
  rw [hnum]
  by_cases hbn:zDH ds=true
  ·rw [if_pos hbn] at hk ⊢
   repeat first|exact zE|refine zP ?_|refine zB fun b=>?_|refine zC fun a' c' hc1 hc2=>?_|(apply GJ.a;exact rfl;intro hg)|(apply GJ.o;exact rfl;intro hg)
   refine zAv (t:=t) (s:={ s with p:=s.p+ds.length }) 5 s.p rfl rfl ?_
   repeat first|exact zE|refine zP ?_|refine zB fun b=>?_|refine zC fun a' c' hc1 hc2=>?_|(apply GJ.a;exact rfl;intro hg)|(apply GJ.o;exact rfl;intro hg)
   exact Wk.outS Sup.z (p2 _) hk
  rw [if_neg hbn] at hk ⊢
  by_cases hbig:18446744073709551616≤zBT ds
  ·rw [if_pos (show 256<zBT ds by omega)] at hk
   rw [if_pos hbig]
   repeat first|exact zE|refine zP ?_|refine zB fun b=>?_|refine zC fun a' c' hc1 hc2=>?_|(apply GJ.a;exact rfl;intro hg)|(apply GJ.o;exact rfl;intro hg)
   refine zLC (n:=0) (m:=256) (by decide) (by decide) (fun _=>?_) (fun h=>absurd h (by decide))
   repeat first|exact zE|refine zP ?_|refine zB fun b=>?_|refine zC fun a' c' hc1 hc2=>?_|(apply GJ.a;exact rfl;intro hg)|(apply GJ.o;exact rfl;intro hg)
   refine zAv (t:=t) (s:={ s with p:=s.p+ds.length }) 1 s.p rfl rfl ?_
   repeat first|exact zE|refine zP ?_|refine zB fun b=>?_|refine zC fun a' c' hc1 hc2=>?_|(apply GJ.a;exact rfl;intro hg)|(apply GJ.o;exact rfl;intro hg)
   exact Wk.outS Sup.z (p2 _) hk
  rw [if_neg hbig]
  generalize zBT ds=v at hbig hk ⊢
  repeat first|exact zE|refine zP ?_|refine zB fun b=>?_|refine zC fun a' c' hc1 hc2=>?_|(apply GJ.a;exact rfl;intro hg)|(apply GJ.o;exact rfl;intro hg)
  refine zLC (n:=v) (m:=256) (by omega) (by decide) (fun hle=>?_) (fun hgt=>?_)
  ·rw [if_neg (by omega)] at hk
   repeat first|exact zE|refine zP ?_|refine zB fun b=>?_|refine zC fun a' c' hc1 hc2=>?_|(apply GJ.a;exact rfl;intro hg)|(apply GJ.o;exact rfl;intro hg)
   exact Wk.outS Sup.z (p2 _) hk
  ·rw [if_pos hgt] at hk
   repeat first|exact zE|refine zP ?_|refine zB fun b=>?_|refine zC fun a' c' hc1 hc2=>?_|(apply GJ.a;exact rfl;intro hg)|(apply GJ.o;exact rfl;intro hg)
   refine zAv (t:=t) (s:={ s with p:=s.p+ds.length }) 1 s.p rfl rfl ?_
   repeat first|exact zE|refine zP ?_|refine zB fun b=>?_|refine zC fun a' c' hc1 hc2=>?_|(apply GJ.a;exact rfl;intro hg)|(apply GJ.o;exact rfl;intro hg)
   exact Wk.outS Sup.z (p2 _) hk
theorem zKB {s:RS}:(zAg t s).2.p≤s.p+t.length:=by
 have hdl:=zJv (t.drop s.p)
 rw [List.length_drop] at hdl
 have hw:∀ (s1:RS) (e f:Nat),(s1.wrong e f).p=s1.p:=fun s1 e f=>by unfold RS.wrong;split<;>rfl
 unfold zAg
 dsimp only
 repeat' split
 all_goals (try rw [hw]);dsimp only;omega
theorem zI6 {s:RS}:(zAg t s).1≤256:=by
 unfold zAg
 dsimp only
 repeat' split
 all_goals dsimp only;omega
set_option maxHeartbeats 4000000 in
theorem zLh {s:RS} [hb:HasBlk own q 68 (rsV t s) g] (h0:s.e=0) (hp:s.p≤t.length) (hl:t.length≤10000) (hk:K (.tuple #[.int .i64 ((zAs t s).1.1:Int),.int .i64 (zAs t s).1.2]) ro (g (.blk q 68 (rsV t (zAs t s).2)))) :
  CallOk Tryz.prog 102 #[ptr' q] ro own K:=by
 obtain ⟨r,p1,p2⟩:=hb.split
 refine CallOk.perm p1 ?_
 have hcp:=zKB (t:=t) (s:=s)
 have hcl:=zI6 (t:=t) (s:=s)
 unfold zAs at hk
 dsimp only at hk
 refine CallOk.intro (args:=[_]) (rs:=[_,_]) T_ok Tryz.func102 Tryz.call102 rfl rfl (by kernel_rfl) rfl rfl ?_
 repeat first|exact zE|refine zP ?_|refine zB fun b=>?_|refine zC fun a' c' hc1 hc2=>?_|(apply GJ.a;exact rfl;intro hg)|(apply GJ.o;exact rfl;intro hg)
 refine zHS (t:=t) (s:=s) h0 hp hl ?_
 obtain ⟨lo,hlo⟩:∃ z,z=(zAg t s).1:=⟨_,rfl⟩
 obtain ⟨s1,hs1⟩:∃ z,z=(zAg t s).2:=⟨_,rfl⟩
 rw [←hlo] at hcl
 rw [←hs1] at hcp
 rw [←hlo,←hs1] at hk ⊢
 repeat first|exact zE|refine zP ?_|refine zB fun b=>?_|refine zC fun a' c' hc1 hc2=>?_|(apply GJ.a;exact rfl;intro hg)|(apply GJ.o;exact rfl;intro hg)
 refine zDk (t:=t) (s:=s1) 44 rfl (by decide) (by omega) ?_
 by_cases h44:zAe t s1=44
 ·rw [if_pos h44] at hk
  rw [decide_eq_true h44,eatS,if_pos h44]
  have hpp:=zAF (t:=t) (s:=s1) (by rw [h44];decide)
  repeat first|exact zE|refine zP ?_|refine zB fun b=>?_|refine zC fun a' c' hc1 hc2=>?_|(apply GJ.a;exact rfl;intro hg)|(apply GJ.o;exact rfl;intro hg)
  refine zCc (t:=t) (s:=s1.adv) ?_
  by_cases h125:zAe t s1.adv=125
  ·rw [if_pos h125] at hk
   dsimp only at hk
   rw [if_neg (by omega)] at hk
   rw [h125]
   repeat first|exact zE|refine zP ?_|refine zB fun b=>?_|refine zC fun a' c' hc1 hc2=>?_|(apply GJ.a;exact rfl;intro hg)|(apply GJ.o;exact rfl;intro hg)
   refine zDP (t:=t) (s:=s1.adv) 125 rfl (by decide) (by show s1.p+1≤_;omega) ?_
   repeat first|exact zE|refine zP ?_|refine zB fun b=>?_|refine zC fun a' c' hc1 hc2=>?_|(apply GJ.a;exact rfl;intro hg)|(apply GJ.o;exact rfl;intro hg)
   exact Wk.outS Sup.z (p2 _) hk
  ·rw [if_neg h125] at hk
   dsimp only at hk
   have hcp2:=zKB (t:=t) (s:=s1.adv)
   have hcl2:=zI6 (t:=t) (s:=s1.adv)
   have hap:s1.adv.p=s1.p+1:=rfl
   have h125':¬(zAe t s1.adv:Int)=125:=by omega
   generalize zAe t s1.adv=c at h125' ⊢
   repeat first|exact zE|refine zP ?_|refine zB fun b=>?_|refine zC fun a' c' hc1 hc2=>?_|(apply GJ.a;exact rfl;intro hg)|(apply GJ.o;exact rfl;intro hg)
   refine zHS (t:=t) (s:=s1.adv) hpp.1 (by omega) hl ?_
   generalize (zAg t s1.adv).1=hi at hk hcl2 ⊢
   generalize (zAg t s1.adv).2=s2 at hk hcp2 ⊢
   repeat first|exact zE|refine zP ?_|refine zB fun b=>?_|refine zC fun a' c' hc1 hc2=>?_|(apply GJ.a;exact rfl;intro hg)|(apply GJ.o;exact rfl;intro hg)
   refine zDP (t:=t) (s:=s2) 125 rfl (by decide) (by omega) ?_
   by_cases hlt:hi<lo
   ·rw [if_pos (by omega)] at hk
    repeat first|exact zE|refine zP ?_|refine zB fun b=>?_|refine zC fun a' c' hc1 hc2=>?_|(apply GJ.a;exact rfl;intro hg)|(apply GJ.o;exact rfl;intro hg)
    refine zAv (t:=t) (s:=zBc t 125 s2) 1 s.p rfl rfl ?_
    repeat first|exact zE|refine zP ?_|refine zB fun b=>?_|refine zC fun a' c' hc1 hc2=>?_|(apply GJ.a;exact rfl;intro hg)|(apply GJ.o;exact rfl;intro hg)
    exact Wk.outS Sup.z (p2 _) hk
   ·rw [if_neg (by omega)] at hk
    repeat first|exact zE|refine zP ?_|refine zB fun b=>?_|refine zC fun a' c' hc1 hc2=>?_|(apply GJ.a;exact rfl;intro hg)|(apply GJ.o;exact rfl;intro hg)
    exact Wk.outS Sup.z (p2 _) hk
 ·rw [if_neg h44] at hk
  dsimp only at hk
  rw [if_neg (by omega)] at hk
  rw [decide_eq_false h44,eatS,if_neg h44]
  repeat first|exact zE|refine zP ?_|refine zB fun b=>?_|refine zC fun a' c' hc1 hc2=>?_|(apply GJ.a;exact rfl;intro hg)|(apply GJ.o;exact rfl;intro hg)
  refine zDP (t:=t) (s:=s1) 125 rfl (by decide) (by omega) ?_
  repeat first|exact zE|refine zP ?_|refine zB fun b=>?_|refine zC fun a' c' hc1 hc2=>?_|(apply GJ.a;exact rfl;intro hg)|(apply GJ.o;exact rfl;intro hg)
  exact Wk.outS Sup.z (p2 _) hk
end
mutual
def RgOk (ro:Ro):RgD→List Value→Prop
 | .mk k z l x y,v=>∃ a c cs,v=zA7 k z a l.length c x y∧SetIn z∧Rs ro a l.length c 8 cs∧RgsOk ro l cs
def RgsOk (ro:Ro):List RgD→List Value→Prop
 | [],cs=>cs=[]
 | n::l,cs=>∃ v r,cs=v++r∧RgOk ro n v∧RgsOk ro l r
end
theorem RgOk.cells {ro:Ro}{n:RgD}{v:List Value} (h:RgOk ro n v):∃ a c,v=zA7 n.kind n.set a n.kids.length c n.min n.max:=by
 obtain ⟨k,z,l,x,y⟩:=n
 rw [RgOk] at h
 obtain ⟨a,c,cs,h1,_⟩:=h
 exact ⟨a,c,h1⟩
theorem RgOk.len {ro:Ro}{n:RgD}{v:List Value} (h:RgOk ro n v):v.length=8:=by obtain ⟨a,c,rfl⟩:=h.cells;rfl
theorem RgsOk.len {ro:Ro}:∀ {l:List RgD}{cs:List Value},RgsOk ro l cs→cs.length=l.length*8
 | [],cs,h=>by rw [RgsOk] at h;subst h;rfl
 | n::l,cs,h=>by
   rw [RgsOk] at h
   obtain ⟨v,r,rfl,h1,h2⟩:=h
   rw [List.length_append,h1.len,RgsOk.len h2,List.length_cons];omega
theorem RgsOk.snoc {ro:Ro}{n:RgD}{v:List Value} (hv:RgOk ro n v):∀ {l:List RgD}{cs:List Value},RgsOk ro l cs→RgsOk ro (l++[n]) (cs++v)
 | [],cs,h=>by
   rw [RgsOk] at h;subst h
   rw [List.nil_append,List.nil_append,RgsOk]
   exact ⟨v,[],by simp,hv,by rw [RgsOk]⟩
 | m::l,cs,h=>by
   rw [RgsOk] at h
   obtain ⟨u,r,rfl,h1,h2⟩:=h
   rw [List.cons_append,RgsOk]
   exact ⟨u,r++v,by rw [List.append_assoc],h1,RgsOk.snoc hv h2⟩
theorem RgsOk.get {ro:Ro}:∀ {l:List RgD}{cs:List Value}{i:Nat}{n:RgD},RgsOk ro l cs→l[i]?=some n→RgOk ro n ((cs.drop (i*8)).take 8)
 | [],_,_,_,_,h=>by simp at h
 | m::l,cs,0,n,h,hi=>by
   rw [RgsOk] at h
   obtain ⟨u,r,rfl,h1,h2⟩:=h
   simp at hi;subst hi
   have:=h1.len
   simpa [←this] using h1
 | m::l,cs,i+1,n,h,hi=>by
   rw [RgsOk] at h
   obtain ⟨u,r,rfl,h1,h2⟩:=h
   have:=RgsOk.get h2 (i:=i) (by simpa using hi)
   rw [show (i+1)*8=u.length+i*8 by rw [h1.len];omega,←List.drop_drop]
   simpa using this
def LeOk (n:RgD):Prop:=∀ {ro ro':Ro}{v:List Value},Le ro ro'→RgOk ro n v→RgOk ro' n v
theorem RgsOk.le':∀ {l:List RgD},(∀ x∈l,LeOk x)→∀ {ro ro':Ro}{cs:List Value},Le ro ro'→RgsOk ro l cs→RgsOk ro' l cs
 | [],_,_,_,_,_,h=>by rw [RgsOk] at h ⊢;exact h
 | n::l,hx,ro,ro',cs,hl,h=>by
   rw [RgsOk] at h ⊢
   obtain ⟨v,r,rfl,h1,h2⟩:=h
   exact ⟨v,r,rfl,hx n (by simp) hl h1,RgsOk.le' (fun y hy=>hx y (by simp [hy])) hl h2⟩
theorem leOk:∀ n,LeOk n:=RgD.ind fun k z l x y ih {ro ro' v} hl h=>by
 rw [RgOk] at h ⊢
 obtain ⟨a,c,cs,h1,h2,h3,h4⟩:=h
 exact ⟨a,c,cs,h1,h2,h3.up,RgsOk.le' ih hl h4⟩
theorem RgOk.le {ro ro':Ro}{n:RgD}{v:List Value} (h:RgOk ro n v) (hl:Le ro ro'):RgOk ro' n v:=leOk n hl h
theorem RgsOk.le {ro ro':Ro}{l:List RgD}{cs:List Value} (h:RgsOk ro l cs) (hl:Le ro ro'):RgsOk ro' l cs:=RgsOk.le' (fun x _=>leOk x) hl h
theorem RgOk.leaf {ro:Ro}{k:Int}{z:SetD}{x y:Int} (hz:SetIn z):RgOk ro (.mk k z [] x y) (zA7 k z none 0 0 x y):=by
 rw [RgOk];exact ⟨none,0,[],rfl,hz,Rs.nil ro 8,by rw [RgsOk]⟩
theorem setD_in {t:List UInt8}{a:Nat}{s:RS}:SetIn (setD t a s).1:=by
 unfold setD
 dsimp only
 unfold zDm
 split
 ·exact SetIn.not _
 ·exact zIV zeroS_in
def AltC (t:List UInt8) (d:Nat):Prop:=∀ {ro:Ro}{own:Chs}{g:Chunk→Chs}{q:Nat}{s:RS}{K:Value→Ro→Chs→Prop},HasBlk own q 68 (rsV t s) g→Inv t s→s.e=0→s.n≤512 →
 (∀ ro' v,Le ro ro'→RgOk ro' (altD t d s).1 v→K (.agg v.toArray) ro' (g (.blk q 68 (rsV t (altD t d s).2))))→CallOk Tryz.prog 22 #[ptr' q,.int .i64 (33-(d:Int))] ro own K
section
variable {ro:Ro}{own r:Chs}{K:Value→Ro→Chs→Prop}{g:Chunk→Chs}{q:Nat}{t:List UInt8}
theorem ofD_ok {b:Nat}{x:Nat} (hx:x<256) (hk:∀ ro',Le ro ro'→K (.agg (setV (ofD x)).toArray) ro' r):CallOk Tryz.prog 111 #[.slice (some ⟨b,0,none⟩) 1 1] ro (.sl (some ⟨b,0,none⟩) 1 1 5 1 [.int .u8 (x:Int)]::r) K:=by
 have hu:(UInt8.ofNat x).toNat=x:=UInt8.toNat_ofNat_of_lt' hx
 refine CallOk.freeze (c:=.sl (some ⟨b,0,none⟩) _ _ _ _ _) Take.auto (fun ro1 hl1 hc1=>?_)
 have hB:Bys ro1 (some ⟨b,0,none⟩) [UInt8.ofNat x].length 1 [UInt8.ofNat x]:=by
  have:=Rs.last hc1
  show Rs ro1 _ 1 1 1 [.int .u8 ((UInt8.ofNat x).toNat:Int)]
  rw [hu];exact this
 refine of_ok (l:=[UInt8.ofNat x]) hB (by simp) (fun s h1 h2=>?_)
 have:s=ofD x:=SetD.ext h1 (of_in hx) fun d hd=>by
  have e:=h2 (UInt8.ofNat d)
  rw [UInt8.toNat_ofNat_of_lt' hd] at e
  rw [e,of_has hx hd,decide_eq_decide,List.mem_singleton]
  constructor
  ·intro h;have:=congrArg UInt8.toNat h;rwa [UInt8.toNat_ofNat_of_lt' hd,hu] at this
  ·intro h;rw [h]
 rw [this]
 exact hk ro1 hl1
set_option maxHeartbeats 8000000 in
theorem atom_ok {s:RS} [hb:HasBlk own q 68 (rsV t s) g] {d:Nat}{x:Int} (ha:AltC t d) (hx:x=32-(d:Int)) (hd:d≤32) (hi:Inv t s) (h0:s.e=0) (hn:s.n≤512) (hl:t.length≤10000)
  (hk:∀ ro' v,Le ro ro'→RgOk ro' (zBE t (altD t d) s).1 v→K (.agg v.toArray) ro' (g (.blk q 68 (rsV t (zBE t (altD t d) s).2)))) :
  CallOk Tryz.prog 101 #[ptr' q,.int .i64 x] ro own K:=by
 subst hx
 obtain ⟨r,p1,p2⟩:=hb.split
 refine CallOk.perm p1 ?_
 have hp:=hi.p0 h0
 unfold zBE at hk
 refine CallOk.intro (args:=[_,_]) (rs:=[_]) T_ok Tryz.func101 Tryz.call101 rfl rfl (by kernel_rfl) rfl rfl ?_
 repeat first|exact zE|refine zP ?_|refine zB fun b=>?_|refine zC fun a' c' hc1 hc2=>?_|(apply GJ.a;exact rfl;intro hg)|(apply GJ.o;exact rfl;intro hg)
 obtain ⟨b4,hb4⟩:∃ z:Nat,z=b:=⟨_,rfl⟩
 subst hb4
 refine zDk (t:=t) (s:=s) 40 rfl (by decide) (by omega) ?_
 by_cases h40:zAe t s=40
 ·rw [if_pos h40] at hk
  rw [decide_eq_true h40,eatS,if_pos h40]
  have hia:=hi.adv (by rw [h40];decide)
  repeat first|exact zE|refine zP ?_|refine zB fun b=>?_|refine zC fun a' c' hc1 hc2=>?_|(apply GJ.a;exact rfl;intro hg)|(apply GJ.o;exact rfl;intro hg)
  rw [show (32:Int)-(d:Int)+1=33-(d:Int) by omega]
  refine ha inferInstance hia h0 hn (fun ro1 v hl1 hv=>?_)
  obtain ⟨a1,c1,hvc⟩:=hv.cells
  have hib:Inv t (altD t d s.adv).2:=Inv.alt hia
  have hpb:=hib.p
  subst hvc
  repeat first|exact zE|refine zP ?_|refine zB fun b=>?_|refine zC fun a' c' hc1 hc2=>?_|(apply GJ.a;exact rfl;intro hg)|(apply GJ.o;exact rfl;intro hg)
  refine zDP (t:=t) (s:=(altD t d s.adv).2) 41 rfl (by decide) (by omega) ?_
  repeat first|exact zE|refine zP ?_|refine zB fun b=>?_|refine zC fun a' c' hc1 hc2=>?_|(apply GJ.a;exact rfl;intro hg)|(apply GJ.o;exact rfl;intro hg)
  exact Wk.outS Sup.z (p2 _) (hk ro1 _ hl1 hv)
 rw [if_neg h40] at hk
 rw [decide_eq_false h40,eatS,if_neg h40]
 repeat first|exact zE|refine zP ?_|refine zB fun b=>?_|refine zC fun a' c' hc1 hc2=>?_|(apply GJ.a;exact rfl;intro hg)|(apply GJ.o;exact rfl;intro hg)
 refine zDk (t:=t) (s:=s) 46 rfl (by decide) (by omega) ?_
 by_cases h46:zAe t s=46
 ·rw [if_pos h46] at hk
  rw [decide_eq_true h46,eatS,if_pos h46]
  repeat first|exact zE|refine zP ?_|refine zB fun b=>?_|refine zC fun a' c' hc1 hc2=>?_|(apply GJ.a;exact rfl;intro hg)|(apply GJ.o;exact rfl;intro hg)
  refine zOb ?_
  repeat first|exact zE|refine zP ?_|refine zB fun b=>?_|refine zC fun a' c' hc1 hc2=>?_|(apply GJ.a;exact rfl;intro hg)|(apply GJ.o;exact rfl;intro hg)
  refine zCw (t:=t) (s:=s.adv) (k:=2) (z:=allD) (a:=none) (m:=0) (c:=0) (x:=0) (y:=0) (by show s.n≤_;omega) ?_
  repeat first|exact zE|refine zP ?_|refine zB fun b=>?_|refine zC fun a' c' hc1 hc2=>?_|(apply GJ.a;exact rfl;intro hg)|(apply GJ.o;exact rfl;intro hg)
  exact Wk.outS Sup.z (p2 _) (hk ro _ (.refl _) (RgOk.leaf SetIn.all))
 rw [if_neg h46] at hk
 rw [decide_eq_false h46,eatS,if_neg h46]
 repeat first|exact zE|refine zP ?_|refine zB fun b=>?_|refine zC fun a' c' hc1 hc2=>?_|(apply GJ.a;exact rfl;intro hg)|(apply GJ.o;exact rfl;intro hg)
 refine zDk (t:=t) (s:=s) 91 rfl (by decide) (by omega) ?_
 by_cases h91:zAe t s=91
 ·rw [if_pos h91] at hk
  rw [decide_eq_true h91,eatS,if_pos h91]
  repeat first|exact zE|refine zP ?_|refine zB fun b=>?_|refine zC fun a' c' hc1 hc2=>?_|(apply GJ.a;exact rfl;intro hg)|(apply GJ.o;exact rfl;intro hg)
  refine set_ok (t:=t) (s:=s.adv) s.p rfl hp (hi.adv (by rw [h91];decide)) h0 hl ?_
  have hsn:=set_n (t:=t) (a:=s.p) (s:=s.adv)
  have hsi:=setD_in (t:=t) (a:=s.p) (s:=s.adv)
  have hsn:(setD t s.p s.adv).2.n=s.n:=hsn
  generalize (setD t s.p s.adv).1=z at hk hsi ⊢
  generalize (setD t s.p s.adv).2=s2 at hk hsn ⊢
  repeat first|exact zE|refine zP ?_|refine zB fun b=>?_|refine zC fun a' c' hc1 hc2=>?_|(apply GJ.a;exact rfl;intro hg)|(apply GJ.o;exact rfl;intro hg)
  refine zCw (t:=t) (s:=s2) (k:=2) (z:=z) (a:=none) (m:=0) (c:=0) (x:=0) (y:=0) (by omega) ?_
  repeat first|exact zE|refine zP ?_|refine zB fun b=>?_|refine zC fun a' c' hc1 hc2=>?_|(apply GJ.a;exact rfl;intro hg)|(apply GJ.o;exact rfl;intro hg)
  exact Wk.outS Sup.z (p2 _) (hk ro _ (.refl _) (RgOk.leaf hsi))
 rw [if_neg h91] at hk
 rw [decide_eq_false h91,eatS,if_neg h91]
 repeat first|exact zE|refine zP ?_|refine zB fun b=>?_|refine zC fun a' c' hc1 hc2=>?_|(apply GJ.a;exact rfl;intro hg)|(apply GJ.o;exact rfl;intro hg)
 refine zJ1 (t:=t) (s:=s) (by omega) ?_
 have hbn:=zIE (t:=t) (s:=s)
 have hbl:=zE3 (t:=t) (s:=s)
 generalize (zAw t s).1=c at hk hbl ⊢
 generalize (zAw t s).2=s2 at hk hbn ⊢
 repeat first|exact zE|refine zP ?_|refine zB fun b=>?_|refine zC fun a' c' hc1 hc2=>?_|(apply GJ.a;exact rfl;intro hg)|(apply GJ.o;exact rfl;intro hg)
 refine ofD_ok hbl (fun ro1 hl1=>?_)
 have hoi:=of_in hbl
 generalize ofD c=z at hk hoi ⊢
 repeat first|exact zE|refine zP ?_|refine zB fun b=>?_|refine zC fun a' c' hc1 hc2=>?_|(apply GJ.a;exact rfl;intro hg)|(apply GJ.o;exact rfl;intro hg)
 refine zCw (t:=t) (s:=s2) (k:=2) (z:=z) (a:=none) (m:=0) (c:=0) (x:=0) (y:=0) (by omega) ?_
 repeat first|exact zE|refine zP ?_|refine zB fun b=>?_|refine zC fun a' c' hc1 hc2=>?_|(apply GJ.a;exact rfl;intro hg)|(apply GJ.o;exact rfl;intro hg)
 exact Wk.outS Sup.z (p2 _) (hk ro1 _ hl1 (RgOk.leaf hoi))
end
theorem rep_none {t:List UInt8}{k:Nat}{n:RgD}{s:RS} (h1:¬zAe t s=42) (h2:¬zAe t s=43) (h3:¬zAe t s=63) (h4:¬zAe t s=123):repL t k n s=(n,s):=by
 cases k with
 | zero=>rfl
 | succ k=>rw [repL,if_neg h1,if_neg h2,if_neg h3,if_neg h4]
theorem zKm (s:RS):(zA3 s).p=s.p:=by
 unfold zA3 RS.wrong
 repeat' split
 all_goals rfl
theorem zJw {t:List UInt8}{s:RS} (h0:s.e=0) (h:(zAs t s).2.e=0):s.p≤(zAs t s).2.p:=by
 obtain ⟨l,⟨r1,_⟩,_⟩:=zEW h0 h
 rw [r1];show s.p≤s.p+l.length;omega
theorem RgOk.rep {ro:Ro}{n:RgD}{v:List Value}{a:Option Addr}{x y:Int} (hv:RgOk ro n v) (hr:Rs ro a 1 1 8 v):RgOk ro (repD n x y) (zA7 5 zeroS a 1 1 x y):=by
 rw [repD,RgOk]
 exact ⟨a,1,v,rfl,zeroS_in,hr,by rw [RgsOk];exact ⟨v,[],by simp,hv,by rw [RgsOk]⟩⟩
section
variable {ro:Ro}{own r:Chs}{K:Value→Ro→Chs→Prop}{g:Chunk→Chs}{q:Nat}{t:List UInt8}
set_option maxHeartbeats 8000000 in
theorem zMp {s:RS} [hb:HasBlk own q 68 (rsV t s) g] {d:Nat}{x:Int} (ha:AltC t d) (hx:x=32-(d:Int)) (hd:d≤32) (hi:Inv t s) (h0:s.e=0) (hn:s.n≤512) (hl:t.length≤10000)
  (hk:∀ ro' v,Le ro ro'→RgOk ro' (zBr t (altD t d) s).1 v→K (.agg v.toArray) ro' (g (.blk q 68 (rsV t (zBr t (altD t d) s).2)))) :
  CallOk Tryz.prog 86 #[ptr' q,.int .i64 x] ro own K:=by
 obtain ⟨r,p1,p2⟩:=hb.split
 refine CallOk.perm p1 ?_
 have hp:=hi.p0 h0
 unfold zBr at hk
 obtain ⟨R,hR⟩:∃ R,R=repL t (t.length+1) (zBE t (altD t d) s).1 (zBE t (altD t d) s).2:=⟨_,rfl⟩
 rw [←hR] at hk
 have hia:Inv t (zBE t (altD t d) s).2:=hi.atom (fun h _=>Inv.alt h) h0
 have hna:NB (513+2*d) (zBE t (altD t d) s).2:=NB.atom (by omega) (fun h0 hn=>NB.alt h0 hn) h0 hn
 refine CallOk.intro (args:=[_,_]) (rs:=[_]) T_ok Tryz.func86 Tryz.call86 rfl rfl (by kernel_rfl) rfl rfl ?_
 repeat first|exact zE|refine zP ?_|refine zB fun b=>?_|refine zC fun a' c' hc1 hc2=>?_|(apply GJ.a;exact rfl;intro hg)|(apply GJ.o;exact rfl;intro hg)
 obtain ⟨b4,hb4⟩:∃ z:Nat,z=b:=⟨_,rfl⟩
 subst hb4
 refine atom_ok (t:=t) (s:=s) ha hx hd hi h0 hn hl (fun ro1 v hl1 hv=>?_)
 generalize (zBE t (altD t d) s).1=n0 at hR hv
 generalize (zBE t (altD t d) s).2=s0 at hR hia hna ⊢
 obtain ⟨a1,c1,hvc⟩:=hv.cells
 obtain ⟨V,hV⟩:∃ V,V=v:=⟨_,rfl⟩
 rw [←hV] at hv
 subst hvc
 repeat first|exact zE|refine zP ?_|refine zB fun b=>?_|refine zC fun a' c' hc1 hc2=>?_|(apply GJ.a;exact rfl;intro hg)|(apply GJ.o;exact rfl;intro hg)
 rw [←hV]
 clear hV
 obtain ⟨b5,hb5⟩:∃ z:Nat,z=b:=⟨_,rfl⟩
 subst hb5
 refine LoopOk.auto (ι:=Nat × RgD × List Value × RS) Keep.z (fun (k,n,v,s1)=>[]) (fun (k,n,v,s1)=>.blk b5 26 v::.blk b4 26 (zA7 0 zeroS none 0 0 0 0)::.blk q 68 (rsV t s1)::r) (fun (k,n,v,s1) ro2=>RgOk ro2 n v∧repL t k n s1=R∧(s1.e=0→t.length+1≤k+s1.p)∧Inv t s1∧NB (513+2*d) s1) (fun (k,n,v,s1)=>k) (t.length+1,n0,V,s0) ?_ Sub.z Sup.z ?_
 ·exact ⟨hv,hR.symm,fun _=>by omega,hia,hna⟩
 rintro ⟨k,n,v,s1⟩ ro2 hl2 ⟨i1,i2,i3,i4,i5⟩
 dsimp only [List.cons_append,List.nil_append] at i1 i2 i3 i4 i5 ⊢
 have hp1:=i4.p
 have hn1:=i5.n
 obtain ⟨a2,c2,hvc⟩:=i1.cells
 subst hvc
 repeat first|exact zE|refine zP ?_|refine zB fun b=>?_|refine zC fun a' c' hc1 hc2=>?_|(apply GJ.a;exact rfl;intro hg)|(apply GJ.o;exact rfl;intro hg)
 refine zDk (t:=t) (s:=s1) 42 rfl (by decide) (by omega) ?_
 by_cases h42:zAe t s1=42
 ·have hpp:=zAF (t:=t) (s:=s1) (by rw [h42];decide)
  have h3:=i3 hpp.1
  obtain ⟨k,rfl⟩:∃ j,k=j+1:=⟨k-1,by omega⟩
  rw [repL,if_pos h42] at i2
  rw [decide_eq_true h42,eatS,if_pos h42]
  have hn2:s1.adv.n≤10000000:=by show s1.n≤_;omega
  have hiv:Inv t s1.adv:=i4.adv (by rw [h42];decide)
  have hsm:NB 513 (zA3 s1.adv):=i5.small hpp.1 rfl
  have hm2:(zA3 s1.adv).e=0→t.length+1≤k+(zA3 s1.adv).p:=fun _=>by rw [zKm];show _≤k+(s1.p+1);omega
  repeat first|exact zE|refine zP ?_|refine zB fun b=>?_|refine zC fun a' c' hc1 hc2=>?_|(apply GJ.a;exact rfl;intro hg)|(apply GJ.o;exact rfl;intro hg)
  refine CallOk.freeze (c:=.sl (some ⟨b,0,none⟩) _ _ _ _ _) Take.auto (fun ro3 hl3 hc3=>?_)
  have hv3:RgOk ro3 n (zA7 n.kind n.set a2 n.kids.length c2 n.min n.max):=i1.le hl3
  have hr3:Rs ro3 (some ⟨b,0,none⟩) 1 1 8 (zA7 n.kind n.set a2 n.kids.length c2 n.min n.max):=Rs.last hc3
  refine zCw (t:=t) (s:=s1.adv) (k:=5) (z:=zeroS) (a:=some ⟨b,0,none⟩) (m:=1) (c:=1) (x:=0) (y:=(-1)) hn2 ?_
  repeat first|exact zE|refine zP ?_|refine zB fun b=>?_|refine zC fun a' c' hc1 hc2=>?_|(apply GJ.a;exact rfl;intro hg)|(apply GJ.o;exact rfl;intro hg)
  refine Wk.id ⟨(k,repD n 0 (-1),zA7 5 zeroS (some ⟨b,0,none⟩) 1 1 0 (-1),zA3 s1.adv),?_,?_,Sub.z,Sup.z⟩
  all_goals try dsimp only
  ·exact ⟨hv3.rep hr3,i2,hm2,hiv.node,hsm.le (by omega)⟩
  ·omega
 rw [decide_eq_false h42,eatS,if_neg h42]
 repeat first|exact zE|refine zP ?_|refine zB fun b=>?_|refine zC fun a' c' hc1 hc2=>?_|(apply GJ.a;exact rfl;intro hg)|(apply GJ.o;exact rfl;intro hg)
 refine zDk (t:=t) (s:=s1) 43 rfl (by decide) (by omega) ?_
 by_cases h43:zAe t s1=43
 ·have hpp:=zAF (t:=t) (s:=s1) (by rw [h43];decide)
  have h3:=i3 hpp.1
  obtain ⟨k,rfl⟩:∃ j,k=j+1:=⟨k-1,by omega⟩
  rw [repL,if_neg h42,if_pos h43] at i2
  rw [decide_eq_true h43,eatS,if_pos h43]
  have hn2:s1.adv.n≤10000000:=by show s1.n≤_;omega
  have hiv:Inv t s1.adv:=i4.adv (by rw [h43];decide)
  have hsm:NB 513 (zA3 s1.adv):=i5.small hpp.1 rfl
  have hm2:(zA3 s1.adv).e=0→t.length+1≤k+(zA3 s1.adv).p:=fun _=>by rw [zKm];show _≤k+(s1.p+1);omega
  repeat first|exact zE|refine zP ?_|refine zB fun b=>?_|refine zC fun a' c' hc1 hc2=>?_|(apply GJ.a;exact rfl;intro hg)|(apply GJ.o;exact rfl;intro hg)
  refine CallOk.freeze (c:=.sl (some ⟨b,0,none⟩) _ _ _ _ _) Take.auto (fun ro3 hl3 hc3=>?_)
  have hv3:RgOk ro3 n (zA7 n.kind n.set a2 n.kids.length c2 n.min n.max):=i1.le hl3
  have hr3:Rs ro3 (some ⟨b,0,none⟩) 1 1 8 (zA7 n.kind n.set a2 n.kids.length c2 n.min n.max):=Rs.last hc3
  refine zCw (t:=t) (s:=s1.adv) (k:=5) (z:=zeroS) (a:=some ⟨b,0,none⟩) (m:=1) (c:=1) (x:=1) (y:=(-1)) hn2 ?_
  repeat first|exact zE|refine zP ?_|refine zB fun b=>?_|refine zC fun a' c' hc1 hc2=>?_|(apply GJ.a;exact rfl;intro hg)|(apply GJ.o;exact rfl;intro hg)
  refine Wk.id ⟨(k,repD n 1 (-1),zA7 5 zeroS (some ⟨b,0,none⟩) 1 1 1 (-1),zA3 s1.adv),?_,?_,Sub.z,Sup.z⟩
  all_goals try dsimp only
  ·exact ⟨hv3.rep hr3,i2,hm2,hiv.node,hsm.le (by omega)⟩
  ·omega
 rw [decide_eq_false h43,eatS,if_neg h43]
 repeat first|exact zE|refine zP ?_|refine zB fun b=>?_|refine zC fun a' c' hc1 hc2=>?_|(apply GJ.a;exact rfl;intro hg)|(apply GJ.o;exact rfl;intro hg)
 refine zDk (t:=t) (s:=s1) 63 rfl (by decide) (by omega) ?_
 by_cases h63:zAe t s1=63
 ·have hpp:=zAF (t:=t) (s:=s1) (by rw [h63];decide)
  have h3:=i3 hpp.1
  obtain ⟨k,rfl⟩:∃ j,k=j+1:=⟨k-1,by omega⟩
  rw [repL,if_neg h42,if_neg h43,if_pos h63] at i2
  rw [decide_eq_true h63,eatS,if_pos h63]
  have hn2:s1.adv.n≤10000000:=by show s1.n≤_;omega
  have hiv:Inv t s1.adv:=i4.adv (by rw [h63];decide)
  have hsm:NB 513 (zA3 s1.adv):=i5.small hpp.1 rfl
  have hm2:(zA3 s1.adv).e=0→t.length+1≤k+(zA3 s1.adv).p:=fun _=>by rw [zKm];show _≤k+(s1.p+1);omega
  repeat first|exact zE|refine zP ?_|refine zB fun b=>?_|refine zC fun a' c' hc1 hc2=>?_|(apply GJ.a;exact rfl;intro hg)|(apply GJ.o;exact rfl;intro hg)
  refine CallOk.freeze (c:=.sl (some ⟨b,0,none⟩) _ _ _ _ _) Take.auto (fun ro3 hl3 hc3=>?_)
  have hv3:RgOk ro3 n (zA7 n.kind n.set a2 n.kids.length c2 n.min n.max):=i1.le hl3
  have hr3:Rs ro3 (some ⟨b,0,none⟩) 1 1 8 (zA7 n.kind n.set a2 n.kids.length c2 n.min n.max):=Rs.last hc3
  refine zCw (t:=t) (s:=s1.adv) (k:=5) (z:=zeroS) (a:=some ⟨b,0,none⟩) (m:=1) (c:=1) (x:=0) (y:=1) hn2 ?_
  repeat first|exact zE|refine zP ?_|refine zB fun b=>?_|refine zC fun a' c' hc1 hc2=>?_|(apply GJ.a;exact rfl;intro hg)|(apply GJ.o;exact rfl;intro hg)
  refine Wk.id ⟨(k,repD n 0 1,zA7 5 zeroS (some ⟨b,0,none⟩) 1 1 0 1,zA3 s1.adv),?_,?_,Sub.z,Sup.z⟩
  all_goals try dsimp only
  ·exact ⟨hv3.rep hr3,i2,hm2,hiv.node,hsm.le (by omega)⟩
  ·omega
 rw [decide_eq_false h63,eatS,if_neg h63]
 repeat first|exact zE|refine zP ?_|refine zB fun b=>?_|refine zC fun a' c' hc1 hc2=>?_|(apply GJ.a;exact rfl;intro hg)|(apply GJ.o;exact rfl;intro hg)
 refine zDk (t:=t) (s:=s1) 123 rfl (by decide) (by omega) ?_
 by_cases h123:zAe t s1=123
 ·have hpp:=zAF (t:=t) (s:=s1) (by rw [h123];decide)
  have h3:=i3 hpp.1
  obtain ⟨k,rfl⟩:∃ j,k=j+1:=⟨k-1,by omega⟩
  rw [repL,if_neg h42,if_neg h43,if_neg h63,if_pos h123] at i2
  rw [decide_eq_true h123,eatS,if_pos h123]
  have hiv:Inv t (zAs t s1.adv).2:=(i4.adv (by rw [h123];decide)).counts hpp.2
  have hsm:NB 513 (zA3 (zAs t s1.adv).2):=i5.small hpp.1 zHs
  have hn2:(zAs t s1.adv).2.n≤10000000:=by rw [zHs];show s1.n≤_;omega
  have hm2:(zA3 (zAs t s1.adv).2).e=0→t.length+1≤k+(zA3 (zAs t s1.adv).2).p:=fun he=>by
   rw [zKm]
   have:=zJw (t:=t) (s:=s1.adv) hpp.1 (zBl (t:=t) he).2
   have e:s1.adv.p=s1.p+1:=rfl
   omega
  repeat first|exact zE|refine zP ?_|refine zB fun b=>?_|refine zC fun a' c' hc1 hc2=>?_|(apply GJ.a;exact rfl;intro hg)|(apply GJ.o;exact rfl;intro hg)
  refine zLh (t:=t) (s:=s1.adv) hpp.1 (by show s1.p+1≤_;omega) hl ?_
  generalize (zAs t s1.adv).1.1=lo at i2 ⊢
  generalize (zAs t s1.adv).1.2=hi2 at i2 ⊢
  generalize (zAs t s1.adv).2=s2 at i2 hiv hsm hn2 hm2 ⊢
  repeat first|exact zE|refine zP ?_|refine zB fun b=>?_|refine zC fun a' c' hc1 hc2=>?_|(apply GJ.a;exact rfl;intro hg)|(apply GJ.o;exact rfl;intro hg)
  refine CallOk.freeze (c:=.sl (some ⟨b,0,none⟩) _ _ _ _ _) Take.auto (fun ro3 hl3 hc3=>?_)
  have hv3:RgOk ro3 n (zA7 n.kind n.set a2 n.kids.length c2 n.min n.max):=i1.le hl3
  have hr3:Rs ro3 (some ⟨b,0,none⟩) 1 1 8 (zA7 n.kind n.set a2 n.kids.length c2 n.min n.max):=Rs.last hc3
  refine zCw (t:=t) (s:=s2) (k:=5) (z:=zeroS) (a:=some ⟨b,0,none⟩) (m:=1) (c:=1) (x:=(lo:Int)) (y:=hi2) hn2 ?_
  repeat first|exact zE|refine zP ?_|refine zB fun b=>?_|refine zC fun a' c' hc1 hc2=>?_|(apply GJ.a;exact rfl;intro hg)|(apply GJ.o;exact rfl;intro hg)
  refine Wk.id ⟨(k,repD n (lo:Int) hi2,zA7 5 zeroS (some ⟨b,0,none⟩) 1 1 (lo:Int) hi2,zA3 s2),?_,?_,Sub.z,Sup.z⟩
  all_goals try dsimp only
  ·exact ⟨hv3.rep hr3,i2,hm2,hiv.node,hsm.le (by omega)⟩
  ·omega
 rw [decide_eq_false h123,eatS,if_neg h123]
 rw [rep_none h42 h43 h63 h123] at i2
 rw [←i2] at hk
 repeat first|exact zE|refine zP ?_|refine zB fun b=>?_|refine zC fun a' c' hc1 hc2=>?_|(apply GJ.a;exact rfl;intro hg)|(apply GJ.o;exact rfl;intro hg)
 exact Wk.outS Sup.z (p2 _) (hk ro2 _ (hl1.trans hl2) i1)
end
end Go.Proofs.YtmaennnkaoollaaGreatDoor
end
