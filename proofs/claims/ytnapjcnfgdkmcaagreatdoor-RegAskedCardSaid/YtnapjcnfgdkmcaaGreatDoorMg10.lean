/- Texts of a walk, one behind the other. -/
import Derived.Test.YtnapjcnfgdkmcaaGreatDoorMg2
import Derived.Test.YtnapjcnfgdkmcaaGreatDoorMg3
import Derived.Test.YtnapjcnfgdkmcaaGreatDoorMg7
import Derived.Test.YtnapjcnfgdkmcaaGreatDoorMg9
set_option linter.unusedVariables false
set_option linter.unusedSimpArgs false
set_option linter.unusedSectionVars false
set_option maxRecDepth 10000
section
namespace Go.Proofs.YtnapjcnfgdkmcaaGreatDoor
open Go Go.E
abbrev MpL:=List UInt8→Option (Nat × Nat)
def noM:MpL:=fun _=>none
def putM (m:MpL) (nm:List UInt8) (r f:Nat):MpL:=fun x=>if x=nm then some (r,f) else m x
def zGj (s:zAd) (r f:Nat):Bool:=match s.nodes[r]? with
 | none=>false
 | some d=>match d.fields[f]? with
   | none=>false
   | some g=>zBN s g.type&&decide (g.derive≠3)
def oneL (s:zAd) (m:MpL) (nm:List UInt8):Bool:=if nm=[] then true else match m nm with
 | none=>false
 | some (r,f)=>zGj s r f
def zCf:List zAm→List UInt8→Nat→Int→Int
 | [],_,_,z=>z
 | f::fs,name,i,z=>zCf fs name (i+1) (if f.name=name then (i:Int) else z)
def zB4 (d:zAh) (name:List UInt8):Int:=zCf d.fields name 0 (-1)
def zBi (s:zAd) (d:zAh) (i:Nat):Bool:=match d.fields[i]? with
 | none=>false
 | some f=>match s.nodes[f.type.toNat]? with
   | none=>false
   | some own =>
     if f.derive=0 then decide (f.of=[])&&decide (f.to=[])
     else if f.derive=1∨f.derive=2 then
      if zB4 d f.of≤(i:Int)∨f.to≠[]∨zBA own=false∨own.zig=true then false else
      match d.fields[(zB4 d f.of).toNat]? with
      | none=>false
      | some g=>match s.nodes[g.type.toNat]? with
        | none=>false
        | some x=>if zBg f x=false then false else if f.derive=1∧(x.kind=4∨x.kind=8) then true else decide (f.derive=2)&&decide (x.kind=6)
     else if f.derive=3 then (decide (own.kind=1)&&decide (own.width=4)&&decide (own.min=0)&&decide (own.max=4294967295))&&(decide (0≤zB4 d f.of)&&decide (zB4 d f.of≤zB4 d f.to)&&decide (zB4 d f.to<(i:Int)))
     else false
def zAS (s:zAd) (m:MpL) (a j:Nat) (nm:List UInt8):Bool:=match m nm with
 | none=>true
 | some (r,f)=>!(zB3 s r f&&(decide (r≠a)||decide (f<j)))
def farL (s:zAd) (m:MpL) (a j:Nat) (k:Int):Bool:=match s.nodes[k.toNat]? with
 | none=>true
 | some e=>zAS s m a j e.reg&&zAS s m a j e.ereg
def zCr (s:zAd) (f g:zAm):Bool:=match s.nodes[g.type.toNat]? with
 | none=>false
 | some x=>decide (f.derive=1)&&(decide (g.name=f.of)&&decide (x.kind=8))
def zCn (s:zAd) (m:MpL) (a:Nat) (f:zAm) (j:Nat) (g:zAm):Bool:=match s.nodes[g.type.toNat]? with
 | none=>true
 | some x=>if zCr s f g=true then (preS s (x.kids[0]?.getD 0)).all (farL s m a j) else true
def zAQ (s:zAd) (m:MpL) (a:Nat) (f:zAm):List zAm→Nat→Bool
 | [],_=>true
 | g::gs,j=>zCn s m a f j g&&zAQ s m a f gs (j+1)
def zCz (s:zAd) (m:MpL) (a:Nat) (d:zAh) (i:Nat):Bool:=match d.fields[i]? with
 | none=>false
 | some f=>zAQ s m a f d.fields 0
def goL (K:Int→Int):List Int→Int
 | []=>0
 | k::ks=>if K k≠0 then K k else goL K ks
def recL (K:Int→MpL→Int) (a:Nat):Nat→List zAm→MpL→Int × MpL
 | _,[],m=>(0,m)
 | i,f::fs,m=>if K f.type m≠0 then (K f.type m,m) else recL K a (i+1) fs (putM m f.name a i)
def allL (s:zAd) (m:MpL) (a:Nat) (d:zAh):Bool:=(List.range d.fields.length).all (fun i=>zBi s d i&&zCz s m a d i)
def zAH (s:zAd):Nat→Int→MpL→Int
 | 0,_,_=>0
 | n+1,a,m=>match s.nodes[a.toNat]? with
   | none=>0
   | some d=>if oneL s m d.reg=false∨oneL s m d.ereg=false then 150
     else if d.kind≠5 then goL (fun k=>zAH s n k m) (zAc d)
     else if (recL (zAH s n) a.toNat 0 d.fields m).1≠0 then (recL (zAH s n) a.toNat 0 d.fields m).1
     else if allL s (recL (zAH s n) a.toNat 0 d.fields m).2 a.toNat d=true then 0 else 151
def wantL (s:zAd) (ds:List DefD):Int:=goL (fun k=>zAH s s.nodes.length k noM) (ds.map (·.type))
def Agree (m:MpL) (seen:List AskD):Prop:=∀ nm,m nm=(zAO seen nm).map (fun q=>(q.record,q.field))
theorem Agree.none:Agree noM []:=fun nm=>rfl
theorem zGK {seen:List AskD}{nm:List UInt8} (h:nm∉seen.map (·.name)):zAO seen nm=Option.none:=by
 unfold zAO
 rw [List.find?_eq_none]
 intro q hq
 simp only [decide_eq_true_eq]
 exact fun e=>h (List.mem_map.2 ⟨q,hq,e⟩)
theorem Agree.put {m:MpL}{seen:List AskD} (h:Agree m seen) {q:AskD} (hn:q.name∉seen.map (·.name)):Agree (putM m q.name q.record q.field) (seen++[q]):=by
 intro nm
 rw [zCk]
 unfold putM
 by_cases hx:nm=q.name
 ·subst hx
  rw [if_pos rfl,zGK hn]
  unfold zAO
  simp
 ·rw [if_neg hx,h nm]
  have:zAO [q] nm=Option.none:=by
   unfold zAO
   rw [List.find?_eq_none]
   intro y hy
   rw [List.mem_singleton] at hy
   subst hy
   simpa using fun e:y.name=nm=>hx e.symm
  rw [this,Option.or_none]
theorem zH4 {s:zAd}{seen:List AskD}{m:MpL}{a:Nat}{lk:Lk}{x:Int} (hA:Agree m seen) (hs:SeenAt s seen x) (nm:List UInt8):(oneR a seen nm lk).isSome=oneL s m nm:=by
 unfold oneR oneL
 by_cases hn:nm=[]
 ·rw [if_pos hn,if_pos hn];rfl
 ·rw [if_neg hn,if_neg hn,hA nm]
  cases hq:zAO seen nm with
  | none=>rfl
  | some q =>
    dsimp only [Option.map_some]
    obtain ⟨m1,m2⟩:=zCj hq
    obtain ⟨d,f,h1,h2,h3,h4,h5,_⟩:=hs q m1
    unfold zGj
    rw [h1]
    dsimp only
    rw [h3]
    dsimp only
    rw [←h5]
    cases q.number<;>rfl
theorem zEe:∀ (fs:List zAm) (nm:List UInt8) (i:Nat) (z:Int),(∀ f∈fs,f.name≠nm)→zCf fs nm i z=z
 | [],_,_,_,_=>rfl
 | f::fs,nm,i,z,h=>by
   unfold zCf
   rw [if_neg (h f (by simp))]
   exact zEe fs nm (i+1) z (fun g hg=>h g (List.mem_cons_of_mem _ hg))
theorem zGg:∀ (fs:List zAm) (nm:List UInt8) (i:Nat),(fs.map (·.name)).Nodup→zCf fs nm i (-1)=zBl fs nm i
 | [],_,_,_=>rfl
 | f::fs,nm,i,h=>by
   rw [List.map_cons,List.nodup_cons] at h
   unfold zCf zBl
   by_cases hf:f.name=nm
   ·rw [if_pos hf,if_pos hf]
    exact zEe fs nm (i+1) _ (fun g hg e=>h.1 (List.mem_map.2 ⟨g,hg,by rw [e,hf]⟩))
   ·rw [if_neg hf,if_neg hf]
    exact zGg fs nm (i+1) h.2
theorem zEY {d:zAh} (h:(d.fields.map (·.name)).Nodup) (nm:List UInt8):zB4 d nm=zAt d nm:=zGg d.fields nm 0 h
theorem zDa {s:zAd}{m:MpL}{a:Nat}{f:zAm}:∀ {gs:List zAm}{j:Nat},zAQ s m a f gs j=true↔∀ (k:Nat) (g:zAm),gs[k]?=some g→zCn s m a f (j+k) g=true
 | [],j=>by simp [zAQ]
 | x::gs,j=>by
   unfold zAQ
   rw [Bool.and_eq_true,zDa]
   refine ⟨fun h k g hg=>?_,fun h=>⟨h 0 x rfl,fun k g hg=>?_⟩⟩
   ·cases k with
    | zero=>simp at hg;subst hg;exact h.1
    | succ k=>rw [show j+(k+1)=j+1+k by omega];exact h.2 k g (by simpa using hg)
   ·rw [show j+1+k=j+(k+1) by omega];exact h (k+1) g (by simpa using hg)
theorem zDx {s:zAd} (hv:Ahead s):∀ (n a:Nat),a<n→a<s.nodes.length→∀ i∈preS s a,(preS s i).Sublist (preS s a)
 | 0,a,h,_,_,_=>by omega
 | n+1,a,h,ha,i,hi=>by
   have hi0:=hi
   unfold preS at hi
   rw [zAL hv.kidsAt ha] at hi
   rcases List.mem_cons.1 hi with h1|h1
   ·rw [h1];exact List.Sublist.refl _
   ·obtain ⟨k,hk,hik⟩:=List.mem_flatMap.1 h1
    obtain ⟨q1,q2⟩:=hv.kidsAt a k hk
    obtain ⟨m,rfl⟩:=Int.eq_ofNat_of_zero_le q1
    have h2:=zDx hv n m (by omega) (by omega) i hik
    refine h2.trans ?_
    show List.Sublist (preI _ _ _) (preI _ _ _)
    rw [zAL hv.kidsAt ha]
    refine List.Sublist.cons _ ?_
    obtain ⟨l1,l2,e⟩:=List.append_of_mem hk
    rw [e,List.flatMap_append,List.flatMap_cons]
    exact (List.sublist_append_left _ _).trans (List.sublist_append_right _ _)
theorem zHz {s:zAd} (hc:zAo s=0) {k:Nat} (hk:k<s.nodes.length):(preS s k).Nodup:=by
 have hv:=Ahead.of hc
 obtain ⟨d,h1,h2⟩:=zD1 hc hk
 have hm:=List.mem_of_getElem? h1
 have hall:(allT s).Nodup:=(zDK hc).nodup_iff.2 (by
  unfold rngI
  rw [List.nodup_iff_pairwise_ne,List.pairwise_map]
  exact (List.nodup_iff_pairwise_ne.1 List.nodup_range).imp (fun h e=>h (Int.ofNat.inj e)))
 have hd:(preS s d.type).Nodup:=by
  refine List.Sublist.nodup ?_ hall
  unfold allT
  obtain ⟨l1,l2,e⟩:=List.append_of_mem hm
  rw [e,List.map_append,List.map_cons,List.flatMap_append,List.flatMap_cons]
  exact (List.sublist_append_left _ _).trans (List.sublist_append_right _ _)
 obtain ⟨q1,q2⟩:=zCt hc d hm
 obtain ⟨m,hm0⟩:=Int.eq_ofNat_of_zero_le q1
 rw [hm0] at h2 hd q2
 exact List.Sublist.nodup (zDx hv (m+1) m (by omega) (by omega) _ h2) hd
def LkNm (s:zAd) (lk:Lk):Prop:=∀ i p,lk i=some p→∃ d,s.nodes[i]?=some d∧nmOf d≠[]
theorem PostL.nm {s:zAd}{seen:List AskD}{S R:List Int}{lk lk2:Lk} (h:PostL s seen S R lk lk2) (hl:LkNm s lk):LkNm s lk2:=by
 intro i p hp
 rcases h i with ⟨_,a2⟩|⟨_,d,a2,⟨_,a4⟩|⟨a3,_⟩⟩
 ·exact hl i p (by rw [←a2];exact hp)
 ·exact hl i p (by rw [←a4];exact hp)
 ·exact ⟨d,a2,a3⟩
def zE4 (s:zAd) (seen:List AskD) (S:List Int) (lk:Lk):Prop:=∀ k:Nat,(k:Int)∈S→∃ d,s.nodes[k]?=some d∧((nmOf d=[]∧lk k=none)∨(nmOf d≠[]∧∃ r f,lk k=some (r,f)∧LinkP s seen S k r f (nmOf d)))
theorem PostL.all {s:zAd}{seen:List AskD}{S:List Int}{lk lk2:Lk} (h:PostL s seen S S lk lk2) (hl:LkNm s lk):zE4 s seen S lk2:=by
 intro k hk
 rcases h k with ⟨a1,_⟩|⟨_,d,a2,⟨a3,a4⟩|a3⟩
 ·exact absurd hk a1
 ·refine ⟨d,a2,.inl ⟨a3,?_⟩⟩
  rw [a4]
  cases hx:lk k with
  | none=>rfl
  | some p =>
    obtain ⟨e,e1,e2⟩:=hl k p hx
    rw [a2] at e1;cases e1
    exact absurd a3 e2
 ·exact ⟨d,a2,.inr a3⟩
def ownL (s:zAd) (a:Nat):Nat→List zAm→List AskD
 | _,[]=>[]
 | i,f::fs=>⟨f.name,a,i,zBN s f.type&&decide (f.derive≠3)⟩::ownL s a (i+1) fs
theorem zEv (s:zAd) (a:Nat):∀ (l1 l2:List zAm) (i:Nat),ownL s a i (l1++l2)=ownL s a i l1++ownL s a (i+l1.length) l2
 | [],l2,i=>by simp [ownL]
 | f::l1,l2,i=>by
   rw [List.cons_append]
   unfold ownL
   rw [zEv s a l1 l2 (i+1),List.length_cons,show i+1+l1.length=i+(l1.length+1) by omega,List.cons_append]
   congr 2
   cases l2<;>rfl
theorem zCE {s:zAd}{a:Nat}:∀ {l:List zAm}{i:Nat}{q:AskD},q∈ownL s a i l→q.record=a∧i≤q.field∧q.field<i+l.length∧∃ f,l[q.field-i]?=some f∧f.name=q.name∧q.number=(zBN s f.type&&decide (f.derive≠3))
 | [],i,q,h=>by cases h
 | f::l,i,q,h=>by
   unfold ownL at h
   rcases List.mem_cons.1 h with rfl|h
   ·exact ⟨rfl,Nat.le_refl _,by simp,f,by simp,rfl,rfl⟩
   ·obtain ⟨h1,h2,h3,g,h4,h5⟩:=zCE h
    refine ⟨h1,by omega,by rw [List.length_cons];omega,g,?_,h5⟩
    rw [show q.field-i=(q.field-(i+1))+1 by omega]
    simpa using h4
def EqR (x:Except (Int × Int) Lk) (z:Int):Prop:=match x with
 | .ok _=>z=0
 | .error e=>z=e.1∧e.1≠0
theorem zGq {l:List zAm}{i:Nat}{f:zAm} (h:l[i]?=some f):l.take (i+1)=l.take i++[f]:=by
 rw [List.take_add_one,h];rfl
theorem rec_eq {s:zAd}{n a:Nat}{d:zAh}{kn:List (List UInt8)}{seen:List AskD} (hd:s.nodes[a]?=some d) (h5:d.kind=5) (hf:zB1 d=0) (hnd:(d.fields.flatMap (fun f=>preS s f.type)).Nodup) (hs:∀ f∈d.fields,SeenAt s seen f.type∧f.type∈preS s f.type)
  (hP:∀ f∈d.fields,∀ sn l l2,SeenAt s sn f.type→zAC s n f.type sn l=.ok l2→PostL s sn (preS s f.type) (preS s f.type) l l2)
  (hE:∀ f∈d.fields,∀ sn l m,SeenAt s sn f.type→Agree m sn→(∀ q∈sn,q.name≠[])→LkNm s l→(zAT s kn n f.type (sn.map (·.name))).1=0→EqR (zAC s n f.type sn l) (zAH s n f.type m)) :
  ∀ (fs:List zAm) (i:Nat) (lk:Lk) (m:MpL),d.fields.drop i=fs→Agree m (seen++ownL s a 0 (d.fields.take i))→(∀ q∈seen++ownL s a 0 (d.fields.take i),q.name≠[])→LkNm s lk→(recS (zAT s kn n) a fs ((seen++ownL s a 0 (d.fields.take i)).map (·.name))).1=0 →
   match recR s (zAC s n) a i fs (seen++ownL s a 0 (d.fields.take i)) lk with
   | .error e=>(recL (zAH s n) a i fs m).1=e.1∧e.1≠0
   | .ok lk2=>(recL (zAH s n) a i fs m).1=0∧Agree (recL (zAH s n) a i fs m).2 (seen++ownL s a 0 d.fields)∧(∀ q∈seen++ownL s a 0 d.fields,q.name≠[])∧LkNm s lk2∧∀ (j:Nat) (g:zAm),i≤j→d.fields[j]?=some g→zE4 s (seen++ownL s a 0 (d.fields.take j)) (preS s g.type) lk2
 | [],i,lk,m,hdr,hA,hN,hl,_=>by
   unfold recR recL
   have hle:d.fields.length≤i:=List.drop_eq_nil_iff.1 hdr
   rw [List.take_of_length_le hle] at hA hN
   exact ⟨rfl,hA,hN,hl,fun j g hj hg=>by have:=(List.getElem?_eq_some_iff.1 hg).1;omega⟩
 | f::fs,i,lk,m,hdr,hA,hN,hl,hS=>by
   have hfi:d.fields[i]?=some f:=by rw [←List.head?_drop,hdr];rfl
   have hfm:=List.mem_of_getElem? hfi
   have hil:=(List.getElem?_eq_some_iff.1 hfi).1
   have hdr2:d.fields.drop (i+1)=fs:=by rw [←List.drop_drop,hdr];rfl
   unfold recS at hS
   split at hS
   ·cases hS
   rename_i hpr
   split at hS
   ·cases hS
   rename_i hni
   split at hS
   ·rename_i hx;exact absurd hS hx
   rename_i hks
   have hks:=Decidable.of_not_not hks
   have hsn:SeenAt s (seen++ownL s a 0 (d.fields.take i)) f.type:=by
    intro q hq
    rcases List.mem_append.1 hq with hq|hq
    ·exact (hs f hfm).1 q hq
    ·obtain ⟨q1,_,q2,g,q3,q4,q5⟩:=zCE hq
     rw [List.length_take] at q2
     rw [Nat.sub_zero,List.getElem?_take,if_pos (by omega)] at q3
     exact ⟨d,g,by rw [q1];exact hd,h5,q3,q4,q5,i,f,by omega,hfi,(hs f hfm).2⟩
   have he:=hE f hfm _ lk m hsn hA hN hl hks
   have hown:ownL s a 0 (d.fields.take (i+1))=ownL s a 0 (d.fields.take i)++[⟨f.name,a,i,zBN s f.type&&decide (f.derive≠3)⟩]:=by
    rw [zGq hfi,zEv,Nat.zero_add,List.length_take,Nat.min_eq_left (by omega)]
    rfl
   unfold recR recL
   cases hx:zAC s n f.type (seen++ownL s a 0 (d.fields.take i)) lk with
   | error e =>
     rw [hx] at he
     dsimp only [EqR] at he ⊢
     rw [if_pos (by rw [he.1];exact he.2)]
     exact he
   | ok lk1 =>
     rw [hx] at he
     dsimp only [EqR] at he ⊢
     rw [if_neg (by rw [he];simp)]
     have hpost:=hP f hfm _ _ _ hsn hx
     have hl1:=hpost.nm hl
     have hne:f.name≠[]:=(zG4 (by simpa using hpr)).1
     have hA2:Agree (putM m f.name a i) (seen++ownL s a 0 (d.fields.take (i+1))):=by
      rw [hown,←List.append_assoc]
      exact hA.put (q:=⟨f.name,a,i,zBN s f.type&&decide (f.derive≠3)⟩) hni
     have hN2:∀ q∈seen++ownL s a 0 (d.fields.take (i+1)),q.name≠[]:=by
      rw [hown,←List.append_assoc]
      intro q hq
      rcases List.mem_append.1 hq with hq|hq
      ·exact hN q hq
      ·rw [List.mem_singleton] at hq;subst hq;exact hne
     have hS2:(recS (zAT s kn n) a fs ((seen++ownL s a 0 (d.fields.take (i+1))).map (·.name))).1=0:=by
      rw [hown,←List.append_assoc,List.map_append]
      exact hS
     have ih:=rec_eq hd h5 hf hnd hs hP hE fs (i+1) lk1 (putM m f.name a i) hdr2 hA2 hN2 hl1 hS2
     rw [hown,←List.append_assoc] at ih
     cases hr:recR s (zAC s n) a (i+1) fs ((seen++ownL s a 0 (d.fields.take i))++[⟨f.name,a,i,zBN s f.type&&decide (f.derive≠3)⟩]) lk1 with
     | error e=>rw [hr] at ih;exact ih
     | ok lk2 =>
       rw [hr] at ih
       dsimp only at ih ⊢
       obtain ⟨i1,i2,i3,i4,i5⟩:=ih
       refine ⟨i1,i2,i3,i4,fun j g hj hg=>?_⟩
       by_cases hji:j=i
       ·subst hji
        rw [hfi] at hg;cases hg
        have h1:=hpost.all hl
        -- the rest leaves this field's types alone
        have hrest:=zDu (seen:=seen) (own:=ownL s a 0 (d.fields.take (j+1))) (R:=(a:Int)::d.fields.flatMap (fun f=>preS s f.type)) hd h5 hf (List.mem_cons_self ..) hs hP (fun f hf x hx=>List.mem_cons_of_mem _ (List.mem_flatMap.2 ⟨f,hf,hx⟩)) (i:=j+1) hdr2 (fun q hq=>by
         obtain ⟨q1,_,q2,g,q3,q4⟩:=zCE hq
         rw [List.length_take] at q2
         rw [Nat.sub_zero,List.getElem?_take,if_pos (by omega)] at q3
         exact ⟨q1,by omega,g,q3,q4⟩) (by rw [hown,←List.append_assoc];exact hr)
        have hsplit:d.fields=d.fields.take j++f::fs:=by rw [←hdr,List.take_append_drop]
        intro k hk
        have hnk:(k:Int)∉fs.flatMap (fun f=>preS s f.type):=by
         rw [hsplit,List.flatMap_append,List.flatMap_cons] at hnd
         have h2:=(List.nodup_append.1 hnd).2.1
         exact fun hk2=>(List.nodup_append.1 h2).2.2 _ hk _ hk2 rfl
        obtain ⟨e,e1,e2⟩:=h1 k hk
        have hsame:lk2 k=lk1 k:=by
         rcases hrest k with ⟨_,b⟩|⟨b,_⟩
         ·exact b
         ·exact absurd b hnk
        rw [←hsame] at e2
        exact ⟨e,e1,e2⟩
       ·exact i5 j g (by omega) hg
theorem far_eq {s:zAd} (hv:Ahead s) {a j:Nat}{d:zAh}{g:zAm}{x:zAh}{seen:List AskD}{m:MpL}{lk:Lk} (hd:s.nodes[a]?=some d) (h5:d.kind=5) (hg:d.fields[j]?=some g) (hx:s.nodes[g.type.toNat]?=some x) (h8:x.kind=8)
  (hsr:∀ q∈seen,a<q.record) (hA:Agree m (seen++ownL s a 0 d.fields)) (hN:∀ q∈seen++ownL s a 0 d.fields,q.name≠[]) (hL:zE4 s (seen++ownL s a 0 (d.fields.take j)) (preS s g.type) lk) :
  ∃ w:Nat,x.kids[0]?=some (w:Int)∧(w:Int)<g.type∧∀ k∈preS s w,farL s m a j k=(match lk k.toNat with
   | none=>true
   | some (r,f)=>decide ((r:Int)∈preS s w)||!zB3 s r f):=by
 obtain ⟨hf,hks⟩:=hv a d hd
 have hgt:g.type∈zAc d:=by rw [zAz hf h5];exact List.mem_map.2 ⟨g,List.mem_of_getElem? hg,rfl⟩
 obtain ⟨g1,g2⟩:=hks _ hgt
 obtain ⟨z,hz⟩:=Int.eq_ofNat_of_zero_le g1
 rw [hz] at hx hL g2 ⊢
 rw [Int.toNat_natCast] at hx
 have hal:=(List.getElem?_eq_some_iff.1 hd).1
 have hzl:=(List.getElem?_eq_some_iff.1 hx).1
 obtain ⟨hfx,hkx⟩:=hv z x hx
 have hk1:x.kids.length=1:=by
  unfold zB1 at hfx
  split at hfx
  ·cases hfx
  split at hfx
  ·cases hfx
  rename_i h
  exact Classical.byContradiction fun hn=>h (.inl ⟨.inr (.inr h8),hn⟩)
 obtain ⟨y,hy⟩:∃ y,x.kids=[y]:=by
  match hk:x.kids,hk1 with
  | [y],_=>exact ⟨y,rfl⟩
 have hyk:y∈zAc x:=by unfold zAc;rw [hy];simp
 obtain ⟨y1,y2⟩:=hkx y hyk
 obtain ⟨w,hw⟩:=Int.eq_ofNat_of_zero_le y1
 subst hw
 refine ⟨w,by rw [hy];rfl,y2,?_⟩
 have hin:∀ k∈preS s w,k∈preS s z:=fun k hk=>by
  unfold preS
  rw [zAL hv.kidsAt hzl]
  have:kidsAt s z=zAc x:=by unfold kidsAt;rw [hx]
  rw [this]
  exact List.mem_cons_of_mem _ (List.mem_flatMap.2 ⟨_,hyk,hk⟩)
 have hout:∀ r:Nat,(r:Int)∈preS s z→r≠z→(r:Int)∈preS s w:=fun r hr hne=>by
  unfold preS at hr
  rw [zAL hv.kidsAt hzl] at hr
  rcases List.mem_cons.1 hr with h|h
  ·exact absurd (Int.ofNat.inj h) hne
  have hkz:kidsAt s z=zAc x:=by unfold kidsAt;rw [hx]
  rw [hkz] at h
  have hkk:zAc x=[(w:Int)]:=by
   have h0:x.fields=[]∧x.cases=[]:=by
    unfold zB1 at hfx
    split at hfx
    ·cases hfx
    split at hfx
    ·cases hfx
    split at hfx
    ·cases hfx
    split at hfx
    ·cases hfx
    rename_i h
    refine ⟨List.eq_nil_of_length_eq_zero ?_,List.eq_nil_of_length_eq_zero ?_⟩
    ·refine Classical.byContradiction fun hn=>h (.inl fun hh=>?_)
     have:=hh.2 (by omega);omega
    ·exact Classical.byContradiction fun hn=>h (.inr ⟨by omega,by omega⟩)
   unfold zAc
   rw [hy,h0.1,h0.2,if_neg (by omega)]
   rfl
  rw [hkk] at h
  simpa using h
 have htk:seen++ownL s a 0 d.fields=(seen++ownL s a 0 (d.fields.take j))++ownL s a j (d.fields.drop j):=by
  have hjl:=(List.getElem?_eq_some_iff.1 hg).1
  conv=>lhs;rw [←List.take_append_drop j d.fields,zEv]
  rw [Nat.zero_add,List.length_take,Nat.min_eq_left (by omega),List.append_assoc]
 intro k hk
 obtain ⟨k1,k2⟩:=zDy hv (w+1) w (by omega) (by omega) k hk
 obtain ⟨p,rfl⟩:=Int.eq_ofNat_of_zero_le k1
 rw [Int.toNat_natCast]
 obtain ⟨e,e1,e2⟩:=hL p (hin _ hk)
 obtain ⟨hfe,_⟩:=hv p e e1
 have hnil:zAS s m a j []=true:=by
  unfold zAS
  rw [hA []]
  have:zAO (seen++ownL s a 0 d.fields) []=none:=by
   unfold zAO
   rw [List.find?_eq_none]
   intro q hq
   simpa using hN q hq
  rw [this];rfl
 have hfar:farL s m a j (p:Int)=zAS s m a j (nmOf e):=by
  unfold farL nmOf
  rw [Int.toNat_natCast,e1]
  dsimp only
  rcases zEw hfe with h|h
  ·rw [h,hnil];rfl
  ·rw [h,hnil,List.append_nil,Bool.and_true]
 rw [hfar]
 rcases e2 with ⟨n1,n2⟩|⟨n1,r,f,n2,n3⟩
 ·rw [n1,n2,hnil]
 ·rw [n2]
  dsimp only
  unfold zAS
  rw [hA (nmOf e),htk,zCk]
  cases hq:zAO (seen++ownL s a 0 (d.fields.take j)) (nmOf e) with
  | some q =>
    obtain ⟨rfl,rfl⟩:=n3.out q hq
    dsimp only [Option.or_some,Option.or,Option.map_some]
    have hmem:=(zCj hq).1
    have h1:a≤q.record∧(decide (q.record≠a)||decide (q.field<j))=true:=by
     rcases List.mem_append.1 hmem with h|h
     ·have:=hsr q h
      exact ⟨by omega,by rw [decide_eq_true (by omega)];rfl⟩
     ·obtain ⟨q1,_,q2,_⟩:=zCE h
      rw [List.length_take] at q2
      exact ⟨by omega,by rw [decide_eq_true (p:=q.field<j) (by omega),Bool.or_true]⟩
    rw [h1.2,Bool.and_true]
    have h2:(q.record:Int)∉preS s w:=fun hh=>by
     have:=zDy hv (w+1) w (by omega) (by omega) _ hh
     omega
    rw [decide_eq_false h2,Bool.false_or]
  | none =>
    have hrz:=n3.inn hq
    obtain ⟨e',g',h1,h2,_⟩:=n3.good
    have hrw:=hout r hrz (fun e=>by subst e;rw [hx] at h1;cases h1;omega)
    rw [decide_eq_true hrw,Bool.true_or]
    cases hq2:zAO (ownL s a j (d.fields.drop j)) (nmOf e) with
    | none=>rfl
    | some q =>
      obtain ⟨q1,q2,_⟩:=zCE (zCj hq2).1
      dsimp only [Option.or,Option.map_some]
      rw [decide_eq_false (p:=q.record≠a) (by omega),decide_eq_false (p:=q.field<j) (by omega)]
      simp
theorem zDJ {s:zAd}{m:MpL}{a:Nat}{f:zAm} (h:f.derive≠1) (gs:List zAm) (j:Nat):zAQ s m a f gs j=true:=by
 rw [zDa]
 intro k g _
 unfold zCn
 cases hx:s.nodes[g.type.toNat]? with
 | none=>rfl
 | some x =>
   dsimp only
   rw [if_neg]
   unfold zCr
   rw [hx]
   simp [h]
theorem zIr {s:zAd}{m:MpL}{a:Nat}{d:zAh}{f g:zAm}{x:zAh}{j:Nat} (hn:(d.fields.map (·.name)).Nodup) (hg:d.fields[j]?=some g) (hx:s.nodes[g.type.toNat]?=some x) (hnm:g.name=f.of) (h1:f.derive=1):zAQ s m a f d.fields 0=if x.kind=8 then (preS s (x.kids[0]?.getD 0)).all (farL s m a j) else true:=by
 rw [Bool.eq_iff_iff,zDa]
 refine ⟨fun h=>?_,fun h k g' hg'=>?_⟩
 ·have:=h j g hg
  unfold zCn at this
  rw [hx] at this
  dsimp only at this
  by_cases h8:x.kind=8
  ·rw [if_pos h8]
   rw [if_pos (by unfold zCr;rw [hx];simp [h1,hnm,h8]),Nat.zero_add] at this
   exact this
  ·rw [if_neg h8]
 ·unfold zCn
  cases hx':s.nodes[g'.type.toNat]? with
  | none=>rfl
  | some x' =>
    dsimp only
    by_cases hw:zCr s f g'=true
    ·rw [if_pos hw]
     unfold zCr at hw
     rw [hx'] at hw
     simp only [Bool.and_eq_true,decide_eq_true_eq] at hw
     have:k=j:=zHV hn hg' hg (by rw [hw.2.1,hnm])
     subst this
     rw [hg] at hg';cases hg'
     rw [hx] at hx';cases hx'
     rw [if_pos hw.2.2] at h
     rw [Nat.zero_add]
     exact h
    ·rw [if_neg hw]
theorem der_eq {s:zAd} (hv:Ahead s) {a:Nat}{d:zAh}{seen:List AskD}{m:MpL}{lk:Lk} (hd:s.nodes[a]?=some d) (h5:d.kind=5) (hn:(d.fields.map (·.name)).Nodup)
  (hsr:∀ q∈seen,a<q.record) (hA:Agree m (seen++ownL s a 0 d.fields)) (hN:∀ q∈seen++ownL s a 0 d.fields,q.name≠[]) (hL:∀ (j:Nat) (g:zAm),d.fields[j]?=some g→zE4 s (seen++ownL s a 0 (d.fields.take j)) (preS s g.type) lk) (i:Nat) :
  zAZ s lk d i=(zBi s d i&&zCz s m a d i):=by
 unfold zAZ zBi zCz
 cases hf:d.fields[i]? with
 | none=>rfl
 | some f =>
   dsimp only
   cases ho:s.nodes[f.type.toNat]? with
   | none=>rfl
   | some own =>
     dsimp only
     rw [zEY hn,zEY hn]
     by_cases h0:f.derive=0
     ·rw [if_pos h0,if_pos h0,zDJ (by omega),Bool.and_true]
     rw [if_neg h0,if_neg h0]
     by_cases h12:f.derive=1∨f.derive=2
     ·rw [if_pos h12,if_pos h12]
      by_cases hcnd:zBA own=false∨own.zig=true∨zAt d f.of≤(i:Int)∨f.to≠[]
      ·rw [if_pos hcnd,if_pos (hcnd.elim (fun h=>.inr (.inr (.inl h))) (fun h=>h.elim (fun h=>.inr (.inr (.inr h))) (fun h=>h.elim (fun h=>.inl h) (fun h=>.inr (.inl h)))))]
       rfl
      ·rw [if_neg hcnd,if_neg (fun hc=>hcnd (hc.elim (fun h=>.inr (.inr (.inl h))) (fun h=>h.elim (fun h=>.inr (.inr (.inr h))) (fun h=>h.elim (fun h=>.inl h) (fun h=>.inr (.inl h))))))]
       cases hg:d.fields[(zAt d f.of).toNat]? with
       | none=>rfl
       | some g =>
         dsimp only
         cases hx:s.nodes[g.type.toNat]? with
         | none=>rfl
         | some x =>
           dsimp only
           by_cases hj:zBg f x=false
           ·rw [if_pos hj,hj]
            split<;>rfl
           ·rw [if_neg hj]
            have hj:zBg f x=true:=by simpa using hj
            rw [hj]
            by_cases h2:f.derive=2
            ·rw [if_pos h2,if_neg (by omega),zDJ (by omega),h2]
             simp
            ·have h1:f.derive=1:=by omega
             rw [if_neg h2,Bool.true_and]
             have hnm:g.name=f.of:=by
              rcases zDo d f.of with ⟨e,_⟩|⟨j,f',e1,e2,e3⟩
              ·exact absurd (.inr (.inr (.inl (by omega)))) hcnd
              ·rw [e1,Int.toNat_natCast,e2] at hg
               cases hg
               exact e3
             rw [zIr hn hg hx hnm h1]
             by_cases h8:x.kind=8
             ·obtain ⟨w,w1,w2,w3⟩:=far_eq hv hd h5 hg hx h8 hsr hA hN (hL _ g hg)
              rw [if_pos ⟨h1,.inr h8⟩,if_pos h8,w1,decide_eq_true h8,decide_eq_false (by omega),Bool.false_or,Bool.true_and,Bool.true_and]
              dsimp only [Option.getD_some]
              unfold zGn
              show (preS s w).all _=(preS s w).all _
              rw [Bool.eq_iff_iff,List.all_eq_true,List.all_eq_true]
              refine forall_congr' fun k=>forall_congr' fun hk=>?_
              rw [w3 k hk]
              exact Iff.rfl
             ·rw [if_neg h8,decide_eq_false h8,Bool.false_and,Bool.or_false,Bool.and_true]
              by_cases h4:x.kind=4
              ·rw [if_pos ⟨h1,.inl h4⟩,decide_eq_true h4]
              ·rw [if_neg (fun h=>by rcases h.2 with h|h;exact h4 h;exact h8 h),decide_eq_false h4,decide_eq_false h2]
               rfl
     ·rw [if_neg h12,if_neg h12]
      by_cases h3:f.derive=3
      ·rw [if_pos h3,if_pos h3,zDJ (by omega),Bool.and_true]
       by_cases hk:own.kind=1∧own.width=4
       ·have:zCc own=4294967295:=by unfold zCc;rw [if_pos hk.1,hk.2];rfl
        rw [this]
       ·have:(decide (own.kind=1)&&decide (own.width=4))=false:=by
         rw [Bool.eq_false_iff]
         intro h
         rw [Bool.and_eq_true,decide_eq_true_eq,decide_eq_true_eq] at h
         exact hk h
        rw [this]
        rfl
      ·rw [if_neg h3,if_neg h3]
       rfl
theorem go_eq {s:zAd}{K:Int→Lk→Except (Int × Int) Lk}{z:Int→Int}:∀ {ks:List Int}{lk:Lk},(∀ k∈ks,∀ l,LkNm s l→EqR (K k l) (z k)∧∀ l2,K k l=.ok l2→LkNm s l2)→LkNm s lk→EqR (goR K ks lk) (goL z ks)∧∀ l2,goR K ks lk=.ok l2→LkNm s l2
 | [],lk,_,hl=>⟨rfl,fun l2 h=>by cases h;exact hl⟩
 | k::ks,lk,h,hl=>by
   obtain ⟨h1,h2⟩:=h k (by simp) lk hl
   unfold goR goL
   cases hx:K k lk with
   | error e =>
     rw [hx] at h1
     dsimp only [EqR] at h1 ⊢
     rw [if_pos (by rw [h1.1];exact h1.2)]
     exact ⟨h1,fun l2 h=>by cases h⟩
   | ok lk1 =>
     rw [hx] at h1
     dsimp only [EqR] at h1 ⊢
     rw [if_neg (by rw [h1];simp)]
     exact go_eq (fun k hk=>h k (List.mem_cons_of_mem _ hk)) (h2 lk1 hx)
theorem zHB {s:zAd} (hc:zAo s=0) {kn:List (List UInt8)}:∀ (n i:Nat) (seen:List AskD) (lk:Lk) (m:MpL),i<n→i<s.nodes.length→SeenAt s seen i→Agree m seen→(∀ q∈seen,q.name≠[])→LkNm s lk→(zAT s kn n i (seen.map (·.name))).1=0→EqR (zAC s n i seen lk) (zAH s n i m)
 | 0,i,_,_,_,h,_,_,_,_,_,_=>by omega
 | n+1,i,seen,lk,m,hin,hi,hsn,hA,hN,hl,hS=>by
   have hv:=Ahead.of hc
   obtain ⟨d,hd⟩:∃ d,s.nodes[i]?=some d:=⟨_,List.getElem?_eq_getElem hi⟩
   obtain ⟨hf,hks⟩:=hv i d hd
   have hkd:kidsAt s i=zAc d:=by unfold kidsAt;rw [hd]
   have hpre:preS s i=(i:Int)::(zAc d).flatMap (preS s):=by
    have:=zAL hv.kidsAt hi (N:=s.nodes.length)
    rw [hkd] at this
    exact this
   have hkid:∀ k∈zAc d,SeenAt s seen k:=fun k hk=>hsn.kid hv (by rw [Int.toNat_natCast,hkd];exact hk)
   have hself:∀ k∈zAc d,k∈preS s k:=fun k hk=>by
    obtain ⟨q1,q2⟩:=hks k hk
    obtain ⟨y,rfl⟩:=Int.eq_ofNat_of_zero_le q1
    unfold preS
    rw [zAL hv.kidsAt (by omega)]
    exact List.mem_cons_self ..
   have hrun:∀ k∈zAc d,∀ sn l l2,SeenAt s sn k→zAC s n k sn l=.ok l2→PostL s sn (preS s k) (preS s k) l l2:=fun k hk sn l l2 hsk hr=>by
    obtain ⟨q1,q2⟩:=hks k hk
    obtain ⟨y,rfl⟩:=Int.eq_ofNat_of_zero_le q1
    exact zCs hv n y sn l l2 (by omega) (by omega) hsk hr
   have hih:∀ k∈zAc d,∀ sn l m,SeenAt s sn k→Agree m sn→(∀ q∈sn,q.name≠[])→LkNm s l→(zAT s kn n k (sn.map (·.name))).1=0→EqR (zAC s n k sn l) (zAH s n k m):=fun k hk sn l m a1 a2 a3 a4 a5=>by
    obtain ⟨q1,q2⟩:=hks k hk
    obtain ⟨y,rfl⟩:=Int.eq_ofNat_of_zero_le q1
    exact zHB hc n y sn l m (by omega) (by omega) a1 a2 a3 a4 a5
   unfold zAT at hS
   rw [Int.toNat_natCast,hd] at hS
   dsimp only at hS
   by_cases hu:d.kind=13∧d.text∉kn
   ·rw [if_pos hu] at hS;cases hS
   rw [if_neg hu] at hS
   unfold zAC zAH
   rw [Int.toNat_natCast,hd]
   dsimp only
   have e1:=zH4 (a:=i) (lk:=lk) hA hsn d.reg
   have e2:=zH4 (a:=i) (lk:=lk) hA hsn d.ereg
   have e3:=zH4 (a:=i) (lk:=lk) hA hsn (nmOf d)
   have e4:(oneL s m d.reg=false∨oneL s m d.ereg=false)↔oneL s m (nmOf d)=false:=by
    have h0:oneL s m []=true:=by unfold oneL;rw [if_pos rfl]
    unfold nmOf
    rcases zEw hf with h|h
    ·rw [h,h0];simp
    ·rw [h,h0,List.append_nil];simp
   rw [zE8 hf]
   cases ho:oneR i seen (nmOf d) lk with
   | none =>
     rw [ho] at e3
     rw [if_pos (e4.2 e3.symm)]
     exact ⟨rfl,by simp⟩
   | some lk1 =>
     rw [ho] at e3
     rw [if_neg (fun h=>by rw [e4.1 h] at e3;cases e3)]
     dsimp only
     have hl1:=(zGd hd hsn (R:=[]) ho).nm hl
     by_cases h5:d.kind=5
     ·rw [if_pos h5] at hS ⊢
      rw [if_neg (fun h=>h h5)]
      have hkr:=zAz hf h5
      have hfm:∀ f∈d.fields,f.type∈zAc d:=fun f hf=>by rw [hkr];exact List.mem_map.2 ⟨f,hf,rfl⟩
      have hndp:(d.fields.flatMap (fun f=>preS s f.type)).Nodup:=by
       have:=zHz hc hi
       rw [hpre,List.nodup_cons,hkr,List.flatMap_map] at this
       exact this.2
      have hr:=rec_eq (kn:=kn) hd h5 hf hndp (fun f hf=>⟨hkid _ (hfm f hf),hself _ (hfm f hf)⟩) (fun f hf=>hrun _ (hfm f hf)) (fun f hf=>hih _ (hfm f hf)) d.fields 0 lk1 m rfl (by rw [List.take_zero];unfold ownL;rw [List.append_nil];exact hA) (by rw [List.take_zero];unfold ownL;rw [List.append_nil];exact hN) hl1 (by rw [List.take_zero];unfold ownL;rw [List.append_nil];exact hS)
      rw [List.take_zero,show ownL s i 0 []=[] from rfl,List.append_nil] at hr
      cases hx:recR s (zAC s n) i 0 d.fields seen lk1 with
      | error e =>
        rw [hx] at hr
        dsimp only at hr ⊢
        rw [if_pos (by rw [hr.1];exact hr.2)]
        exact hr
      | ok lk2 =>
        rw [hx] at hr
        dsimp only at hr ⊢
        obtain ⟨r1,r2,r3,r4,r5⟩:=hr
        rw [if_neg (show ¬((recL (zAH s n) i 0 d.fields m).1≠0) by rw [r1];simp)]
        have hnn:=(zDZ hS).1
        have hder:zBK s lk2 d=allL s (recL (zAH s n) i 0 d.fields m).2 i d:=by
         unfold zBK allL
         rw [Bool.eq_iff_iff,List.all_eq_true,List.all_eq_true]
         refine forall_congr' fun j=>forall_congr' fun _=>?_
         rw [der_eq hv hd h5 hnn (fun q hq=>?_) r2 r3 (fun j g hg=>r5 j g (Nat.zero_le _) hg) j]
         obtain ⟨e,f,q1,q2,_,_,_,j',g,_,q7,q8⟩:=hsn q hq
         obtain ⟨hfe,hke⟩:=hv _ e q1
         have hg:g.type∈zAc e:=by rw [zAz hfe q2];exact List.mem_map.2 ⟨g,List.mem_of_getElem? q7,rfl⟩
         obtain ⟨g1,g2⟩:=hke _ hg
         obtain ⟨z,hz⟩:=Int.eq_ofNat_of_zero_le g1
         rw [hz] at q8 g2
         have hl:=(List.getElem?_eq_some_iff.1 q1).1
         have:=zDy hv (z+1) z (by omega) (by omega) _ q8
         omega
        rw [hder]
        by_cases ha:allL s (recL (zAH s n) i 0 d.fields m).2 i d=true
        ·rw [if_pos ha,if_pos ha];rfl
        ·rw [if_neg ha,if_neg ha];exact ⟨rfl,by simp⟩
     ·rw [if_neg h5] at hS ⊢
      rw [if_pos h5]
      exact (go_eq (fun k hk l hl=>⟨hih k hk seen l m (hkid k hk) hA hN hl (zHN hS k hk),fun l2 h2=>(hrun k hk seen l l2 (hkid k hk) h2).nm hl⟩) hl1).1
theorem zIc {s:zAd} (hc:zAo s=0):∀ {ds:List DefD}{lk:Lk},(∀ d∈ds,0≤d.type∧d.type<(s.nodes.length:Int)∧∃ kn,(zAT s kn s.nodes.length d.type []).1=0)→LkNm s lk→EqR (zCX s ds lk) (wantL s ds)
 | [],lk,_,_=>rfl
 | x::ds,lk,h,hl=>by
   obtain ⟨q1,q2,kn,q3⟩:=h x (by simp)
   obtain ⟨y,hy⟩:=Int.eq_ofNat_of_zero_le q1
   have hv:=Ahead.of hc
   rw [hy] at q2 q3
   have he:=zHB hc (kn:=kn) s.nodes.length y [] lk noM (by omega) (by omega) (fun q hq=>by cases hq) Agree.none (fun q hq=>by cases hq) hl q3
   have hpst:=fun lk1=>zCs hv s.nodes.length y [] lk lk1 (by omega) (by omega) (fun q hq=>by cases hq)
   unfold zCX wantL
   rw [List.map_cons]
   unfold goL
   rw [hy]
   cases hx:zAC s s.nodes.length y [] lk with
   | error e =>
     rw [hx] at he
     dsimp only [EqR] at he ⊢
     rw [if_pos (by rw [he.1];exact he.2)]
     exact he
   | ok lk1 =>
     rw [hx] at he
     dsimp only [EqR] at he ⊢
     rw [if_neg (by rw [he];simp)]
     exact zIc hc (fun d hd=>h d (List.mem_cons_of_mem _ hd)) ((hpst lk1 hx).nm hl)
theorem zGM {s:zAd} (h:(zBo s).1=0):(errR (zAM s)).1=wantL s s.defs:=by
 obtain ⟨hc,hdf⟩:=zDs h
 obtain ⟨o,o',_,h2,_⟩:=zA8 hc
 obtain ⟨g1,g2,g3⟩:=zFH hdf List.nodup_nil
 have he:=zIc hc (ds:=s.defs) (lk:=noLk) (fun d hd=>by
  obtain ⟨p1,p2⟩:=zBt h2 d.type (List.mem_map.2 ⟨d,hd,rfl⟩)
  obtain ⟨j,hj⟩:=List.getElem?_of_mem hd
  exact ⟨p1,p2,_,g3 j d hj⟩) (fun i p hp=>by cases hp)
 unfold zAM
 rw [if_neg (fun hn=>hn h)]
 cases hx:zCX s s.defs noLk with
 | error e=>rw [hx] at he;exact he.1.symm
 | ok lk=>rw [hx] at he;exact he.symm
section
variable {ro:Ro}{cs:List Value}
theorem zCJ {α:Type} (f:α→Value) (l:List α):(l.map fun n=>[f n]).flatten=l.map f:=by
 induction l with
 | nil=>rfl
 | cons a l ih=>simp only [List.map_cons,List.flatten_cons,ih];rfl
theorem zG1 (h:Wf Tryz.prog ro 47 cs):∃ f:zAm,cs=zA1 f∧(In64 f.type∧In64 f.derive)∧f.name.length≤reachBytes:=by
 have hu:=Tryz.underlying47
 have hl:cs.length=5:=(Wf.struct_inv hu h).1.trans (by kernel_rfl)
 match cs,hl,h with
 | [v0,v1,v2,v3,v4],_,h =>
   obtain ⟨l0,rfl,hl0⟩:=Wf.str_inv Tryz.underlying9 (Wf.fld (i:=0) (off:=0) (k:=1) hu h rfl rfl rfl (by kernel_rfl))
   obtain ⟨n1,rfl,w1⟩:=Wf.int_inv Tryz.underlying3 (Wf.fld (i:=1) (off:=1) (k:=1) hu h rfl rfl rfl (by kernel_rfl))
   obtain ⟨n2,rfl,w2⟩:=Wf.int_inv Tryz.underlying3 (Wf.fld (i:=2) (off:=2) (k:=1) hu h rfl rfl rfl (by kernel_rfl))
   obtain ⟨l3,rfl,hl3⟩:=Wf.str_inv Tryz.underlying9 (Wf.fld (i:=3) (off:=3) (k:=1) hu h rfl rfl rfl (by kernel_rfl))
   obtain ⟨l4,rfl,hl4⟩:=Wf.str_inv Tryz.underlying9 (Wf.fld (i:=4) (off:=4) (k:=1) hu h rfl rfl rfl (by kernel_rfl))
   exact ⟨⟨l0,n1,n2,l3,l4⟩,rfl,⟨zDb w1,zDb w2⟩,hl0⟩
theorem zHt (h:Wf Tryz.prog ro 97 cs):∃ f:zB2,cs=zCA f∧In64 f.type∧f.value<18446744073709551616:=by
 have hu:=Tryz.underlying97
 have hl:cs.length=2:=(Wf.struct_inv hu h).1.trans (by kernel_rfl)
 match cs,hl,h with
 | [v0,v1],_,h =>
   obtain ⟨n0,rfl,w0⟩:=Wf.int_inv Tryz.underlying33 (Wf.fld (i:=0) (off:=0) (k:=1) hu h rfl rfl rfl (by kernel_rfl))
   obtain ⟨n1,rfl,w1⟩:=Wf.int_inv Tryz.underlying3 (Wf.fld (i:=1) (off:=1) (k:=1) hu h rfl rfl rfl (by kernel_rfl))
   obtain ⟨m0,rfl,b0⟩:=zDP w0
   exact ⟨⟨m0,n1⟩,rfl,zDb w1,b0⟩
theorem read_int (h:Wf Tryz.prog ro 3 cs):∃ n:Int,cs=[.int .i64 n]∧In64 n:=by
 cases h with
 | int h hw=>rw [Tryz.underlying3] at h;cases h;exact ⟨_,rfl,zDb hw⟩
 | bool h=>rw [Tryz.underlying3] at h;cases h
 | str h=>rw [Tryz.underlying3] at h;cases h
 | slice h=>rw [Tryz.underlying3] at h;cases h
 | struct h hl hw=>rw [Tryz.underlying3] at h;cases h
 | array h=>rw [Tryz.underlying3] at h;cases h
 | nought h=>rw [Tryz.underlying3] at h;cases h
 | other h=>exact absurd rfl ((h _ Tryz.underlying3).1 .i64)
theorem zHu (h:Wf Tryz.prog ro 4 cs):∃ b:Bool,cs=[.bool b]∧True:=by
 cases h with
 | bool h=>exact ⟨_,rfl,trivial⟩
 | int h hw=>rw [Tryz.underlying4] at h;cases h
 | str h=>rw [Tryz.underlying4] at h;cases h
 | slice h=>rw [Tryz.underlying4] at h;cases h
 | struct h hl hw=>rw [Tryz.underlying4] at h;cases h
 | array h=>rw [Tryz.underlying4] at h;cases h
 | nought h=>rw [Tryz.underlying4] at h;cases h
 | other h=>exact absurd rfl (h _ Tryz.underlying4).2.1
theorem zG0 (h:Wf Tryz.prog ro 40 cs):∃ (d:zAh) (x:zA5),cs=zAl d x∧zIu d∧NodeOk ro d x∧(∀ f∈d.fields,f.name.length≤reachBytes)∧d.text.length≤reachBytes∧d.ereg.length≤reachBytes∧d.reg.length≤reachBytes:=by
 have hu:=Tryz.underlying40
 have he:=Tryz.underlying35
 have hl:cs.length=18:=(Wf.struct_inv hu h).1.trans (by kernel_rfl)
 match cs,hl,h with
 | [v0,v1,v2,v3,v4,v5,v6,v7,v8,v9,v10,v11,v12,v13,v14,v15,v16,v17],_,h =>
   obtain ⟨n0,rfl,w0⟩:=Wf.int_inv Tryz.underlying3 (Wf.fld (i:=0) (off:=0) (k:=1) hu h rfl rfl rfl (by kernel_rfl))
   obtain ⟨n1,rfl,w1⟩:=Wf.int_inv Tryz.underlying3 (Wf.fld (i:=1) (off:=1) (k:=1) hu h rfl rfl rfl (by kernel_rfl))
   obtain ⟨b2,rfl⟩:=Wf.bool_inv Tryz.underlying4 (Wf.fld (i:=2) (off:=2) (k:=1) hu h rfl rfl rfl (by kernel_rfl))
   obtain ⟨b3,rfl⟩:=Wf.bool_inv Tryz.underlying4 (Wf.fld (i:=3) (off:=3) (k:=1) hu h rfl rfl rfl (by kernel_rfl))
   obtain ⟨b4,rfl⟩:=Wf.bool_inv Tryz.underlying4 (Wf.fld (i:=4) (off:=4) (k:=1) hu h rfl rfl rfl (by kernel_rfl))
   obtain ⟨n5,rfl,w5⟩:=Wf.int_inv Tryz.underlying33 (Wf.fld (i:=5) (off:=5) (k:=1) hu h rfl rfl rfl (by kernel_rfl))
   obtain ⟨n6,rfl,w6⟩:=Wf.int_inv Tryz.underlying33 (Wf.fld (i:=6) (off:=6) (k:=1) hu h rfl rfl rfl (by kernel_rfl))
   obtain ⟨l7,rfl,hl7⟩:=Wf.str_inv Tryz.underlying9 (Wf.fld (i:=7) (off:=7) (k:=1) hu h rfl rfl rfl (by kernel_rfl))
   have hx:Wf Tryz.prog ro 35 [v8,v9,v10]:=Wf.fld (i:=8) (off:=8) (k:=3) hu h rfl rfl rfl (by kernel_rfl)
   obtain ⟨l8,rfl,hl8⟩:=Wf.str_inv Tryz.underlying9 (Wf.fld (i:=0) (off:=0) (k:=1) he hx rfl rfl rfl (by kernel_rfl))
   obtain ⟨n9,rfl,w9⟩:=Wf.int_inv Tryz.underlying33 (Wf.fld (i:=1) (off:=1) (k:=1) he hx rfl rfl rfl (by kernel_rfl))
   obtain ⟨n10,rfl,w10⟩:=Wf.int_inv Tryz.underlying33 (Wf.fld (i:=2) (off:=2) (k:=1) he hx rfl rfl rfl (by kernel_rfl))
   obtain ⟨ka,kn,kc,kcs,rfl,kr,kl,kw⟩:=Wf.slice_inv (s:=1) Tryz.underlying31 (by kernel_rfl) (by omega) (Wf.fld (i:=9) (off:=11) (k:=1) hu h rfl rfl rfl (by kernel_rfl))
   obtain ⟨la,ln,lc,lcs,rfl,lr,ll,lw⟩:=Wf.slice_inv (s:=1) Tryz.underlying36 (by kernel_rfl) (by omega) (Wf.fld (i:=10) (off:=12) (k:=1) hu h rfl rfl rfl (by kernel_rfl))
   obtain ⟨fa,fn,fc,fcs,rfl,fr,fl,fw⟩:=Wf.slice_inv (s:=5) Tryz.underlying37 (by kernel_rfl) (by omega) (Wf.fld (i:=11) (off:=13) (k:=1) hu h rfl rfl rfl (by kernel_rfl))
   obtain ⟨l14,rfl,hl14⟩:=Wf.str_inv Tryz.underlying9 (Wf.fld (i:=12) (off:=14) (k:=1) hu h rfl rfl rfl (by kernel_rfl))
   obtain ⟨n15,rfl,w15⟩:=Wf.int_inv Tryz.underlying33 (Wf.fld (i:=13) (off:=15) (k:=1) hu h rfl rfl rfl (by kernel_rfl))
   obtain ⟨ca,cn,cc,ccs,rfl,cr,cl,cw⟩:=Wf.slice_inv (s:=2) Tryz.underlying38 (by kernel_rfl) (by omega) (Wf.fld (i:=14) (off:=16) (k:=1) hu h rfl rfl rfl (by kernel_rfl))
   obtain ⟨n17,rfl,w17⟩:=Wf.int_inv Tryz.underlying3 (Wf.fld (i:=15) (off:=17) (k:=1) hu h rfl rfl rfl (by kernel_rfl))
   obtain ⟨m5,rfl,b5⟩:=zDP w5
   obtain ⟨m6,rfl,b6⟩:=zDP w6
   obtain ⟨m9,rfl,b9⟩:=zDP w9
   obtain ⟨m10,rfl,b10⟩:=zDP w10
   obtain ⟨m15,rfl,b15⟩:=zDP w15
   obtain ⟨ks,rfl,hk⟩:=zBR (V:=fun n:Int=>[Value.int .i64 n]) (fun i x hx=>read_int (kw i x hx))
   obtain ⟨ls,rfl,_⟩:=zBR (V:=fun b:Bool=>[Value.bool b]) (fun i x hx=>zHu (lw i x hx))
   obtain ⟨fs,rfl,hf⟩:=zBR (V:=zA1) (fun i x hx=>zG1 (fw i x hx))
   obtain ⟨cases,rfl,hc⟩:=zBR (V:=zCA) (fun i x hx=>zHt (cw i x hx))
   rw [List.length_map] at kl ll fl cl
   subst kl;subst ll;subst fl;subst cl
   have e1:(ks.map fun n:Int=>[Value.int .i64 n]).flatten=zAs ks:=zCJ _ _
   have e2:(ls.map fun b:Bool=>[Value.bool b]).flatten=zBf ls:=zCJ _ _
   rw [e1] at kr
   rw [e2] at lr
   exact ⟨⟨n0,n1,b2,b3,b4,m5,m6,l7,l8,m9,m10,ks,ls,fs,l14,m15,cases,n17⟩,⟨ka,kc,la,lc,fa,fc,ca,cc⟩,rfl,
    ⟨zDb w0,zDb w1,b5,b6,b9,b10,b15,zDb w17,hk,fun f h=>(hf f h).1,hc⟩,⟨kr,lr,by rw [zA0,List.flatMap_def];exact fr,by rw [zAu,List.flatMap_def];exact cr⟩,fun f h=>(hf f h).2,hl7,hl8,hl14⟩
end
theorem read_def {ro:Ro}{cs:List Value} (h:Wf Tryz.prog ro 44 cs):∃ f:DefD,cs=defV f∧In64 f.type∧f.name.length≤reachBytes:=by
 have hu:=Tryz.underlying44
 have hl:cs.length=2:=(Wf.struct_inv hu h).1.trans (by kernel_rfl)
 match cs,hl,h with
 | [v0,v1],_,h =>
   obtain ⟨l0,rfl,hl0⟩:=Wf.str_inv Tryz.underlying9 (Wf.fld (i:=0) (off:=0) (k:=1) hu h rfl rfl rfl (by kernel_rfl))
   obtain ⟨n1,rfl,w1⟩:=Wf.int_inv Tryz.underlying3 (Wf.fld (i:=1) (off:=1) (k:=1) hu h rfl rfl rfl (by kernel_rfl))
   exact ⟨⟨l0,n1⟩,rfl,zDb w1,hl0⟩
theorem zG7 (l:List (zAh × zA5)):(l.map fun p=>zAl p.1 p.2).flatten=zA4 (l.map (·.1)) (l.map (·.2)):=by
 induction l with
 | nil=>rfl
 | cons p l ih=>simp only [List.map_cons,List.flatten_cons,ih];rfl
structure zEk (s:zAd):Prop where
 nodes:∀ d∈s.nodes,zIu d
 defs:∀ d∈s.defs,In64 d.type
 names:∀ d∈s.nodes,∀ f∈d.fields,f.name.length≤reachBytes
 texts:∀ d∈s.nodes,d.text.length≤reachBytes∧d.ereg.length≤reachBytes∧d.reg.length≤reachBytes
 dnames:∀ d∈s.defs,d.name.length≤reachBytes
theorem zEL {ro:Ro}{cs:List Value} (h:Wf Tryz.prog ro 25 cs):∃ (s:zAd) (a:zAp),cs=zAf s a∧zEk s∧SpecOk ro s a:=by
 have hu:=Tryz.underlying25
 have hl:cs.length=2:=(Wf.struct_inv hu h).1.trans (by kernel_rfl)
 match cs,hl,h with
 | [v0,v1],_,h =>
   obtain ⟨na,nn,nc,ncs,rfl,nr,nl,nw⟩:=Wf.slice_inv (s:=18) Tryz.underlying22 (by kernel_rfl) (by omega) (Wf.fld (i:=0) (off:=0) (k:=1) hu h rfl rfl rfl (by kernel_rfl))
   obtain ⟨da,dn,dc,dcs,rfl,dr,dl,dw⟩:=Wf.slice_inv (s:=2) Tryz.underlying23 (by kernel_rfl) (by omega) (Wf.fld (i:=1) (off:=1) (k:=1) hu h rfl rfl rfl (by kernel_rfl))
   obtain ⟨ns,rfl,hn⟩:=zBR (V:=fun p:zAh × zA5=>zAl p.1 p.2) (G:=fun p=>zIu p.1∧NodeOk ro p.1 p.2∧(∀ f∈p.1.fields,f.name.length≤reachBytes)∧p.1.text.length≤reachBytes∧p.1.ereg.length≤reachBytes∧p.1.reg.length≤reachBytes) (fun i x hx=>by obtain ⟨d,x',e,g1,g2,g3⟩:=zG0 (nw i x hx);exact ⟨(d,x'),e,g1,g2,g3⟩)
   obtain ⟨ds,rfl,hd⟩:=zBR (V:=defV) (fun i x hx=>read_def (dw i x hx))
   rw [List.length_map] at nl dl
   subst nl;subst dl
   rw [zG7] at nr
   refine ⟨⟨ns.map (·.1),ds⟩,⟨na,nc,da,dc,ns.map (·.2)⟩,by simp [zAf],⟨fun d hd'=>?_,fun d hd'=>(hd d hd').1,fun d hd'=>?_,fun d hd'=>?_,fun d hd'=>(hd d hd').2⟩,⟨by simp,by simpa using nr,fun i d x g1 g2=>?_,by rw [zCL,List.flatMap_def];exact dr⟩⟩
   ·obtain ⟨p,hp,rfl⟩:=List.mem_map.1 hd'
    exact (hn p hp).1
   ·obtain ⟨p,hp,rfl⟩:=List.mem_map.1 hd'
    exact (hn p hp).2.2.1
   ·obtain ⟨p,hp,rfl⟩:=List.mem_map.1 hd'
    exact (hn p hp).2.2.2
   ·rw [List.getElem?_map] at g1 g2
    cases hp:ns[i]? with
    | none=>rw [hp] at g1;cases g1
    | some p =>
      rw [hp] at g1 g2
      cases g1;cases g2
      exact (hn p (List.mem_of_getElem? hp)).2.1
section
variable {ro:Ro}{own r:Chs}{K:Value→Ro→Chs→Prop}{g:Chunk→Chs}
end
theorem TextIn.of {s:zAd} (h:zEk s):TextIn s:=by
 have e:reachBytes≤4611686018427387904:=by decide
 exact ⟨fun d hd f hf=>Nat.le_trans (h.names d hd f hf) e,fun d hd=>Nat.le_trans (h.texts d hd).1 e,fun d hd=>Nat.le_trans (h.dnames d hd) e⟩
section
variable {ro:Ro}{own:Chs}{K:Value→Ro→Chs→Prop}{s:zAd}{a:zAp}
end
theorem zHD {s:zAd}{lk:Lk} (h:zAM s=.ok lk) {q:Nat × Nat × Nat} (hq:q∈zAv lk s.nodes.length):∃ d g,s.nodes[q.2.1]?=some d∧d.fields[q.2.2]?=some g∧zBN s g.type=true∧d.fields.length≤64∧s.nodes.length≤2048∧d.kind=5:=by
 unfold zAv at hq
 rw [List.mem_filterMap] at hq
 obtain ⟨i,hi,hm⟩:=hq
 have hil:=List.mem_range.1 hi
 obtain ⟨d,hd⟩:∃ d,s.nodes[i]?=some d:=⟨_,List.getElem?_eq_getElem hil⟩
 rcases zGA h hd with ⟨_,h2⟩|⟨_,r,f,h2,e,g,h3,h4,h5,h6,h7,h8,j,w,h9,h10,h11⟩
 ·rw [h2] at hm;cases hm
 ·rw [h2] at hm
  simp only [Option.map_some,Option.some.injEq] at hm
  subst hm
  have hv:=Ahead.of (zBe h).1
  exact ⟨e,g,h3,h5,h7,(zAI (hv r e h3).1).2.1,(zBe h).2,h4⟩
theorem cnt_pos {l:List (Nat × Nat × Nat)}{k:Nat × Nat} (h:cntL l k≠0):∃ q∈l,(q.2.1,q.2.2)=k:=by
 unfold cntL at h
 obtain ⟨q,hq⟩:=List.exists_mem_of_length_pos (Nat.pos_of_ne_zero h)
 rw [List.mem_filter,decide_eq_true_eq] at hq
 exact ⟨q,hq⟩
def sumK (S:List ((Nat × Nat) × Nat × Nat)):Nat:=(S.map (fun p=>p.2.1)).sum
theorem zFO {α:Type}:∀ l:List α,(l.map (fun _=>0)).sum=0
 | []=>rfl
 | x::l=>by rw [List.map_cons,List.sum_cons,zFO l]
theorem zFl {α:Type} [BEq α] [LawfulBEq α] {a:α}:∀ {l:List α},l.Nodup→a∈l→l.count a=1
 | [],_,h=>by cases h
 | x::l,hn,h=>by
   rw [List.nodup_cons] at hn
   rw [List.count_cons]
   by_cases hx:x=a
   ·subst hx
    rw [List.count_eq_zero.2 hn.1];simp
   ·rcases List.mem_cons.1 h with h|h
    ·exact absurd h.symm hx
    ·rw [zFl hn.2 h];simp [hx]
theorem zHg:∀ (l:List (Nat × Nat × Nat)) {ks:List (Nat × Nat)},ks.Nodup→(∀ q∈l,(q.2.1,q.2.2)∈ks)→(ks.map (cntL l)).sum=l.length
 | [],ks,_,_=>by
   have:ks.map (cntL [])=ks.map (fun _=>0):=List.map_congr_left fun k _=>rfl
   rw [this]
   exact zFO ks
 | q::l,ks,hn,hm=>by
   have ih:=zHg l hn (fun x hx=>hm x (List.mem_cons_of_mem _ hx))
   have hq:=hm q (by simp)
   have hc:∀ k,cntL (q::l) k=cntL l k+(if k=(q.2.1,q.2.2) then 1 else 0):=fun k=>by
    unfold cntL
    rw [List.filter_cons]
    by_cases h:(q.2.1,q.2.2)=k
    ·rw [if_pos (decide_eq_true h),if_pos h.symm,List.length_cons]
    ·rw [if_neg (by simpa using h),if_neg (fun e=>h e.symm),Nat.add_zero]
   have h2:∀ (ks:List (Nat × Nat)),(ks.map (fun k=>cntL l k+(if k=(q.2.1,q.2.2) then 1 else 0))).sum=(ks.map (cntL l)).sum+ks.count (q.2.1,q.2.2):=fun ks=>by
    induction ks with
    | nil=>rfl
    | cons k ks ih2 =>
      rw [List.map_cons,List.sum_cons,ih2,List.map_cons,List.sum_cons,List.count_cons]
      by_cases h:k=(q.2.1,q.2.2)
      ·simp [h];omega
      ·simp [h];omega
   have h3:ks.map (cntL (q::l))=ks.map (fun k=>cntL l k+(if k=(q.2.1,q.2.2) then 1 else 0)):=List.map_congr_left fun k _=>hc k
   rw [h3,h2,ih,zFl hn hq,List.length_cons]
theorem zDm {α:Type} [DecidableEq α]:∀ {l m:List α},l.Nodup→(∀ x∈l,x∈m)→l.length≤m.length
 | [],m,_,_=>Nat.zero_le _
 | x::l,m,hn,hs=>by
   have hn2:=List.nodup_cons.1 hn
   have hx:=hs x (List.mem_cons_self ..)
   have:=zDm (m:=m.erase x) hn2.2 (fun y hy=>(List.mem_erase_of_ne (fun (e:y=x)=>hn2.1 (e▸hy))).2 (hs y (List.mem_cons_of_mem _ hy)))
   rw [List.length_erase_of_mem hx] at this
   have:=List.length_pos_of_mem hx
   rw [List.length_cons]
   omega
structure SubK {α:Type} (I S:List α):Prop where
 sub:∀ p∈S,p∈I
 nodup:S.Nodup
theorem SubK.snoc {α:Type}{M S:List α} (h:SubK M S) {p:α} (hp:p∈M) (hn:p∉S):SubK M (S++[p]):=by
 refine ⟨fun q hq=>?_,?_⟩
 ·rcases List.mem_append.1 hq with hq|hq
  ·exact h.sub q hq
  ·simp at hq;subst hq;exact hp
 ·rw [List.nodup_append]
  exact ⟨h.nodup,by simp,fun x hx y hy=>by simp at hy;subst hy;exact fun e=>hn (e▸hx)⟩
theorem AskM.ent {l:List (Nat × Nat × Nat)}{M:List ((Nat × Nat) × Nat × Nat)}{c:Nat} (h:AskM l M c) {p:(Nat × Nat) × Nat × Nat} (hp:p∈M):p.2.1=cntL l p.1∧p.2.1≠0:=by
 obtain ⟨j,hj⟩:=List.getElem?_of_mem hp
 have h1:=(Go.E.get_at h.map.nodup hj).1
 rw [h.is] at h1
 by_cases h0:cntL l p.1=0
 ·rw [if_pos h0] at h1;cases h1
 ·rw [if_neg h0] at h1
  have:=Option.some.inj h1
  exact ⟨this.symm,by omega⟩
theorem AskM.has {l:List (Nat × Nat × Nat)}{M:List ((Nat × Nat) × Nat × Nat)}{c:Nat} (h:AskM l M c) {q:Nat × Nat × Nat} (hq:q∈l):(q.2.1,q.2.2)∈M.map (·.1):=by
 refine Classical.byContradiction fun hn=>?_
 have h1:=(Go.E.get_none (l:=M) (k:=(q.2.1,q.2.2)) (fun p hp e=>hn (List.mem_map.2 ⟨p,hp,e⟩))).1
 rw [h.is] at h1
 have:cntL l (q.2.1,q.2.2)≠0:=by
  unfold cntL
  have:q∈l.filter (fun x=>decide ((x.2.1,x.2.2)=(q.2.1,q.2.2))):=List.mem_filter.2 ⟨hq,by simp⟩
  have:=List.length_pos_of_mem this
  omega
 rw [if_neg this] at h1
 cases h1
theorem AskM.sum {l:List (Nat × Nat × Nat)}{M S:List ((Nat × Nat) × Nat × Nat)}{c:Nat} (h:AskM l M c) (hs:SubK M S) (ha:∀ p∈M,p∈S):sumK S=l.length:=by
 have hnk:(S.map (·.1)).Nodup:=by
  have h1:=h.map.nodup
  rw [List.nodup_iff_pairwise_ne,List.pairwise_map]
  refine (List.nodup_iff_pairwise_ne.1 hs.nodup).imp_of_mem fun {x y} hx hy hxy e=>hxy ?_
  exact Go.E.nodup_inj h1 x (hs.sub x hx) y (hs.sub y hy) e
 have h2:=zHg l hnk (fun q hq=>by
  obtain ⟨p,hp,e⟩:=List.mem_map.1 (h.has hq)
  exact List.mem_map.2 ⟨p,ha p hp,e⟩)
 rw [←h2,List.map_map]
 unfold sumK
 congr 1
 exact List.map_congr_left fun p hp=>(h.ent (hs.sub p hp)).1
section
variable {ro:Ro}{own:Chs}{K:Value→Ro→Chs→Prop}{s:zAd}{a:zAp}
set_option maxHeartbeats 8000000 in
theorem zEJ (ho:SpecOk ro s a) (hi:zEk s) (hS:SpOk ro) (hM:MaxOk ro) (hk:∀ ro',K (.bool true) ro' own):CallOk Tryz.prog 9 #[.agg (zAf s a).toArray] ro own K:=by
 have hT:=TextIn.of hi
 have hcl:(Value.agg (zAf s a).toArray).cells.toList=zAf s a:=rfl
 refine CallOk.intro (args:=[_]) (rs:=[_]) T_ok Tryz.func9 Tryz.call9 rfl rfl (by kernel_rfl) rfl rfl ?_
 repeat first|exact zE|refine zP ?_|refine zB fun b=>?_|refine zC fun a' c' hc1 hc2=>?_|(apply GJ.a;exact rfl;intro hg)|(apply GJ.o;exact rfl;intro hg)
 rw [hcl]
 obtain ⟨bS,hbS⟩:∃ z:Nat,z=b:=⟨_,rfl⟩
 subst hbS
 refine zEd hS hM (fun ro1 hl1=>?_)
 have ho1:=ho.lift hl1
 have hM1:=hM.le hl1
 have hk1:=hk ro1
 repeat first|exact zE|refine zP ?_|refine zB fun b=>?_|refine zC fun a' c' hc1 hc2=>?_|(apply GJ.a;exact rfl;intro hg)|(apply GJ.o;exact rfl;intro hg)
 refine zDT ho1 (fun hs=>?_) (fun hs=>?_)
 ·repeat first|exact zE|refine zP ?_|refine zB fun b=>?_|refine zC fun a' c' hc1 hc2=>?_|(apply GJ.a;exact rfl;intro hg)|(apply GJ.o;exact rfl;intro hg)
  exact Wk.outS Sup.z (.refl _) hk1
 repeat first|exact zE|refine zP ?_|refine zB fun b=>?_|refine zC fun a' c' hc1 hc2=>?_|(apply GJ.a;exact rfl;intro hg)|(apply GJ.o;exact rfl;intro hg)
 refine zCq ho1 hM1 hT (fun ro2 hl2=>?_)
 have ho2:=ho1.lift hl2
 have hM2:=hM1.le hl2
 have hk2:=hk ro2
 cases hlk:zAM s with
 | error e =>
   have hz:=zCd hlk
   obtain ⟨e1,e2⟩:=e
   dsimp only [errR,flV] at hz ⊢
   repeat first|exact zE|refine zP ?_|refine zB fun b=>?_|refine zC fun a' c' hc1 hc2=>?_|(apply GJ.a;exact rfl;intro hg)|(apply GJ.o;exact rfl;intro hg)
   exact Wk.outS Sup.z (.refl _) hk2
 | ok lk =>
   dsimp only [errR,flV]
   have hlm:=fun q=>zHD hlk (q:=q)
   repeat first|exact zE|refine zP ?_|refine zB fun b=>?_|refine zC fun a' c' hc1 hc2=>?_|(apply GJ.a;exact rfl;intro hg)|(apply GJ.o;exact rfl;intro hg)
   refine zDX ho2 hM2 hT (fun lk' h q hq=>?_) (fun ro3 hl3 e he=>by rw [hlk] at he;cases he) (fun ro3 hl3 lk' h bA MA cA hA=>?_)
   ·rw [hlk] at h;cases h
    obtain ⟨d,g,m1,m2,_,m4,m5,_⟩:=hlm q hq
    have h1:=(List.getElem?_eq_some_iff.1 m1).1
    have h2:=(List.getElem?_eq_some_iff.1 m2).1
    exact ⟨by omega,by omega⟩
   rw [hlk] at h;cases h
   have ho3:=ho2.lift hl3
   have hM3:=hM2.le hl3
   dsimp only [tup,flV]
   repeat first|exact zE|refine zP ?_|refine zB fun b=>?_|refine zC fun a' c' hc1 hc2=>?_|(apply GJ.a;exact rfl;intro hg)|(apply GJ.o;exact rfl;intro hg)
   refine zCP ho3 hM3 hT (fun ro4 hl4 e he=>by rw [hlk] at he;cases he) (fun ro4 hl4 lk' h la lc g1 g2=>?_)
   rw [hlk] at h;cases h
   have ho4:=ho3.lift hl4
   have hk4:=hk ro4
   have hr4:=ho4.nodes
   have hm:=hr4.max
   have hnc:=hr4.le
   unfold maxLen at hm
   have hll:=zC5 lk s.nodes.length
   have h48:=(zBe hlk).2
   generalize hL:zAv lk s.nodes.length=L at *
   dsimp only [tup,flV]
   repeat first|exact zE|refine zP ?_|refine zB fun b=>?_|refine zC fun a' c' hc1 hc2=>?_|(apply GJ.a;exact rfl;intro hg)|(apply GJ.o;exact rfl;intro hg)
   rename_i bF
   obtain ⟨bG,hbG⟩:∃ z:Nat,z=b:=⟨_,rfl⟩
   subst hbG
   refine OpOk.rangeG (kt:=78) (et:=3) (kv:=twoN) (vv:=nN) (bm:=bA) (l:=MA) (c:=cA) rfl (by kernel_rfl) (fun bR=>?_)
   have hsum:=fun S=>hA.sum (S:=S)
   have hent:=fun p=>hA.ent (p:=p)
   have hcl2:∀ S:List ((Nat × Nat) × Nat × Nat),SubK MA S→S.length≤MA.length:=fun S h=>zDm h.nodup h.sub
   have hmemL:∀ p∈MA,∃ q∈L,(q.2.1,q.2.2)=p.1:=fun p hp=>cnt_pos (by rw [←(hent p hp).1];exact (hent p hp).2)
   have hML:MA.length≤L.length:=by
    have:=zDm (l:=MA.map (·.1)) (m:=L.map (fun q=>(q.2.1,q.2.2))) hA.map.nodup (fun k hk=>by
     obtain ⟨p,hp,rfl⟩:=List.mem_map.1 hk
     obtain ⟨q,hq,e⟩:=hmemL p hp
     exact List.mem_map.2 ⟨q,hq,e⟩)
    rwa [List.length_map,List.length_map] at this
   have hcle:∀ k,cntL L k≤L.length:=fun k=>List.length_filter_le _ _
   repeat first|exact zE|refine zP ?_|refine zB fun b=>?_|refine zC fun a' c' hc1 hc2=>?_|(apply GJ.a;exact rfl;intro hg)|(apply GJ.o;exact rfl;intro hg)
   refine LoopOk.at (ι:=List ((Nat × Nat) × Nat × Nat)) Keep.z (fun S=>[(7,.int .i64 (sumK S:Int))]) (fun S=>.obj bR (zCi bA cA S)::.blk bG 58 [.int .i64 0,.int .i64 0]::.sl la L.length lc 70 3 (zAw L)::.blk bF 58 [.int .i64 0,.int .i64 0]::.obj bA (mapG twoN nN MA cA)::.blk bS 25 (zAf s a)::own) (fun S=>SubK MA S∧sumK S≤2048*S.length) (fun S=>MA.length-S.length) [] ?_ Sub.z Sup.z ?_
   ·exact ⟨⟨(fun q h=>by cases h),List.nodup_nil⟩,Nat.zero_le _⟩
   rintro S ⟨j1,j2⟩
   dsimp only [List.cons_append,List.nil_append] at j1 j2 ⊢
   repeat first|exact zE|refine zP ?_|refine zB fun b=>?_|refine zC fun a' c' hc1 hc2=>?_|(apply GJ.a;exact rfl;intro hg)|(apply GJ.o;exact rfl;intro hg)
   refine OpOk.nextG (kv:=twoN) (vv:=nN) (bi:=bR) (bm:=bA) (l:=MA) (S:=S) rfl hA.born j1.sub (fun hall=>?_) (fun p hp hpn=>?_)
   ·have hs2:=hsum S j1 hall
    rw [hs2]
    repeat first|exact zE|refine zP ?_|refine zB fun b=>?_|refine zC fun a' c' hc1 hc2=>?_|(apply GJ.a;exact rfl;intro hg)|(apply GJ.o;exact rfl;intro hg)
    exact Wk.outV Sup.z hk4 (congrArg Value.bool (by simp))
   obtain ⟨e1,e2⟩:=hent p hp
   have hsn:=j1.snoc hp hpn
   have hsl:=hcl2 _ hsn
   have hss:sumK (S++[p])=sumK S+p.2.1:=by unfold sumK;simp
   rw [List.length_append,List.length_singleton] at hsl
   obtain ⟨q,hq,hqk⟩:=hmemL p hp
   obtain ⟨d,g,m1,m2,m3,m4,m5,m6⟩:=hlm q hq
   have hp2:=hcle p.1
   obtain ⟨⟨pr,pf⟩,n,st⟩:=p
   obtain ⟨qi,r,f⟩:=q
   cases hqk
   dsimp only at e1 e2 hss hp2 m1 m2
   have hv:=Ahead.of (zBe hlk).1
   obtain ⟨hfd,hkd⟩:=hv _ d m1
   obtain ⟨t1,t2⟩:=hkd g.type (by rw [zAz hfd m6];exact List.mem_map.2 ⟨g,List.mem_of_getElem? m2,rfl⟩)
   obtain ⟨t,ht⟩:=Int.eq_ofNat_of_zero_le t1
   have hrl:=(List.getElem?_eq_some_iff.1 m1).1
   obtain ⟨w,hw⟩:∃ w,s.nodes[t]?=some w:=⟨_,List.getElem?_eq_getElem (by omega)⟩
   obtain ⟨y,hy⟩:∃ y,a.xs[r]?=some y:=⟨_,List.getElem?_eq_getElem (by rw [ho.len];exact hrl)⟩
   obtain ⟨z,hz⟩:∃ y,a.xs[t]?=some y:=⟨_,List.getElem?_eq_getElem (by rw [ho.len];omega)⟩
   have hnum:decide (w.kind=1∨w.kind=2)=true:=by
    unfold zBN at m3
    rw [ht,Int.toNat_natCast,hw] at m3
    exact m3
   have hne:=ho4.each r d y m1 hy
   have hfe:=hne.fields
   have hdrw:=zAj _ _ _ _ _ hw hz
   have hgf:(zA4 s.nodes a.xs)[r*18+13]?=some (.slice y.fa d.fields.length y.fc):=by rw [zBr m1 hy (by decide)];rfl
   have hfl:=(List.getElem?_eq_some_iff.1 m2).1
   have hg1:(zA0 d.fields)[f*5+1]?=some (.int .i64 (t:Int)):=by rw [zBG m2 (by decide),←ht];rfl
   have hb:sumK S+n≤100000000:=by omega
   clear hent hmemL hcle hsum hcl2 hlm
   have hb2:sumK (S++[((r,f),n,st)])≤100000000:=by rw [hss];exact hb
   dsimp only [twoN,nN]
   repeat first|exact zE|refine zP ?_|refine zB fun b=>?_|refine zC fun a' c' hc1 hc2=>?_|(apply GJ.a;exact rfl;intro hg)|(apply GJ.o;exact rfl;intro hg)
   refine OpOk.entryG (kv:=twoN) (vv:=nN) (bi:=bR) (bm:=bA) (l:=MA) (S:=S) (p:=((r,f),n,st)) rfl hA.born hp ?_
   dsimp only [twoN,nN]
   repeat first|exact zE|refine zP ?_|refine zB fun b=>?_|refine zC fun a' c' hc1 hc2=>?_|(apply GJ.a;exact rfl;intro hg)|(apply GJ.o;exact rfl;intro hg)
   rw [Int.toNat_natCast,Nat.add_assoc]
   refine QOk.load rfl rfl (Ld.rs hr4 hgf) ?_
   repeat first|exact zE|refine zP ?_|refine zB fun b=>?_|refine zC fun a' c' hc1 hc2=>?_|(apply GJ.a;exact rfl;intro hg)|(apply GJ.o;exact rfl;intro hg)
   rw [Int.toNat_natCast,Nat.add_assoc]
   refine QOk.load rfl rfl (Ld.rs hfe hg1) ?_
   repeat first|exact zE|refine zP ?_|refine zB fun b=>?_|refine zC fun a' c' hc1 hc2=>?_|(apply GJ.a;exact rfl;intro hg)|(apply GJ.o;exact rfl;intro hg)
   rw [Int.toNat_natCast]
   refine QOk.loadRow rfl rfl (LdN.at hr4 hdrw) rfl ?_
   repeat first|exact zE|refine zP ?_|refine zB fun b=>?_|refine zC fun a' c' hc1 hc2=>?_|(apply GJ.a;exact rfl;intro hg)|(apply GJ.o;exact rfl;intro hg)
   refine zAB ?_
   rw [hnum]
   repeat first|exact zE|refine zP ?_|refine zB fun b=>?_|refine zC fun a' c' hc1 hc2=>?_|(apply GJ.a;exact rfl;intro hg)|(apply GJ.o;exact rfl;intro hg)
   rw [show ((sumK S:Int)+(n:Int))=(sumK (S++[((r,f),n,st)]):Int) by rw [hss];simp]
   refine Wk.id ⟨S++[((r,f),n,st)],⟨rfl,?_⟩,?_,Sub.z,Sup.z⟩
   all_goals try dsimp only
   ·exact ⟨hsn,by rw [hss,List.length_append,List.length_singleton];omega⟩
   ·rw [List.length_append,List.length_singleton];omega
end
def plV (p:Nat × Nat):Value:=.agg #[.int .i64 (p.1:Int),.int .i64 (p.2:Int)]
theorem zGE {fs:List zAm}{nm:List UInt8}{j:Nat}{f:zAm} (hf:fs[j]?=some f):zBl (fs.drop j) nm j=if f.name=nm then (j:Int) else zBl (fs.drop (j+1)) nm (j+1):=by
 have hl:=(List.getElem?_eq_some_iff.1 hf).1
 rw [List.drop_eq_getElem_cons hl,show fs[j]=f from Option.some.inj ((List.getElem?_eq_getElem hl).symm.trans hf),zBl]
theorem zHE {fs:List zAm}{nm:List UInt8}{j:Nat}{f:zAm}{z:Int} (hf:fs[j]?=some f):zCf (fs.drop j) nm j z=zCf (fs.drop (j+1)) nm (j+1) (if f.name=nm then (j:Int) else z):=by
 have hl:=(List.getElem?_eq_some_iff.1 hf).1
 rw [List.drop_eq_getElem_cons hl,show fs[j]=f from Option.some.inj ((List.getElem?_eq_getElem hl).symm.trans hf),zCf]
section
variable {ro:Ro}{own:Chs}{K:Value→Ro→Chs→Prop}{s:zAd}{a:zAp}
set_option maxHeartbeats 4000000 in
theorem zET (ho:SpecOk ro s a) (hv:Ahead s) {r f:Nat}{d:zAh} (hd:s.nodes[r]?=some d) (hf:f<d.fields.length) (hk:K (.bool (zB3 s r f)) ro own) :
  CallOk Tryz.prog 96 #[.agg (zAf s a).toArray,.agg #[.int .i64 (r:Int),.int .i64 (f:Int)]] ro own K:=by
 have hcl:(Value.agg (zAf s a).toArray).cells.toList=zAf s a:=rfl
 have hr1:=ho.nodes
 have hm:=hr1.max
 have hnc:=hr1.le
 unfold maxLen at hm
 obtain ⟨x,hx⟩:∃ x,a.xs[r]?=some x:=⟨_,List.getElem?_eq_getElem (by rw [ho.len];exact (List.getElem?_eq_some_iff.1 hd).1)⟩
 have hrl:=(List.getElem?_eq_some_iff.1 hd).1
 have hn1:=ho.each r d x hd hx
 have hfr:=hn1.fields
 have hfm:=hfr.max
 have hfl:=hfr.le
 unfold maxLen at hfm
 have hdr1:=zAj _ _ _ _ _ hd hx
 obtain ⟨hfo,hks⟩:=hv r d hd
 have h5:=zBh hfo (by omega)
 obtain ⟨g,hg⟩:∃ g,d.fields[f]?=some g:=⟨_,List.getElem?_eq_getElem hf⟩
 have hge:d.fields[f]=g:=Option.some.inj ((List.getElem?_eq_getElem hf).symm.trans hg)
 have hgd:=zAn d.fields hf
 rw [hge] at hgd
 unfold zB3 at hk
 rw [hd] at hk
 dsimp only at hk
 rw [hg] at hk
 dsimp only at hk
 refine CallOk.intro (args:=[_,_]) (rs:=[_]) T_ok Tryz.func96 Tryz.call96 rfl rfl (by kernel_rfl) rfl rfl ?_
 repeat first|exact zE|refine zP ?_|refine zB fun b=>?_|refine zC fun a' c' hc1 hc2=>?_|(apply GJ.a;exact rfl;intro hg)|(apply GJ.o;exact rfl;intro hg)
 rename_i bS
 obtain ⟨bP,hbP⟩:∃ z:Nat,z=b:=⟨_,rfl⟩
 subst hbP
 rw [hcl,show (Value.agg #[Value.int IntKind.i64 (r:Int),Value.int IntKind.i64 (f:Int)]).cells.toList=[.int .i64 (r:Int),.int .i64 (f:Int)] from rfl,Int.toNat_natCast]
 refine OpOk.loadRow rfl rfl (LdN.at hr1 hdr1) rfl ?_
 repeat first|exact zE|refine zP ?_|refine zB fun b=>?_|refine zC fun a' c' hc1 hc2=>?_|(apply GJ.a;exact rfl;intro hg)|(apply GJ.o;exact rfl;intro hg)
 obtain ⟨bN,hbN⟩:∃ z:Nat,z=b:=⟨_,rfl⟩
 subst hbN
 rw [Int.toNat_natCast]
 refine OpOk.loadRow rfl rfl (LdN.at hfr hgd) rfl ?_
 repeat first|exact zE|refine zP ?_|refine zB fun b=>?_|refine zC fun a' c' hc1 hc2=>?_|(apply GJ.a;exact rfl;intro hg)|(apply GJ.o;exact rfl;intro hg)
 obtain ⟨bG,hbG⟩:∃ z:Nat,z=b:=⟨_,rfl⟩
 subst hbG
 refine LoopOk.at (ι:=Nat) Keep.z (fun j=>[(24,.int .i64 (j:Int))]) (fun j=>.blk bG 47 (zA1 g)::.blk bN 40 (zAl d x)::.blk bP 132 [.int .i64 (r:Int),.int .i64 (f:Int)]::.blk bS 25 (zAf s a)::own) (fun j=>j≤d.fields.length∧(g.derive=1→zAt d g.of=zBl (d.fields.drop j) g.of j)) (fun j=>d.fields.length-j) 0 ?_ Sub.z Sup.z ?_
 ·exact ⟨Nat.zero_le _,fun _=>rfl⟩
 rintro j ⟨i1,i2⟩
 dsimp only [List.cons_append,List.nil_append] at i1 i2 ⊢
 by_cases hj:j<d.fields.length
 rotate_left
 ·obtain rfl:j=d.fields.length:=by omega
  rw [List.drop_length,zBl] at i2
  have hk:K (.bool false) ro own:=by
   by_cases h1:g.derive=1
   ·rw [i2 h1,show decide ((0:Int)≤-1)=false by decide,Bool.and_false,Bool.false_and] at hk
    exact hk
   ·rw [decide_eq_false h1,Bool.false_and,Bool.false_and] at hk
    exact hk
  clear i2
  repeat first|exact zE|refine zP ?_|refine zB fun b=>?_|refine zC fun a' c' hc1 hc2=>?_|(apply GJ.a;exact rfl;intro hg)|(apply GJ.o;exact rfl;intro hg)
  exact Wk.outS Sup.z (.refl _) hk
 obtain ⟨h,hh⟩:∃ h,d.fields[j]?=some h:=⟨_,List.getElem?_eq_getElem hj⟩
 have hhe:d.fields[j]=h:=Option.some.inj ((List.getElem?_eq_getElem hj).symm.trans hh)
 have hhd:=zAn d.fields hj
 rw [hhe] at hhd
 have i2:g.derive=1→zAt d g.of=if h.name=g.of then (j:Int) else zBl (d.fields.drop (j+1)) g.of (j+1):=fun h=>by rw [i2 h,zGE hh]
 have hht:h.type∈zAc d:=by rw [zAz hfo h5];exact List.mem_map.2 ⟨h,List.mem_of_getElem? hh,rfl⟩
 obtain ⟨q1,q2⟩:=hks _ hht
 obtain ⟨k,hk0⟩:=Int.eq_ofNat_of_zero_le q1
 obtain ⟨e,he⟩:∃ e,s.nodes[k]?=some e:=⟨_,List.getElem?_eq_getElem (by omega)⟩
 obtain ⟨y,hy⟩:∃ y,a.xs[k]?=some y:=⟨_,List.getElem?_eq_getElem (by rw [ho.len];omega)⟩
 have hg0:(zA4 s.nodes a.xs)[k*18+0]?=some (.int .i64 e.kind):=by rw [zBr he hy (by decide)];rfl
 clear hge hhe
 by_cases h1:g.derive=1
 rotate_left
 ·rw [decide_eq_false h1,Bool.false_and,Bool.false_and] at hk
  have i3:g.derive=1→zAt d g.of=zBl (d.fields.drop (j+1)) g.of (j+1):=fun h=>absurd h h1
  clear i2
  repeat first|exact zE|refine zP ?_|refine zB fun b=>?_|refine zC fun a' c' hc1 hc2=>?_|(apply GJ.a;exact rfl;intro hg)|(apply GJ.o;exact rfl;intro hg)
  rw [Int.toNat_natCast]
  refine OpOk.loadRow rfl rfl (LdN.at hfr hhd) rfl ?_
  repeat first|exact zE|refine zP ?_|refine zB fun b=>?_|refine zC fun a' c' hc1 hc2=>?_|(apply GJ.a;exact rfl;intro hg)|(apply GJ.o;exact rfl;intro hg)
  refine Wk.id ⟨j+1,⟨rfl,?_⟩,?_,Sub.z,Sup.z⟩
  all_goals try dsimp only
  ·exact ⟨by omega,i3⟩
  ·omega
 have i2:=i2 h1
 rw [decide_eq_true h1,Bool.true_and] at hk
 by_cases hn:h.name=g.of
 ·rw [if_pos hn] at i2
  rw [i2,Int.toNat_natCast,hh] at hk
  dsimp only at hk
  rw [hk0,Int.toNat_natCast,he] at hk
  dsimp only at hk
  rw [decide_eq_true (by omega:(0:Int)≤(j:Int)),Bool.true_and] at hk
  repeat first|exact zE|refine zP ?_|refine zB fun b=>?_|refine zC fun a' c' hc1 hc2=>?_|(apply GJ.a;exact rfl;intro hg)|(apply GJ.o;exact rfl;intro hg)
  rw [Int.toNat_natCast]
  refine OpOk.loadRow rfl rfl (LdN.at hfr hhd) rfl ?_
  repeat first|exact zE|refine zP ?_|refine zB fun b=>?_|refine zC fun a' c' hc1 hc2=>?_|(apply GJ.a;exact rfl;intro hg)|(apply GJ.o;exact rfl;intro hg)
  rw [hk0,Int.toNat_natCast,Nat.add_assoc]
  refine OpOk.load rfl rfl (Ld.rs hr1 hg0) ?_
  repeat first|exact zE|refine zP ?_|refine zB fun b=>?_|refine zC fun a' c' hc1 hc2=>?_|(apply GJ.a;exact rfl;intro hg)|(apply GJ.o;exact rfl;intro hg)
  exact Wk.outS Sup.z (.refl _) hk
 ·rw [if_neg hn] at i2
  repeat first|exact zE|refine zP ?_|refine zB fun b=>?_|refine zC fun a' c' hc1 hc2=>?_|(apply GJ.a;exact rfl;intro hg)|(apply GJ.o;exact rfl;intro hg)
  rw [Int.toNat_natCast]
  refine OpOk.loadRow rfl rfl (LdN.at hfr hhd) rfl ?_
  repeat first|exact zE|refine zP ?_|refine zB fun b=>?_|refine zC fun a' c' hc1 hc2=>?_|(apply GJ.a;exact rfl;intro hg)|(apply GJ.o;exact rfl;intro hg)
  refine Wk.id ⟨j+1,⟨rfl,?_⟩,?_,Sub.z,Sup.z⟩
  all_goals try dsimp only
  ·exact ⟨by omega,fun _=>i2⟩
  ·omega
end
theorem zEW:∀ (fs:List zAm) (nm:List UInt8) (i:Nat) (z:Int),zCf fs nm i z=z∨∃ (j:Nat) (f:zAm),zCf fs nm i z=((i+j:Nat):Int)∧fs[j]?=some f
 | [],_,_,_=>.inl rfl
 | f::fs,nm,i,z=>by
   unfold zCf
   rcases zEW fs nm (i+1) (if f.name=nm then (i:Int) else z) with h|⟨j,g,h1,h2⟩
   ·rw [h]
    by_cases hf:f.name=nm
    ·rw [if_pos hf];exact .inr ⟨0,f,rfl,rfl⟩
    ·rw [if_neg hf];exact .inl rfl
   ·exact .inr ⟨j+1,g,by rw [h1];omega,by simpa using h2⟩
theorem zGB (d:zAh) (nm:List UInt8):zB4 d nm=-1∨∃ (j:Nat) (f:zAm),zB4 d nm=(j:Int)∧d.fields[j]?=some f:=by
 rcases zEW d.fields nm 0 (-1) with h|⟨j,f,h1,h2⟩
 ·exact .inl h
 ·exact .inr ⟨j,f,by unfold zB4;rw [h1,Nat.zero_add],h2⟩
section
variable {ro:Ro}{own:Chs}{K:Value→Ro→Chs→Prop}{s:zAd}{a:zAp}
set_option maxHeartbeats 8000000 in
theorem zF8 (ho:SpecOk ro s a) (hv:Ahead s) {r i:Nat}{d:zAh}{x:zA5} (hd:s.nodes[r]?=some d) (hx:a.xs[r]?=some x) (hi:i<d.fields.length) (hk:K (.bool (zBi s d i)) ro own) :
  CallOk Tryz.prog 71 #[.agg (zAf s a).toArray,.agg (zAl d x).toArray,.int .i64 (i:Int)] ro own K:=by
 have hcl:(Value.agg (zAf s a).toArray).cells.toList=zAf s a:=rfl
 have hcl2:(Value.agg (zAl d x).toArray).cells.toList=zAl d x:=rfl
 have hr1:=ho.nodes
 have hm:=hr1.max
 have hnc:=hr1.le
 unfold maxLen at hm
 have hrl:=(List.getElem?_eq_some_iff.1 hd).1
 have hn1:=ho.each r d x hd hx
 have hfr:=hn1.fields
 have hfm:=hfr.max
 have hfl:=hfr.le
 unfold maxLen at hfm
 obtain ⟨hfo,hks⟩:=hv r d hd
 have h5:=zBh hfo (by omega)
 have hkr:=zAz hfo h5
 obtain ⟨f,hf⟩:∃ g,d.fields[i]?=some g:=⟨_,List.getElem?_eq_getElem hi⟩
 have hfe:d.fields[i]=f:=Option.some.inj ((List.getElem?_eq_getElem hi).symm.trans hf)
 have hfd:=zAn d.fields hi
 rw [hfe] at hfd
 obtain ⟨q1,q2⟩:=hks f.type (by rw [hkr];exact List.mem_map.2 ⟨f,List.mem_of_getElem? hf,rfl⟩)
 obtain ⟨k,hk0⟩:=Int.eq_ofNat_of_zero_le q1
 obtain ⟨ow,how⟩:∃ e,s.nodes[k]?=some e:=⟨_,List.getElem?_eq_getElem (by omega)⟩
 obtain ⟨y,hy⟩:∃ y,a.xs[k]?=some y:=⟨_,List.getElem?_eq_getElem (by rw [ho.len];omega)⟩
 have hdo:=zAj _ _ _ _ _ how hy
 unfold zBi at hk
 rw [hf] at hk
 dsimp only at hk
 rw [hk0,Int.toNat_natCast,how] at hk
 dsimp only at hk
 have hls:=zGB d f.of
 have hE1:zB4 d f.of=zCf (d.fields.drop 0) f.of 0 (-1):=rfl
 have hE2:zB4 d f.to=zCf (d.fields.drop 0) f.to 0 (-1):=rfl
 generalize zB4 d f.of=w1 at *
 generalize zB4 d f.to=w2 at *
 refine CallOk.intro (args:=[_,_,_]) (rs:=[_]) T_ok Tryz.func71 Tryz.call71 rfl rfl (by kernel_rfl) rfl rfl ?_
 repeat first|exact zE|refine zP ?_|refine zB fun b=>?_|refine zC fun a' c' hc1 hc2=>?_|(apply GJ.a;exact rfl;intro hg)|(apply GJ.o;exact rfl;intro hg)
 rename_i bS
 obtain ⟨bN,hbN⟩:∃ z:Nat,z=b:=⟨_,rfl⟩
 subst hbN
 rw [hcl,hcl2,Int.toNat_natCast]
 refine OpOk.loadRow rfl rfl (LdN.at hfr hfd) rfl ?_
 repeat first|exact zE|refine zP ?_|refine zB fun b=>?_|refine zC fun a' c' hc1 hc2=>?_|(apply GJ.a;exact rfl;intro hg)|(apply GJ.o;exact rfl;intro hg)
 obtain ⟨bF,hbF⟩:∃ z:Nat,z=b:=⟨_,rfl⟩
 subst hbF
 rw [hk0]
 repeat first|exact zE|refine zP ?_|refine zB fun b=>?_|refine zC fun a' c' hc1 hc2=>?_|(apply GJ.a;exact rfl;intro hg)|(apply GJ.o;exact rfl;intro hg)
 rw [Int.toNat_natCast]
 refine OpOk.loadRow rfl rfl (LdN.at hr1 hdo) rfl ?_
 repeat first|exact zE|refine zP ?_|refine zB fun b=>?_|refine zC fun a' c' hc1 hc2=>?_|(apply GJ.a;exact rfl;intro hg)|(apply GJ.o;exact rfl;intro hg)
 obtain ⟨bO,hbO⟩:∃ z:Nat,z=b:=⟨_,rfl⟩
 subst hbO
 refine LoopOk.at (ι:=Nat × Int × Int) Keep.z (fun (j,z1,z2)=>[(28,.int .i64 (j:Int)),(9,.int .i64 z1),(10,.int .i64 z2)]) (fun (j,z1,z2)=>.blk bO 40 (zAl ow y)::.blk bF 47 (zA1 f)::.blk bN 40 (zAl d x)::.blk bS 25 (zAf s a)::own) (fun (j,z1,z2)=>j≤d.fields.length∧w1=zCf (d.fields.drop j) f.of j z1∧w2=zCf (d.fields.drop j) f.to j z2) (fun (j,z1,z2)=>d.fields.length-j) (0,-1,-1) ?_ Sub.z Sup.z ?_
 ·exact ⟨Nat.zero_le _,hE1,hE2⟩
 clear hE1 hE2 hfe
 rintro ⟨j,z1,z2⟩ ⟨i1,i2,i3⟩
 dsimp only [List.cons_append,List.nil_append] at i1 i2 i3 ⊢
 by_cases hj:j<d.fields.length
 ·obtain ⟨h,hh⟩:∃ h,d.fields[j]?=some h:=⟨_,List.getElem?_eq_getElem hj⟩
  have hhe:d.fields[j]=h:=Option.some.inj ((List.getElem?_eq_getElem hj).symm.trans hh)
  have hhd:=zAn d.fields hj
  rw [hhe] at hhd
  rw [zHE hh] at i2 i3
  clear hhe hh
  by_cases h1:h.name=f.of
  ·by_cases h2:h.name=f.to
   ·rw [if_pos h1] at i2
    rw [if_pos h2] at i3
    repeat first|exact zE|refine zP ?_|refine zB fun b=>?_|refine zC fun a' c' hc1 hc2=>?_|(apply GJ.a;exact rfl;intro hg)|(apply GJ.o;exact rfl;intro hg)
    rw [Int.toNat_natCast]
    refine OpOk.loadRow rfl rfl (LdN.at hfr hhd) rfl ?_
    repeat first|exact zE|refine zP ?_|refine zB fun b=>?_|refine zC fun a' c' hc1 hc2=>?_|(apply GJ.a;exact rfl;intro hg)|(apply GJ.o;exact rfl;intro hg)
    refine Wk.id ⟨(j+1,(j:Int),(j:Int)),⟨rfl,?_⟩,?_,Sub.z,Sup.z⟩
    all_goals try dsimp only
    ·exact ⟨by omega,i2,i3⟩
    ·omega
   ·rw [if_pos h1] at i2
    rw [if_neg h2] at i3
    repeat first|exact zE|refine zP ?_|refine zB fun b=>?_|refine zC fun a' c' hc1 hc2=>?_|(apply GJ.a;exact rfl;intro hg)|(apply GJ.o;exact rfl;intro hg)
    rw [Int.toNat_natCast]
    refine OpOk.loadRow rfl rfl (LdN.at hfr hhd) rfl ?_
    repeat first|exact zE|refine zP ?_|refine zB fun b=>?_|refine zC fun a' c' hc1 hc2=>?_|(apply GJ.a;exact rfl;intro hg)|(apply GJ.o;exact rfl;intro hg)
    refine Wk.id ⟨(j+1,(j:Int),z2),⟨rfl,?_⟩,?_,Sub.z,Sup.z⟩
    all_goals try dsimp only
    ·exact ⟨by omega,i2,i3⟩
    ·omega
  ·by_cases h2:h.name=f.to
   ·rw [if_neg h1] at i2
    rw [if_pos h2] at i3
    repeat first|exact zE|refine zP ?_|refine zB fun b=>?_|refine zC fun a' c' hc1 hc2=>?_|(apply GJ.a;exact rfl;intro hg)|(apply GJ.o;exact rfl;intro hg)
    rw [Int.toNat_natCast]
    refine OpOk.loadRow rfl rfl (LdN.at hfr hhd) rfl ?_
    repeat first|exact zE|refine zP ?_|refine zB fun b=>?_|refine zC fun a' c' hc1 hc2=>?_|(apply GJ.a;exact rfl;intro hg)|(apply GJ.o;exact rfl;intro hg)
    refine Wk.id ⟨(j+1,z1,(j:Int)),⟨rfl,?_⟩,?_,Sub.z,Sup.z⟩
    all_goals try dsimp only
    ·exact ⟨by omega,i2,i3⟩
    ·omega
   ·rw [if_neg h1] at i2
    rw [if_neg h2] at i3
    repeat first|exact zE|refine zP ?_|refine zB fun b=>?_|refine zC fun a' c' hc1 hc2=>?_|(apply GJ.a;exact rfl;intro hg)|(apply GJ.o;exact rfl;intro hg)
    rw [Int.toNat_natCast]
    refine OpOk.loadRow rfl rfl (LdN.at hfr hhd) rfl ?_
    repeat first|exact zE|refine zP ?_|refine zB fun b=>?_|refine zC fun a' c' hc1 hc2=>?_|(apply GJ.a;exact rfl;intro hg)|(apply GJ.o;exact rfl;intro hg)
    refine Wk.id ⟨(j+1,z1,z2),⟨rfl,?_⟩,?_,Sub.z,Sup.z⟩
    all_goals try dsimp only
    ·exact ⟨by omega,i2,i3⟩
    ·omega
 obtain rfl:j=d.fields.length:=by omega
 rw [List.drop_length,zCf] at i2 i3
 subst i2 i3
 clear i1 hj
 by_cases h0:f.derive=0
 ·rw [if_pos h0] at hk
  repeat first|exact zE|refine zP ?_|refine zB fun b=>?_|refine zC fun a' c' hc1 hc2=>?_|(apply GJ.a;exact rfl;intro hg)|(apply GJ.o;exact rfl;intro hg)
  exact Wk.outS Sup.z (.refl _) hk
 rw [if_neg h0] at hk
 by_cases h12:f.derive=1∨f.derive=2
 rotate_left
 ·rw [if_neg h12] at hk
  have g1:f.derive≠1:=fun h=>h12 (.inl h)
  have g2:f.derive≠2:=fun h=>h12 (.inr h)
  by_cases h3:f.derive=3
  ·rw [if_pos h3] at hk
   repeat first|exact zE|refine zP ?_|refine zB fun b=>?_|refine zC fun a' c' hc1 hc2=>?_|(apply GJ.a;exact rfl;intro hg)|(apply GJ.o;exact rfl;intro hg)
   refine Wk.outV Sup.z hk (congrArg Value.bool ?_)
   rw [Bool.eq_iff_iff]
   simp only [Bool.and_eq_true,decide_eq_true_eq]
   omega
  ·rw [if_neg h3] at hk
   repeat first|exact zE|refine zP ?_|refine zB fun b=>?_|refine zC fun a' c' hc1 hc2=>?_|(apply GJ.a;exact rfl;intro hg)|(apply GJ.o;exact rfl;intro hg)
   exact Wk.outS Sup.z (.refl _) hk
 rw [if_pos h12] at hk
 have hN:zBA ow=decide (ow.kind=1∨ow.kind=2):=rfl
 by_cases hcnd:w1≤(i:Int)∨f.to≠[]∨zBA ow=false∨ow.zig=true
 ·rw [if_pos hcnd] at hk
  by_cases g1:f.derive=1
  ·by_cases c1:w1≤(i:Int)
   ·by_cases c0:w1<0
    ·repeat first|exact zE|refine zP ?_|refine zB fun b=>?_|refine zC fun a' c' hc1 hc2=>?_|(apply GJ.a;exact rfl;intro hg)|(apply GJ.o;exact rfl;intro hg)
     exact Wk.outS Sup.z (.refl _) hk
    ·repeat first|exact zE|refine zP ?_|refine zB fun b=>?_|refine zC fun a' c' hc1 hc2=>?_|(apply GJ.a;exact rfl;intro hg)|(apply GJ.o;exact rfl;intro hg)
     exact Wk.outS Sup.z (.refl _) hk
   by_cases c2:f.to≠[]
   ·repeat first|exact zE|refine zP ?_|refine zB fun b=>?_|refine zC fun a' c' hc1 hc2=>?_|(apply GJ.a;exact rfl;intro hg)|(apply GJ.o;exact rfl;intro hg)
    exact Wk.outS Sup.z (.refl _) hk
   have c2:f.to=[]:=Decidable.of_not_not c2
   repeat first|exact zE|refine zP ?_|refine zB fun b=>?_|refine zC fun a' c' hc1 hc2=>?_|(apply GJ.a;exact rfl;intro hg)|(apply GJ.o;exact rfl;intro hg)
   refine zAB ?_
   rw [←hN]
   cases c3:zBA ow with
   | false =>
     repeat first|exact zE|refine zP ?_|refine zB fun b=>?_|refine zC fun a' c' hc1 hc2=>?_|(apply GJ.a;exact rfl;intro hg)|(apply GJ.o;exact rfl;intro hg)
     exact Wk.outS Sup.z (.refl _) hk
   | true =>
     have c4:ow.zig=true:=by
      rcases hcnd with h|h|h|h
      ·exact absurd h c1
      ·exact absurd c2 h
      ·rw [c3] at h;cases h
      ·exact h
     repeat (first|exact zE|refine zP ?_|refine zB (fun b=>?_)|refine zC (fun a' c' hc1 hc2=>?_))
     exact Wk.outS Sup.z (.refl _) hk
  ·have g2:f.derive=2:=by omega
   by_cases c1:w1≤(i:Int)
   ·by_cases c0:w1<0
    ·repeat first|exact zE|refine zP ?_|refine zB fun b=>?_|refine zC fun a' c' hc1 hc2=>?_|(apply GJ.a;exact rfl;intro hg)|(apply GJ.o;exact rfl;intro hg)
     exact Wk.outS Sup.z (.refl _) hk
    ·repeat first|exact zE|refine zP ?_|refine zB fun b=>?_|refine zC fun a' c' hc1 hc2=>?_|(apply GJ.a;exact rfl;intro hg)|(apply GJ.o;exact rfl;intro hg)
     exact Wk.outS Sup.z (.refl _) hk
   by_cases c2:f.to≠[]
   ·repeat first|exact zE|refine zP ?_|refine zB fun b=>?_|refine zC fun a' c' hc1 hc2=>?_|(apply GJ.a;exact rfl;intro hg)|(apply GJ.o;exact rfl;intro hg)
    exact Wk.outS Sup.z (.refl _) hk
   have c2:f.to=[]:=Decidable.of_not_not c2
   repeat first|exact zE|refine zP ?_|refine zB fun b=>?_|refine zC fun a' c' hc1 hc2=>?_|(apply GJ.a;exact rfl;intro hg)|(apply GJ.o;exact rfl;intro hg)
   refine zAB ?_
   rw [←hN]
   cases c3:zBA ow with
   | false =>
     repeat first|exact zE|refine zP ?_|refine zB fun b=>?_|refine zC fun a' c' hc1 hc2=>?_|(apply GJ.a;exact rfl;intro hg)|(apply GJ.o;exact rfl;intro hg)
     exact Wk.outS Sup.z (.refl _) hk
   | true =>
     have c4:ow.zig=true:=by
      rcases hcnd with h|h|h|h
      ·exact absurd h c1
      ·exact absurd c2 h
      ·rw [c3] at h;cases h
      ·exact h
     repeat (first|exact zE|refine zP ?_|refine zB (fun b=>?_)|refine zC (fun a' c' hc1 hc2=>?_))
     exact Wk.outS Sup.z (.refl _) hk
 rw [if_neg hcnd] at hk
 have c1:¬w1≤(i:Int):=fun h=>hcnd (.inl h)
 have c2:f.to=[]:=Decidable.of_not_not fun h=>hcnd (.inr (.inl h))
 have c3:zBA ow=true:=by cases hb:zBA ow with|true=>rfl|false=>exact absurd (.inr (.inr (.inl hb))) hcnd
 have c4:ow.zig=false:=by cases hb:ow.zig with|false=>rfl|true=>exact absurd (.inr (.inr (.inr hb))) hcnd
 rcases hls with hls|⟨j,g,e1,e2⟩
 ·omega
 subst e1
 rw [Int.toNat_natCast,e2] at hk
 dsimp only at hk
 obtain ⟨u1,u2⟩:=hks g.type (by rw [hkr];exact List.mem_map.2 ⟨g,List.mem_of_getElem? e2,rfl⟩)
 obtain ⟨m,hm0⟩:=Int.eq_ofNat_of_zero_le u1
 obtain ⟨w,hw⟩:∃ e,s.nodes[m]?=some e:=⟨_,List.getElem?_eq_getElem (by omega)⟩
 obtain ⟨v,hvx⟩:∃ y,a.xs[m]?=some y:=⟨_,List.getElem?_eq_getElem (by rw [ho.len];omega)⟩
 have hdrw:=zAj _ _ _ _ _ hw hvx
 have hjl:=(List.getElem?_eq_some_iff.1 e2).1
 have hg1:(zA0 d.fields)[j*5+1]?=some (.int .i64 (m:Int)):=by rw [zBG e2 (by decide),←hm0];rfl
 rw [hm0,Int.toNat_natCast,hw] at hk
 dsimp only at hk
 clear hcnd
 by_cases g1:f.derive=1
 ·repeat first|exact zE|refine zP ?_|refine zB fun b=>?_|refine zC fun a' c' hc1 hc2=>?_|(apply GJ.a;exact rfl;intro hg)|(apply GJ.o;exact rfl;intro hg)
  refine zAB ?_
  rw [←hN,c3]
  repeat (first|exact zE|refine zP ?_|refine zB (fun b=>?_)|refine zC (fun a' c' hc1 hc2=>?_))
  rw [show (decide (f.to≠[])||!true)=false by simp [c2]]
  repeat (first|exact zE|refine zP ?_|refine zB (fun b=>?_)|refine zC (fun a' c' hc1 hc2=>?_))
  rw [c4]
  repeat first|exact zE|refine zP ?_|refine zB fun b=>?_|refine zC fun a' c' hc1 hc2=>?_|(apply GJ.a;exact rfl;intro hg)|(apply GJ.o;exact rfl;intro hg)
  rw [Int.toNat_natCast,Nat.add_assoc]
  refine QOk.load rfl rfl (Ld.rs hfr hg1) ?_
  repeat first|exact zE|refine zP ?_|refine zB fun b=>?_|refine zC fun a' c' hc1 hc2=>?_|(apply GJ.a;exact rfl;intro hg)|(apply GJ.o;exact rfl;intro hg)
  rw [Int.toNat_natCast]
  refine QOk.loadRow rfl rfl (LdN.at hr1 hdrw) rfl ?_
  by_cases j1:w.ereg=f.name
  rotate_left
  ·rw [show zBg f w=false by unfold zBg;rw [decide_eq_false j1,Bool.false_and],if_pos rfl] at hk
   repeat first|exact zE|refine zP ?_|refine zB fun b=>?_|refine zC fun a' c' hc1 hc2=>?_|(apply GJ.a;exact rfl;intro hg)|(apply GJ.o;exact rfl;intro hg)
   exact Wk.outS Sup.z (.refl _) hk
  by_cases j2:w.emul=1
  rotate_left
  ·rw [show zBg f w=false by unfold zBg;rw [decide_eq_false j2,Bool.false_and,Bool.and_false],if_pos rfl] at hk
   repeat first|exact zE|refine zP ?_|refine zB fun b=>?_|refine zC fun a' c' hc1 hc2=>?_|(apply GJ.a;exact rfl;intro hg)|(apply GJ.o;exact rfl;intro hg)
   exact Wk.outS Sup.z (.refl _) hk
  by_cases j3:w.eadd=0
  rotate_left
  ·rw [show zBg f w=false by unfold zBg;rw [decide_eq_false j3,Bool.and_false,Bool.and_false],if_pos rfl] at hk
   repeat first|exact zE|refine zP ?_|refine zB fun b=>?_|refine zC fun a' c' hc1 hc2=>?_|(apply GJ.a;exact rfl;intro hg)|(apply GJ.o;exact rfl;intro hg)
   exact Wk.outS Sup.z (.refl _) hk
  rw [show zBg f w=true by unfold zBg;rw [decide_eq_true j1,decide_eq_true j2,decide_eq_true j3];rfl,if_neg (by decide)] at hk
  by_cases k4:w.kind=4
  ·rw [if_pos ⟨g1,.inl k4⟩] at hk
   repeat first|exact zE|refine zP ?_|refine zB fun b=>?_|refine zC fun a' c' hc1 hc2=>?_|(apply GJ.a;exact rfl;intro hg)|(apply GJ.o;exact rfl;intro hg)
   rw [show (decide (w.ereg≠f.name)||decide ((w.emul:Int)≠1)||decide ((w.eadd:Int)≠0))=false by simp [j1,j2,j3]]
   repeat first|exact zE|refine zP ?_|refine zB fun b=>?_|refine zC fun a' c' hc1 hc2=>?_|(apply GJ.a;exact rfl;intro hg)|(apply GJ.o;exact rfl;intro hg)
   exact Wk.outS Sup.z (.refl _) hk
  by_cases k8:w.kind=8
  ·rw [if_pos ⟨g1,.inr k8⟩] at hk
   repeat first|exact zE|refine zP ?_|refine zB fun b=>?_|refine zC fun a' c' hc1 hc2=>?_|(apply GJ.a;exact rfl;intro hg)|(apply GJ.o;exact rfl;intro hg)
   rw [show (decide (w.ereg≠f.name)||decide ((w.emul:Int)≠1)||decide ((w.eadd:Int)≠0))=false by simp [j1,j2,j3]]
   repeat first|exact zE|refine zP ?_|refine zB fun b=>?_|refine zC fun a' c' hc1 hc2=>?_|(apply GJ.a;exact rfl;intro hg)|(apply GJ.o;exact rfl;intro hg)
   exact Wk.outS Sup.z (.refl _) hk
  by_cases k6:w.kind=6
  ·rw [if_neg (fun h=>by have:=h.2;omega),decide_eq_false (by omega:¬f.derive=2),Bool.false_and] at hk
   repeat first|exact zE|refine zP ?_|refine zB fun b=>?_|refine zC fun a' c' hc1 hc2=>?_|(apply GJ.a;exact rfl;intro hg)|(apply GJ.o;exact rfl;intro hg)
   rw [show (decide (w.ereg≠f.name)||decide ((w.emul:Int)≠1)||decide ((w.eadd:Int)≠0))=false by simp [j1,j2,j3]]
   repeat first|exact zE|refine zP ?_|refine zB fun b=>?_|refine zC fun a' c' hc1 hc2=>?_|(apply GJ.a;exact rfl;intro hg)|(apply GJ.o;exact rfl;intro hg)
   exact Wk.outS Sup.z (.refl _) hk
  ·rw [if_neg (fun h=>by have:=h.2;omega),decide_eq_false (by omega:¬f.derive=2),Bool.false_and] at hk
   repeat first|exact zE|refine zP ?_|refine zB fun b=>?_|refine zC fun a' c' hc1 hc2=>?_|(apply GJ.a;exact rfl;intro hg)|(apply GJ.o;exact rfl;intro hg)
   rw [show (decide (w.ereg≠f.name)||decide ((w.emul:Int)≠1)||decide ((w.eadd:Int)≠0))=false by simp [j1,j2,j3]]
   repeat first|exact zE|refine zP ?_|refine zB fun b=>?_|refine zC fun a' c' hc1 hc2=>?_|(apply GJ.a;exact rfl;intro hg)|(apply GJ.o;exact rfl;intro hg)
   exact Wk.outS Sup.z (.refl _) hk
 ·have g2:f.derive=2:=by omega
  repeat first|exact zE|refine zP ?_|refine zB fun b=>?_|refine zC fun a' c' hc1 hc2=>?_|(apply GJ.a;exact rfl;intro hg)|(apply GJ.o;exact rfl;intro hg)
  refine zAB ?_
  rw [←hN,c3]
  repeat (first|exact zE|refine zP ?_|refine zB (fun b=>?_)|refine zC (fun a' c' hc1 hc2=>?_))
  rw [show (decide (f.to≠[])||!true)=false by simp [c2]]
  repeat (first|exact zE|refine zP ?_|refine zB (fun b=>?_)|refine zC (fun a' c' hc1 hc2=>?_))
  rw [c4]
  repeat first|exact zE|refine zP ?_|refine zB fun b=>?_|refine zC fun a' c' hc1 hc2=>?_|(apply GJ.a;exact rfl;intro hg)|(apply GJ.o;exact rfl;intro hg)
  rw [Int.toNat_natCast,Nat.add_assoc]
  refine QOk.load rfl rfl (Ld.rs hfr hg1) ?_
  repeat first|exact zE|refine zP ?_|refine zB fun b=>?_|refine zC fun a' c' hc1 hc2=>?_|(apply GJ.a;exact rfl;intro hg)|(apply GJ.o;exact rfl;intro hg)
  rw [Int.toNat_natCast]
  refine QOk.loadRow rfl rfl (LdN.at hr1 hdrw) rfl ?_
  by_cases j1:w.ereg=f.name
  rotate_left
  ·rw [show zBg f w=false by unfold zBg;rw [decide_eq_false j1,Bool.false_and],if_pos rfl] at hk
   repeat first|exact zE|refine zP ?_|refine zB fun b=>?_|refine zC fun a' c' hc1 hc2=>?_|(apply GJ.a;exact rfl;intro hg)|(apply GJ.o;exact rfl;intro hg)
   exact Wk.outS Sup.z (.refl _) hk
  by_cases j2:w.emul=1
  rotate_left
  ·rw [show zBg f w=false by unfold zBg;rw [decide_eq_false j2,Bool.false_and,Bool.and_false],if_pos rfl] at hk
   repeat first|exact zE|refine zP ?_|refine zB fun b=>?_|refine zC fun a' c' hc1 hc2=>?_|(apply GJ.a;exact rfl;intro hg)|(apply GJ.o;exact rfl;intro hg)
   exact Wk.outS Sup.z (.refl _) hk
  by_cases j3:w.eadd=0
  rotate_left
  ·rw [show zBg f w=false by unfold zBg;rw [decide_eq_false j3,Bool.and_false,Bool.and_false],if_pos rfl] at hk
   repeat first|exact zE|refine zP ?_|refine zB fun b=>?_|refine zC fun a' c' hc1 hc2=>?_|(apply GJ.a;exact rfl;intro hg)|(apply GJ.o;exact rfl;intro hg)
   exact Wk.outS Sup.z (.refl _) hk
  rw [show zBg f w=true by unfold zBg;rw [decide_eq_true j1,decide_eq_true j2,decide_eq_true j3];rfl,if_neg (by decide)] at hk
  rw [if_neg (fun h=>by have:=h.1;omega),decide_eq_true g2,Bool.true_and] at hk
  repeat first|exact zE|refine zP ?_|refine zB fun b=>?_|refine zC fun a' c' hc1 hc2=>?_|(apply GJ.a;exact rfl;intro hg)|(apply GJ.o;exact rfl;intro hg)
  rw [show (decide (w.ereg≠f.name)||decide ((w.emul:Int)≠1)||decide ((w.eadd:Int)≠0))=false by simp [j1,j2,j3]]
  repeat first|exact zE|refine zP ?_|refine zB fun b=>?_|refine zC fun a' c' hc1 hc2=>?_|(apply GJ.a;exact rfl;intro hg)|(apply GJ.o;exact rfl;intro hg)
  exact Wk.outS Sup.z (.refl _) hk
end
structure MpIs (s:zAd) (m:MpL) (M:List (List UInt8 × (Nat × Nat) × Nat)) (c:Nat):Prop where
 map:MapOk (fun l:List UInt8=>l.length≤maxLen) M
 born:BornOk M c
 is:∀ nm,getG M nm=m nm
 inn:∀ nm r f,m nm=some (r,f)→∃ d,s.nodes[r]?=some d∧f<d.fields.length
theorem SpecOk.leq {ro ro':Ro}{s:zAd}{a:zAp} (h:SpecOk ro s a) (hl:Leq ro ro'):SpecOk ro' s a:=⟨h.len,h.nodes.up,fun i d x g1 g2=>⟨(h.each i d x g1 g2).kids.up,(h.each i d x g1 g2).last.up,(h.each i d x g1 g2).fields.up,(h.each i d x g1 g2).cases.up⟩,h.defs.up⟩
section
variable {ro:Ro}{own:Chs}{K:Value→Ro→Chs→Prop}{s:zAd}{a:zAp}
set_option maxHeartbeats 8000000 in
theorem zGC {bS bA bm bI bJ bG r j c k:Nat}{u:Bool}{m:MpL}{M:List (List UInt8 × (Nat × Nat) × Nat)}{X R:Chs} (ho:SpecOk ro s a) (hv:Ahead s) (hT:TextIn s) (hM:MpIs s m M c) {e:zAh} (he:s.nodes[k]?=some e) (hL:e.reg.length≤maxLen∧e.ereg.length≤maxLen)
  (hk:K (.bool true) ro (X++(.blk bG 4 [.bool (u&&farL s m r j k)]::.blk bS 25 (zAf s a)::.blk bA 130 [.map (some bm)]::.obj bm (mapG str plV M c)::.blk bI 3 [.int .i64 (r:Int)]::.blk bJ 3 [.int .i64 (j:Int)]::R))) :
  CallOk Tryz.prog 95 #[.int .i64 (k:Int),ptr' bS,ptr' bA,ptr' bI,ptr' bJ,ptr' bG] ro (X++(.blk bG 4 [.bool u]::.blk bS 25 (zAf s a)::.blk bA 130 [.map (some bm)]::.obj bm (mapG str plV M c)::.blk bI 3 [.int .i64 (r:Int)]::.blk bJ 3 [.int .i64 (j:Int)]::R)) K:=by
 have hr1:=ho.nodes
 have hm:=hr1.max
 have hnc:=hr1.le
 unfold maxLen at hm
 have hkl:=(List.getElem?_eq_some_iff.1 he).1
 obtain ⟨y,hy⟩:∃ y,a.xs[k]?=some y:=⟨_,List.getElem?_eq_getElem (by rw [ho.len];exact hkl)⟩
 have hgr:(zA4 s.nodes a.xs)[k*18+14]?=some (str e.reg):=by rw [zBr he hy (by decide)];rfl
 have hge:(zA4 s.nodes a.xs)[k*18+(8+0)]?=some (str e.ereg):=by rw [zBr he hy (by decide)];rfl
 unfold farL at hk
 rw [Int.toNat_natCast,he] at hk
 dsimp only at hk
 refine CallOk.intro (args:=[_,_,_,_,_,_]) (rs:=[_]) T_ok Tryz.func95 Tryz.call95 rfl rfl (by kernel_rfl) rfl rfl ?_
 repeat first|exact zE|refine zP ?_|refine zB fun b=>?_|refine zC fun a' c' hc1 hc2=>?_|(apply GJ.a;exact rfl;intro hg)|(apply GJ.o;exact rfl;intro hg)
 rw [Int.toNat_natCast,Nat.add_assoc]
 refine QOk.load rfl rfl (Ld.rs hr1 hgr) ?_
 repeat first|exact zE|refine zP ?_|refine zB fun b=>?_|refine zC fun a' c' hc1 hc2=>?_|(apply GJ.a;exact rfl;intro hg)|(apply GJ.o;exact rfl;intro hg)
 rw [Int.toNat_natCast,Nat.add_assoc,Nat.add_assoc]
 refine QOk.load rfl rfl (Ld.rs hr1 hge) ?_
 repeat first|exact zE|refine zP ?_|refine zB fun b=>?_|refine zC fun a' c' hc1 hc2=>?_|(apply GJ.a;exact rfl;intro hg)|(apply GJ.o;exact rfl;intro hg)
 obtain ⟨bL,hbL⟩:∃ z:Nat,z=b:=⟨_,rfl⟩
 subst hbL
 refine LoopOk.at (ι:=Nat × Bool) Keep.z (fun (t,w)=>[(27,.int .i64 (t:Int))]) (fun (t,w)=>.sl (some ⟨bL,0,none⟩) 2 2 9 1 [str e.reg,str e.ereg]::(X++(.blk bG 4 [.bool w]::.blk bS 25 (zAf s a)::.blk bA 130 [.map (some bm)]::.obj bm (mapG str plV M c)::.blk bI 3 [.int .i64 (r:Int)]::.blk bJ 3 [.int .i64 (j:Int)]::R))) (fun (t,w)=>t≤2∧w=(u&&(([e.reg,e.ereg]:List (List UInt8)).take t).all (zAS s m r j))) (fun (t,w)=>2-t) (0,u) ?_ Sub.z Sup.z ?_
 ·exact ⟨Nat.zero_le _,by simp⟩
 rintro ⟨t,w⟩ ⟨i1,i2⟩
 dsimp only [List.cons_append,List.nil_append] at i1 i2 ⊢
 have hstep:∀ nm,w=(u&&(([e.reg,e.ereg]:List (List UInt8)).take t).all (zAS s m r j))→([e.reg,e.ereg]:List (List UInt8))[t]?=some nm→(w&&zAS s m r j nm)=(u&&(([e.reg,e.ereg]:List (List UInt8)).take (t+1)).all (zAS s m r j)):=fun nm h1 h2=>by
  rw [List.take_add_one,h2,List.all_append,h1,Bool.and_assoc]
  simp
 have hrl:Rds ro (.sl (some ⟨bL,0,none⟩) 2 2 9 1 [str e.reg,str e.ereg]::(X++(.blk bG 4 [.bool w]::.blk bS 25 (zAf s a)::.blk bA 130 [.map (some bm)]::.obj bm (mapG str plV M c)::.blk bI 3 [.int .i64 (r:Int)]::.blk bJ 3 [.int .i64 (j:Int)]::R))) (some ⟨bL,0,none⟩) 2 2 1 [str e.reg,str e.ereg]:=Rds.hasSl (Nat.le_refl _) (by decide) rfl
 rcases (by omega:t=0∨t=1∨t=2) with rfl|rfl|rfl
 ·have h3:=hstep e.reg i2 rfl
  clear hstep i2
  repeat first|exact zE|refine zP ?_|refine zB fun b=>?_|refine zC fun a' c' hc1 hc2=>?_|(apply GJ.a;exact rfl;intro hg)|(apply GJ.o;exact rfl;intro hg)
  rw [Int.toNat_natCast]
  refine OpOk.load rfl rfl (Ld.atR hrl (k:=0) (v:=str e.reg) rfl rfl) ?_
  repeat first|exact zE|refine zP ?_|refine zB fun b=>?_|refine zC fun a' c' hc1 hc2=>?_|(apply GJ.a;exact rfl;intro hg)|(apply GJ.o;exact rfl;intro hg)
  refine OpOk.lookupOkG (kt:=9) (et:=132) (kv:=str) (vv:=plV) (k:=e.reg) (z:=.agg #[.int .i64 0,.int .i64 0]) rfl rfl Tryz.underlying130 (KeyEnc.text Tryz.underlying9) hM.map (hL.1) (by kernel_rfl) ?_
  rw [hM.is]
  cases hmn:m e.reg with
  | none =>
    rw [show zAS s m r j e.reg=true by unfold zAS;rw [hmn],Bool.and_true] at h3
    simp only [Option.map_none,Option.getD_none,Option.isSome_none]
    repeat first|exact zE|refine zP ?_|refine zB fun b=>?_|refine zC fun a' c' hc1 hc2=>?_|(apply GJ.a;exact rfl;intro hg)|(apply GJ.o;exact rfl;intro hg)
    refine Wk.id ⟨(1,w),⟨rfl,?_⟩,?_,Sub.z,Sup.z⟩
    all_goals try dsimp only
    ·exact ⟨by omega,h3⟩
    ·omega
  | some rf =>
    obtain ⟨r2,f2⟩:=rf
    obtain ⟨d,hd,hf⟩:=hM.inn _ _ _ hmn
    have hcl:zAS s m r j e.reg=!(zB3 s r2 f2&&(decide (r2≠r)||decide (f2<j))):=by unfold zAS;rw [hmn]
    rw [hcl] at h3
    clear hcl
    simp only [Option.map_some,Option.getD_some,Option.isSome_some]
    rw [show plV (r2,f2)=.agg #[.int .i64 (r2:Int),.int .i64 (f2:Int)] from rfl]
    repeat first|exact zE|refine zP ?_|refine zB fun b=>?_|refine zC fun a' c' hc1 hc2=>?_|(apply GJ.a;exact rfl;intro hg)|(apply GJ.o;exact rfl;intro hg)
    refine zET ho hv hd hf ?_
    cases hsz:zB3 s r2 f2 with
    | false =>
      rw [hsz,Bool.false_and,Bool.not_false,Bool.and_true] at h3
      repeat first|exact zE|refine zP ?_|refine zB fun b=>?_|refine zC fun a' c' hc1 hc2=>?_|(apply GJ.a;exact rfl;intro hg)|(apply GJ.o;exact rfl;intro hg)
      refine Wk.id ⟨(1,w),⟨rfl,?_⟩,?_,Sub.z,Sup.z⟩
      all_goals try dsimp only
      ·exact ⟨by omega,h3⟩
      ·omega
    | true =>
      rw [hsz,Bool.true_and] at h3
      by_cases g1:r2=r
      ·by_cases g2:f2<j
       ·rw [decide_eq_true g2,Bool.or_true,Bool.not_true,Bool.and_false] at h3
        repeat first|exact zE|refine zP ?_|refine zB fun b=>?_|refine zC fun a' c' hc1 hc2=>?_|(apply GJ.a;exact rfl;intro hg)|(apply GJ.o;exact rfl;intro hg)
        refine Wk.id ⟨(1,false),⟨rfl,?_⟩,?_,Sub.z,Sup.z⟩
        all_goals try dsimp only
        ·exact ⟨by omega,h3⟩
        ·omega
       ·rw [decide_eq_false g2,decide_eq_false (not_not_intro g1),Bool.or_false,Bool.not_false,Bool.and_true] at h3
        repeat first|exact zE|refine zP ?_|refine zB fun b=>?_|refine zC fun a' c' hc1 hc2=>?_|(apply GJ.a;exact rfl;intro hg)|(apply GJ.o;exact rfl;intro hg)
        refine Wk.id ⟨(1,w),⟨rfl,?_⟩,?_,Sub.z,Sup.z⟩
        all_goals try dsimp only
        ·exact ⟨by omega,h3⟩
        ·omega
      ·rw [decide_eq_true g1,Bool.true_or,Bool.not_true,Bool.and_false] at h3
       repeat first|exact zE|refine zP ?_|refine zB fun b=>?_|refine zC fun a' c' hc1 hc2=>?_|(apply GJ.a;exact rfl;intro hg)|(apply GJ.o;exact rfl;intro hg)
       refine Wk.id ⟨(1,false),⟨rfl,?_⟩,?_,Sub.z,Sup.z⟩
       all_goals try dsimp only
       ·exact ⟨by omega,h3⟩
       ·omega
 ·have h3:=hstep e.ereg i2 rfl
  clear hstep i2
  repeat first|exact zE|refine zP ?_|refine zB fun b=>?_|refine zC fun a' c' hc1 hc2=>?_|(apply GJ.a;exact rfl;intro hg)|(apply GJ.o;exact rfl;intro hg)
  rw [Int.toNat_natCast]
  refine OpOk.load rfl rfl (Ld.atR hrl (k:=1) (v:=str e.ereg) rfl rfl) ?_
  repeat first|exact zE|refine zP ?_|refine zB fun b=>?_|refine zC fun a' c' hc1 hc2=>?_|(apply GJ.a;exact rfl;intro hg)|(apply GJ.o;exact rfl;intro hg)
  refine OpOk.lookupOkG (kt:=9) (et:=132) (kv:=str) (vv:=plV) (k:=e.ereg) (z:=.agg #[.int .i64 0,.int .i64 0]) rfl rfl Tryz.underlying130 (KeyEnc.text Tryz.underlying9) hM.map (hL.2) (by kernel_rfl) ?_
  rw [hM.is]
  cases hmn:m e.ereg with
  | none =>
    rw [show zAS s m r j e.ereg=true by unfold zAS;rw [hmn],Bool.and_true] at h3
    simp only [Option.map_none,Option.getD_none,Option.isSome_none]
    repeat first|exact zE|refine zP ?_|refine zB fun b=>?_|refine zC fun a' c' hc1 hc2=>?_|(apply GJ.a;exact rfl;intro hg)|(apply GJ.o;exact rfl;intro hg)
    refine Wk.id ⟨(2,w),⟨rfl,?_⟩,?_,Sub.z,Sup.z⟩
    all_goals try dsimp only
    ·exact ⟨by omega,h3⟩
    ·omega
  | some rf =>
    obtain ⟨r2,f2⟩:=rf
    obtain ⟨d,hd,hf⟩:=hM.inn _ _ _ hmn
    have hcl:zAS s m r j e.ereg=!(zB3 s r2 f2&&(decide (r2≠r)||decide (f2<j))):=by unfold zAS;rw [hmn]
    rw [hcl] at h3
    clear hcl
    simp only [Option.map_some,Option.getD_some,Option.isSome_some]
    rw [show plV (r2,f2)=.agg #[.int .i64 (r2:Int),.int .i64 (f2:Int)] from rfl]
    repeat first|exact zE|refine zP ?_|refine zB fun b=>?_|refine zC fun a' c' hc1 hc2=>?_|(apply GJ.a;exact rfl;intro hg)|(apply GJ.o;exact rfl;intro hg)
    refine zET ho hv hd hf ?_
    cases hsz:zB3 s r2 f2 with
    | false =>
      rw [hsz,Bool.false_and,Bool.not_false,Bool.and_true] at h3
      repeat first|exact zE|refine zP ?_|refine zB fun b=>?_|refine zC fun a' c' hc1 hc2=>?_|(apply GJ.a;exact rfl;intro hg)|(apply GJ.o;exact rfl;intro hg)
      refine Wk.id ⟨(2,w),⟨rfl,?_⟩,?_,Sub.z,Sup.z⟩
      all_goals try dsimp only
      ·exact ⟨by omega,h3⟩
      ·omega
    | true =>
      rw [hsz,Bool.true_and] at h3
      by_cases g1:r2=r
      ·by_cases g2:f2<j
       ·rw [decide_eq_true g2,Bool.or_true,Bool.not_true,Bool.and_false] at h3
        repeat first|exact zE|refine zP ?_|refine zB fun b=>?_|refine zC fun a' c' hc1 hc2=>?_|(apply GJ.a;exact rfl;intro hg)|(apply GJ.o;exact rfl;intro hg)
        refine Wk.id ⟨(2,false),⟨rfl,?_⟩,?_,Sub.z,Sup.z⟩
        all_goals try dsimp only
        ·exact ⟨by omega,h3⟩
        ·omega
       ·rw [decide_eq_false g2,decide_eq_false (not_not_intro g1),Bool.or_false,Bool.not_false,Bool.and_true] at h3
        repeat first|exact zE|refine zP ?_|refine zB fun b=>?_|refine zC fun a' c' hc1 hc2=>?_|(apply GJ.a;exact rfl;intro hg)|(apply GJ.o;exact rfl;intro hg)
        refine Wk.id ⟨(2,w),⟨rfl,?_⟩,?_,Sub.z,Sup.z⟩
        all_goals try dsimp only
        ·exact ⟨by omega,h3⟩
        ·omega
      ·rw [decide_eq_true g1,Bool.true_or,Bool.not_true,Bool.and_false] at h3
       repeat first|exact zE|refine zP ?_|refine zB fun b=>?_|refine zC fun a' c' hc1 hc2=>?_|(apply GJ.a;exact rfl;intro hg)|(apply GJ.o;exact rfl;intro hg)
       refine Wk.id ⟨(2,false),⟨rfl,?_⟩,?_,Sub.z,Sup.z⟩
       all_goals try dsimp only
       ·exact ⟨by omega,h3⟩
       ·omega
 ·have h4:w=(u&&(zAS s m r j e.reg&&zAS s m r j e.ereg)):=by rw [i2];simp
  rw [←h4] at hk
  repeat first|exact zE|refine zP ?_|refine zB fun b=>?_|refine zC fun a' c' hc1 hc2=>?_|(apply GJ.a;exact rfl;intro hg)|(apply GJ.o;exact rfl;intro hg)
  exact Wk.outS Sup.z (.refl _) hk
theorem zFr {m:MpL}{r j:Nat}{f g:zAm}{fs:List zAm} (hg:fs[j]?=some g):zAQ s m r f (fs.drop j) j=(zCn s m r f j g&&zAQ s m r f (fs.drop (j+1)) (j+1)):=by
 have hl:=(List.getElem?_eq_some_iff.1 hg).1
 rw [List.drop_eq_getElem_cons hl,show fs[j]=g from Option.some.inj ((List.getElem?_eq_getElem hl).symm.trans hg),zAQ]
set_option maxHeartbeats 8000000 in
theorem zHH {bm r i c:Nat}{m:MpL}{M:List (List UInt8 × (Nat × Nat) × Nat)}{G:Chs} (ho:SpecOk ro s a) (hv:Ahead s) (hT:TextIn s) (hR:∀ d∈s.nodes,d.reg.length≤maxLen∧d.ereg.length≤maxLen) (hM:MpIs s m M c) {d:zAh} (hd:s.nodes[r]?=some d) (hi:i<d.fields.length)
  (hk:K (.bool (zCz s m r d i)) ro (.obj bm (mapG str plV M c)::G)) :
  CallOk Tryz.prog 72 #[.agg (zAf s a).toArray,.int .i64 (r:Int),.int .i64 (i:Int),.map (some bm)] ro (.obj bm (mapG str plV M c)::G) K:=by
 have hcl:(Value.agg (zAf s a).toArray).cells.toList=zAf s a:=rfl
 have hr1:=ho.nodes
 have hm:=hr1.max
 have hnc:=hr1.le
 unfold maxLen at hm
 have hrl:=(List.getElem?_eq_some_iff.1 hd).1
 obtain ⟨x,hx⟩:∃ x,a.xs[r]?=some x:=⟨_,List.getElem?_eq_getElem (by rw [ho.len];exact hrl)⟩
 have hn1:=ho.each r d x hd hx
 have hdr:=zAj _ _ _ _ _ hd hx
 have hfr:=hn1.fields
 have hfm:=hfr.max
 have hfl:=hfr.le
 unfold maxLen at hfm
 obtain ⟨hfo,hks⟩:=hv r d hd
 have h5:=zBh hfo (by omega)
 have hkr:=zAz hfo h5
 obtain ⟨f,hf⟩:∃ g,d.fields[i]?=some g:=⟨_,List.getElem?_eq_getElem hi⟩
 have hfe:d.fields[i]=f:=Option.some.inj ((List.getElem?_eq_getElem hi).symm.trans hf)
 have hfd:=zAn d.fields hi
 rw [hfe] at hfd
 unfold zCz at hk
 rw [hf] at hk
 dsimp only at hk
 refine CallOk.intro (args:=[_,_,_,_]) (rs:=[_]) T_ok Tryz.func72 Tryz.call72 rfl rfl (by kernel_rfl) rfl rfl ?_
 repeat first|exact zE|refine zP ?_|refine zB fun b=>?_|refine zC fun a' c' hc1 hc2=>?_|(apply GJ.a;exact rfl;intro hg)|(apply GJ.o;exact rfl;intro hg)
 rename_i bS bI
 obtain ⟨bA,hbA⟩:∃ z:Nat,z=b:=⟨_,rfl⟩
 subst hbA
 rw [hcl,Int.toNat_natCast]
 refine OpOk.loadRow rfl rfl (LdN.at hr1 hdr) rfl ?_
 repeat first|exact zE|refine zP ?_|refine zB fun b=>?_|refine zC fun a' c' hc1 hc2=>?_|(apply GJ.a;exact rfl;intro hg)|(apply GJ.o;exact rfl;intro hg)
 obtain ⟨bN,hbN⟩:∃ z:Nat,z=b:=⟨_,rfl⟩
 subst hbN
 rw [Int.toNat_natCast]
 refine OpOk.loadRow rfl rfl (LdN.at hfr hfd) rfl ?_
 repeat first|exact zE|refine zP ?_|refine zB fun b=>?_|refine zC fun a' c' hc1 hc2=>?_|(apply GJ.a;exact rfl;intro hg)|(apply GJ.o;exact rfl;intro hg)
 rename_i bF
 obtain ⟨bG,hbG⟩:∃ z:Nat,z=b:=⟨_,rfl⟩
 subst hbG
 refine LoopOk.at (ι:=Nat × Bool) Keep.z (fun (j,w)=>[(27,.int .i64 (j:Int))]) (fun (j,w)=>.blk bG 4 [.bool w]::.blk bF 47 (zA1 f)::.blk bN 40 (zAl d x)::.blk bA 130 [.map (some bm)]::.blk bI 3 [.int .i64 (r:Int)]::.blk bS 25 (zAf s a)::.obj bm (mapG str plV M c)::G) (fun (j,w)=>j≤d.fields.length∧zAQ s m r f d.fields 0=(w&&zAQ s m r f (d.fields.drop j) j)) (fun (j,w)=>d.fields.length-j) (0,true) ?_ Sub.z Sup.z ?_
 ·exact ⟨Nat.zero_le _,by simp⟩
 rintro ⟨j,w⟩ ⟨i1,i2⟩
 dsimp only [List.cons_append,List.nil_append] at i1 i2 ⊢
 by_cases hj:j<d.fields.length
 rotate_left
 ·obtain rfl:j=d.fields.length:=by omega
  rw [List.drop_length,zAQ,Bool.and_true] at i2
  rw [i2] at hk
  repeat first|exact zE|refine zP ?_|refine zB fun b=>?_|refine zC fun a' c' hc1 hc2=>?_|(apply GJ.a;exact rfl;intro hg)|(apply GJ.o;exact rfl;intro hg)
  exact Wk.outS Sup.z (.refl _) hk
 obtain ⟨g,hg⟩:∃ h,d.fields[j]?=some h:=⟨_,List.getElem?_eq_getElem hj⟩
 have hge:d.fields[j]=g:=Option.some.inj ((List.getElem?_eq_getElem hj).symm.trans hg)
 have hgd:=zAn d.fields hj
 rw [hge] at hgd
 rw [zFr hg,←Bool.and_assoc] at i2
 obtain ⟨q1,q2⟩:=hks g.type (by rw [hkr];exact List.mem_map.2 ⟨g,List.mem_of_getElem? hg,rfl⟩)
 obtain ⟨k,hk0⟩:=Int.eq_ofNat_of_zero_le q1
 obtain ⟨e,he⟩:∃ e,s.nodes[k]?=some e:=⟨_,List.getElem?_eq_getElem (by omega)⟩
 obtain ⟨y,hy⟩:∃ y,a.xs[k]?=some y:=⟨_,List.getElem?_eq_getElem (by rw [ho.len];omega)⟩
 have hek:(zA4 s.nodes a.xs)[k*18+0]?=some (.int .i64 e.kind):=by rw [zBr he hy (by decide)];rfl
 have hap:zCn s m r f j g=if decide (f.derive=1)&&(decide (g.name=f.of)&&decide (e.kind=8)) then (preS s (e.kids[0]?.getD 0)).all (farL s m r j) else true:=by
  unfold zCn zCr
  rw [hk0,Int.toNat_natCast,he]
 clear hfe hge
 by_cases h1:f.derive=1
 rotate_left
 ·rw [hap,decide_eq_false h1,Bool.false_and,if_neg (by decide),Bool.and_true] at i2
  repeat first|exact zE|refine zP ?_|refine zB fun b=>?_|refine zC fun a' c' hc1 hc2=>?_|(apply GJ.a;exact rfl;intro hg)|(apply GJ.o;exact rfl;intro hg)
  rw [Int.toNat_natCast]
  refine OpOk.loadRow rfl rfl (LdN.at hfr hgd) rfl ?_
  repeat first|exact zE|refine zP ?_|refine zB fun b=>?_|refine zC fun a' c' hc1 hc2=>?_|(apply GJ.a;exact rfl;intro hg)|(apply GJ.o;exact rfl;intro hg)
  refine Wk.id ⟨(j+1,w),⟨rfl,?_⟩,?_,Sub.z,Sup.z⟩
  all_goals try dsimp only
  ·exact ⟨by omega,i2⟩
  ·omega
 by_cases h2:g.name=f.of
 rotate_left
 ·rw [hap,decide_eq_false h2,Bool.false_and,Bool.and_false,if_neg (by decide),Bool.and_true] at i2
  repeat first|exact zE|refine zP ?_|refine zB fun b=>?_|refine zC fun a' c' hc1 hc2=>?_|(apply GJ.a;exact rfl;intro hg)|(apply GJ.o;exact rfl;intro hg)
  rw [Int.toNat_natCast]
  refine OpOk.loadRow rfl rfl (LdN.at hfr hgd) rfl ?_
  repeat first|exact zE|refine zP ?_|refine zB fun b=>?_|refine zC fun a' c' hc1 hc2=>?_|(apply GJ.a;exact rfl;intro hg)|(apply GJ.o;exact rfl;intro hg)
  refine Wk.id ⟨(j+1,w),⟨rfl,?_⟩,?_,Sub.z,Sup.z⟩
  all_goals try dsimp only
  ·exact ⟨by omega,i2⟩
  ·omega
 by_cases h8:e.kind=8
 rotate_left
 ·rw [hap,decide_eq_false h8,Bool.and_false,Bool.and_false,if_neg (by decide),Bool.and_true] at i2
  repeat first|exact zE|refine zP ?_|refine zB fun b=>?_|refine zC fun a' c' hc1 hc2=>?_|(apply GJ.a;exact rfl;intro hg)|(apply GJ.o;exact rfl;intro hg)
  rw [Int.toNat_natCast]
  refine OpOk.loadRow rfl rfl (LdN.at hfr hgd) rfl ?_
  repeat first|exact zE|refine zP ?_|refine zB fun b=>?_|refine zC fun a' c' hc1 hc2=>?_|(apply GJ.a;exact rfl;intro hg)|(apply GJ.o;exact rfl;intro hg)
  rw [hk0,Int.toNat_natCast,Nat.add_assoc]
  refine OpOk.load rfl rfl (Ld.rs hr1 hek) ?_
  repeat first|exact zE|refine zP ?_|refine zB fun b=>?_|refine zC fun a' c' hc1 hc2=>?_|(apply GJ.a;exact rfl;intro hg)|(apply GJ.o;exact rfl;intro hg)
  refine Wk.id ⟨(j+1,w),⟨rfl,?_⟩,?_,Sub.z,Sup.z⟩
  all_goals try dsimp only
  ·exact ⟨by omega,i2⟩
  ·omega
 rw [hap,decide_eq_true h1,decide_eq_true h2,decide_eq_true h8,if_pos (by rfl)] at i2
 clear hap
 obtain ⟨v1,v2⟩:=hv k e he
 obtain ⟨kk,hkk⟩:=List.length_eq_one_iff.1 (zEz v1 h8)
 obtain ⟨w1,w2⟩:=v2 kk (by rw [zAc,hkk];simp)
 obtain ⟨n,hn0⟩:=Int.eq_ofNat_of_zero_le w1
 have hkids:=(ho.each k e y he hy).kids
 rw [hkk,hn0] at hkids i2
 rw [show ([(n:Int)]:List Int)[0]?.getD 0=(n:Int) from rfl] at i2
 have hgs:(zA4 s.nodes a.xs)[k*18+11]?=some (.slice y.ka 1 y.kc):=by rw [zBr he hy (by decide),←zEz v1 h8];rfl
 have hk00:(zAs [(n:Int)])[0]?=some (.int .i64 (n:Int)):=rfl
 rw [show ([(n:Int)]:List Int).length=1 from rfl] at hkids
 have hpin:=zDy hv (n+1) n (by omega) (by omega)
 repeat first|exact zE|refine zP ?_|refine zB fun b=>?_|refine zC fun a' c' hc1 hc2=>?_|(apply GJ.a;exact rfl;intro hg)|(apply GJ.o;exact rfl;intro hg)
 rw [Int.toNat_natCast]
 refine OpOk.loadRow rfl rfl (LdN.at hfr hgd) rfl ?_
 repeat first|exact zE|refine zP ?_|refine zB fun b=>?_|refine zC fun a' c' hc1 hc2=>?_|(apply GJ.a;exact rfl;intro hg)|(apply GJ.o;exact rfl;intro hg)
 rw [hk0,Int.toNat_natCast,Nat.add_assoc]
 refine OpOk.load rfl rfl (Ld.rs hr1 hek) ?_
 repeat first|exact zE|refine zP ?_|refine zB fun b=>?_|refine zC fun a' c' hc1 hc2=>?_|(apply GJ.a;exact rfl;intro hg)|(apply GJ.o;exact rfl;intro hg)
 rw [show (decide (g.name≠f.of)||decide (e.kind≠8))=false by simp [h2,h8]]
 repeat first|exact zE|refine zP ?_|refine zB fun b=>?_|refine zC fun a' c' hc1 hc2=>?_|(apply GJ.a;exact rfl;intro hg)|(apply GJ.o;exact rfl;intro hg)
 rename_i bJ
 obtain ⟨bH,hbH⟩:∃ z:Nat,z=b:=⟨_,rfl⟩
 subst hbH
 rw [hk0,Int.toNat_natCast,Nat.add_assoc]
 refine QOk.load rfl rfl (Ld.rs hr1 hgs) ?_
 repeat first|exact zE|refine zP ?_|refine zB fun b=>?_|refine zC fun a' c' hc1 hc2=>?_|(apply GJ.a;exact rfl;intro hg)|(apply GJ.o;exact rfl;intro hg)
 refine QOk.load rfl rfl (Ld.rs hkids hk00) ?_
 repeat first|exact zE|refine zP ?_|refine zB fun b=>?_|refine zC fun a' c' hc1 hc2=>?_|(apply GJ.a;exact rfl;intro hg)|(apply GJ.o;exact rfl;intro hg)
 refine CallOk.sup (own0:=.blk bG 4 [.bool w]::.blk bS 25 (zAf s a)::.blk bA 130 [.map (some bm)]::.obj bm (mapG str plV M c)::.blk bI 3 [.int .i64 (r:Int)]::.blk bJ 3 [.int .i64 (j:Int)]::.blk bH 47 (zA1 g)::.blk bF 47 (zA1 f)::.blk bN 40 (zAl d x)::G) Sup.z ?_
 refine zHY ho hv (fy:=95) (cap:=#[ptr' bS,ptr' bA,ptr' bI,ptr' bJ,ptr' bG]) (go:=fun _=>true) (T:=preI (kidsAt s) s.nodes.length (n:Int)) (fun q (u:Bool)=>.blk bG 4 [.bool u]::.blk bS 25 (zAf s a)::.blk bA 130 [.map (some bm)]::.obj bm (mapG str plV M c)::.blk bI 3 [.int .i64 (r:Int)]::.blk bJ 3 [.int .i64 (j:Int)]::.blk bH 47 (zA1 g)::.blk bF 47 (zA1 f)::.blk bN 40 (zAl d x)::G) (fun q u=>u=(w&&q.all (farL s m r j))) ?_ (n+1) n (by omega) (by omega) [] [] (by simp) w (by simp) ro [] _ ?_
 ·rintro q k2 r' hTp u hu ro6 X K2 hle2 hk2
  have hmem:k2∈preI (kidsAt s) s.nodes.length (n:Int):=by rw [hTp];simp
  obtain ⟨z1,z2⟩:=hpin k2 hmem
  obtain ⟨p,rfl⟩:=Int.eq_ofNat_of_zero_le z1
  obtain ⟨ep,hep⟩:∃ e,s.nodes[p]?=some e:=⟨_,List.getElem?_eq_getElem (by omega)⟩
  refine zGC (ho.leq hle2) hv hT hM hep (hR ep (List.mem_of_getElem? hep)) (hk2 _ ?_)
  rw [hu,List.all_append,Bool.and_assoc]
  simp
 rintro u
 rw [zEs (fun _=>rfl)]
 dsimp only [List.nil_append]
 intro hu
 have hu2:zAQ s m r f d.fields 0=(u&&zAQ s m r f (d.fields.drop (j+1)) (j+1)):=by rw [i2,hu]
 clear i2 hu
 repeat first|exact zE|refine zP ?_|refine zB fun b=>?_|refine zC fun a' c' hc1 hc2=>?_|(apply GJ.a;exact rfl;intro hg)|(apply GJ.o;exact rfl;intro hg)
 refine Wk.id ⟨(j+1,u),⟨rfl,?_⟩,?_,Sub.z,Sup.z⟩
 all_goals try dsimp only
 ·exact ⟨by omega,hu2⟩
 ·omega
end
end Go.Proofs.YtnapjcnfgdkmcaaGreatDoor
end
