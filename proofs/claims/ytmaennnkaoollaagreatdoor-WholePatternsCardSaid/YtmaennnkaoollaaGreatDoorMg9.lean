/- Texts of a walk, one behind the other. -/
import Derived.Shelf.Sort.Plain
import Derived.Shelf.Slices.In.SortNone
import Derived.Ground.NamesProg
import Derived.Test.YtmaennnkaoollaaGreatDoorMg3
import Derived.Test.YtmaennnkaoollaaGreatDoorMg4
import Derived.Test.YtmaennnkaoollaaGreatDoorMg5
import Derived.Test.YtmaennnkaoollaaGreatDoorMg8
set_option linter.unusedVariables false
set_option linter.unusedSimpArgs false
set_option linter.unusedSectionVars false
set_option maxRecDepth 10000
section
namespace Go.Proofs.YtmaennnkaoollaaGreatDoor
open Go Go.E
def zCp (l:List UInt8):Nat × List UInt8 × Nat × Nat:=match l with
 | []=>(0,[],0,100)
 | c::r=>if letB c=true then (if 24<(l.takeWhile zEb).length then (0,[],0,2) else (1,l.takeWhile zEb,(l.takeWhile zEb).length,0))
   else if digB c=true then (if 20<(l.takeWhile digB).length then (0,[],0,2) else if 1<(l.takeWhile digB).length∧c.toNat=48 then (0,[],0,5) else (2,l.takeWhile digB,(l.takeWhile digB).length,0))
   else if c.toNat=47 then (match patD r with
    | none=>(0,[],0,5)
    | some w=>(3,w,w.length+2,0))
   else match signsL.find? (·.isPrefixOf l) with
    | some s=>(4,s,s.length,0)
    | none=>(0,[],0,100)
theorem zLU:∀ j,j<14→(signsL[j]!).length≤2∧1≤(signsL[j]!).length:=by decide +kernel
theorem zNt {α:Type}{f:α→Bool}{l:List α} (h:∀ x∈l,f x=false):l.find? f=none:=by
 rw [List.find?_eq_none];intro x hx;simp [h x hx]
theorem zNu {α:Type} [Inhabited α] {f:α→Bool}:∀ {l:List α}{j:Nat},j<l.length→f l[j]! = true→(∀ i,i<j→f l[i]! = false)→l.find? f=some l[j]!
 | [],j,h,_,_=>by simp at h
 | x::l,0,_,h1,_=>by rw [List.find?_cons];have:f x=true:=h1;rw [this];rfl
 | x::l,j+1,h,h1,h2=>by
   have h0:f x=false:=h2 0 (by omega)
   rw [List.find?_cons,h0]
   exact zNu (l:=l) (j:=j) (by simpa using h) h1 (fun i hi=>h2 (i+1) (by omega))
section
variable {ro:Ro}{own r:Chs}{K:Value→Ro→Chs→Prop}{g:Chunk→Chs}
set_option maxHeartbeats 4000000 in
theorem next_ok {p a:Nat}{tx:List UInt8}{o:Value} (hS:SpOk ro) (hat:a<tx.length) (hl:tx.length≤100000)
  (hk1:∀ k w n,zCp (tx.drop a)=(k,w,n,0)→a+n≤tx.length→1≤n→K (.tuple #[.agg (tokV k 0 w).toArray,.int .i64 0]) ro (.blk p 55 [str tx,.int .i64 ((a+n:Nat):Int),o]::r))
  (hk2:∀ code:Nat,zCp (tx.drop a)=(0,[],0,code)→code≠0→code≤1000→∀ a':Nat,a'≤tx.length→K (.tuple #[.agg (tokV 0 0 []).toArray,.int .i64 (code:Int)]) ro (.blk p 55 [str tx,.int .i64 (a':Int),o]::r)) :
  CallOk Tryz.prog 17 #[ptr' p] ro (.blk p 55 [str tx,.int .i64 (a:Int),o]::r) K:=by
 obtain ⟨u,hu⟩:∃ u,tx[a]?=some u:=⟨_,List.getElem?_eq_getElem hat⟩
 have hu2:tx[(a:Int).toNat]! = u:=by
  rw [Int.toNat_natCast,List.getElem!_eq_getElem?_getD,hu];rfl
 have hd:tx.drop a=u::tx.drop (a+1):=by
  rw [List.drop_eq_getElem_cons hat]
  congr 1
  rw [List.getElem?_eq_getElem hat] at hu
  exact Option.some.inj hu
 have hun:=u.toNat_lt
 have hfr:zCp (tx.drop a)=if letB u=true then (if 24<((tx.drop a).takeWhile zEb).length then (0,[],0,2) else (1,(tx.drop a).takeWhile zEb,((tx.drop a).takeWhile zEb).length,0))
  else if digB u=true then (if 20<((tx.drop a).takeWhile digB).length then (0,[],0,2) else if 1<((tx.drop a).takeWhile digB).length∧u.toNat=48 then (0,[],0,5) else (2,(tx.drop a).takeWhile digB,((tx.drop a).takeWhile digB).length,0))
  else if u.toNat=47 then (match patD (tx.drop (a+1)) with
   | none=>(0,[],0,5)
   | some w=>(3,w,w.length+2,0))
  else match signsL.find? (·.isPrefixOf (tx.drop a)) with
   | some s=>(4,s,s.length,0)
   | none=>(0,[],0,100):=by rw [hd];rfl
 have hw1:=zBI zEb (tx.drop a)
 have hw2:=zBI digB (tx.drop a)
 rw [List.length_drop] at hw1 hw2
 have hp1:letB u=true→1≤((tx.drop a).takeWhile zEb).length:=fun h=>by
  rw [hd,List.takeWhile_cons,show zEb u=true by unfold zEb;rw [h];rfl];simp
 have hp2:digB u=true→1≤((tx.drop a).takeWhile digB).length∧((tx.drop a).takeWhile digB)[0]! = u:=fun h=>by
  rw [hd,List.takeWhile_cons,h];simp
 refine CallOk.intro (args:=[_]) (rs:=[_,_]) T_ok Tryz.func17 Tryz.call17 rfl rfl (by kernel_rfl) rfl rfl ?_
 repeat first|exact zE|refine wkA ?_|refine zB fun b=>?_|refine zC fun a' c' hc1 hc2=>?_|(apply GJ.a;exact rfl;intro hg)|(apply GJ.o;exact rfl;intro hg)
 try rw [hu2]
 repeat first|exact zE|refine wkA ?_|refine zB fun b=>?_|refine zC fun a' c' hc1 hc2=>?_|(apply GJ.a;exact rfl;intro hg)|(apply GJ.o;exact rfl;intro hg)
 refine zIq u _ _ _ ?_
 obtain ⟨x,hx⟩:∃ x,letB u=x:=⟨_,rfl⟩
 rw [hx] at hfr hp1 ⊢
 cases x with
 | true =>
   rw [if_pos rfl] at hfr
   have hp1:=hp1 rfl
   repeat first|exact zE|refine wkA ?_|refine zB fun b=>?_|refine zC fun a' c' hc1 hc2=>?_|(apply GJ.a;exact rfl;intro hg)|(apply GJ.o;exact rfl;intro hg)
   refine CallOk.sup (own0:=.blk p 55 [str tx,.int .i64 (a:Int),o]::.blk b 37 [.int .i64 0,.int .i64 0,str []]::r) Sup.z ?_
   refine zFf word_ok (by omega) hl ?_
   generalize (tx.drop a).takeWhile zEb=w at *
   by_cases hg:24<w.length
   ·rw [if_pos hg] at hfr
    have hk:=hk2 2 hfr (by omega) (by omega) (a+w.length) (by omega)
    repeat first|exact zE|refine wkA ?_|refine zB fun b=>?_|refine zC fun a' c' hc1 hc2=>?_|(apply GJ.a;exact rfl;intro hg)|(apply GJ.o;exact rfl;intro hg)
    exact Wk.outS Sup.z (.refl _) hk
   ·rw [if_neg hg] at hfr
    have hk:=hk1 _ _ _ hfr (by omega) hp1
    repeat first|exact zE|refine wkA ?_|refine zB fun b=>?_|refine zC fun a' c' hc1 hc2=>?_|(apply GJ.a;exact rfl;intro hg)|(apply GJ.o;exact rfl;intro hg)
    exact Wk.outS Sup.z (.refl _) hk
 | false =>
   rw [if_neg (by simp)] at hfr
   repeat first|exact zE|refine wkA ?_|refine zB fun b=>?_|refine zC fun a' c' hc1 hc2=>?_|(apply GJ.a;exact rfl;intro hg)|(apply GJ.o;exact rfl;intro hg)
   refine zFF u _ _ _ ?_
   obtain ⟨y,hy⟩:∃ y,digB u=y:=⟨_,rfl⟩
   rw [hy] at hfr hp2 ⊢
   cases y with
   | true =>
     rw [if_pos rfl] at hfr
     have hp2:=hp2 rfl
     repeat first|exact zE|refine wkA ?_|refine zB fun b=>?_|refine zC fun a' c' hc1 hc2=>?_|(apply GJ.a;exact rfl;intro hg)|(apply GJ.o;exact rfl;intro hg)
     refine CallOk.sup (own0:=.blk p 55 [str tx,.int .i64 (a:Int),o]::.blk b 37 [.int .i64 0,.int .i64 0,str []]::r) Sup.z ?_
     refine zFf zFF (by omega) hl ?_
     generalize (tx.drop a).takeWhile digB=w at *
     obtain ⟨hp2,hp3⟩:=hp2
     by_cases hg:20<w.length
     ·rw [if_pos hg] at hfr
      have hk:=hk2 2 hfr (by omega) (by omega) (a+w.length) (by omega)
      repeat first|exact zE|refine wkA ?_|refine zB fun b=>?_|refine zC fun a' c' hc1 hc2=>?_|(apply GJ.a;exact rfl;intro hg)|(apply GJ.o;exact rfl;intro hg)
      exact Wk.outS Sup.z (.refl _) hk
     ·rw [if_neg hg] at hfr
      have hp4:w[Int.toNat 0]! = u:=hp3
      by_cases hg1:1<w.length
      ·by_cases h48:u.toNat=48
       ·rw [if_pos ⟨hg1,h48⟩] at hfr
        have hk:=hk2 5 hfr (by omega) (by omega) (a+w.length) (by omega)
        repeat first|exact zE|refine wkA ?_|refine zB fun b=>?_|refine zC fun a' c' hc1 hc2=>?_|(apply GJ.a;exact rfl;intro hg)|(apply GJ.o;exact rfl;intro hg)
        try rw [hp4]
        repeat first|exact zE|refine wkA ?_|refine zB fun b=>?_|refine zC fun a' c' hc1 hc2=>?_|(apply GJ.a;exact rfl;intro hg)|(apply GJ.o;exact rfl;intro hg)
        exact Wk.outS Sup.z (.refl _) hk
       ·rw [if_neg (fun h=>h48 h.2)] at hfr
        have hk:=hk1 _ _ _ hfr (by omega) hp2
        repeat first|exact zE|refine wkA ?_|refine zB fun b=>?_|refine zC fun a' c' hc1 hc2=>?_|(apply GJ.a;exact rfl;intro hg)|(apply GJ.o;exact rfl;intro hg)
        try rw [hp4]
        repeat first|exact zE|refine wkA ?_|refine zB fun b=>?_|refine zC fun a' c' hc1 hc2=>?_|(apply GJ.a;exact rfl;intro hg)|(apply GJ.o;exact rfl;intro hg)
        exact Wk.outS Sup.z (.refl _) hk
      ·rw [if_neg (fun h=>hg1 h.1)] at hfr
       have hk:=hk1 _ _ _ hfr (by omega) hp2
       repeat first|exact zE|refine wkA ?_|refine zB fun b=>?_|refine zC fun a' c' hc1 hc2=>?_|(apply GJ.a;exact rfl;intro hg)|(apply GJ.o;exact rfl;intro hg)
       exact Wk.outS Sup.z (.refl _) hk
   | false =>
     rw [if_neg (by simp)] at hfr
     by_cases h47:u.toNat=47
     ·rw [if_pos h47] at hfr
      repeat first|exact zE|refine wkA ?_|refine zB fun b=>?_|refine zC fun a' c' hc1 hc2=>?_|(apply GJ.a;exact rfl;intro hg)|(apply GJ.o;exact rfl;intro hg)
      refine CallOk.sup (own0:=.blk p 55 [str tx,.int .i64 (a:Int),o]::.blk b 37 [.int .i64 0,.int .i64 0,str []]::r) Sup.z ?_
      refine zLk hat hl (fun w hw hwl=>?_) (fun hw a' ha'=>?_)
      ·rw [hw] at hfr
       have hk:=hk1 _ _ _ hfr (by omega) (by omega)
       rw [show a+(w.length+2)=a+w.length+2 by omega] at hk
       repeat first|exact zE|refine wkA ?_|refine zB fun b=>?_|refine zC fun a' c' hc1 hc2=>?_|(apply GJ.a;exact rfl;intro hg)|(apply GJ.o;exact rfl;intro hg)
       exact Wk.outS Sup.z (.refl _) hk
      ·rw [hw] at hfr
       have hk:=hk2 5 hfr (by omega) (by omega) a' ha'
       repeat first|exact zE|refine wkA ?_|refine zB fun b=>?_|refine zC fun a' c' hc1 hc2=>?_|(apply GJ.a;exact rfl;intro hg)|(apply GJ.o;exact rfl;intro hg)
       exact Wk.outS Sup.z (.refl _) hk
     ·rw [if_neg h47] at hfr
      repeat first|exact zE|refine wkA ?_|refine zB fun b=>?_|refine zC fun a' c' hc1 hc2=>?_|(apply GJ.a;exact rfl;intro hg)|(apply GJ.o;exact rfl;intro hg)
      refine zNx hS (fun bf=>?_)
      have hsl:=zLU
      have hs14:signsL.length=14:=rfl
      have hnn:(∀ i,i<14→(signsL[i]!).isPrefixOf (tx.drop a)=false)→signsL.find? (·.isPrefixOf (tx.drop a))=none:=fun h=>by
       refine zNt fun x hx=>?_
       obtain ⟨i,hi,rfl⟩:=List.getElem_of_mem hx
       have:=h i hi
       rwa [getElem!_pos signsL i hi] at this
      have hff:∀ j,j<14→(signsL[j]!).isPrefixOf (tx.drop a)=true→(∀ i,i<j→(signsL[i]!).isPrefixOf (tx.drop a)=false)→signsL.find? (·.isPrefixOf (tx.drop a))=some signsL[j]!:=fun j hj h1 h2=>zNu (by omega) h1 h2
      generalize signsL.find? (·.isPrefixOf (tx.drop a))=fo at hfr hnn hff
      generalize signsL=sl at *
      have hml:(List.map str sl).length=14:=by rw [List.length_map];exact hs14
      repeat first|exact zE|refine wkA ?_|refine zB fun b=>?_|refine zC fun a' c' hc1 hc2=>?_|(apply GJ.a;exact rfl;intro hg)|(apply GJ.o;exact rfl;intro hg)
      refine LoopOk.at (ι:=Nat) Keep.z (fun j=>[(58,.int .i64 (j:Int))]) (fun j=>.sl (some ⟨bf,0,none⟩) 14 14 9 1 (sl.map str)::.blk b 37 [.int .i64 0,.int .i64 0,str []]::.blk p 55 [str tx,.int .i64 (a:Int),o]::r) (fun j=>j≤14∧∀ i,i<j→(sl[i]!).isPrefixOf (tx.drop a)=false) (fun j=>14-j) 0 ?_ Sub.z Sup.z ?_
      ·exact ⟨Nat.zero_le _,fun i hi=>absurd hi (by omega)⟩
      rintro j ⟨j1,j2⟩
      dsimp only [List.cons_append,List.nil_append] at j1 j2 ⊢
      by_cases hj:j<14
      ·have hsj:=hsl j hj
       have hfj:=hff j hj
       have hgm:(sl.map str)[j]?=some (str sl[j]!):=zEx (by omega)
       have hjj:sl[j]! = sl[j]!:=rfl
       have hj2:∀ i,i<j+1→i≠j→(sl[i]!).isPrefixOf (tx.drop a)=false:=fun i hi hne=>j2 i (by omega)
       generalize hsv:sl[j]! = s at hsj hfj hgm
       have hpre:s.isPrefixOf (tx.drop a)=true→s.length≤tx.length-a:=fun h=>by
        have:=(List.isPrefixOf_iff_prefix.1 h).length_le
        rwa [List.length_drop] at this
       have ej:sl[((j:Nat):Int).toNat]! = s:=by rw [Int.toNat_natCast];exact hsv
       repeat first|exact zE|refine wkA ?_|refine zB fun b=>?_|refine zC fun a' c' hc1 hc2=>?_|(apply GJ.a;exact rfl;intro hg)|(apply GJ.o;exact rfl;intro hg)
       rw [ej,Int.toNat_natCast a]
       refine zM1 (by rw [List.length_drop];omega) (by omega) ?_
       obtain ⟨q,hq⟩:∃ q,s.isPrefixOf (tx.drop a)=q:=⟨_,rfl⟩
       rw [hq] at hfj hpre ⊢
       cases q with
       | true =>
         have hpl:=hpre rfl
         have hk:=hk1 4 s s.length (by rw [hfr,hfj rfl j2]) (by omega) (by omega)
         repeat first|exact zE|refine wkA ?_|refine zB fun b=>?_|refine zC fun a' c' hc1 hc2=>?_|(apply GJ.a;exact rfl;intro hg)|(apply GJ.o;exact rfl;intro hg)
         exact Wk.outS Sup.z (.refl _) hk
       | false =>
         repeat first|exact zE|refine wkA ?_|refine zB fun b=>?_|refine zC fun a' c' hc1 hc2=>?_|(apply GJ.a;exact rfl;intro hg)|(apply GJ.o;exact rfl;intro hg)
         refine Wk.id ⟨j+1,⟨rfl,?_⟩,?_,Sub.z,Sup.z⟩
         all_goals try dsimp only
         ·refine ⟨by omega,fun i hi=>?_⟩
          by_cases hij:i=j
          ·rw [hij,hsv,hq]
          ·exact hj2 i hi hij
         ·omega
      ·have hk:=hk2 100 (by rw [hfr,hnn (fun i hi=>j2 i (by omega))]) (by omega) (by omega) a (by omega)
       repeat first|exact zE|refine wkA ?_|refine zB fun b=>?_|refine zC fun a' c' hc1 hc2=>?_|(apply GJ.a;exact rfl;intro hg)|(apply GJ.o;exact rfl;intro hg)
       exact Wk.outS Sup.z (.refl _) hk
end
structure TokD where
 kind:Nat
 a:Nat
 text:List UInt8
deriving DecidableEq
def TokD.v (t:TokD):List Value:=tokV t.kind t.a t.text
def zGP (l:List TokD):List Value:=l.flatMap TokD.v
theorem zGq (l:List TokD) (t:TokD):zGP (l++[t])=zGP l++t.v:=by simp [zGP]
def zGh:Nat→Nat→List TokD→List UInt8→List TokD × Nat × Nat
 | 0,_,_,_=>([],0,0)
 | k+1,a,out,l=>if l.drop (gapD false l)=[] then (out++[⟨5,a+gapD false l,[]⟩],0,0)
   else if out.length=8192 then ([],a+gapD false l,2)
   else if (zCp (l.drop (gapD false l))).2.2.2≠0 then ([],a+gapD false l,(zCp (l.drop (gapD false l))).2.2.2)
   else zGh k (a+gapD false l+(zCp (l.drop (gapD false l))).2.2.1) (out++[⟨(zCp (l.drop (gapD false l))).1,a+gapD false l,(zCp (l.drop (gapD false l))).2.1⟩]) ((l.drop (gapD false l)).drop (zCp (l.drop (gapD false l))).2.2.1)
def zGS (tx:List UInt8):List TokD × Nat × Nat:=if 65536<tx.length then ([],0,2) else zGh (tx.length+1) 0 [] tx
def zJk (code a:Nat):Value:=.agg #[.int .i64 (code:Int),.int .i64 (a:Int)]
section
variable {ro:Ro}{own r:Chs}{K:Value→Ro→Chs→Prop}{g:Chunk→Chs}
set_option maxHeartbeats 4000000 in
theorem zMe {tx:List UInt8} (hS:SpOk ro) (hl:tx.length≤100000)
  (hk:∀ l a code a' c',zGS tx=(l,a,code)→l.length≤8193→code≤1000→a≤tx.length→l.length≤c'→c'≤maxLen→K (.tuple #[.slice a' l.length c',zJk code a]) ro (.sl a' l.length c' 37 3 (zGP l)::own)) :
  CallOk Tryz.prog 4 #[str tx] ro own K:=by
 refine CallOk.intro (args:=[_]) (rs:=[_,_]) T_ok Tryz.func4 Tryz.call4 rfl rfl (by kernel_rfl) rfl rfl ?_
 by_cases hbig:65536<tx.length
 ·have hk:=hk [] 0 2 none 0 (by rw [zGS,if_pos hbig]) (by simp) (by omega) (by omega) (by simp) (Nat.zero_le _)
  repeat first|exact zE|refine wkA ?_|refine zB fun b=>?_|refine zC fun a' c' hc1 hc2=>?_|(apply GJ.a;exact rfl;intro hg)|(apply GJ.o;exact rfl;intro hg)
  exact Wk.outS (Sup.nilc Sup.z) (.refl _) hk
 ·have hsc:zGS tx=zGh (tx.length+1) 0 [] tx:=by rw [zGS,if_neg hbig]
  repeat first|exact zE|refine wkA ?_|refine zB fun b=>?_|refine zC fun a' c' hc1 hc2=>?_|(apply GJ.a;exact rfl;intro hg)|(apply GJ.o;exact rfl;intro hg)
  obtain ⟨q,hq⟩:∃ q:Nat,q=b:=⟨_,rfl⟩
  subst hq
  obtain ⟨bf,hbf⟩:∃ x:Nat,x=b:=⟨_,rfl⟩
  subst hbf
  refine LoopOk.at (ι:=Nat × Nat × List TokD × Option Addr × Nat) Keep.z (fun (k,a,o,ad,cp)=>[]) (fun (k,a,o,ad,cp)=>.sl ad o.length cp 37 3 (zGP o)::.blk q 55 [str tx,.int .i64 (a:Int),.slice ad o.length cp]::.blk bf 30 [.int .i64 0,.int .i64 0]::own) (fun (k,a,o,ad,cp)=>a≤tx.length∧o.length≤8192∧o.length≤cp∧cp≤maxLen∧tx.length-a<k∧zGh k a o (tx.drop a)=zGS tx) (fun (k,a,o,ad,cp)=>tx.length+1-a) (tx.length+1,0,[],none,0) ?_ Sub.z (Sup.nilc Sup.z) ?_
  ·exact ⟨by omega,by simp,by simp,Nat.zero_le _,by omega,by rw [hsc];rfl⟩
  rintro ⟨k,a,o,ad,cp⟩ ⟨i1,i2,i3,i4,i5,i6⟩
  dsimp only [List.cons_append,List.nil_append] at i1 i2 i3 i4 i5 i6 ⊢
  obtain ⟨k,rfl⟩:∃ j,k=j+1:=⟨k-1,by omega⟩
  have hgl:=zHl (tx.drop a) false
  rw [List.length_drop] at hgl
  rw [zGh] at i6
  have hdd:(tx.drop a).drop (gapD false (tx.drop a))=tx.drop (a+gapD false (tx.drop a)):=by rw [List.drop_drop]
  rw [hdd] at i6
  repeat first|exact zE|refine wkA ?_|refine zB fun b=>?_|refine zC fun a' c' hc1 hc2=>?_|(apply GJ.a;exact rfl;intro hg)|(apply GJ.o;exact rfl;intro hg)
  refine CallOk.sup (own0:=.blk q 55 [str tx,.int .i64 (a:Int),.slice ad o.length cp]::.sl ad o.length cp 37 3 (zGP o)::.blk bf 30 [.int .i64 0,.int .i64 0]::own) Sup.z ?_
  refine gap_ok i1 hl ?_
  obtain ⟨a2,ha2⟩:∃ a2,a+gapD false (tx.drop a)=a2:=⟨_,rfl⟩
  rw [ha2] at i6 ⊢
  by_cases hend:a2=tx.length
  ·have h0:tx.drop a2=[]:=List.drop_eq_nil_of_le (by omega)
   rw [if_pos h0] at i6
   have hk:=hk (o++[⟨5,a2,[]⟩]) 0 0
   repeat first|exact zE|refine wkT ?_|refine zB fun b=>?_|refine zC fun a' c' hc1 hc2=>?_|(apply GJ.a;exact rfl;intro hg)|(apply GJ.o;exact rfl;intro hg)
   refine Bs.mk ⟨[.blk q 55 [str tx,.int .i64 (a2:Int),.slice ad o.length cp]],Sup.z,?_⟩
   repeat (first|exact zE|refine wkU ?_|(show QOk _ _ _ _ _ _ _;refine QOk.build rfl rfl Nf.auto ?_)|(show GJ _ _ _ _ _ _ _;first|with_reducible refine GJ.neF ?_|with_reducible refine GJ.neT ?_)|(show Br _ _ _;with_reducible refine Br.ne ?_)|refine zB (fun b=>?_)|refine zC (fun a' c' hc1 hc2=>?_)|(apply GJ.a;exact rfl;intro hg)|(apply GJ.o;exact rfl;intro hg))
   have hk:=hk a' c' i6.symm (by simp;omega) (by omega) (by omega) (by simp;exact hc1) hc2
   rw [zGq,List.length_append] at hk
   exact Wk.outS Sup.z (.refl _) hk
  ·have h0:tx.drop a2≠[]:=fun e=>by
    have:=congrArg List.length e
    rw [List.length_drop] at this
    simp at this
    omega
   rw [if_neg h0] at i6
   by_cases hmany:o.length=8192
   ·rw [if_pos hmany] at i6
    have hk:=hk [] a2 2 none 0 i6.symm (by simp) (by omega) (by omega) (by simp) (Nat.zero_le _)
    repeat first|exact zE|refine wkA ?_|refine zB fun b=>?_|refine zC fun a' c' hc1 hc2=>?_|(apply GJ.a;exact rfl;intro hg)|(apply GJ.o;exact rfl;intro hg)
    exact Wk.outS (Sup.nilc Sup.z) (.refl _) hk
   ·rw [if_neg hmany] at i6
    repeat first|exact zE|refine wkA ?_|refine zB fun b=>?_|refine zC fun a' c' hc1 hc2=>?_|(apply GJ.a;exact rfl;intro hg)|(apply GJ.o;exact rfl;intro hg)
    refine CallOk.sup (own0:=.blk q 55 [str tx,.int .i64 (a2:Int),.slice ad o.length cp]::.sl ad o.length cp 37 3 (zGP o)::.blk bf 30 [.int .i64 0,.int .i64 0]::own) Sup.z ?_
    refine next_ok hS (by omega) hl (fun kd w n hf hn1 hn2=>?_) (fun code hf hc1 hc2 a3 ha3=>?_)
    ·rw [hf] at i6
     rw [if_neg (by simp)] at i6
     dsimp only at i6
     rw [List.drop_drop] at i6
     repeat first|exact zE|refine wkT ?_|refine zB fun b=>?_|refine zC fun a' c' hc1 hc2=>?_|(apply GJ.a;exact rfl;intro hg)|(apply GJ.o;exact rfl;intro hg)
     refine Bs.mk ⟨[.blk b 37 (tokV kd 0 w),.blk q 55 [str tx,.int .i64 ((a2+n:Nat):Int),.slice ad o.length cp]],Sup.z,?_⟩
     repeat (first|exact zE|refine wkU ?_|(show QOk _ _ _ _ _ _ _;refine QOk.build rfl rfl Nf.auto ?_)|(show GJ _ _ _ _ _ _ _;first|with_reducible refine GJ.neF ?_|with_reducible refine GJ.neT ?_)|(show Br _ _ _;with_reducible refine Br.ne ?_)|refine zB (fun b=>?_)|refine zC (fun a' c' hc1 hc2=>?_)|(apply GJ.a;exact rfl;intro hg)|(apply GJ.o;exact rfl;intro hg))
     rw [show o.length+1=(o++[(⟨kd,a2,w⟩:TokD)]).length by simp] at hc1 ⊢
     rw [show flat [.agg #[.int .i64 (kd:Int),.int .i64 (a2:Int),str w]]=TokD.v ⟨kd,a2,w⟩ from rfl,←zGq]
     repeat first|exact zE|refine wkT ?_|refine zB fun b=>?_|refine zC fun a' c' hc1 hc2=>?_|(apply GJ.a;exact rfl;intro hg)|(apply GJ.o;exact rfl;intro hg)
     refine Wk.id ⟨(k,a2+n,o++[⟨kd,a2,w⟩],a',c'),⟨rfl,?_⟩,?_,Sub.z,Sup.z⟩
     all_goals try dsimp only
     ·exact ⟨hn1,by simp;omega,hc1,hc2,by omega,i6⟩
     ·omega
    ·rw [hf] at i6
     rw [if_pos hc1] at i6
     have hk:=hk [] a2 code none 0 i6.symm (by simp) hc2 (by omega) (by simp) (Nat.zero_le _)
     repeat first|exact zE|refine wkA ?_|refine zB fun b=>?_|refine zC fun a' c' hc1 hc2=>?_|(apply GJ.a;exact rfl;intro hg)|(apply GJ.o;exact rfl;intro hg)
     exact Wk.outS (Sup.nilc Sup.z) (.refl _) hk
end
end Go.Proofs.YtmaennnkaoollaaGreatDoor
end
section
namespace Go.E
open Go
theorem Repl.app (G:Chs) {l:Chs}{c x:Chunk}{l':Chs} (h:Repl l c x l'):Repl (G++l) c x (G++l'):=by
 induction G with
 | nil=>exact h
 | cons y G ih=>exact .miss y ih
instance HasBlk.app (G l:Chs) (b:Nat) (t:TypeId) (cs:List Value) (f:Chunk→Chs) [h:HasBlk l b t cs f]:HasBlk (G++l) b t cs (fun x=>G++f x):=⟨fun x=>(h.repl x).app G⟩
instance HasSl.app (G l:Chs) (a:Option Addr) (n c:Nat) (t:TypeId) (s:Nat) (cs:List Value) (f:Chunk→Chs) [h:HasSl l a n c t s cs f]:HasSl (G++l) a n c t s cs (fun x=>G++f x):=⟨fun x=>(h.repl x).app G⟩
end Go.E
namespace Go.Proofs.YtmaennnkaoollaaGreatDoor
open Go Go.E
def zEN (x:zA9):List Value:=[.int .i64 (x.to:Int),wV x.set.a,wV x.set.b,wV x.set.c,wV x.set.d,.bool x.free]
def zBR:List zA9→List Value
 | []=>[]
 | x::r=>zEN x++zBR r
theorem zGE:∀ (l:List zA9),(zBR l).length=l.length*6
 | []=>rfl
 | x::r=>by rw [zBR,List.length_append,zGE r,List.length_cons];simp [zEN];omega
theorem zGF:∀ (l m:List zA9),zBR (l++m)=zBR l++zBR m
 | [],m=>rfl
 | x::l,m=>by rw [List.cons_append,zBR,zBR,zGF l m,List.append_assoc]
theorem zJu (l:List zA9) (x:zA9):zBR (l++[x])=zBR l++zEN x:=by
 rw [zGF,zBR,zBR,List.append_nil]
theorem zCZ:∀ (l:List zA9) (i:Nat) (x:zA9),l[i]?=some x→((zBR l).drop (i*6)).take 6=zEN x
 | [],i,x,h=>by simp at h
 | y::l,0,x,h=>by simp at h;subst h;rfl
 | y::l,i+1,x,h=>by
   have ih:=zCZ l i x (by simpa using h)
   rw [zBR,show (i+1)*6=(zEN y).length+i*6 by show _=6+i*6;omega,←List.drop_drop,List.drop_left]
   exact ih
abbrev RowM:=(Option Addr × Nat) × List zA9
def hdrV (r:RowM):Value:=.slice r.1.1 r.2.length r.1.2
def rowC (r:RowM):Chunk:=.sl r.1.1 r.2.length r.1.2 141 6 (zBR r.2)
def zBg (R:List RowM):zAy:=R.map (·.2)
abbrev mkC (q:Nat) (a:Option Addr) (c:Nat) (e:Int) (full:Bool) (R:List RowM) (r:Chs):Chs :=
 .blk q 108 [.slice a R.length c,.int .i64 e,.bool full]::.sl a R.length c 146 1 (R.map hdrV)::(R.map rowC++r)
theorem zDC (x:Chunk) (q:Nat) (a:Option Addr) (c:Nat) (e:Int) (full:Bool) (R:List RowM) (r:Chs):(x::mkC q a c e full R r).Perm (mkC q a c e full R (x::r)):=by
 unfold mkC
 refine (List.Perm.swap _ _ _).trans (((List.Perm.swap _ _ _).trans ?_).cons _)
 exact (List.perm_middle.symm).cons _
theorem zLa {R:List RowM}{i:Nat}{x:RowM} (h:R[i]?=some x) (r:Chs):(R.map rowC++r).Perm (rowC x::((R.take i++R.drop (i+1)).map rowC++r)):=by
 obtain ⟨hi,hx⟩:=List.getElem?_eq_some_iff.1 h
 have e:R=R.take i++x::R.drop (i+1):=by rw [←hx,←List.drop_eq_getElem_cons hi,List.take_append_drop]
 have e2:=congrArg (List.map rowC) e
 rw [List.map_append,List.map_cons] at e2
 rw [e2,List.map_append,List.append_assoc,List.append_assoc,List.cons_append]
 exact List.perm_middle
theorem zMj {R:List RowM}{i:Nat} (hi:i<R.length) (y:RowM) (r:Chs):(rowC y::((R.take i++R.drop (i+1)).map rowC++r)).Perm ((R.set i y).map rowC++r):=by
 rw [List.set_eq_take_append_cons_drop,if_pos hi,List.map_append,List.map_append,List.map_cons,List.append_assoc,List.append_assoc,List.cons_append]
 exact List.perm_middle.symm
theorem zLb {R:List RowM}{i:Nat}{x:RowM} (h:R[i]?=some x) (a:Option Addr × Nat) (y:zA9) (full:Bool):zBg (R.set i (a,x.2++[y]))=(zAm i y ⟨zBg R,full⟩).rows:=by
 unfold zBg zAm
 dsimp only
 rw [List.map_set,List.getElem?_map,h];rfl
section
variable {ro:Ro}{own r:Chs}{K:Value→Ro→Chs→Prop}{g:Chunk→Chs}
theorem zMi (R:List RowM) (r:Chs):((.sl none 0 0 141 6 []:Chunk)::(R.map rowC++r)).Perm ((R++[((none,0),[])]).map rowC++r):=by
 rw [List.map_append,List.append_assoc]
 exact List.perm_middle.symm
theorem zHZ {q c:Nat}{a:Option Addr}{e:Int}{full:Bool}{R:List RowM} (hR:R.length≤4096)
  (hk:∀ a' c' R',zBg R'=(zAa ⟨zBg R,full⟩).2.rows→K (.int .i64 ((zAa ⟨zBg R,full⟩).1:Int)) ro (mkC q a' c' e (zAa ⟨zBg R,full⟩).2.full R' r)) :
  CallOk Tryz.prog 55 #[ptr' q] ro (mkC q a c e full R r) K:=by
 have hlen:(zBg R).length=R.length:=by simp [zBg]
 have hL:(R.map hdrV).length=R.length:=by simp
 unfold zAa at hk
 dsimp only at hk
 rw [hlen] at hk
 unfold mkC
 by_cases h:R.length=4096
 ·rw [if_pos h] at hk
  refine CallOk.intro (args:=[_]) (rs:=[_]) T_ok Tryz.func55 Tryz.call55 rfl rfl (by kernel_rfl) rfl rfl ?_
  repeat first|exact zE|refine zP ?_|refine zB fun b=>?_|refine zC fun a' c' hc1 hc2=>?_|(apply GJ.a;exact rfl;intro hg)|(apply GJ.o;exact rfl;intro hg)
  exact Wk.outS Sup.z (.refl _) (hk a c R rfl)
 ·rw [if_neg h] at hk
  refine CallOk.intro (args:=[_]) (rs:=[_]) T_ok Tryz.func55 Tryz.call55 rfl rfl (by kernel_rfl) rfl rfl ?_
  repeat first|exact zE|refine zP ?_|refine zB fun b=>?_|refine zC fun a' c' hc1 hc2=>?_|(apply GJ.a;exact rfl;intro hg)|(apply GJ.o;exact rfl;intro hg)
  have hk2:=hk a' c' (R++[((none,0),[])]) (by simp [zBg])
  unfold mkC at hk2
  rw [List.length_append,List.map_append,show ([((none,0),[])]:List RowM).length=1 from rfl] at hk2
  dsimp only at hk2
  refine Wk.outE (own1:=.sl none 0 0 141 6 []::.blk q 108 [.slice a' (R.length+1) c',.int .i64 e,.bool full]::.sl a' (R.length+1) c' 146 1 (R.map hdrV++[.slice none 0 0])::(R.map rowC++r)) (Sup.nilc (Sup.all _)) ?_ hk2 (congrArg (Value.int .i64) (by omega))
  exact (List.Perm.swap _ _ _).trans (((List.Perm.swap _ _ _).trans ((zMi R r).cons _)).cons _)
theorem nedge_ok {q c:Nat}{a:Option Addr}{e:Int}{full:Bool}{R:List RowM}{f:Nat}{x:zA9}{row:RowM} (hf:R[f]?=some row) (hl:row.2.length≤1000000) (hR:R.length≤4096)
  (hk:∀ R',zBg R'=(zAm f x ⟨zBg R,full⟩).rows→R'.length=R.length→K (.tuple #[]) ro (mkC q a c e full R' r)) :
  CallOk Tryz.prog 87 #[ptr' q,.int .i64 (f:Int),.agg (zEN x).toArray] ro (mkC q a c e full R r) K:=by
 have hL:(R.map hdrV).length=R.length:=by simp
 have hfl:=(List.getElem?_eq_some_iff.1 hf).1
 have hE:=zGE row.2
 have hgf:(R.map hdrV)[f]?=some (hdrV row):=by rw [List.getElem?_map,hf];rfl
 obtain ⟨⟨ra,rc⟩,rl⟩:=row
 unfold mkC
 refine CallOk.perm (((zLa hf r).cons _).cons _) ?_
 unfold rowC hdrV at *
 dsimp only at *
 have hrow:R[((f:Nat):Int).toNat]! = ((ra,rc),rl):=by rw [Int.toNat_natCast,getElem!_def,hf]
 have hfl2:flat [Value.agg (Value.agg (zEN x).toArray).cells.toList.toArray]=zEN x:=by show _++[]=_;rw [List.append_nil];rfl
 refine CallOk.intro (args:=[_,_,_]) (rs:=[]) T_ok Tryz.func87 Tryz.call87 rfl rfl (by kernel_rfl) rfl rfl ?_
 repeat first|exact zE|refine wkT ?_|refine zB fun b=>?_|refine zC fun a' c' hc1 hc2=>?_|(apply GJ.a;exact rfl;intro hg)|(apply GJ.o;exact rfl;intro hg)
 obtain ⟨bx,hbx⟩:∃ z:Nat,z=b:=⟨_,rfl⟩
 subst hbx
 refine Bs.mk ⟨[.blk bx 141 (Value.agg (zEN x).toArray).cells.toList,.blk q 108 [.slice a R.length c,.int .i64 e,.bool full],.sl a R.length c 146 1 (R.map fun r=>.slice r.1.1 r.2.length r.1.2)],Sup.z,?_⟩
 repeat (first|exact zE|refine wkU ?_|(show QOk _ _ _ _ _ _ _;refine QOk.build rfl rfl Nf.auto ?_)|(show GJ _ _ _ _ _ _ _;first|with_reducible refine GJ.neF ?_|with_reducible refine GJ.neT ?_)|(show Br _ _ _;with_reducible refine Br.ne ?_)|refine zB (fun b=>?_)|refine zC (fun a' c' hc1 hc2=>?_)|(apply GJ.a;exact rfl;intro hg)|(apply GJ.o;exact rfl;intro hg))
 rw [hrow]
 dsimp only
 repeat (first|exact zE|refine wkU ?_|(show QOk _ _ _ _ _ _ _;refine QOk.build rfl rfl Nf.auto ?_)|(show GJ _ _ _ _ _ _ _;first|with_reducible refine GJ.neF ?_|with_reducible refine GJ.neT ?_)|(show Br _ _ _;with_reducible refine Br.ne ?_)|refine zB (fun b=>?_)|refine zC (fun a' c' hc1 hc2=>?_)|(apply GJ.a;exact rfl;intro hg)|(apply GJ.o;exact rfl;intro hg))
 rw [Int.toNat_natCast]
 refine OpOk.storeSl (k:=f) rfl rfl rfl rfl (by rw [hL];exact hfl) ?_
 repeat (first|exact zE|refine wkU ?_|(show QOk _ _ _ _ _ _ _;refine QOk.build rfl rfl Nf.auto ?_)|(show GJ _ _ _ _ _ _ _;first|with_reducible refine GJ.neF ?_|with_reducible refine GJ.neT ?_)|(show Br _ _ _;with_reducible refine Br.ne ?_)|refine zB (fun b=>?_)|refine zC (fun a' c' hc1 hc2=>?_)|(apply GJ.a;exact rfl;intro hg)|(apply GJ.o;exact rfl;intro hg))
 rw [hfl2,←zJu,show rl.length+1=(rl++[x]).length by simp]
 have hk2:=hk (R.set f ((a',c'),rl++[x])) (zLb hf (a',c') x full) (by simp)
 unfold mkC at hk2
 rw [List.length_set,List.map_set] at hk2
 refine Wk.outS (own1:=.blk q 108 [.slice a R.length c,.int .i64 e,.bool full]::.sl a R.length c 146 1 ((R.map hdrV).set f (hdrV ((a',c'),rl++[x])))::rowC ((a',c'),rl++[x])::((R.take f++R.drop (f+1)).map rowC++r)) (Sup.drop _ (Sup.all _)) (((zMj hfl ((a',c'),rl++[x]) r).cons _).cons _) hk2
end
def budN (st:StD):Nat:=zAG st+4*(4096-st.rows.length)
def stM (R:List RowM) (full:Bool):StD:=⟨zBg R,full⟩
theorem zA6 (R:List RowM) (full:Bool):(stM R full).rows.length=R.length:=by simp [stM,zBg]
theorem zEU {R:List RowM}{st:StD} (h:zBg R=st.rows):stM R st.full=st:=by unfold stM;rw [h]
theorem row_ofM {R:List RowM}{full:Bool}{f:Nat}{row:RowM} (h:R[f]?=some row):row.2.length≤zAG (stM R full):=by
 refine zMl (f:=f) ?_
 unfold stM zBg
 rw [List.getElem?_map,h];rfl
theorem zBy (st:StD) (h:StOk st):budN (zAa st).2≤budN st∧((zAa st).2.full=false→budN (zAa st).2+4≤budN st):=by
 have h1:=zBi st
 have h2:=zC8 st
 have h3:=h.le
 unfold budN
 refine ⟨by rw [h1,h2];split<;>omega,fun hf=>?_⟩
 rw [zC9] at hf
 split at hf
 ·cases hf
 ·rename_i h4
  rw [h1,h2,if_neg h4];omega
theorem zE4 (f:Nat) (x:zA9) (st:StD):budN (zAm f x st)≤budN st+1:=by
 have h1:=zBa f x st
 have h2:=zAj f x st
 unfold budN;rw [h2];omega
theorem zDb {c s:Nat}{st:StD}{p:Nat × StD} (h:Made c s st p):budN p.2≤budN st+4*s∧(p.2.full=false→budN p.2≤budN st):=by
 have h1:=h.grow
 have h2:=h.ok.le
 unfold budN
 exact ⟨by have:=h.edges1;omega,fun hf=>by have:=h.edges0 hf;omega⟩
structure NodeC (n:RgD):Prop where
 run:∀ {ro:Ro}{r:Chs}{K:Value→Ro→Chs→Prop}{q c f:Nat}{a:Option Addr}{e:Int}{full:Bool}{R:List RowM}{v:List Value},RgOk ro n v→zAJ n=0→StOk (stM R full)→f<R.length→(full=true∨budN (stM R full)+4*zAn n≤900000) →
  (∀ a' c' R',zBg R'=(zAx n f (stM R full)).2.rows→K (.int .i64 ((zAx n f (stM R full)).1:Int)) ro (mkC q a' c' e (zAx n f (stM R full)).2.full R' r)) →
  CallOk Tryz.prog 56 #[ptr' q,.agg v.toArray,.int .i64 (f:Int)] ro (mkC q a c e full R r) K
section
variable {ro:Ro}{own r:Chs}{K:Value→Ro→Chs→Prop}{g:Chunk→Chs}
theorem zCD {q c:Nat}{a:Option Addr}{e:Int}{full:Bool}{R:List RowM} (ho:StOk (stM R full))
  (hk:∀ a' c' R',stM R' (zAa (stM R full)).2.full=(zAa (stM R full)).2→K (.int .i64 ((zAa (stM R full)).1:Int)) ro (mkC q a' c' e (zAa (stM R full)).2.full R' r)) :
  CallOk Tryz.prog 55 #[ptr' q] ro (mkC q a c e full R r) K :=
 zHZ (by have:=ho.le;rw [zA6] at this;exact this) fun a' c' R' h=>hk a' c' R' (zEU h)
theorem zBY {q c:Nat}{a:Option Addr}{e:Int}{full:Bool}{R:List RowM}{f:Nat}{x:zA9} (ho:StOk (stM R full)) (hf:f<R.length) (hb:budN (stM R full)≤1000000)
  (hk:∀ R',stM R' full=zAm f x (stM R full)→K (.tuple #[]) ro (mkC q a c e full R' r)) :
  CallOk Tryz.prog 87 #[ptr' q,.int .i64 (f:Int),.agg (zEN x).toArray] ro (mkC q a c e full R r) K:=by
 obtain ⟨row,hr⟩:∃ row,R[f]?=some row:=⟨_,List.getElem?_eq_getElem hf⟩
 refine nedge_ok hr ?_ (by have:=ho.le;rw [zA6] at this;exact this) fun R' h1 h2=>hk R' ?_
 ·have:=row_ofM (full:=full) hr
  unfold budN at hb;omega
 ·have:=zEU h1
  exact this
theorem mk_in2 (x y:Chunk) (q:Nat) (a:Option Addr) (c:Nat) (e:Int) (full:Bool) (R:List RowM) (r:Chs):(x::y::mkC q a c e full R r).Perm (mkC q a c e full R (x::y::r)) :=
 ((zDC y q a c e full R r).cons x).trans (zDC x q a c e full R (y::r))
theorem zB2 {α:Type}{l:List α}{i:Nat}{x:α} (h:l[i]?=some x):l.drop i=x::l.drop (i+1):=by
 obtain ⟨h1,h2⟩:=List.getElem?_eq_some_iff.1 h
 rw [List.drop_eq_getElem_cons h1,h2]
theorem cat_cons (x:RgD) (l:List RgD) (f:Nat) (st:StD):catN (x::l) f st=catN l (zAx x f st).1 (zAx x f st).2:=by rw [catN]
theorem alt_cons (x:RgD) (l:List RgD) (f to:Nat) (st:StD):altN (x::l) f to st=altN l f to (altN [x] f to st):=by rw [altN,altN,altN]
theorem alt_one (x:RgD) (f to:Nat) (st:StD):altN [x] f to st=zAm (zAx x (zAa st).1 (zAm f (zAd (zAa st).1) (zAa st).2)).1 (zAd to) (zAx x (zAa st).1 (zAm f (zAd (zAa st).1) (zAa st).2)).2:=by rw [altN,altN]
theorem rep_min (F:zBN) (k f:Nat) (st:StD) (h:st.full=false):minN F (k+1) f st=minN F k (F f st).1 (F f st).2:=by rw [minN,if_neg (by rw [h];decide)]
theorem rep_full (F:zBN) (k f:Nat) (st:StD) (h:st.full=true):minN F (k+1) f st=(true,0,st):=by rw [minN,if_pos h]
theorem rep_max (F:zBN) (to k f:Nat) (st:StD) (h:st.full=false):maxN F to (k+1) f st=maxN F to k (oneN F to f st).1 (oneN F to f st).2:=by rw [maxN,if_neg (by rw [h];decide)]
theorem rep_maxF (F:zBN) (to k f:Nat) (st:StD) (h:st.full=true):maxN F to (k+1) f st=(true,0,st):=by rw [maxN,if_pos h]
set_option maxHeartbeats 16000000 in
theorem zLl {x:RgD} (ih:NodeC x) {q c f:Nat}{a:Option Addr}{e:Int}{R:List RowM}{z:SetD}{mn mx:Int}{ad:Option Addr}{cp:Nat}{v:List Value} (hrs:Rs ro ad 1 cp 8 v) (hvv:RgOk ro x v) (hw:zAJ x=0) (h:¬(mn<0∨256<mn∨256<mx∨(0≤mx∧mx<mn)))
  (ho:StOk (stM R false)) (hf:f<R.length) (hb:budN (stM R false)+4*zAn x+4≤900000)
  (hk:∀ a' c' R',zBg R'=(zBs (zAx x) mn mx f (stM R false)).2.rows→K (.int .i64 ((zBs (zAx x) mn mx f (stM R false)).1:Int)) ro (mkC q a' c' e (zBs (zAx x) mn mx f (stM R false)).2.full R' r)) :
  CallOk Tryz.prog 88 #[ptr' q,.agg (zA7 5 z ad 1 cp mn mx).toArray,.int .i64 (f:Int)] ro (mkC q a c e false R r) K:=by
 have hM:=zB8 x hw
 obtain ⟨ak,ck,hvk⟩:=hvv.cells
 have hvk0:(v.drop 0).take 8=zA7 x.kind x.set ak x.kids.length ck x.min x.max:=by rw [hvk];rfl
 rw [hvk] at hvv
 have hRl:=zA6 R false
 unfold zBs at hk
 obtain ⟨n,hn⟩:∃ n:Nat,mn=(n:Int):=⟨mn.toNat,by omega⟩
 have hmn:mn.toNat=n:=by omega
 rw [hmn] at hk
 refine CallOk.intro (args:=[_,_,_]) (rs:=[_]) T_ok Tryz.func88 Tryz.call88 rfl rfl (by kernel_rfl) rfl rfl ?_
 repeat first|exact zE|refine zP ?_|refine zB fun b=>?_|refine zC fun a' c' hc1 hc2=>?_|(apply GJ.a;exact rfl;intro hg)|(apply GJ.o;exact rfl;intro hg)
 obtain ⟨bN,hbN⟩:∃ z:Nat,z=b:=⟨_,rfl⟩
 subst hbN
 refine LoopOk.at (ι:=Nat × Nat × List RowM × Bool × Option Addr × Nat) Keep.z (fun (i,fi,R2,u2,a2,c2)=>[(12,.int .i64 (i:Int)),(2,.int .i64 (fi:Int))]) (fun (i,fi,R2,u2,a2,c2)=>.blk bN 26 (zA7 5 z ad 1 cp mn mx)::mkC q a2 c2 e u2 R2 r) (fun (i,fi,R2,u2,a2,c2)=>i≤n∧minN (zAx x) n f (stM R false)=minN (zAx x) (n-i) fi (stM R2 u2)∧StOk (stM R2 u2)∧fi<R2.length∧budN (stM R2 u2)≤budN (stM R false)+4*zAn x∧(u2=false→budN (stM R2 u2)≤budN (stM R false))) (fun (i,fi,R2,u2,a2,c2)=>n-i) (0,f,R,false,a,c) ?_ Sub.z Sup.z ?_
 ·exact ⟨Nat.zero_le _,rfl,ho,hf,by omega,fun _=>Nat.le_refl _⟩
 rintro ⟨i,fi,R2,u2,a2,c2⟩ ⟨i1,i2,i3,i4,i5,i6⟩
 dsimp only [List.cons_append,List.nil_append] at i1 i2 i3 i4 i5 i6 ⊢
 have hR2:=zA6 R2 u2
 by_cases hi:i<n
 ·rw [show n-i=(n-(i+1))+1 by omega] at i2
  cases u2 with
  | true =>
    rw [rep_full _ _ _ _ rfl] at i2
    rw [i2] at hk
    repeat first|exact zE|refine zP ?_|refine zB fun b=>?_|refine zC fun a' c' hc1 hc2=>?_|(apply GJ.a;exact rfl;intro hg)|(apply GJ.o;exact rfl;intro hg)
    exact Wk.own _ (Sup.drop _ (Sup.all _)) (Wk.id (hk a2 c2 R2 rfl))
  | false =>
    rw [rep_min _ _ _ _ rfl] at i2
    have hmd:=(hM fi (stM R2 false) i3 (by omega)).1
    have hbd:=zDb hmd
    have i6:=i6 rfl
    repeat first|exact zE|refine zP ?_|refine zB fun b=>?_|refine zC fun a' c' hc1 hc2=>?_|(apply GJ.a;exact rfl;intro hg)|(apply GJ.o;exact rfl;intro hg)
    refine OpOk.loadRow rfl rfl (LdN.at (k:=0) hrs hvk0) rfl ?_
    repeat first|exact zE|refine zP ?_|refine zB fun b=>?_|refine zC fun a' c' hc1 hc2=>?_|(apply GJ.a;exact rfl;intro hg)|(apply GJ.o;exact rfl;intro hg)
    refine CallOk.perm (zDC _ _ _ _ _ _ _ _) ?_
    refine ih.run hvv hw i3 i4 (.inr (by omega)) (fun a3 c3 R3 h3=>?_)
    have e3:=zEU h3
    generalize zAx x fi (stM R2 false)=p at *
    have hlt:=hmd.lt
    have l3:R3.length=p.2.rows.length:=by rw [←e3,zA6]
    repeat first|exact zE|refine zP ?_|refine zB fun b=>?_|refine zC fun a' c' hc1 hc2=>?_|(apply GJ.a;exact rfl;intro hg)|(apply GJ.o;exact rfl;intro hg)
    refine Wk.perm (zDC _ _ _ _ _ _ _ _).symm ?_
    refine Wk.id ⟨(i+1,p.1,R3,p.2.full,a3,c3),⟨rfl,?_⟩,?_,Sub.z,Sup.z⟩
    all_goals try dsimp only
    ·exact ⟨by omega,by rw [e3];exact i2,by rw [e3];exact hmd.ok,by omega,by rw [e3];omega,fun hu=>by rw [e3];have:=hbd.2 hu;omega⟩
    ·omega
 ·obtain rfl:i=n:=by omega
  rw [Nat.sub_self,minN] at i2
  rw [i2] at hk
  dsimp only at hk
  repeat first|exact zE|refine zP ?_|refine zB fun b=>?_|refine zC fun a' c' hc1 hc2=>?_|(apply GJ.a;exact rfl;intro hg)|(apply GJ.o;exact rfl;intro hg)
  refine CallOk.perm (zDC _ _ _ _ _ _ _ _) ?_
  refine zCD i3 (fun a0 c0 R0 h0=>?_)
  have m0:=zAu i3
  have d0:=(zBy _ i3).1
  have d1:=(zBy _ i3).2
  have k0:=m0.keep
  have g0:=m0.grow
  have t0:=m0.lt
  have o0:=m0.ok
  generalize zAa (stM R2 u2)=p0 at *
  have l0:R0.length=p0.2.rows.length:=by rw [←h0,zA6]
  by_cases hmx:mx<0
  ·rw [if_pos hmx] at hk
   unfold zCT at hk
   dsimp only at hk
   repeat first|exact zE|refine zP ?_|refine zB fun b=>?_|refine zC fun a' c' hc1 hc2=>?_|(apply GJ.a;exact rfl;intro hg)|(apply GJ.o;exact rfl;intro hg)
   refine zCD (by rw [h0];exact o0) (fun a3 c3 R3 h3=>?_)
   rw [h0] at h3
   rw [h0]
   have m1:=zAu o0
   have t1:=m1.lt
   have b1:=(zBy _ o0).1
   have b2:=(zBy _ o0).2
   have k1:=m1.keep
   have g1:=m1.grow
   have o1:=m1.ok
   generalize zAa p0.2=p1 at *
   have l3:R3.length=p1.2.rows.length:=by rw [←h3,zA6]
   repeat first|exact zE|refine zP ?_|refine zB fun b=>?_|refine zC fun a' c' hc1 hc2=>?_|(apply GJ.a;exact rfl;intro hg)|(apply GJ.o;exact rfl;intro hg)
   refine zBY (x:=zAd p1.1) (by rw [h3];exact o1) (by omega) (by rw [h3];omega) (fun R4 h4=>?_)
   rw [h3] at h4
   have o2:StOk (zAm fi (zAd p1.1) p1.2):=o1.edge t1
   have e2:=zAj fi (zAd p1.1) p1.2
   have b3:=zE4 fi (zAd p1.1) p1.2
   have u3:=zA4 fi (zAd p1.1) p1.2
   generalize zAm fi (zAd p1.1) p1.2=s2 at *
   have l4:R4.length=s2.rows.length:=by rw [←h4,zA6]
   repeat first|exact zE|refine zP ?_|refine zB fun b=>?_|refine zC fun a' c' hc1 hc2=>?_|(apply GJ.a;exact rfl;intro hg)|(apply GJ.o;exact rfl;intro hg)
   refine zBY (x:=zAd p0.1) (by rw [h4];exact o2) (by omega) (by rw [h4];omega) (fun R5 h5=>?_)
   rw [h4] at h5
   have o3:StOk (zAm p1.1 (zAd p0.1) s2):=o2.edge (show p0.1<s2.rows.length by omega)
   have e3:=zAj p1.1 (zAd p0.1) s2
   have b4:=zE4 p1.1 (zAd p0.1) s2
   have u4:=zA4 p1.1 (zAd p0.1) s2
   generalize zAm p1.1 (zAd p0.1) s2=s3 at *
   have l5:R5.length=s3.rows.length:=by rw [←h5,zA6]
   have hmd:=(hM p1.1 s3 o3 (by omega)).1
   have hmd2:=(hM p1.1 s3 o3 (by omega)).2
   have hmb:=zDb hmd
   repeat first|exact zE|refine zP ?_|refine zB fun b=>?_|refine zC fun a' c' hc1 hc2=>?_|(apply GJ.a;exact rfl;intro hg)|(apply GJ.o;exact rfl;intro hg)
   refine OpOk.loadRow rfl rfl (LdN.at (k:=0) hrs hvk0) rfl ?_
   repeat first|exact zE|refine zP ?_|refine zB fun b=>?_|refine zC fun a' c' hc1 hc2=>?_|(apply GJ.a;exact rfl;intro hg)|(apply GJ.o;exact rfl;intro hg)
   refine ih.run hvv hw (by rw [h5];exact o3) (by omega) (by
    rw [h5]
    cases hu:p1.2.full with
    | true=>exact .inl rfl
    | false =>
      have hu0:p0.2.full=false:=by cases hh:p0.2.full with
       | false=>rfl
       | true=>rw [k1 hh] at hu;cases hu
      have hu2:u2=false:=by cases hh:u2 with
       | false=>rfl
       | true=>have:=k0 hh;rw [this] at hu0;cases hu0
      have:=b2 hu;have:=d1 hu0;have:=i6 hu2
      exact .inr (by omega)) (fun a6 c6 R6 h6=>?_)
   rw [h5] at h6
   have e6:=zEU h6
   rw [h5]
   have hbb:budN (zAx x p1.1 s3).2≤900000+100:=by
    cases hu:s3.full with
    | true =>
      have h1:=hmd2 hu
      have h2:=hmd.grow
      have h3:=zBA o3 hmd.ok h2 hu
      unfold budN at *;omega
    | false =>
      have hu1:p1.2.full=false:=by rw [←u3,←u4];exact hu
      have hu0:p0.2.full=false:=by cases hh:p0.2.full with
       | false=>rfl
       | true=>rw [k1 hh] at hu1;cases hu1
      have hu2:u2=false:=by cases hh:u2 with
       | false=>rfl
       | true=>have:=k0 hh;rw [this] at hu0;cases hu0
      have:=b2 hu1;have:=d1 hu0;have:=i6 hu2
      omega
   generalize zAx x p1.1 s3=p6 at *
   have l6:R6.length=p6.2.rows.length:=by rw [←e6,zA6]
   have t6:=hmd.lt
   repeat first|exact zE|refine zP ?_|refine zB fun b=>?_|refine zC fun a' c' hc1 hc2=>?_|(apply GJ.a;exact rfl;intro hg)|(apply GJ.o;exact rfl;intro hg)
   refine zBY (x:=zAd p1.1) (by rw [e6];exact hmd.ok) (by omega) (by rw [e6];omega) (fun R7 h7=>?_)
   rw [e6] at h7
   repeat first|exact zE|refine zP ?_|refine zB fun b=>?_|refine zC fun a' c' hc1 hc2=>?_|(apply GJ.a;exact rfl;intro hg)|(apply GJ.o;exact rfl;intro hg)
   exact Wk.perm (zDC _ _ _ _ _ _ _ _).symm (Wk.own _ (Sup.drop _ (Sup.all _)) (Wk.id (hk a6 c6 R7 (congrArg StD.rows h7))))
  ·rw [if_neg hmx] at hk
   obtain ⟨m,hm⟩:∃ m:Nat,mx-mn=(m:Int):=⟨(mx-mn).toNat,by omega⟩
   rw [hm,Int.toNat_natCast] at hk
   repeat first|exact zE|refine zP ?_|refine zB fun b=>?_|refine zC fun a' c' hc1 hc2=>?_|(apply GJ.a;exact rfl;intro hg)|(apply GJ.o;exact rfl;intro hg)
   rw [hm]
   refine LoopOk.at (ι:=Nat × Nat × List RowM × Bool × Option Addr × Nat) Keep.z (fun (j,fj,R3,u3,a3,c3)=>[(60,.int .i64 (j:Int)),(2,.int .i64 (fj:Int))]) (fun (j,fj,R3,u3,a3,c3)=>mkC q a3 c3 e u3 R3 (.blk bN 26 (zA7 5 z ad 1 cp mn mx)::r)) (fun (j,fj,R3,u3,a3,c3)=>j≤m∧maxN (zAx x) p0.1 m fi p0.2=maxN (zAx x) p0.1 (m-j) fj (stM R3 u3)∧StOk (stM R3 u3)∧fj<R3.length∧p0.2.rows.length≤R3.length∧budN (stM R3 u3)≤budN (stM R false)+4*zAn x+4∧(u3=false→budN (stM R3 u3)≤budN (stM R false))) (fun (j,fj,R3,u3,a3,c3)=>m-j) (0,fi,R0,p0.2.full,a0,c0) ?_ Sub.z Sup.z ?_
   ·exact ⟨Nat.zero_le _,by rw [h0];rfl,by rw [h0];exact o0,by omega,by omega,by rw [h0];omega,fun hu=>by
     rw [h0]
     have hu2:u2=false:=by cases hh:u2 with
      | false=>rfl
      | true=>have:=k0 hh;rw [this] at hu;cases hu
     have:=i6 hu2;omega⟩
   rintro ⟨j,fj,R3,u3,a3,c3⟩ ⟨j1,j2,j3,j4,j5,j6,j7⟩
   dsimp only [List.cons_append,List.nil_append] at j1 j2 j3 j4 j5 j6 j7 ⊢
   have hR3:=zA6 R3 u3
   by_cases hj:j<m
   ·rw [show m-j=(m-(j+1))+1 by omega] at j2
    cases u3 with
    | true =>
      rw [rep_maxF _ _ _ _ _ rfl] at j2
      rw [j2] at hk
      repeat first|exact zE|refine zP ?_|refine zB fun b=>?_|refine zC fun a' c' hc1 hc2=>?_|(apply GJ.a;exact rfl;intro hg)|(apply GJ.o;exact rfl;intro hg)
      exact Wk.perm (zDC _ _ _ _ _ _ _ _).symm (Wk.own _ (Sup.drop _ (Sup.all _)) (Wk.id (hk a3 c3 R3 rfl)))
    | false =>
      rw [rep_max _ _ _ _ _ rfl] at j2
      have j7:=j7 rfl
      have hone:=MadeF.one hM (to:=p0.1) (f0:=fj) j3 (by omega) (by omega)
      have hbone:=zDb hone
      have hoo:=hone.ok
      have hog:=hone.grow
      have hot:=hone.lt
      unfold oneN at j2 hbone hoo hog hot
      have q1:StOk (zAm fj (zAd p0.1) (stM R3 false)):=j3.edge (show p0.1<(stM R3 false).rows.length by omega)
      have q2:=zAj fj (zAd p0.1) (stM R3 false)
      have q3:=zE4 fj (zAd p0.1) (stM R3 false)
      repeat first|exact zE|refine zP ?_|refine zB fun b=>?_|refine zC fun a' c' hc1 hc2=>?_|(apply GJ.a;exact rfl;intro hg)|(apply GJ.o;exact rfl;intro hg)
      refine zBY (x:=zAd p0.1) j3 (by omega) (by omega) (fun R4 h4=>?_)
      generalize zAm fj (zAd p0.1) (stM R3 false)=s1 at *
      have l4:R4.length=s1.rows.length:=by rw [←h4,zA6]
      repeat first|exact zE|refine zP ?_|refine zB fun b=>?_|refine zC fun a' c' hc1 hc2=>?_|(apply GJ.a;exact rfl;intro hg)|(apply GJ.o;exact rfl;intro hg)
      refine zCD (by rw [h4];exact q1) (fun a5 c5 R5 h5=>?_)
      rw [h4] at h5
      rw [h4]
      have m1:=zAu q1
      have t1:=m1.lt
      have b1:=(zBy _ q1).1
      have b2:=(zBy _ q1).2
      have g1:=m1.grow
      have o1:=m1.ok
      generalize zAa s1=p1 at *
      have l5:R5.length=p1.2.rows.length:=by rw [←h5,zA6]
      repeat first|exact zE|refine zP ?_|refine zB fun b=>?_|refine zC fun a' c' hc1 hc2=>?_|(apply GJ.a;exact rfl;intro hg)|(apply GJ.o;exact rfl;intro hg)
      refine zBY (x:=zAd p1.1) (by rw [h5];exact o1) (by omega) (by rw [h5];omega) (fun R6 h6=>?_)
      rw [h5] at h6
      have o2:StOk (zAm fj (zAd p1.1) p1.2):=o1.edge t1
      have e2:=zAj fj (zAd p1.1) p1.2
      have b3:=zE4 fj (zAd p1.1) p1.2
      have u4:=zA4 fj (zAd p1.1) p1.2
      generalize zAm fj (zAd p1.1) p1.2=s2 at *
      have l6:R6.length=s2.rows.length:=by rw [←h6,zA6]
      repeat first|exact zE|refine zP ?_|refine zB fun b=>?_|refine zC fun a' c' hc1 hc2=>?_|(apply GJ.a;exact rfl;intro hg)|(apply GJ.o;exact rfl;intro hg)
      refine OpOk.loadRow rfl rfl (LdN.at (k:=0) hrs hvk0) rfl ?_
      repeat first|exact zE|refine zP ?_|refine zB fun b=>?_|refine zC fun a' c' hc1 hc2=>?_|(apply GJ.a;exact rfl;intro hg)|(apply GJ.o;exact rfl;intro hg)
      refine ih.run hvv hw (by rw [h6];exact o2) (by omega) (by
       rw [h6]
       cases hu:p1.2.full with
       | true=>exact .inl rfl
       | false=>have:=b2 hu;exact .inr (by omega)) (fun a7 c7 R7 h7=>?_)
      rw [h6] at h7
      have e7:=zEU h7
      rw [h6]
      generalize zAx x p1.1 s2=p7 at *
      have l7:R7.length=p7.2.rows.length:=by rw [←e7,zA6]
      repeat first|exact zE|refine zP ?_|refine zB fun b=>?_|refine zC fun a' c' hc1 hc2=>?_|(apply GJ.a;exact rfl;intro hg)|(apply GJ.o;exact rfl;intro hg)
      refine Wk.id ⟨(j+1,p7.1,R7,p7.2.full,a7,c7),⟨rfl,?_⟩,?_,Sub.z,Sup.z⟩
      all_goals try dsimp only
      ·exact ⟨by omega,by rw [e7];exact j2,by rw [e7];exact hoo,by omega,by omega,by rw [e7];omega,fun hu=>by rw [e7];have:=hbone.2 hu;omega⟩
      ·omega
   ·obtain rfl:j=m:=by omega
    rw [Nat.sub_self,maxN] at j2
    rw [j2] at hk
    dsimp only at hk
    repeat first|exact zE|refine zP ?_|refine zB fun b=>?_|refine zC fun a' c' hc1 hc2=>?_|(apply GJ.a;exact rfl;intro hg)|(apply GJ.o;exact rfl;intro hg)
    refine zBY (x:=zAd p0.1) j3 (by omega) (by omega) (fun R4 h4=>?_)
    repeat first|exact zE|refine zP ?_|refine zB fun b=>?_|refine zC fun a' c' hc1 hc2=>?_|(apply GJ.a;exact rfl;intro hg)|(apply GJ.o;exact rfl;intro hg)
    exact Wk.perm (zDC _ _ _ _ _ _ _ _).symm (Wk.own _ (Sup.drop _ (Sup.all _)) (Wk.id (hk a3 c3 R4 (congrArg StD.rows h4))))
set_option maxHeartbeats 8000000 in
theorem nodeC:∀ n,NodeC n:=RgD.ind fun k z l mn mx ih=>⟨fun {ro r K q c f a e full R v} hv hw ho hf hb hk=>by
 obtain ⟨hform,hkw⟩:=zAM hw
 have hF:=zBm hform
 rw [RgOk] at hv
 obtain ⟨ad,cp,cs,rfl,hs,hrs,hks⟩:=hv
 have hle:=hrs.le
 have hmx:=hrs.max
 unfold maxLen at hmx
 have hRl:=zA6 R full
 rw [zAx] at hk
 dsimp only at hk
 cases full with
 | true =>
   rw [if_pos (show (stM R true).full=true from rfl)] at hk
   refine CallOk.intro (args:=[_,_,_]) (rs:=[_]) T_ok Tryz.func56 Tryz.call56 rfl rfl (by kernel_rfl) rfl rfl ?_
   repeat first|exact zE|refine zP ?_|refine zB fun b=>?_|refine zC fun a' c' hc1 hc2=>?_|(apply GJ.a;exact rfl;intro hg)|(apply GJ.o;exact rfl;intro hg)
   exact Wk.outS Sup.z (.refl _) (hk a c R rfl)
 | false =>
   rw [if_neg (show ¬(stM R false).full=true from (by intro h;cases h))] at hk
   have hb:budN (stM R false)+4*(zAr l+1)≤900000:=by
    rcases hb with hb|hb
    ·cases hb
    ·rw [zAn] at hb;exact hb
   cases hF with
   | none s a1 b1 =>
     rw [if_neg (by decide),if_neg (by decide),if_neg (by decide),if_neg (by decide)] at hk
     refine CallOk.intro (args:=[_,_,_]) (rs:=[_]) T_ok Tryz.func56 Tryz.call56 rfl rfl (by kernel_rfl) rfl rfl ?_
     repeat first|exact zE|refine zP ?_|refine zB fun b=>?_|refine zC fun a' c' hc1 hc2=>?_|(apply GJ.a;exact rfl;intro hg)|(apply GJ.o;exact rfl;intro hg)
     exact Wk.outS Sup.z (.refl _) (hk a c R rfl)
   | one s a1 b1 h =>
     rw [if_pos rfl] at hk
     refine CallOk.intro (args:=[_,_,_]) (rs:=[_]) T_ok Tryz.func56 Tryz.call56 rfl rfl (by kernel_rfl) rfl rfl ?_
     repeat first|exact zE|refine zP ?_|refine zB fun b=>?_|refine zC fun a' c' hc1 hc2=>?_|(apply GJ.a;exact rfl;intro hg)|(apply GJ.o;exact rfl;intro hg)
     refine CallOk.perm (zDC _ _ _ _ _ _ _ _) ?_
     refine zCD ho (fun a2 c2 R2 h2=>?_)
     have m1:=zAu ho
     have b1:=(zBy _ ho).1
     generalize zAa (stM R false)=p at *
     have o2:StOk (stM R2 p.2.full):=by rw [h2];exact m1.ok
     have l2:R2.length=p.2.rows.length:=by rw [←h2,zA6]
     have g2:=m1.grow
     repeat first|exact zE|refine zP ?_|refine zB fun b=>?_|refine zC fun a' c' hc1 hc2=>?_|(apply GJ.a;exact rfl;intro hg)|(apply GJ.o;exact rfl;intro hg)
     refine zBY (x:=setE p.1 z) o2 (by omega) (by rw [h2];omega) (fun R3 h3=>?_)
     repeat first|exact zE|refine zP ?_|refine zB fun b=>?_|refine zC fun a' c' hc1 hc2=>?_|(apply GJ.a;exact rfl;intro hg)|(apply GJ.o;exact rfl;intro hg)
     rw [h2] at h3
     exact Wk.perm (zDC _ _ _ _ _ _ _ _).symm (Wk.own _ (Sup.drop _ (Sup.all _)) (Wk.id (hk a2 c2 R3 (congrArg StD.rows h3))))
   | cat s x y l a1 b1 =>
     rw [if_neg (by decide),if_pos rfl] at hk
     generalize x::y::l=l at *
     refine CallOk.intro (args:=[_,_,_]) (rs:=[_]) T_ok Tryz.func56 Tryz.call56 rfl rfl (by kernel_rfl) rfl rfl ?_
     repeat first|exact zE|refine zP ?_|refine zB fun b=>?_|refine zC fun a' c' hc1 hc2=>?_|(apply GJ.a;exact rfl;intro hg)|(apply GJ.o;exact rfl;intro hg)
     obtain ⟨bN,hbN⟩:∃ z:Nat,z=b:=⟨_,rfl⟩
     subst hbN
     refine LoopOk.at (ι:=Nat × Nat × List RowM × Bool × Option Addr × Nat) Keep.z (fun (i,fi,R2,u2,a2,c2)=>[(37,.int .i64 (i:Int)),(2,.int .i64 (fi:Int))]) (fun (i,fi,R2,u2,a2,c2)=>.blk bN 26 (zA7 3 z ad l.length cp mn mx)::mkC q a2 c2 e u2 R2 r) (fun (i,fi,R2,u2,a2,c2)=>i≤l.length∧catN l f (stM R false)=catN (l.drop i) fi (stM R2 u2)∧StOk (stM R2 u2)∧fi<R2.length∧budN (stM R2 u2)+4*zAr (l.drop i)≤900000) (fun (i,fi,R2,u2,a2,c2)=>l.length-i) (0,f,R,false,a,c) ?_ Sub.z Sup.z ?_
     ·exact ⟨Nat.zero_le _,by simp,ho,hf,by rw [List.drop_zero];omega⟩
     rintro ⟨i,fi,R2,u2,a2,c2⟩ ⟨i1,i2,i3,i4,i5⟩
     dsimp only [List.cons_append,List.nil_append] at i1 i2 i3 i4 i5 ⊢
     by_cases hi:i<l.length
     ·obtain ⟨kd,hkd⟩:∃ kd,l[i]?=some kd:=⟨_,List.getElem?_eq_getElem hi⟩
      have hmk:=List.mem_of_getElem? hkd
      have hvv:=hks.get hkd
      obtain ⟨ak,ck,hvk⟩:=hvv.cells
      rw [hvk] at hvv
      rw [zB2 hkd,cat_cons] at i2
      rw [zB2 hkd,zAr] at i5
      have hwk:=zB0 hkw kd hmk
      have hmd:=(zB8 kd hwk fi (stM R2 u2) i3 (by rw [zA6];exact i4)).1
      have hbd:=(zDb hmd).1
      repeat first|exact zE|refine zP ?_|refine zB fun b=>?_|refine zC fun a' c' hc1 hc2=>?_|(apply GJ.a;exact rfl;intro hg)|(apply GJ.o;exact rfl;intro hg)
      rw [Int.toNat_natCast]
      refine OpOk.loadRow rfl rfl (LdN.at hrs hvk) rfl ?_
      repeat first|exact zE|refine zP ?_|refine zB fun b=>?_|refine zC fun a' c' hc1 hc2=>?_|(apply GJ.a;exact rfl;intro hg)|(apply GJ.o;exact rfl;intro hg)
      refine CallOk.perm (mk_in2 _ _ _ _ _ _ _ _ _) ?_
      refine (ih kd hmk).run hvv hwk i3 i4 (.inr (by omega)) (fun a3 c3 R3 h3=>?_)
      have e3:=zEU h3
      generalize zAx kd fi (stM R2 u2)=p at *
      have hlt:=hmd.lt
      have l3:R3.length=p.2.rows.length:=by rw [←e3,zA6]
      repeat first|exact zE|refine zP ?_|refine zB fun b=>?_|refine zC fun a' c' hc1 hc2=>?_|(apply GJ.a;exact rfl;intro hg)|(apply GJ.o;exact rfl;intro hg)
      refine Wk.perm (mk_in2 _ _ _ _ _ _ _ _ _).symm ?_
      refine Wk.id ⟨(i+1,p.1,R3,p.2.full,a3,c3),⟨rfl,?_⟩,?_,Sub.z,Sup.z⟩
      all_goals try dsimp only
      ·exact ⟨by omega,by rw [e3];exact i2,by rw [e3];exact hmd.ok,by omega,by rw [e3];omega⟩
      ·omega
     ·obtain rfl:i=l.length:=by omega
      rw [List.drop_length,catN] at i2
      rw [i2] at hk
      repeat first|exact zE|refine zP ?_|refine zB fun b=>?_|refine zC fun a' c' hc1 hc2=>?_|(apply GJ.a;exact rfl;intro hg)|(apply GJ.o;exact rfl;intro hg)
      exact Wk.own _ (Sup.drop _ (Sup.all _)) (Wk.id (hk a2 c2 R2 rfl))
   | alt s x y l a1 b1 =>
     rw [if_neg (by decide),if_neg (by decide),if_pos rfl] at hk
     generalize x::y::l=l at *
     refine CallOk.intro (args:=[_,_,_]) (rs:=[_]) T_ok Tryz.func56 Tryz.call56 rfl rfl (by kernel_rfl) rfl rfl ?_
     repeat first|exact zE|refine zP ?_|refine zB fun b=>?_|refine zC fun a' c' hc1 hc2=>?_|(apply GJ.a;exact rfl;intro hg)|(apply GJ.o;exact rfl;intro hg)
     obtain ⟨bN,hbN⟩:∃ z:Nat,z=b:=⟨_,rfl⟩
     subst hbN
     refine CallOk.perm (zDC _ _ _ _ _ _ _ _) ?_
     refine zCD ho (fun a0 c0 R0 h0=>?_)
     have m0:=zAu ho
     have d0:=(zBy _ ho).1
     have g0:=m0.grow
     have t0:=m0.lt
     have o0:=m0.ok
     generalize zAa (stM R false)=p0 at *
     have l0:R0.length=p0.2.rows.length:=by rw [←h0,zA6]
     repeat first|exact zE|refine zP ?_|refine zB fun b=>?_|refine zC fun a' c' hc1 hc2=>?_|(apply GJ.a;exact rfl;intro hg)|(apply GJ.o;exact rfl;intro hg)
     refine LoopOk.at (ι:=Nat × List RowM × Bool × Option Addr × Nat) Keep.z (fun (i,R2,u2,a2,c2)=>[(54,.int .i64 (i:Int))]) (fun (i,R2,u2,a2,c2)=>mkC q a2 c2 e u2 R2 (.blk bN 26 (zA7 4 z ad l.length cp mn mx)::r)) (fun (i,R2,u2,a2,c2)=>i≤l.length∧altN l f p0.1 p0.2=altN (l.drop i) f p0.1 (stM R2 u2)∧StOk (stM R2 u2)∧p0.2.rows.length≤R2.length∧budN (stM R2 u2)+4*zAr (l.drop i)≤900000) (fun (i,R2,u2,a2,c2)=>l.length-i) (0,R0,p0.2.full,a0,c0) ?_ Sub.z Sup.z ?_
     ·exact ⟨Nat.zero_le _,by rw [h0];simp,by rw [h0];exact o0,by omega,by rw [List.drop_zero,h0];omega⟩
     rintro ⟨i,R2,u2,a2,c2⟩ ⟨i1,i2,i3,i4,i5⟩
     dsimp only [List.cons_append,List.nil_append] at i1 i2 i3 i4 i5 ⊢
     have hR2:=zA6 R2 u2
     by_cases hi:i<l.length
     ·obtain ⟨kd,hkd⟩:∃ kd,l[i]?=some kd:=⟨_,List.getElem?_eq_getElem hi⟩
      have hmk:=List.mem_of_getElem? hkd
      have hvv:=hks.get hkd
      obtain ⟨ak,ck,hvk⟩:=hvv.cells
      rw [hvk] at hvv
      rw [zB2 hkd,alt_cons] at i2
      rw [zB2 hkd,zAr] at i5
      have hwk:=zB0 hkw kd hmk
      have hsz:=zHE kd
      have hone:=zEr [kd] (fun y hy=>by rw [List.mem_singleton.1 hy];exact zB8 kd hwk) f p0.1 (stM R2 u2) i3 (by omega) (by omega)
      have hbone:=(zDb hone).1
      rw [zAr,zAr] at hbone
      have hoo:=hone.ok
      have hog:=hone.grow
      rw [alt_one] at i2 hbone hoo hog
      dsimp only at hbone hoo hog
      have m1:=zAu i3
      have t1:=m1.lt
      have b1:=(zBy _ i3).1
      have b2:=(zBy _ i3).2
      have g1:=m1.grow
      repeat first|exact zE|refine zP ?_|refine zB fun b=>?_|refine zC fun a' c' hc1 hc2=>?_|(apply GJ.a;exact rfl;intro hg)|(apply GJ.o;exact rfl;intro hg)
      rw [Int.toNat_natCast]
      refine OpOk.loadRow rfl rfl (LdN.at hrs hvk) rfl ?_
      repeat first|exact zE|refine zP ?_|refine zB fun b=>?_|refine zC fun a' c' hc1 hc2=>?_|(apply GJ.a;exact rfl;intro hg)|(apply GJ.o;exact rfl;intro hg)
      refine CallOk.perm (zDC _ _ _ _ _ _ _ _) ?_
      refine zCD i3 (fun a3 c3 R3 h3=>?_)
      have o1:=m1.ok
      generalize zAa (stM R2 u2)=p1 at *
      have l3:R3.length=p1.2.rows.length:=by rw [←h3,zA6]
      repeat first|exact zE|refine zP ?_|refine zB fun b=>?_|refine zC fun a' c' hc1 hc2=>?_|(apply GJ.a;exact rfl;intro hg)|(apply GJ.o;exact rfl;intro hg)
      refine zBY (x:=zAd p1.1) (by rw [h3];exact o1) (by omega) (by rw [h3];omega) (fun R4 h4=>?_)
      rw [h3] at h4
      have o2:StOk (zAm f (zAd p1.1) p1.2):=o1.edge t1
      have e2:=zAj f (zAd p1.1) p1.2
      have b3:=zE4 f (zAd p1.1) p1.2
      have u3:=zA4 f (zAd p1.1) p1.2
      generalize zAm f (zAd p1.1) p1.2=s2 at *
      have l4:R4.length=s2.rows.length:=by rw [←h4,zA6]
      have hmd:=(zB8 kd hwk p1.1 s2 o2 (by omega)).1
      have hmb:=zDb hmd
      repeat first|exact zE|refine zP ?_|refine zB fun b=>?_|refine zC fun a' c' hc1 hc2=>?_|(apply GJ.a;exact rfl;intro hg)|(apply GJ.o;exact rfl;intro hg)
      refine (ih kd hmk).run hvv hwk (by rw [h4];exact o2) (by omega) (by
       rw [h4]
       cases hu:p1.2.full with
       | true=>exact .inl rfl
       | false=>have:=b2 hu;exact .inr (by omega)) (fun a5 c5 R5 h5=>?_)
      rw [h4] at h5
      have e5:=zEU h5
      rw [h4]
      generalize zAx kd p1.1 s2=p5 at *
      have l5:R5.length=p5.2.rows.length:=by rw [←e5,zA6]
      have g5:=hmd.grow
      have t5:=hmd.lt
      repeat first|exact zE|refine zP ?_|refine zB fun b=>?_|refine zC fun a' c' hc1 hc2=>?_|(apply GJ.a;exact rfl;intro hg)|(apply GJ.o;exact rfl;intro hg)
      refine zBY (x:=zAd p0.1) (by rw [e5];exact hmd.ok) (by omega) (by rw [e5];omega) (fun R6 h6=>?_)
      rw [e5] at h6
      have e6:=zAj p5.1 (zAd p0.1) p5.2
      repeat first|exact zE|refine zP ?_|refine zB fun b=>?_|refine zC fun a' c' hc1 hc2=>?_|(apply GJ.a;exact rfl;intro hg)|(apply GJ.o;exact rfl;intro hg)
      refine Wk.perm (zDC _ _ _ _ _ _ _ _).symm ?_
      have l6:R6.length=R5.length:=by have:=congrArg (fun st:StD=>st.rows.length) h6;rw [zA6,e6] at this;omega
      refine Wk.id ⟨(i+1,R6,p5.2.full,a5,c5),⟨rfl,?_⟩,?_,Sub.z,Sup.z⟩
      all_goals try dsimp only
      ·exact ⟨by omega,by rw [h6];exact i2,by rw [h6];exact hoo,by omega,by rw [h6];omega⟩
      ·omega
     ·obtain rfl:i=l.length:=by omega
      rw [List.drop_length,altN] at i2
      rw [i2] at hk
      repeat first|exact zE|refine zP ?_|refine zB fun b=>?_|refine zC fun a' c' hc1 hc2=>?_|(apply GJ.a;exact rfl;intro hg)|(apply GJ.o;exact rfl;intro hg)
      exact Wk.perm (zDC _ _ _ _ _ _ _ _).symm (Wk.own _ (Sup.drop _ (Sup.all _)) (Wk.id (hk a2 c2 R2 rfl)))
   | rep s x a1 b1 h =>
     rw [if_neg (by decide),if_neg (by decide),if_neg (by decide),if_pos rfl] at hk
     have hkid:kidN [x]=zAx x:=by rw [kidN]
     rw [hkid] at hk
     have hk1:=RgsOk.single hks
     have hsk:zAr [x]=zAn x:=by simp [zAr]
     have hb2:budN (stM R false)+4*zAn x+4≤900000:=by
      rcases hb with h|h
      ·cases h
      ·rw [zAn,hsk] at h;omega
     refine CallOk.intro (args:=[_,_,_]) (rs:=[_]) T_ok Tryz.func56 Tryz.call56 rfl rfl (by kernel_rfl) rfl rfl ?_
     repeat first|exact zE|refine zP ?_|refine zB fun b=>?_|refine zC fun a' c' hc1 hc2=>?_|(apply GJ.a;exact rfl;intro hg)|(apply GJ.o;exact rfl;intro hg)
     refine CallOk.perm (zDC _ _ _ _ _ _ _ _) ?_
     refine zLl (ih x (List.mem_singleton.2 rfl)) hrs hk1 (zB0 (l:=[x]) hkw x (List.mem_singleton.2 rfl)) h ho hf hb2 (fun a2 c2 R2 h2=>?_)
     repeat first|exact zE|refine zP ?_|refine zB fun b=>?_|refine zC fun a' c' hc1 hc2=>?_|(apply GJ.a;exact rfl;intro hg)|(apply GJ.o;exact rfl;intro hg)
     exact Wk.perm (zDC _ _ _ _ _ _ _ _).symm (Wk.own _ (Sup.drop _ (Sup.all _)) (Wk.id (hk a2 c2 R2 h2)))⟩
end
mutual
theorem zEO:∀ (n:RgD) (M:Int),(zAL n M).1=0→0≤(zAL n M).2∧(zAL n M).2≤M-1
 | .mk k s l a b,M,h=>by
   rw [zAL] at h ⊢
   split at h
   ·cases h
   ·rename_i h1
    rw [if_neg h1]
    split at h
    ·rename_i h2;exact absurd h h2
    ·rename_i h2
     rw [if_neg h2]
     split at h
     ·rename_i h3;rw [if_pos h3];dsimp only;omega
     ·rename_i h3
      rw [if_neg h3]
      have:=zGa l (M-1) (by omega) h
      omega
theorem zGa:∀ (l:List RgD) (M:Int),0≤M→(zAK l M).1=0→0≤(zAK l M).2∧(zAK l M).2≤M
 | [],M,h0,h=>by rw [zAK];exact ⟨h0,Int.le_refl _⟩
 | x::r,M,h0,h=>by
   rw [zAK] at h ⊢
   split at h
   ·rename_i h1;exact absurd h h1
   ·rename_i h1
    rw [if_neg h1]
    have h2:=zEO x M (Decidable.of_not_not h1)
    have:=zGa r (zAL x M).2 h2.1 h
    omega
end
structure ChC (n:RgD):Prop where
 run:∀ {ro:Ro}{r:Chs}{K:Value→Ro→Chs→Prop}{p:Nat}{v:List Value}{M d:Int},RgOk ro n v→0≤M→M≤100000→0≤d→d+M≤512→K (.int .i64 ((zAL n M).1:Int)) ro (.blk p 3 [.int .i64 (zAL n M).2]::r) →
  CallOk Tryz.prog 18 #[.agg v.toArray,.int .i64 d,ptr' p] ro (.blk p 3 [.int .i64 M]::r) K
set_option maxHeartbeats 16000000 in
theorem chC:∀ n,ChC n:=RgD.ind fun k z l x y ih=>⟨fun {ro r K p v M d} hv hM hM2 hd hdm hk=>by
 rw [RgOk] at hv
 obtain ⟨ad,cp,cs,rfl,hs,hrs,hks⟩:=hv
 have hle:=hrs.le
 have hmx:=hrs.max
 unfold maxLen at hmx
 rw [zAL] at hk
 by_cases h0:M-1<0
 ·rw [if_pos h0] at hk
  refine CallOk.intro (args:=[_,_,_]) (rs:=[_]) T_ok Tryz.func18 Tryz.call18 rfl rfl (by kernel_rfl) rfl rfl ?_
  repeat first|exact zE|refine zP ?_|refine zB fun b=>?_|refine zC fun a' c' hc1 hc2=>?_|(apply GJ.a;exact rfl;intro hg)|(apply GJ.o;exact rfl;intro hg)
  exact Wk.outS Sup.z (.refl _) hk
 rw [if_neg h0] at hk
 have hformD:zEL (.mk k z l x y)=(if k=1∨k=2 then (if l≠[] then 5 else if k=2∧z=zeroS then 160 else 0) else if k=3∨k=4 then (if l.length<2 then 5 else 0)
  else if k=5 then (if l.length≠1 then 5 else if x<0∨256<x∨256<y∨(0≤y∧y<x) then 1 else 0) else 5):=rfl
 have hbad:∀ e:Nat,zEL (.mk k z l x y)=e→e≠0→K (.int .i64 (e:Int)) ro (.blk p 3 [.int .i64 (M-1)]::r):=fun e h1 h2=>by
  rw [h1,if_pos h2] at hk;exact hk
 have hgood:zEL (.mk k z l x y)=0→K (.int .i64 ((zAK l (M-1)).1:Int)) ro (.blk p 3 [.int .i64 (zAK l (M-1)).2]::r):=fun h1=>by
  rw [h1,if_neg (by decide)] at hk
  by_cases h12:k=1∨k=2
  ·rw [if_pos h12] at hk
   have:l=[]:=by
    by_cases hl:l=[]
    ·exact hl
    ·rw [hformD,if_pos h12,if_pos hl] at h1;cases h1
   subst this
   rw [zAK];exact hk
  ·rw [if_neg h12] at hk;exact hk
 clear hk
 have hle0:l≠[]↔0<l.length:=List.length_pos_iff.symm
 by_cases h1:k=1
 ·subst h1
  rw [if_pos (.inl rfl)] at hformD
  by_cases hl0:l≠[]
  ·rw [if_pos hl0] at hformD
   have hk:=hbad _ hformD (by decide)
   have:=hle0.1 hl0
   refine CallOk.intro (args:=[_,_,_]) (rs:=[_]) T_ok Tryz.func18 Tryz.call18 rfl rfl (by kernel_rfl) rfl rfl ?_
   repeat first|exact zE|refine zP ?_|refine zB fun b=>?_|refine zC fun a' c' hc1 hc2=>?_|(apply GJ.a;exact rfl;intro hg)|(apply GJ.o;exact rfl;intro hg)
   exact Wk.outS Sup.z (.refl _) hk
  ·rw [if_neg hl0,if_neg (fun x=>absurd x.1 (by decide))] at hformD
   have hk:=hgood hformD
   have hl0:¬0<l.length:=fun h=>hl0 (hle0.2 h)
   refine CallOk.intro (args:=[_,_,_]) (rs:=[_]) T_ok Tryz.func18 Tryz.call18 rfl rfl (by kernel_rfl) rfl rfl ?_
   repeat first|exact zE|refine zP ?_|refine zB fun b=>?_|refine zC fun a' c' hc1 hc2=>?_|(apply GJ.a;exact rfl;intro hg)|(apply GJ.o;exact rfl;intro hg)
   refine LoopOk.at (ι:=Nat × Int) Keep.z (fun (i,Mi)=>[(75,.int .i64 (i:Int))]) (fun (i,Mi)=>.blk p 3 [.int .i64 Mi]::r) (fun (i,Mi)=>i≤l.length∧zAK l (M-1)=zAK (l.drop i) Mi) (fun (i,Mi)=>l.length-i) (0,M-1) ?_ Sub.z Sup.z ?_
   ·exact ⟨Nat.zero_le _,by simp⟩
   rintro ⟨i,Mi⟩ ⟨i1,i4⟩
   dsimp only [List.cons_append,List.nil_append] at i1 i4 ⊢
   obtain rfl:i=l.length:=by omega
   rw [List.drop_length,zAK] at i4
   rw [i4] at hk
   repeat first|exact zE|refine zP ?_|refine zB fun b=>?_|refine zC fun a' c' hc1 hc2=>?_|(apply GJ.a;exact rfl;intro hg)|(apply GJ.o;exact rfl;intro hg)
   exact Wk.outS Sup.z (.refl _) hk
 by_cases h2:k=2
 ·subst h2
  rw [if_pos (.inr rfl)] at hformD
  by_cases hl0:l≠[]
  ·rw [if_pos hl0] at hformD
   have hk:=hbad _ hformD (by decide)
   have:=hle0.1 hl0
   refine CallOk.intro (args:=[_,_,_]) (rs:=[_]) T_ok Tryz.func18 Tryz.call18 rfl rfl (by kernel_rfl) rfl rfl ?_
   repeat first|exact zE|refine zP ?_|refine zB fun b=>?_|refine zC fun a' c' hc1 hc2=>?_|(apply GJ.a;exact rfl;intro hg)|(apply GJ.o;exact rfl;intro hg)
   exact Wk.outS Sup.z (.refl _) hk
  ·rw [if_neg hl0] at hformD
   have hl0':¬0<l.length:=fun h=>hl0 (hle0.2 h)
   by_cases hz:z=zeroS
   ·rw [if_pos ⟨rfl,hz⟩] at hformD
    have hk:=hbad _ hformD (by decide)
    refine CallOk.intro (args:=[_,_,_]) (rs:=[_]) T_ok Tryz.func18 Tryz.call18 rfl rfl (by kernel_rfl) rfl rfl ?_
    repeat first|exact zE|refine zP ?_|refine zB fun b=>?_|refine zC fun a' c' hc1 hc2=>?_|(apply GJ.a;exact rfl;intro hg)|(apply GJ.o;exact rfl;intro hg)
    refine zCs ?_
    rw [if_pos (show z=⟨0,0,0,0⟩ from hz)]
    repeat first|exact zE|refine zP ?_|refine zB fun b=>?_|refine zC fun a' c' hc1 hc2=>?_|(apply GJ.a;exact rfl;intro hg)|(apply GJ.o;exact rfl;intro hg)
    exact Wk.outS Sup.z (.refl _) hk
   ·rw [if_neg (fun x=>hz x.2)] at hformD
    have hk:=hgood hformD
    have hl0:=Decidable.of_not_not hl0
    rw [hl0,zAK] at hk
    refine CallOk.intro (args:=[_,_,_]) (rs:=[_]) T_ok Tryz.func18 Tryz.call18 rfl rfl (by kernel_rfl) rfl rfl ?_
    repeat first|exact zE|refine zP ?_|refine zB fun b=>?_|refine zC fun a' c' hc1 hc2=>?_|(apply GJ.a;exact rfl;intro hg)|(apply GJ.o;exact rfl;intro hg)
    refine zCs ?_
    rw [if_neg (show ¬z=⟨0,0,0,0⟩ from hz)]
    repeat first|exact zE|refine zP ?_|refine zB fun b=>?_|refine zC fun a' c' hc1 hc2=>?_|(apply GJ.a;exact rfl;intro hg)|(apply GJ.o;exact rfl;intro hg)
    exact Wk.outS Sup.z (.refl _) hk
 rw [if_neg (by omega)] at hformD
 by_cases h34:k=3∨k=4
 ·rw [if_pos h34] at hformD
  by_cases hl2:l.length<2
  ·rw [if_pos hl2] at hformD
   have hk:=hbad _ hformD (by decide)
   rcases h34 with rfl|rfl
   all_goals
    refine CallOk.intro (args:=[_,_,_]) (rs:=[_]) T_ok Tryz.func18 Tryz.call18 rfl rfl (by kernel_rfl) rfl rfl ?_
    repeat first|exact zE|refine zP ?_|refine zB fun b=>?_|refine zC fun a' c' hc1 hc2=>?_|(apply GJ.a;exact rfl;intro hg)|(apply GJ.o;exact rfl;intro hg)
    exact Wk.outS Sup.z (.refl _) hk
  ·rw [if_neg hl2] at hformD
   have hk:=hgood hformD
   rcases h34 with rfl|rfl
   all_goals
    refine CallOk.intro (args:=[_,_,_]) (rs:=[_]) T_ok Tryz.func18 Tryz.call18 rfl rfl (by kernel_rfl) rfl rfl ?_
    repeat first|exact zE|refine zP ?_|refine zB fun b=>?_|refine zC fun a' c' hc1 hc2=>?_|(apply GJ.a;exact rfl;intro hg)|(apply GJ.o;exact rfl;intro hg)
    refine LoopOk.at (ι:=Nat × Int) Keep.z (fun (i,Mi)=>[(75,.int .i64 (i:Int))]) (fun (i,Mi)=>.blk p 3 [.int .i64 Mi]::r) (fun (i,Mi)=>i≤l.length∧0≤Mi∧Mi≤M-1∧zAK l (M-1)=zAK (l.drop i) Mi) (fun (i,Mi)=>l.length-i) (0,M-1) ?_ Sub.z Sup.z ?_
    ·exact ⟨Nat.zero_le _,by omega,Int.le_refl _,by simp⟩
    rintro ⟨i,Mi⟩ ⟨i1,i2,i3,i4⟩
    dsimp only [List.cons_append,List.nil_append] at i1 i2 i3 i4 ⊢
    by_cases hi:i<l.length
    ·obtain ⟨kd,hkd⟩:∃ kd,l[i]?=some kd:=⟨_,List.getElem?_eq_getElem hi⟩
     have hvv:=hks.get hkd
     obtain ⟨ak,ck,hvk⟩:=hvv.cells
     rw [hvk] at hvv
     have hdr:l.drop i=kd::l.drop (i+1):=by
      rw [List.drop_eq_getElem_cons hi]
      congr 1
      rw [List.getElem?_eq_getElem hi] at hkd
      exact Option.some.inj hkd
     rw [hdr,zAK] at i4
     have hleft:=zEO kd Mi
     repeat first|exact zE|refine zP ?_|refine zB fun b=>?_|refine zC fun a' c' hc1 hc2=>?_|(apply GJ.a;exact rfl;intro hg)|(apply GJ.o;exact rfl;intro hg)
     rw [Int.toNat_natCast]
     refine OpOk.loadRow rfl rfl (LdN.at hrs hvk) rfl ?_
     repeat first|exact zE|refine zP ?_|refine zB fun b=>?_|refine zC fun a' c' hc1 hc2=>?_|(apply GJ.a;exact rfl;intro hg)|(apply GJ.o;exact rfl;intro hg)
     refine CallOk.sup (own0:=.blk p 3 [.int .i64 Mi]::r) Sup.z ?_
     refine (ih kd (List.mem_of_getElem? hkd)).run hvv i2 (by omega) (by omega) (by omega) ?_
     generalize zAL kd Mi=R at i4 hleft ⊢
     obtain ⟨R1,R2⟩:=R
     dsimp only at i4 hleft ⊢
     by_cases hz:R1=0
     ·rw [if_neg (by omega)] at i4
      obtain ⟨h5,h6⟩:=hleft hz
      subst hz
      repeat first|exact zE|refine zP ?_|refine zB fun b=>?_|refine zC fun a' c' hc1 hc2=>?_|(apply GJ.a;exact rfl;intro hg)|(apply GJ.o;exact rfl;intro hg)
      refine Wk.id ⟨(i+1,R2),⟨rfl,?_⟩,?_,Sub.z,Sup.z⟩
      all_goals try dsimp only
      ·exact ⟨by omega,h5,by omega,i4⟩
      ·omega
     ·rw [if_pos hz] at i4
      rw [i4] at hk
      repeat first|exact zE|refine zP ?_|refine zB fun b=>?_|refine zC fun a' c' hc1 hc2=>?_|(apply GJ.a;exact rfl;intro hg)|(apply GJ.o;exact rfl;intro hg)
      exact Wk.outS Sup.z (.refl _) hk
    ·obtain rfl:i=l.length:=by omega
     rw [List.drop_length,zAK] at i4
     rw [i4] at hk
     repeat first|exact zE|refine zP ?_|refine zB fun b=>?_|refine zC fun a' c' hc1 hc2=>?_|(apply GJ.a;exact rfl;intro hg)|(apply GJ.o;exact rfl;intro hg)
     exact Wk.outS Sup.z (.refl _) hk
 rw [if_neg h34] at hformD
 by_cases h5:k=5
 ·subst h5
  rw [if_pos rfl] at hformD
  by_cases hl1:l.length≠1
  ·rw [if_pos hl1] at hformD
   have hk:=hbad _ hformD (by decide)
   refine CallOk.intro (args:=[_,_,_]) (rs:=[_]) T_ok Tryz.func18 Tryz.call18 rfl rfl (by kernel_rfl) rfl rfl ?_
   repeat first|exact zE|refine zP ?_|refine zB fun b=>?_|refine zC fun a' c' hc1 hc2=>?_|(apply GJ.a;exact rfl;intro hg)|(apply GJ.o;exact rfl;intro hg)
   exact Wk.outS Sup.z (.refl _) hk
  ·rw [if_neg hl1] at hformD
   by_cases hb:x<0∨256<x∨256<y∨(0≤y∧y<x)
   ·rw [if_pos hb] at hformD
    have hk:=hbad _ hformD (by decide)
    rcases hb with hb|hb|hb|hb
    all_goals
     refine CallOk.intro (args:=[_,_,_]) (rs:=[_]) T_ok Tryz.func18 Tryz.call18 rfl rfl (by kernel_rfl) rfl rfl ?_
     repeat first|exact zE|refine zP ?_|refine zB fun b=>?_|refine zC fun a' c' hc1 hc2=>?_|(apply GJ.a;exact rfl;intro hg)|(apply GJ.o;exact rfl;intro hg)
     exact Wk.outS Sup.z (.refl _) hk
   ·rw [if_neg hb] at hformD
    have hk:=hgood hformD
    refine CallOk.intro (args:=[_,_,_]) (rs:=[_]) T_ok Tryz.func18 Tryz.call18 rfl rfl (by kernel_rfl) rfl rfl ?_
    repeat first|exact zE|refine zP ?_|refine zB fun b=>?_|refine zC fun a' c' hc1 hc2=>?_|(apply GJ.a;exact rfl;intro hg)|(apply GJ.o;exact rfl;intro hg)
    refine LoopOk.at (ι:=Nat × Int) Keep.z (fun (i,Mi)=>[(75,.int .i64 (i:Int))]) (fun (i,Mi)=>.blk p 3 [.int .i64 Mi]::r) (fun (i,Mi)=>i≤l.length∧0≤Mi∧Mi≤M-1∧zAK l (M-1)=zAK (l.drop i) Mi) (fun (i,Mi)=>l.length-i) (0,M-1) ?_ Sub.z Sup.z ?_
    ·exact ⟨Nat.zero_le _,by omega,Int.le_refl _,by simp⟩
    rintro ⟨i,Mi⟩ ⟨i1,i2,i3,i4⟩
    dsimp only [List.cons_append,List.nil_append] at i1 i2 i3 i4 ⊢
    by_cases hi:i<l.length
    ·obtain ⟨kd,hkd⟩:∃ kd,l[i]?=some kd:=⟨_,List.getElem?_eq_getElem hi⟩
     have hvv:=hks.get hkd
     obtain ⟨ak,ck,hvk⟩:=hvv.cells
     rw [hvk] at hvv
     have hdr:l.drop i=kd::l.drop (i+1):=by
      rw [List.drop_eq_getElem_cons hi]
      congr 1
      rw [List.getElem?_eq_getElem hi] at hkd
      exact Option.some.inj hkd
     rw [hdr,zAK] at i4
     have hleft:=zEO kd Mi
     repeat first|exact zE|refine zP ?_|refine zB fun b=>?_|refine zC fun a' c' hc1 hc2=>?_|(apply GJ.a;exact rfl;intro hg)|(apply GJ.o;exact rfl;intro hg)
     rw [Int.toNat_natCast]
     refine OpOk.loadRow rfl rfl (LdN.at hrs hvk) rfl ?_
     repeat first|exact zE|refine zP ?_|refine zB fun b=>?_|refine zC fun a' c' hc1 hc2=>?_|(apply GJ.a;exact rfl;intro hg)|(apply GJ.o;exact rfl;intro hg)
     refine CallOk.sup (own0:=.blk p 3 [.int .i64 Mi]::r) Sup.z ?_
     refine (ih kd (List.mem_of_getElem? hkd)).run hvv i2 (by omega) (by omega) (by omega) ?_
     generalize zAL kd Mi=R at i4 hleft ⊢
     obtain ⟨R1,R2⟩:=R
     dsimp only at i4 hleft ⊢
     by_cases hz:R1=0
     ·rw [if_neg (by omega)] at i4
      obtain ⟨h5,h6⟩:=hleft hz
      subst hz
      repeat first|exact zE|refine zP ?_|refine zB fun b=>?_|refine zC fun a' c' hc1 hc2=>?_|(apply GJ.a;exact rfl;intro hg)|(apply GJ.o;exact rfl;intro hg)
      refine Wk.id ⟨(i+1,R2),⟨rfl,?_⟩,?_,Sub.z,Sup.z⟩
      all_goals try dsimp only
      ·exact ⟨by omega,h5,by omega,i4⟩
      ·omega
     ·rw [if_pos hz] at i4
      rw [i4] at hk
      repeat first|exact zE|refine zP ?_|refine zB fun b=>?_|refine zC fun a' c' hc1 hc2=>?_|(apply GJ.a;exact rfl;intro hg)|(apply GJ.o;exact rfl;intro hg)
      exact Wk.outS Sup.z (.refl _) hk
    ·obtain rfl:i=l.length:=by omega
     rw [List.drop_length,zAK] at i4
     rw [i4] at hk
     repeat first|exact zE|refine zP ?_|refine zB fun b=>?_|refine zC fun a' c' hc1 hc2=>?_|(apply GJ.a;exact rfl;intro hg)|(apply GJ.o;exact rfl;intro hg)
     exact Wk.outS Sup.z (.refl _) hk
 ·rw [if_neg h5] at hformD
  have hk:=hbad _ hformD (by decide)
  refine CallOk.intro (args:=[_,_,_]) (rs:=[_]) T_ok Tryz.func18 Tryz.call18 rfl rfl (by kernel_rfl) rfl rfl ?_
  repeat first|exact zE|refine zP ?_|refine zB fun b=>?_|refine zC fun a' c' hc1 hc2=>?_|(apply GJ.a;exact rfl;intro hg)|(apply GJ.o;exact rfl;intro hg)
  exact Wk.outS Sup.z (.refl _) hk⟩
section
variable {ro:Ro}{own r:Chs}{K:Value→Ro→Chs→Prop}{g:Chunk→Chs}
theorem zF2 {n:RgD}{v:List Value} (hv:RgOk ro n v) (hk:K (.int .i64 ((zAL n 512).1:Int)) ro own):CallOk Tryz.prog 5 #[.agg v.toArray] ro own K:=by
 obtain ⟨a1,c1,hvc⟩:=hv.cells
 rw [hvc] at hv ⊢
 refine CallOk.intro (args:=[_]) (rs:=[_]) T_ok Tryz.func5 Tryz.call5 rfl rfl (by kernel_rfl) rfl rfl ?_
 repeat first|exact zE|refine zP ?_|refine zB fun b=>?_|refine zC fun a' c' hc1 hc2=>?_|(apply GJ.a;exact rfl;intro hg)|(apply GJ.o;exact rfl;intro hg)
 refine CallOk.sup (own0:=.blk b 3 [.int .i64 512]::own) Sup.z ?_
 refine (chC n).run hv (by decide) (by decide) (by decide) (by decide) ?_
 repeat first|exact zE|refine zP ?_|refine zB fun b=>?_|refine zC fun a' c' hc1 hc2=>?_|(apply GJ.a;exact rfl;intro hg)|(apply GJ.o;exact rfl;intro hg)
 exact Wk.outS Sup.z (.refl _) hk
end
end Go.Proofs.YtmaennnkaoollaaGreatDoor
end
section
namespace Go.E
open Go
theorem Sup.app {l l':Chs}:∀ (G:Chs),Sup l l'→Sup (G++l) l'
 | [],h=>h
 | c::G,h=>Sup.drop _ (Sup.app G h)
theorem Wk.freezeL {k:Kt}{env:Env}:∀ {l:Chs}{own rest:Chs}{ro:Ro},own.Perm (l++rest)→(∀ ro',Le ro ro'→(∀ c∈l,c.holds ro')→Wk k env ro' rest)→Wk k env ro own
 | [],ow,rest,ro,hp,h=>.perm hp (h ro (Le.refl _) (by simp))
 | c::l,ow,rest,ro,hp,h=>by
   refine .perm hp (.freeze (c:=c) (own':=l++rest) (.hit _ _) (fun r1 h1 h2=>?_))
   refine Wk.freezeL (.refl _) (fun r2 h3 h4=>h r2 (h1.trans h3) (fun d hd=>?_))
   simp at hd
   rcases hd with rfl|hd
   ·exact h2.le h3
   ·exact h4 d hd
end Go.E
namespace Go.Proofs.YtmaennnkaoollaaGreatDoor
open Go Go.E
structure RowsOk (ro:Ro) (R:zAy) (hs:List Value):Prop where
 len:hs.length=R.length
 row:∀ (i:Nat) (row:List zA9),R[i]?=some row→∃ (ad:Option Addr) (cp:Nat),hs[i]?=some (Value.slice ad row.length cp)∧Rs ro ad row.length cp 6 (zBR row)
def AutoOk (ro:Ro) (a:NfaD) (v:List Value):Prop :=
 ∃ (ad:Option Addr) (cp:Nat) (hs:List Value),v=[Value.slice ad a.rows.length cp,.int .i64 a.last]∧Rs ro ad a.rows.length cp 1 hs∧RowsOk ro a.rows hs
theorem AutoOk.nil (ro:Ro):AutoOk ro nilN [Value.slice none 0 0,.int .i64 0]:=⟨none,0,[],rfl,Rs.nil _ _,rfl,fun i row h=>by simp [nilN] at h⟩
theorem RowsOk.ofM {ro:Ro}{R:List RowM} (h:∀ c∈R.map rowC,c.holds ro):RowsOk ro (zBg R) (R.map hdrV) :=
 ⟨by simp [zBg],fun i row hr=>by
  unfold zBg at hr
  rw [List.getElem?_map] at hr
  cases hx:R[i]? with
  | none=>rw [hx] at hr;cases hr
  | some x =>
    rw [hx] at hr
    cases hr
    refine ⟨x.1.1,x.1.2,by rw [List.getElem?_map,hx];rfl,Rs.last (h _ (List.mem_map.2 ⟨x,List.mem_of_getElem? hx,rfl⟩))⟩⟩
theorem mk_rows (q:Nat) (a:Option Addr) (c:Nat) (e:Int) (full:Bool) (R:List RowM) (r:Chs):(mkC q a c e full R r).Perm ((.sl a R.length c 146 1 (R.map hdrV)::R.map rowC)++(.blk q 108 [.slice a R.length c,.int .i64 e,.bool full]::r)):=by
 unfold mkC
 refine (List.Perm.swap _ _ _).trans ?_
 rw [List.cons_append]
 refine List.Perm.cons _ ?_
 exact List.perm_middle.symm
mutual
theorem zBZ:∀ (n:RgD) (M:Int),(zAL n M).1=0→zAJ n=0∧(zAn n:Int)≤M∧(zAL n M).2=M-zAn n
 | .mk k s l a b,M,h=>by
   rw [zAL] at h ⊢
   split at h
   ·cases h
   rename_i h0
   rw [if_neg h0]
   split at h
   ·rename_i h1;exact absurd h h1
   rename_i h1
   rw [if_neg h1]
   have h1:zEL (.mk k s l a b)=0:=by simpa using h1
   rw [zAJ,if_neg (by rw [h1];decide),zAn]
   split at h
   ·rename_i h2
    rw [if_pos h2]
    have hl:l=[]:=by
     cases zBm h1 with
     | none=>rfl
     | one=>rfl
     | cat=>exact absurd h2 (by decide)
     | alt=>exact absurd h2 (by decide)
     | rep=>exact absurd h2 (by decide)
    subst hl
    rw [zBp,zAr]
    exact ⟨rfl,by omega,by dsimp only;omega⟩
   ·rename_i h2
    rw [if_neg h2]
    obtain ⟨h3,h4,h5⟩:=zFZ l (M-1) (by omega) h
    exact ⟨h3,by omega,by omega⟩
theorem zFZ:∀ (l:List RgD) (M:Int),0≤M→(zAK l M).1=0→zBp l=0∧(zAr l:Int)≤M∧(zAK l M).2=M-zAr l
 | [],M,hM,_=>by rw [zAK,zBp,zAr];exact ⟨rfl,by omega,by simp⟩
 | x::r,M,hM,h=>by
   rw [zAK] at h ⊢
   split at h
   ·rename_i h1;exact absurd h h1
   rename_i h1
   rw [if_neg h1]
   obtain ⟨h3,h4,h5⟩:=zBZ x M (by simpa using h1)
   obtain ⟨h6,h7,h8⟩:=zFZ r _ (by omega) h
   rw [zBp,if_neg (by rw [h3];decide),zAr]
   exact ⟨h6,by omega,by omega⟩
end
section
variable {ro:Ro}{own r:Chs}{K:Value→Ro→Chs→Prop}{g:Chunk→Chs}
theorem zNQ {n:RgD} (h:(zAL n 512).1=0):budN st0+4*zAn n≤900000:=by
 have:=(zBZ n 512 h).2.1
 have h0:budN st0=4*4095:=by decide
 omega
set_option maxHeartbeats 4000000 in
theorem nmake_ok {n:RgD}{v:List Value} (hv:RgOk ro n v)
  (hk:∀ ro' v',Le ro ro'→AutoOk ro' (zA8 n).2 v'→K (.tuple #[.agg v'.toArray,.int .i64 ((zA8 n).1:Int)]) ro' own) :
  CallOk Tryz.prog 25 #[.agg v.toArray] ro own K:=by
 obtain ⟨a1,c1,hvc⟩:=hv.cells
 rw [hvc] at hv ⊢
 unfold zA8 at hk
 refine CallOk.intro (args:=[_]) (rs:=[_,_]) T_ok Tryz.func25 Tryz.call25 rfl rfl (by kernel_rfl) rfl rfl ?_
 repeat first|exact zE|refine zP ?_|refine zB fun b=>?_|refine zC fun a' c' hc1 hc2=>?_|(apply GJ.a;exact rfl;intro hg)|(apply GJ.o;exact rfl;intro hg)
 obtain ⟨bX,hbX⟩:∃ z:Nat,z=b:=⟨_,rfl⟩
 subst hbX
 refine zF2 hv ?_
 by_cases hc:(zAL n 512).1=0
 ·rw [if_neg (by rw [hc];decide)] at hk
  rw [hc]
  have hw:=(zBZ n 512 hc).1
  have hbs:=zNQ hc
  have m:=zB8 n hw 0 st0 zGs (by decide)
  have e0:zAa (stM [] false)=(0,st0):=rfl
  repeat first|exact zE|refine zP ?_|refine zB fun b=>?_|refine zC fun a' c' hc1 hc2=>?_|(apply GJ.a;exact rfl;intro hg)|(apply GJ.o;exact rfl;intro hg)
  obtain ⟨bM,hbM⟩:∃ z:Nat,z=b:=⟨_,rfl⟩
  subst hbM
  obtain ⟨bN,hbN⟩:∃ z:Nat,z=b:=⟨_,rfl⟩
  refine CallOk.sup (own0:=.sl none 0 0 146 1 []::.blk bM 108 [.slice none 0 0,.int .i64 0,.bool false]::.blk bX 74 [.slice none 0 0,.int .i64 0]::.blk b 26 (zA7 n.kind n.set a1 n.kids.length c1 n.min n.max)::own) (Sup.nilc (Sup.all _)) ?_
  refine CallOk.perm (List.Perm.swap _ _ _) ?_
  refine zHZ (R:=[]) (full:=false) (a:=none) (c:=0) (e:=0) (r:=.blk bX 74 [.slice none 0 0,.int .i64 0]::.blk b 26 (zA7 n.kind n.set a1 n.kids.length c1 n.min n.max)::own) (by decide) (fun a2 c2 R2 h2=>?_)
  have e1:zAa ⟨zBg [],false⟩=(0,st0):=rfl
  rw [e1] at h2 ⊢
  have h2:stM R2 st0.full=st0:=zEU h2
  have f2:st0.full=false:=rfl
  rw [f2] at h2
  have l2:R2.length=st0.rows.length:=by rw [←h2,zA6]
  rw [f2]
  dsimp only
  repeat first|exact zE|refine zP ?_|refine zB fun b=>?_|refine zC fun a' c' hc1 hc2=>?_|(apply GJ.a;exact rfl;intro hg)|(apply GJ.o;exact rfl;intro hg)
  refine (nodeC n).run hv hw (by rw [h2];exact zGs) (by rw [l2];decide) (.inr (by rw [h2];exact hbs)) (fun a3 c3 R3 h3=>?_)
  rw [h2] at h3 ⊢
  generalize zAx n 0 st0=p at *
  obtain ⟨p1,p2,pf⟩:=p
  dsimp only at *
  cases pf with
  | true =>
    rw [if_pos rfl] at hk
    repeat first|exact zE|refine zP ?_|refine zB fun b=>?_|refine zC fun a' c' hc1 hc2=>?_|(apply GJ.a;exact rfl;intro hg)|(apply GJ.o;exact rfl;intro hg)
    exact Wk.outS (Sup.drop _ (Sup.drop _ (Sup.app _ (Sup.drop _ (Sup.drop _ (Sup.all _)))))) (.refl _) (hk ro _ (Le.refl _) (AutoOk.nil _))
  | false =>
    rw [if_neg (by decide)] at hk
    unfold mkC
    repeat first|exact zE|refine zP ?_|refine zB fun b=>?_|refine zC fun a' c' hc1 hc2=>?_|(apply GJ.a;exact rfl;intro hg)|(apply GJ.o;exact rfl;intro hg)
    refine Wk.freezeL (mk_rows _ _ _ _ _ _ _) (fun ro2 hl2 hc2=>?_)
    have hr2:=RowsOk.ofM (R:=R3) (fun c hc=>hc2 c (List.mem_cons_of_mem _ hc))
    have hs2:=Rs.last (hc2 _ (List.mem_cons_self ..))
    have e3:R3.length=p2.length:=by rw [←h3];simp [zBg]
    rw [h3] at hr2
    rw [e3] at hs2 ⊢
    exact Wk.outS Sup.z (.refl _) (hk ro2 _ hl2 ⟨_,_,_,rfl,hs2,hr2⟩)
 ·rw [if_pos hc] at hk
  repeat first|exact zE|refine zP ?_|refine zB fun b=>?_|refine zC fun a' c' hc1 hc2=>?_|(apply GJ.a;exact rfl;intro hg)|(apply GJ.o;exact rfl;intro hg)
  exact Wk.outS Sup.z (.refl _) (hk ro _ (Le.refl _) (AutoOk.nil _))
end
end Go.Proofs.YtmaennnkaoollaaGreatDoor
end
section
namespace Go.Proofs
open Go.Shelf
def Tryz.laysSort_ren:Go.Shelf.Ren:=⟨fun|189=>104|125=>115|257=>114|128=>130|129=>131|294=>121|295=>122|296=>123|297=>124|298=>125|299=>126|216=>127|300=>128|301=>129|328=>134|329=>135|330=>136|331=>137|332=>138|215=>139|343=>142|n=>n,fun|28=>84|3=>3|46=>137|0=>0|51=>157|53=>22|4=>4|183=>198|182=>197|131=>121|5=>5|9=>9|218=>206|222=>59|228=>212|229=>165|n=>n,fun n=>n⟩
theorem Tryz.laysSort:Go.Proofs.Lays.n189 Tryz.prog Tryz.laysSort_ren:={
 mixed:=by kernel_rfl
 f125:=Tryz.func115.trans (congrArg some (by kernel_rfl))
 f128:=Tryz.func130.trans (congrArg some (by kernel_rfl))
 f129:=Tryz.func131.trans (congrArg some (by kernel_rfl))
 f189:=Tryz.func104.trans (congrArg some (by kernel_rfl))
 f215:=Tryz.func139.trans (congrArg some (by kernel_rfl))
 f216:=Tryz.func127.trans (congrArg some (by kernel_rfl))
 f257:=Tryz.func114.trans (congrArg some (by kernel_rfl))
 f294:=Tryz.func121.trans (congrArg some (by kernel_rfl))
 f295:=Tryz.func122.trans (congrArg some (by kernel_rfl))
 f296:=Tryz.func123.trans (congrArg some (by kernel_rfl))
 f297:=Tryz.func124.trans (congrArg some (by kernel_rfl))
 f298:=Tryz.func125.trans (congrArg some (by kernel_rfl))
 f299:=Tryz.func126.trans (congrArg some (by kernel_rfl))
 f300:=Tryz.func128.trans (congrArg some (by kernel_rfl))
 f301:=Tryz.func129.trans (congrArg some (by kernel_rfl))
 f328:=Tryz.func134.trans (congrArg some (by kernel_rfl))
 f329:=Tryz.func135.trans (congrArg some (by kernel_rfl))
 f330:=Tryz.func136.trans (congrArg some (by kernel_rfl))
 f331:=Tryz.func137.trans (congrArg some (by kernel_rfl))
 f332:=Tryz.func138.trans (congrArg some (by kernel_rfl))
 f343:=Tryz.func142.trans (congrArg some (by kernel_rfl))
 t0:=Tryz.underlying0
 a0:=Tryz.isAgg0
 z0:=Tryz.sizeOf0
 v0:=Tryz.zeroValue0
 t3:=Tryz.underlying3
 a3:=Tryz.isAgg3
 z3:=Tryz.sizeOf3
 v3:=Tryz.zeroValue3
 t4:=Tryz.underlying4
 a4:=Tryz.isAgg4
 z4:=Tryz.sizeOf4
 v4:=Tryz.zeroValue4
 t5:=Tryz.underlying5
 a5:=Tryz.isAgg5
 z5:=Tryz.sizeOf5
 v5:=Tryz.zeroValue5
 t9:=Tryz.underlying9
 a9:=Tryz.isAgg9
 z9:=Tryz.sizeOf9
 v9:=Tryz.zeroValue9
 t28:=Tryz.underlying84
 a28:=Tryz.isAgg84
 z28:=Tryz.sizeOf84
 v28:=Tryz.zeroValue84
 t46:=Tryz.underlying137
 a46:=Tryz.isAgg137
 z46:=Tryz.sizeOf137
 v46:=Tryz.zeroValue137
 t51:=Tryz.underlying157
 a51:=Tryz.isAgg157
 z51:=Tryz.sizeOf157
 v51:=Tryz.zeroValue157
 t53:=Tryz.underlying22
 a53:=Tryz.isAgg22
 z53:=Tryz.sizeOf22
 v53:=Tryz.zeroValue22
 t131:=Tryz.underlying121
 a131:=Tryz.isAgg121
 z131:=Tryz.sizeOf121
 v131:=Tryz.zeroValue121
 t182:=Tryz.underlying197
 a182:=Tryz.isAgg197
 z182:=Tryz.sizeOf197
 v182:=Tryz.zeroValue197
 t183:=Tryz.underlying198
 a183:=Tryz.isAgg198
 z183:=Tryz.sizeOf198
 v183:=Tryz.zeroValue198
 t218:=Tryz.underlying206
 a218:=Tryz.isAgg206
 z218:=Tryz.sizeOf206
 v218:=Tryz.zeroValue206
 t222:=Tryz.underlying59
 a222:=Tryz.isAgg59
 z222:=Tryz.sizeOf59
 v222:=Tryz.zeroValue59
 t228:=Tryz.underlying212
 a228:=Tryz.isAgg212
 z228:=Tryz.sizeOf212
 v228:=Tryz.zeroValue212
 t229:=Tryz.underlying165
 a229:=Tryz.isAgg165
 z229:=Tryz.sizeOf165
 v229:=Tryz.zeroValue165 }
end Go.Proofs
namespace Go.Proofs.YtmaennnkaoollaaGreatDoor
open Go.Shelf Go.RowKit
open Go Go.E
theorem zIl {f:Int→Value} (l m:List Int) (sp:List Value) (h:m.length=l.length):Go.Sort.putCells f 0 m.toArray (l.map f++sp).toArray=(m.map f++sp).toArray:=by
 refine Array.ext_getElem? fun k=>?_
 unfold Go.Sort.putCells
 rw [Array.getElem?_mapIdx,List.getElem?_toArray,List.getElem?_toArray]
 by_cases hk:k<m.length
 ·rw [List.getElem?_append_left (by simp;omega),List.getElem?_append_left (by simpa using hk)]
  have hk2:k<l.length:=by omega
  simp [hk,hk2]
 ·rw [List.getElem?_append_right (by simp;omega),List.getElem?_append_right (by simp;omega)]
  simp only [List.length_map,h]
  cases sp[k-l.length]? with
  | none=>rfl
  | some v =>
    simp only [Option.map_some,List.size_toArray]
    rw [if_neg (by omega)]
theorem sortI_ok {ro:Ro}{own:Chs}{K:Value→Ro→Chs→Prop}{a:Option Addr}{c:Nat}{t:TypeId}{l:List Int} (hn:l.length≤1000000000)
  (hk:K (.tuple #[]) ro (.sl a l.length c t 1 ((l.mergeSort fun x y=>decide (x≤y)).map (Value.int .i64))::own)):CallOk Tryz.prog 104 #[.slice a l.length c] ro (.sl a l.length c t 1 (l.map (Value.int .i64))::own) K:=by
 have hsl:(l.mergeSort fun x y=>decide (x≤y)).length=l.length:=(List.mergeSort_perm _ _).length_eq
 refine ⟨fun w hs=>.inl ⟨Tryz.call104 _ _,?_⟩⟩
 obtain ⟨hc,_,_⟩:=hs.cons
 obtain ⟨h1,h2,h3,h4⟩:=hc
 rcases h4 with ⟨rfl,h5,_⟩|⟨b,sp,rfl,h5,h6⟩
 ·obtain rfl:=List.eq_nil_of_length_eq_zero h5
  have h:=Go.Proofs.Any.slices_Sort_int_none Tryz.laysSort none c w
  rw [show Tryz.laysSort_ren.f 189=104 by kernel_rfl] at h
  refine h.mono fun e w' ⟨he,hw⟩=>?_
  subst hw
  exact ⟨_,he,⟨rfl,rfl,rfl,rfl⟩,ro,_,Le.refl _,by simpa using hs,hk⟩
 ·have hrow:w.heap[b]?=some (.cells (l.map (Value.int .i64)++sp).toArray t (0,0)):=h5
  have hlt:b<w.heap.size:=(Array.getElem?_eq_some_iff.1 hrow).1
  have hH:Go.Sort.Holds (Value.int .i64) w b 0 l.toArray:=fun j hj=>by
   have hj2:j<l.length:=by simpa using hj
   refine ⟨?_,?_⟩
   ·rw [zCz]
    refine Row.cell (h:=w.heap) (t:=t) hrow ?_
    rw [Nat.zero_add,List.getElem?_append_left (by simpa using hj2)]
    simp [hj2]
   ·simp [World.frozen?,hrow]
  have h:=Go.Proofs.Any.slices_Sort_int Tryz.laysSort b 0 c l w hH hlt (by omega)
  rw [show Tryz.laysSort_ren.f 189=104 by kernel_rfl] at h
  refine h.mono fun e w' ⟨he,n,os,hw⟩=>?_
  have hnew:w'.heap=w.heap.modify b (Go.Sort.onCells (Go.Sort.putCells (Value.int .i64) 0 (l.mergeSort fun x y=>decide (x≤y)).toArray))++os:=by rw [hw];rfl
  have hsz:(w.heap.modify b (Go.Sort.onCells (Go.Sort.putCells (Value.int .i64) 0 (l.mergeSort fun x y=>decide (x≤y)).toArray))).size=w.heap.size:=by simp
  refine ⟨_,he,by rw [hw];exact ⟨rfl,rfl,rfl,rfl⟩,ro,_,Le.refl _,?_,hk⟩
  refine hs.put (fun k hk1 hk2=>?_) ⟨?_,h2,h3,.inr ⟨b,sp,rfl,?_,?_⟩⟩ (fun k hk=>.inl hk) (by simp [Chunk.fp])
  ·simp only [Chunk.fp,List.mem_singleton] at hk2
   rw [hnew,Array.getElem?_append_left (by rw [hsz];exact hk1),Array.getElem?_modify,if_neg (Ne.symm hk2)]
  ·simp [hsl]
  ·show w'.heap[b]?=_
   rw [hnew,Array.getElem?_append_left (by rw [hsz];exact hlt),Array.getElem?_modify,if_pos rfl,hrow]
   simp only [Option.map_some,Go.Sort.onCells]
   rw [zIl l _ sp hsl]
  ·simp only [List.length_map] at h6 ⊢;rw [hsl];exact h6
end Go.Proofs.YtmaennnkaoollaaGreatDoor
end
section
namespace Go.E
open Go
theorem Ld.slAt' {ro:Ro}{own:Chs}{a:Option Addr}{n c s:Nat}{t:TypeId}{cs:List Value}{f:Chunk→Chs}{o k:Nat}{v:Value} [hb:HasSl own a n c t s cs f] (ho:o=ao a+k) (hv:cs[k]?=some v):Ld ro own (ab a) o v:=by subst ho;exact Ld.hasSl hv
theorem OpOk.storeSlAt' {P:Program}{T:TT} [hT:TTab P T] {ty:TypeId}{env:Env}{ro:Ro}{own:Chs}{K:Value→Ro→Chs→Prop}{t:TypeId}{x y:Operand}{a:Option Addr}{o k:Nat}{v:Value}{n c s:Nat}{t0:TypeId}{cs:List Value}{f:Chunk→Chs} (hx:ev env x=some (.pointer (some ⟨ab a,o,none⟩))) (hy:ev env y=some v) (ht:zIB T t=true) (h1:v.oneCell'=true)
  [hb:HasSl own a n c t0 s cs f] (ho:o=ao a+k) (hlt:k<cs.length) (hk:K undef ro (f (.sl a n c t0 s (cs.set k v)))):OpOk P (.store t x y) ty env ro own K:=by
 subst ho;exact OpOk.storeSl hx hy ht h1 hlt hk
theorem Sub2.weak {e e':Env}{t:Nat}{u:Value} (h:Sub2 e e') (hn:look e t=none):Sub2 e ((t,u)::e'):=fun x v hx=>by
 show (bif Nat.beq t x then some u else look e' x)=some v
 cases hb:Nat.beq t x with
 | false=>exact h x v hx
 | true=>rw [Nat.eq_of_beq_eq_true hb] at hn;rw [hn] at hx;cases hx
theorem Sub2.both {e e':Env}{t:Nat}{u:Value} (h:Sub2 e e'):Sub2 ((t,u)::e) ((t,u)::e'):=fun x v hx=>by
 change (bif Nat.beq t x then some u else look e x)=some v at hx
 show (bif Nat.beq t x then some u else look e' x)=some v
 cases hb:Nat.beq t x with
 | false=>rw [hb] at hx;exact h x v hx
 | true=>rw [hb] at hx;exact hx
def app2 (x y n m:Nat) (t:TypeId) (vs ws:List Value) (env:Env) (ro:Ro) (r:Chs):Kt:=fun env' ro' own'=>ro'=ro∧∃ (a:Option Addr) (c:Nat) (b:Option Addr) (d:Nat),(n≤c∧c≤maxLen)∧(m≤d∧d≤maxLen)∧Sub2 ((y,.slice b m d)::(x,.slice a n c)::env) env'∧Sup own' (.sl b m d t 1 ws::.sl a n c t 1 vs::r)
theorem app2.ok {P:Program}{T:TT}{all:List Oper}{B:Chs}{fo:Fo}{k:Kt}{env:Env}{ro:Ro}{own:Chs} (x y n m:Nat) (t:TypeId) (vs ws:List Value) (r:Chs)
  (h:vFo P T all B (app2 x y n m t vs ws env ro r) fo env ro own) (hk:∀ (a:Option Addr) (c:Nat) (b:Option Addr) (d:Nat),(n≤c∧c≤maxLen)→(m≤d∧d≤maxLen)→k ((y,.slice b m d)::(x,.slice a n c)::env) ro (.sl b m d t 1 ws::.sl a n c t 1 vs::r)):AllOk (fun Φ=>vFo P T all B Φ fo env ro own) k ro :=
 ⟨_,h,fun env' ro' own' _ ⟨e,a,c,b,d,h1,h2,h3,h4⟩=>⟨_,_,h3,h4,by rw [e];exact hk a c b d h1 h2⟩⟩
theorem vOne.at {P:Program}{T:TT}{all:List Oper}{i:Nat}{k:Kt}{env:Env}{ro:Ro}{own:Chs}{d:Option Nat}{op:Op}{ty:TypeId}{pos:String}{af:Array Edge} (hi:all[i]?=some ⟨d,op,ty,pos,af,none⟩) (h:vOp P T op ty d k env ro own):vOne P T all i k env ro own:=by
 unfold vOne;rw [hi];exact h
theorem vFo.cons {P:Program}{T:TT}{all:List Oper}{B:Chs}{Φ:Kt}{i:Nat}{s b:Fo}{env:Env}{ro:Ro}{own:Chs} (h1:vOne P T all i (fun env' ro' own'=>Stop (Sup own' B∧vFo P T all B Φ s env' ro' own')) env ro own) (h2:vFo P T all B Φ b env ro own):vFo P T all B Φ (.cons i s b) env ro own:=⟨h1,h2⟩
theorem vFo.nil {P:Program}{T:TT}{all:List Oper}{B:Chs}{Φ:Kt}{env:Env}{ro:Ro}{own:Chs}:vFo P T all B Φ .nil env ro own:=trivial
theorem vFo.stop {own B:Chs}{p:Prop} (h1:Sup own B) (h2:p):Stop (Sup own B∧p):=⟨⟨h1,h2⟩⟩
theorem vFo.leaf {P:Program}{T:TT}{all:List Oper}{B:Chs}{Φ:Kt}{env:Env}{ro:Ro}{own:Chs} (h:Φ env ro own):vFo P T all B Φ .leaf env ro own:=h
end Go.E
namespace Go.Proofs.YtmaennnkaoollaaGreatDoor
open Go Go.E
def zAh (l:List Bool):List Value:=l.map fun z=>.bool z
def zAq (l:List Nat):List Value:=l.map fun (z:Nat)=>.int .i64 (z:Int)
theorem zMQ (l:List Nat):∀ u∈zAq l,u.oneCell'=true:=fun u hu=>by obtain ⟨c,_,rfl⟩:=List.mem_map.1 hu;rfl
theorem zDx (l:List Nat):(zAq l).length=l.length:=by simp [zAq]
theorem zAV (l:List Bool):(zAh l).length=l.length:=by simp [zAh]
theorem zBo (o:List Bool) (k:Nat) (b:Bool):(zAh o).set k (.bool b)=zAh (o.set k b):=by simp [zAh,List.map_set]
theorem count_set:∀ (o:List Bool) (k:Nat),o[k]?=some false→(o.set k true).count false+1=o.count false
 | [],k,h=>by simp at h
 | x::o,0,h=>by simp at h;subst h;simp
 | x::o,k+1,h=>by
   have:=count_set o k (by simpa using h)
   rw [List.set_cons_succ,List.count_cons,List.count_cons];omega
theorem mark_get {o:List Bool}{k:Nat} (hk:k<o.length) (i:Nat):(o.set k true)[i]?=some true↔i=k∨o[i]?=some true:=by
 by_cases e:k=i
 ·subst e;simp [hk]
 ·rw [List.getElem?_set_ne e]
  exact ⟨.inr,fun h=>h.resolve_left (fun e2=>e e2.symm)⟩
structure Seen (rows:zAy) (list:List Int) (o:List Bool) (out w:List Nat):Prop where
 len:o.length=rows.length
 mem:∀ i:Nat,o[i]?=some true↔i∈out
 rch:∀ i∈out,Rch rows list i
 nd:out.Nodup
 work:∀ i∈w,i∈out
 cnt:out.length+o.count false=rows.length
def ShutN (rows:zAy) (out:List Nat) (ex:Nat→Prop):Prop:=∀ i∈out,¬ex i→∀ j∈zCK rows i,j∈out
theorem Seen.init (rows:zAy) (list:List Int):Seen rows list (List.replicate rows.length false) [] [] where
 len:=by simp
 mem i:=by simp [List.getElem?_replicate]
 rch i hi:=by simp at hi
 nd:=List.nodup_nil
 work i hi:=by simp at hi
 cnt:=by simp
theorem Seen.push {rows:zAy}{list:List Int}{o:List Bool}{out w:List Nat}{k:Nat} (h:Seen rows list o out w) (hk:o[k]?=some false) (hr:Rch rows list k):Seen rows list (o.set k true) (out++[k]) (w++[k]) where
 len:=by simp [h.len]
 mem i:=by
  have hl:k<o.length:=(List.getElem?_eq_some_iff.1 hk).1
  rw [mark_get hl,h.mem,List.mem_append,List.mem_singleton]
  exact ⟨fun h=>h.symm,fun h=>h.symm⟩
 rch i hi:=by
  rcases List.mem_append.1 hi with hi|hi
  ·exact h.rch i hi
  ·simp only [List.mem_singleton] at hi;subst hi;exact hr
 nd:=by
  rw [List.nodup_append]
  refine ⟨h.nd,(by simp),fun x hx y hy e=>?_⟩
  simp only [List.mem_singleton] at hy
  subst hy;subst e
  have:=(h.mem x).2 hx
  rw [hk] at this;cases this
 work i hi:=by
  rw [List.mem_append] at hi ⊢
  exact hi.imp (h.work i) id
 cnt:=by
  have h1:=count_set o k hk
  have h2:=h.cnt
  simp only [List.length_append,List.length_singleton];omega
theorem ShutN.push {rows:zAy}{out w:List Nat}{k i:Nat} (h:ShutN rows out (fun z=>z∈w∨z=i)):ShutN rows (out++[k]) (fun z=>z∈w++[k]∨z=i):=by
 intro z hz hne y hy
 have hne:¬((z∈w∨z=k)∨z=i):=by
  have:=hne
  dsimp only at this
  rwa [List.mem_append,List.mem_singleton] at this
 rcases List.mem_append.1 hz with hz|hz
 ·exact List.mem_append.2 (.inl (h z hz (fun e=>hne (e.imp .inl id)) y hy))
 ·simp only [List.mem_singleton] at hz
  exact absurd (.inl (.inr hz)) hne
theorem Seen.all {rows:zAy}{list:List Int}{o:List Bool}{out l:List Nat} (ht:ToIn rows) (h:Seen rows list o out []) (hs:ShutN rows out (fun z=>z∈([]:List Nat))) (hb:∀ z:Nat,(z:Int)∈list→z<rows.length→z∈out) (hp:l.Perm out) (hl:l.Pairwise (·≤·)):l=zBQ rows list:=by
 have hnd:l.Nodup:=hp.symm.nodup h.nd
 refine zGu ?_ (zDt _ _) (fun x=>?_)
 ·refine (hl.and hnd).imp ?_
  intro a b hab
  omega
 ·rw [hp.mem_iff,zEi ht]
  refine ⟨h.rch x,fun hr=>?_⟩
  induction hr with
  | base h1 h2=>exact hb _ h1 h2
  | step h1 h2 ih=>exact hs _ ih (by simp) _ h2
section
variable {ro:Ro}{own r:Chs}{K:Value→Ro→Chs→Prop}{g:Chunk→Chs}
theorem zNK {a:Option Addr}{l:List Nat}{n c:Nat} (hc1:n≤c) (hc2:c≤maxLen) (hl:l.length=n) (hb:n≤65536)
  (hk:∀ a' c',n≤c'→c'≤maxLen→K (.slice a' n c') ro (.sl a' n c' 3 1 (zAq l)::.sl a n c 3 1 (zAq l)::own)) :
  CallOk Tryz.prog 103 #[.slice a n c] ro (.sl a n c 3 1 (zAq l)::own) K:=by
 have hm:=hc2
 unfold maxLen at hm
 refine CallOk.intro (args:=[_]) (rs:=[_]) T_ok Tryz.func103 Tryz.call103 rfl rfl (by kernel_rfl) rfl rfl ?_
 cases a with
 | none =>
   repeat first|exact zE|refine zP ?_|refine zB fun b=>?_|refine zC fun a' c' hc1 hc2=>?_|(apply GJ.a;exact rfl;intro hg)|(apply GJ.o;exact rfl;intro hg)
   refine Wk.know (n=0) (fun h hs=>Decidable.byContradiction fun hn=>by
    obtain ⟨b,hb⟩:=Sat.slSome (Take.hit _ _) hs hn
    cases hb) (fun hn=>?_)
   subst hn
   obtain rfl:=List.eq_nil_of_length_eq_zero hl
   exact Wk.own _ (Sup.nilc (Sup.all _)) (Wk.id (hk none 0 (Nat.le_refl _) (Nat.zero_le _)))
 | some z =>
   repeat first|exact zE|refine zP ?_|refine zB fun b=>?_|refine zC fun a' c' hc1 hc2=>?_|(apply GJ.a;exact rfl;intro hg)|(apply GJ.o;exact rfl;intro hg)
   rw [show (some z).isNone=false from rfl]
   repeat first|exact zE|refine zP ?_|refine zB fun b=>?_|refine zC fun a' c' hc1 hc2=>?_|(apply GJ.a;exact rfl;intro hg)|(apply GJ.o;exact rfl;intro hg)
   refine OpOk.appendE (m:=n) (ys:=zAq l) rfl rfl rfl rfl (Rds.hasSl hc1 hc2 (by simp [zAq,hl])) (zMQ l) (by omega) (fun a' c' h3 h4=>?_)
   repeat first|exact zE|refine zP ?_|refine zB fun b=>?_|refine zC fun a' c' hc1 hc2=>?_|(apply GJ.a;exact rfl;intro hg)|(apply GJ.o;exact rfl;intro hg)
   exact Wk.id (hk a' c' h3 h4)
theorem sortN_ok {a:Option Addr}{c n:Nat}{l:List Nat} (hl:l.length=n) (hn:n≤65536)
  (hk:∀ l2:List Nat,l2.Perm l→l2.Pairwise (·≤·)→K (.tuple #[]) ro (.sl a n c 3 1 (zAq l2)::own)):CallOk Tryz.prog 104 #[.slice a n c] ro (.sl a n c 3 1 (zAq l)::own) K:=by
 subst hl
 have h:=@sortI_ok ro own K a c 3 (zAp l) (by simp [zAp];omega)
 have e1:(zAp l).length=l.length:=by simp [zAp]
 have e2:(zAp l).map (Value.int .i64)=zAq l:=by unfold zAp zAq;rw [List.map_map];rfl
 rw [e1,e2] at h
 refine h ?_
 have hp:=List.mergeSort_perm (zAp l) (fun x y=>decide (x≤y))
 have hs:=List.pairwise_mergeSort (le:=fun (x y:Int)=>decide (x≤y)) (fun a b c h1 h2=>by simp at *;omega) (fun a b=>by simp;omega) (zAp l)
 generalize (zAp l).mergeSort (fun x y=>decide (x≤y))=m at *
 obtain ⟨l2,hm⟩:∃ l2:List Nat,m=zAp l2:=by
  refine ⟨m.map Int.toNat,?_⟩
  unfold zAp
  rw [List.map_map]
  refine ((List.map_congr_left (g:=id) (fun x hx=>?_)).trans (List.map_id m)).symm
  obtain ⟨y,hy,rfl⟩:=List.mem_map.1 (hp.mem_iff.1 hx)
  rfl
 subst hm
 have e3:(zAp l2).map (Value.int .i64)=zAq l2:=by unfold zAp zAq;rw [List.map_map];rfl
 rw [e3]
 refine hk l2 ?_ ?_
 ·have:=hp.map Int.toNat
  unfold zAp at this
  rw [List.map_map,List.map_map] at this
  simpa [Function.comp_def] using this
 ·unfold zAp at hs
  rw [List.pairwise_map] at hs
  exact hs.imp (fun {a b} h=>by simpa using h)
end
def BaseN (rows:zAy) (l:List Int) (out:List Nat):Prop:=∀ z:Nat,(z:Int)∈l→z<rows.length→z∈out
theorem BaseN.snoc {rows:zAy}{list:List Int}{i:Nat}{z:Int}{out:List Nat} (hz:list[i]?=some z) (h:BaseN rows (list.take i) out) (h2:∀ k:Nat,z=(k:Int)→k<rows.length→k∈out):BaseN rows (list.take (i+1)) out:=by
 intro k hk hl
 rw [List.take_add_one,hz] at hk
 rcases List.mem_append.1 hk with hk|hk
 ·exact h k hk hl
 ·simp at hk
  exact h2 k hk.symm hl
theorem BaseN.up {rows:zAy}{l:List Int}{out out':List Nat} (h:BaseN rows l out) (hs:∀ x∈out,x∈out'):BaseN rows l out':=fun z h1 h2=>hs z (h z h1 h2)
section
variable {ro:Ro}{own r:Chs}{K:Value→Ro→Chs→Prop}{g:Chunk→Chs}
set_option maxHeartbeats 4000000 in
theorem zIa {a:NfaD}{v:List Value}{list:List Int}{al:Option Addr}{nl cl:Nat} (hv:AutoOk ro a v) (ha:zL5 a) (hr:Rds ro own al nl cl 1 (list.map (Value.int .i64))) (hnl:list.length=nl)
  (hk:∀ a' c',(zBQ a.rows list).length≤c'→c'≤maxLen→K (.slice a' (zBQ a.rows list).length c') ro (.sl a' (zBQ a.rows list).length c' 3 1 (zAq (zBQ a.rows list))::own)) :
  CallOk Tryz.prog 92 #[.agg v.toArray,.slice al nl cl] ro own K:=by
 obtain ⟨ad,cp,hs,rfl,hrs,hrw⟩:=hv
 have hle:=ha.le
 have hto:=ha.to
 have hmx:=hr.max
 have hncl:=hr.le
 have hmr:=hrs.max
 have hncr:=hrs.le
 unfold maxLen at hmx hmr
 subst hnl
 refine CallOk.intro (args:=[_,_]) (rs:=[_]) T_ok Tryz.func92 Tryz.call92 rfl rfl (by kernel_rfl) rfl rfl ?_
 repeat first|exact zE|refine zP ?_|refine zB fun b=>?_|refine zC fun a' c' hc1 hc2=>?_|(apply GJ.a;exact rfl;intro hg)|(apply GJ.o;exact rfl;intro hg)
 rename_i b1
 obtain ⟨bO,hbO⟩:∃ z:Nat,z=b:=⟨_,rfl⟩
 subst hbO
 rw [Int.toNat_natCast,show List.replicate a.rows.length (Value.bool false)=zAh (List.replicate a.rows.length false) by simp [zAh]]
 refine LoopOk.at (ι:=Nat × List Bool × List Nat × Option Addr × Nat) Keep.z (fun (i,o,w,aw,cw)=>[(19,.int .i64 (i:Int)),(6,.slice aw w.length cw)]) (fun (i,o,w,aw,cw)=>.sl aw w.length cw 3 1 (zAq w)::.sl (some ⟨bO,0,none⟩) a.rows.length a.rows.length 4 1 (zAh o)::.blk b1 74 [.slice ad a.rows.length cp,.int .i64 a.last]::own) (fun (i,o,w,aw,cw)=>i≤list.length∧Seen a.rows list o w w∧BaseN a.rows (list.take i) w∧w.length≤cw∧cw≤maxLen) (fun (i,o,w,aw,cw)=>list.length-i) (0,List.replicate a.rows.length false,[],none,0) ?_ Sub.z Sup.z ?_
 ·exact ⟨Nat.zero_le _,Seen.init _ _,(fun z hz=>by simp at hz),Nat.le_refl _,Nat.zero_le _⟩
 rintro ⟨i,o,w,aw,cw⟩ ⟨i1,i2,i3,i4,i5⟩
 dsimp only [List.cons_append,List.nil_append] at i1 i2 i3 i4 i5 ⊢
 have hcnt:=i2.cnt
 have hO:=(zAV o).trans i2.len
 have hW:=zDx w
 by_cases hi:i<list.length
 ·obtain ⟨z,hz⟩:∃ z,list[i]?=some z:=⟨_,List.getElem?_eq_getElem hi⟩
  have hgz:(list.map (Value.int .i64))[i]?=some (.int .i64 z):=by simp [hz]
  have hzb:list[((i:Nat):Int).toNat]! = z:=by rw [Int.toNat_natCast,List.getElem!_eq_getElem?_getD,hz];rfl
  by_cases hz0:z<0
  ·repeat first|exact zE|refine zP ?_|refine zB fun b=>?_|refine zC fun a' c' hc1 hc2=>?_|(apply GJ.a;exact rfl;intro hg)|(apply GJ.o;exact rfl;intro hg)
   repeat first|exact zE|refine zP ?_|refine zB fun b=>?_|refine zC fun a' c' hc1 hc2=>?_|(apply GJ.a;exact rfl;intro hg)|(apply GJ.o;exact rfl;intro hg)
   refine Wk.id ⟨(i+1,o,w,aw,cw),⟨rfl,?_⟩,?_,Sub.z,Sup.z⟩
   all_goals try dsimp only
   ·exact ⟨by omega,i2,i3.snoc hz (fun k e=>by omega),i4,i5⟩
   ·omega
  ·obtain ⟨k,rfl⟩:∃ k:Nat,z=(k:Int):=⟨z.toNat,by omega⟩
   by_cases hkn:¬k<a.rows.length
   ·repeat first|exact zE|refine zP ?_|refine zB fun b=>?_|refine zC fun a' c' hc1 hc2=>?_|(apply GJ.a;exact rfl;intro hg)|(apply GJ.o;exact rfl;intro hg)
    repeat first|exact zE|refine zP ?_|refine zB fun b=>?_|refine zC fun a' c' hc1 hc2=>?_|(apply GJ.a;exact rfl;intro hg)|(apply GJ.o;exact rfl;intro hg)
    refine Wk.id ⟨(i+1,o,w,aw,cw),⟨rfl,?_⟩,?_,Sub.z,Sup.z⟩
    all_goals try dsimp only
    ·exact ⟨by omega,i2,i3.snoc hz (fun k2 e h=>by omega),i4,i5⟩
    ·omega
   have hkn:=Decidable.of_not_not hkn
   obtain ⟨q,hq⟩:∃ q,o[k]?=some q:=⟨_,List.getElem?_eq_getElem (by rw [i2.len];exact hkn)⟩
   have hgq:(zAh o)[k]?=some (.bool q):=by simp [zAh,hq]
   cases q with
   | true =>
     repeat first|exact zE|refine zP ?_|refine zB fun b=>?_|refine zC fun a' c' hc1 hc2=>?_|(apply GJ.a;exact rfl;intro hg)|(apply GJ.o;exact rfl;intro hg)
     refine OpOk.load rfl rfl (Ld.slAt' (k:=k) (by rw [hzb];rfl) hgq) ?_
     repeat first|exact zE|refine zP ?_|refine zB fun b=>?_|refine zC fun a' c' hc1 hc2=>?_|(apply GJ.a;exact rfl;intro hg)|(apply GJ.o;exact rfl;intro hg)
     repeat first|exact zE|refine zP ?_|refine zB fun b=>?_|refine zC fun a' c' hc1 hc2=>?_|(apply GJ.a;exact rfl;intro hg)|(apply GJ.o;exact rfl;intro hg)
     refine Wk.id ⟨(i+1,o,w,aw,cw),⟨rfl,?_⟩,?_,Sub.z,Sup.z⟩
     all_goals try dsimp only
     ·exact ⟨by omega,i2,i3.snoc hz (fun k2 e h=>by rw [←Int.ofNat.inj e];exact (i2.mem k).1 hq),i4,i5⟩
     ·omega
   | false =>
     have hpu:=i2.push hq (.base (List.mem_of_getElem? hz) hkn)
     repeat first|exact zE|refine zP ?_|refine zB fun b=>?_|refine zC fun a' c' hc1 hc2=>?_|(apply GJ.a;exact rfl;intro hg)|(apply GJ.o;exact rfl;intro hg)
     refine OpOk.load rfl rfl (Ld.slAt' (k:=k) (by rw [hzb];rfl) hgq) ?_
     repeat first|exact zE|refine zP ?_|refine zB fun b=>?_|refine zC fun a' c' hc1 hc2=>?_|(apply GJ.a;exact rfl;intro hg)|(apply GJ.o;exact rfl;intro hg)
     refine OpOk.storeSlAt' (k:=k) rfl rfl rfl rfl (by rw [hzb];rfl) (by rw [hO];exact hkn) ?_
     rw [zBo]
     repeat first|exact zE|refine zP ?_|refine zB fun b=>?_|refine zC fun a' c' hc1 hc2=>?_|(apply GJ.a;exact rfl;intro hg)|(apply GJ.o;exact rfl;intro hg)
     rw [hzb,show zAq w++[Value.int .i64 (k:Int)]=zAq (w++[k]) by simp [zAq],show w.length+1=(w++[k]).length by simp]
     rw [show w.length+1=(w++[k]).length by simp] at hc1
     repeat first|exact zE|refine zP ?_|refine zB fun b=>?_|refine zC fun a' c' hc1 hc2=>?_|(apply GJ.a;exact rfl;intro hg)|(apply GJ.o;exact rfl;intro hg)
     refine Wk.id ⟨(i+1,o.set k true,w++[k],a',c'),⟨rfl,?_⟩,?_,Sub.z,Sup.z⟩
     all_goals try dsimp only
     ·exact ⟨by omega,hpu,(i3.up (fun x h=>List.mem_append.2 (.inl h))).snoc hz (fun k2 e h=>by rw [←Int.ofNat.inj e];simp),hc1,hc2⟩
     ·omega
 ·obtain rfl:i=list.length:=by omega
  rw [List.take_length] at i3
  repeat first|exact zE|refine zP ?_|refine zB fun b=>?_|refine zC fun a' c' hc1 hc2=>?_|(apply GJ.a;exact rfl;intro hg)|(apply GJ.o;exact rfl;intro hg)
  refine zNK i4 i5 rfl (by omega) (fun a0 c0 hc1 hc2=>?_)
  repeat first|exact zE|refine zP ?_|refine zB fun b=>?_|refine zC fun a' c' hc1 hc2=>?_|(apply GJ.a;exact rfl;intro hg)|(apply GJ.o;exact rfl;intro hg)
  refine LoopOk.at (ι:=List Bool × (List Nat × Option Addr × Nat) × (List Nat × Option Addr × Nat)) Keep.z (fun (o,(w,aw,cw),(out,ao,co))=>[(6,.slice aw w.length cw),(9,.slice ao out.length co)]) (fun (o,(w,aw,cw),(out,ao,co))=>.sl ao out.length co 3 1 (zAq out)::.sl aw w.length cw 3 1 (zAq w)::.sl (some ⟨bO,0,none⟩) a.rows.length a.rows.length 4 1 (zAh o)::.blk b1 74 [.slice ad a.rows.length cp,.int .i64 a.last]::own) (fun (o,(w,aw,cw),(out,ao,co))=>Seen a.rows list o out w∧ShutN a.rows out (fun z=>z∈w)∧BaseN a.rows list out∧(w.length≤cw∧cw≤maxLen)∧(out.length≤co∧co≤maxLen)∧w.length+o.count false≤a.rows.length) (fun (o,(w,aw,cw),(out,ao,co))=>w.length+o.count false) (o,(w,aw,cw),(w,a0,c0)) ?_ Sub.z Sup.z ?_
  ·exact ⟨i2,(fun x hx h=>absurd hx h),i3,⟨i4,i5⟩,⟨hc1,hc2⟩,by omega⟩
  clear i2 i3 i4 i5 hc1 hc2 hcnt hO hW
  rintro ⟨o,⟨w,aw,cw⟩,⟨out,ao,co⟩⟩ ⟨i1,i2,i3,i4,i5,i6⟩
  dsimp only [List.cons_append,List.nil_append] at i1 i2 i3 i4 i5 i6 ⊢
  repeat first|exact zE|refine zP ?_|refine zB fun b=>?_|refine zC fun a' c' hc1 hc2=>?_|(apply GJ.a;exact rfl;intro hg)|(apply GJ.o;exact rfl;intro hg)
  refine Br.cases (fun hg=>?_) (fun hg=>?_)
  ·obtain ⟨w,i,rfl⟩:∃ w' i,w=w'++[i]:=⟨w.dropLast,w.getLast (by intro e;subst e;simp at hg),(List.dropLast_concat_getLast _).symm⟩
   rw [List.length_append,List.length_singleton] at i4 i6 hg ⊢
   have hL:(zAq (w++[i])).length=(w.length+1)*1:=by simp [zAq]
   have hgi:(zAq (w++[i]))[w.length]?=some (.int .i64 (i:Int)):=by simp [zAq]
   have hsh:(zAq (w++[i])).take (w.length*1)=zAq w:=by
    rw [Nat.mul_one]
    simp only [zAq,List.map_append]
    rw [List.take_left' (List.length_map _)]
   have hio:=i1.work i (by simp)
   have hiR:=zMu hto (i1.rch i hio)
   obtain ⟨row,hrow⟩:∃ row,a.rows[i]?=some row:=⟨_,List.getElem?_eq_getElem hiR⟩
   obtain ⟨ar,cr,hhs,hrr⟩:=hrw.row i row hrow
   repeat first|exact zE|refine zP ?_|refine zB fun b=>?_|refine zC fun a' c' hc1 hc2=>?_|(apply GJ.a;exact rfl;intro hg)|(apply GJ.o;exact rfl;intro hg)
   refine OpOk.load rfl rfl (Ld.slAt' (k:=w.length) (by congr 1;omega) hgi) ?_
   repeat first|exact zE|refine zP ?_|refine zB fun b=>?_|refine zC fun a' c' hc1 hc2=>?_|(apply GJ.a;exact rfl;intro hg)|(apply GJ.o;exact rfl;intro hg)
   rw [Int.toNat_natCast]
   refine OpOk.shrink (a:=aw) (m:=w.length) (Nat.le_succ _) ?_
   rw [hsh]
   refine OpOk.load rfl rfl (Ld.rs hrs hhs) ?_
   repeat first|exact zE|refine zP ?_|refine zB fun b=>?_|refine zC fun a' c' hc1 hc2=>?_|(apply GJ.a;exact rfl;intro hg)|(apply GJ.o;exact rfl;intro hg)
   have hc0:∀ s,cutA aw (Int.toNat 0) cw s=aw:=fun s=>zI4 aw cw s
   rw [hc0,show (((w.length+1:Nat):Int)-1).toNat-Int.toNat 0=w.length by omega,show cw-Int.toNat 0=cw from rfl]
   obtain ⟨M,hM⟩:∃ M,M=w.length+o.count false:=⟨_,rfl⟩
   have hfr:∀ x∈row,x.free=true→Rch a.rows list x.to:=fun x h1 h2=>.step (i1.rch i hio) (by unfold zCK;rw [hrow];exact List.mem_map.2 ⟨x,List.mem_filter.2 ⟨h1,h2⟩,rfl⟩)
   have hrl:=hrr.le
   have hrm:=hrr.max
   unfold maxLen at hrm
   refine LoopOk.at (ι:=Nat × List Bool × (List Nat × Option Addr × Nat) × (List Nat × Option Addr × Nat)) Keep.z (fun (j,o,(w,aw,cw),(out,ao,co))=>[(68,.int .i64 (j:Int)),(6,.slice aw w.length cw),(9,.slice ao out.length co)]) (fun (j,o,(w,aw,cw),(out,ao,co))=>.sl ao out.length co 3 1 (zAq out)::.sl aw w.length cw 3 1 (zAq w)::.sl (some ⟨bO,0,none⟩) a.rows.length a.rows.length 4 1 (zAh o)::.blk b1 74 [.slice ad a.rows.length cp,.int .i64 a.last]::own) (fun (j,o,(w,aw,cw),(out,ao,co))=>j≤row.length∧Seen a.rows list o out w∧ShutN a.rows out (fun z=>z∈w∨z=i)∧BaseN a.rows list out∧(∀ x∈row.take j,x.free=true→x.to∈out)∧(w.length≤cw∧cw≤maxLen)∧(out.length≤co∧co≤maxLen)∧w.length+o.count false≤M∧i∈out) (fun (j,o,(w,aw,cw),(out,ao,co))=>row.length-j) (0,o,(w,aw,cw),(out,ao,co)) ?_ Sub.z Sup.z ?_
   ·exact ⟨Nat.zero_le _,⟨i1.len,i1.mem,i1.rch,i1.nd,fun z h=>i1.work z (by simp [h]),i1.cnt⟩,(fun z h1 h2=>i2 z h1 (fun h3=>h2 (by simpa using h3))),i3,by simp,⟨by omega,i4.2⟩,i5,by omega,hio⟩
   clear hL hgi hsh
   rintro ⟨j,o',⟨w',aw',cw'⟩,⟨out',ao',co'⟩⟩ ⟨j1,j2,j3,j4,j5,j6,j7,j8,j9⟩
   dsimp only [List.cons_append,List.nil_append] at j1 j2 j3 j4 j5 j6 j7 j8 j9 ⊢
   by_cases hj:j<row.length
   ·obtain ⟨x,hx⟩:∃ x,row[j]?=some x:=⟨_,List.getElem?_eq_getElem hj⟩
    have htk:row.take (j+1)=row.take j++[x]:=by rw [List.take_add_one,hx];rfl
    have hnx:∀ out2:List Nat,(∀ y∈out',y∈out2)→(x.free=true→x.to∈out2)→∀ y∈row.take (j+1),y.free=true→y.to∈out2:=fun out2 h1 h2 y hy hyf=>by
     rw [htk,List.mem_append,List.mem_singleton] at hy
     rcases hy with hy|rfl
     ·exact h1 _ (j5 y hy hyf)
     ·exact h2 hyf
    have hxR:=hfr x (List.mem_of_getElem? hx)
    have hcnt:=j2.cnt
    have hO:=(zAV o').trans j2.len
    have hW:=zDx w'
    have hW2:=zDx out'
    have hlx:=zCZ row j x hx
    obtain ⟨k,xs,xf⟩:=x
    dsimp only [zEN] at hxR hnx hlx
    repeat first|exact zE|refine zP ?_|refine zB fun b=>?_|refine zC fun a' c' hc1 hc2=>?_|(apply GJ.a;exact rfl;intro hg)|(apply GJ.o;exact rfl;intro hg)
    rw [Int.toNat_natCast]
    refine OpOk.loadRow rfl rfl (LdN.at hrr hlx) rfl ?_
    cases xf with
    | false =>
      repeat first|exact zE|refine zP ?_|refine zB fun b=>?_|refine zC fun a' c' hc1 hc2=>?_|(apply GJ.a;exact rfl;intro hg)|(apply GJ.o;exact rfl;intro hg)
      refine Wk.id ⟨(j+1,o',(w',aw',cw'),(out',ao',co')),⟨rfl,?_⟩,?_,Sub.z,Sup.z⟩
      all_goals try dsimp only
      ·exact ⟨by omega,j2,j3,j4,hnx out' (fun _ h=>h) (fun h=>by cases h),j6,j7,j8,j9⟩
      ·omega
    | true =>
      have hxR:=hxR rfl
      have hkn:=zMu hto hxR
      obtain ⟨q,hq⟩:∃ q,o'[k]?=some q:=⟨_,List.getElem?_eq_getElem (by rw [j2.len];exact hkn)⟩
      have hgq:(zAh o')[k]?=some (.bool q):=by simp [zAh,hq]
      cases q with
      | true =>
        repeat first|exact zE|refine zP ?_|refine zB fun b=>?_|refine zC fun a' c' hc1 hc2=>?_|(apply GJ.a;exact rfl;intro hg)|(apply GJ.o;exact rfl;intro hg)
        refine OpOk.load rfl rfl (Ld.slAt' (k:=k) (by congr 1) hgq) ?_
        repeat first|exact zE|refine zP ?_|refine zB fun b=>?_|refine zC fun a' c' hc1 hc2=>?_|(apply GJ.a;exact rfl;intro hg)|(apply GJ.o;exact rfl;intro hg)
        repeat first|exact zE|refine zP ?_|refine zB fun b=>?_|refine zC fun a' c' hc1 hc2=>?_|(apply GJ.a;exact rfl;intro hg)|(apply GJ.o;exact rfl;intro hg)
        refine Wk.id ⟨(j+1,o',(w',aw',cw'),(out',ao',co')),⟨rfl,?_⟩,?_,Sub.z,Sup.z⟩
        all_goals try dsimp only
        ·exact ⟨by omega,j2,j3,j4,hnx out' (fun _ h=>h) (fun _=>(j2.mem k).1 hq),j6,j7,j8,j9⟩
        ·omega
      | false =>
        have hpu:=j2.push hq hxR
        have hcs:=count_set o' k hq
        repeat first|exact zE|refine zP ?_|refine zB fun b=>?_|refine zC fun a' c' hc1 hc2=>?_|(apply GJ.a;exact rfl;intro hg)|(apply GJ.o;exact rfl;intro hg)
        refine OpOk.load rfl rfl (Ld.slAt' (k:=k) (by congr 1) hgq) ?_
        repeat first|exact zE|refine zP ?_|refine zB fun b=>?_|refine zC fun a' c' hc1 hc2=>?_|(apply GJ.a;exact rfl;intro hg)|(apply GJ.o;exact rfl;intro hg)
        refine OpOk.storeSlAt' (k:=k) rfl rfl rfl rfl (by congr 1) (by rw [hO];exact hkn) ?_
        rw [zBo]
        repeat first|exact zE|refine wkT ?_|refine zB fun b=>?_|refine zC fun a' c' hc1 hc2=>?_|(apply GJ.a;exact rfl;intro hg)|(apply GJ.o;exact rfl;intro hg)
        obtain ⟨bE,hbE⟩:∃ z:Nat,z=b:=⟨_,rfl⟩
        subst hbE
        refine Bs.mk ⟨[.blk bE 141 [.int .i64 (k:Int),wV xs.a,wV xs.b,wV xs.c,wV xs.d,.bool true]],Sup.z,?_⟩
        repeat first|exact zE|refine wkT ?_|refine zB fun b=>?_|refine zC fun a' c' hc1 hc2=>?_|(apply GJ.a;exact rfl;intro hg)|(apply GJ.o;exact rfl;intro hg)
        refine app2.ok 6 9 (w'.length+1) (out'.length+1) 3 (zAq w'++[.int .i64 (k:Int)]) (zAq out'++[.int .i64 (k:Int)]) (.blk bE 141 [.int .i64 (k:Int),wV xs.a,wV xs.b,wV xs.c,wV xs.d,.bool true]::.sl (some ⟨bO,0,none⟩) a.rows.length a.rows.length 4 1 (zAh (o'.set k true))::.blk b1 74 [.slice ad a.rows.length cp,.int .i64 a.last]::own) ?_ (fun a4 c4 a5 c5 hc4 hc5=>?_)
        ·have hone:∀ u∈[Value.int .i64 (k:Int)],u.oneCell'=true:=fun u hu=>by simp only [List.mem_singleton] at hu;subst hu;rfl
         repeat' (first|with_reducible exact vFo.nil|((with_reducible refine vFo.cons ?_ ?_);refine vOne.at (by rfl) ?_)|((with_reducible refine vFo.leaf ?_);refine ⟨rfl,_,_,_,_,⟨by assumption,by assumption⟩,⟨by assumption,by assumption⟩,Sub2.both (Sub2.both ?_),Sup.z⟩;repeat (first|exact Sub2.refl _|refine Sub2.weak ?_ rfl))|(show Stop (OpOk _ _ _ _ _ _ _);refine Stop.mk ?_)|(show Stop (Sup _ _∧_);refine vFo.stop Sup.z ?_)|refine zB (fun b=>?_)|refine zC (fun a' c' hc1 hc2=>?_))
        rw [show zAq w'++[Value.int .i64 (k:Int)]=zAq (w'++[k]) by simp [zAq],show zAq out'++[Value.int .i64 (k:Int)]=zAq (out'++[k]) by simp [zAq],show w'.length+1=(w'++[k]).length by simp,show out'.length+1=(out'++[k]).length by simp]
        rw [show w'.length+1=(w'++[k]).length by simp] at hc4
        rw [show out'.length+1=(out'++[k]).length by simp] at hc5
        repeat first|exact zE|refine zP ?_|refine zB fun b=>?_|refine zC fun a' c' hc1 hc2=>?_|(apply GJ.a;exact rfl;intro hg)|(apply GJ.o;exact rfl;intro hg)
        repeat first|exact zE|refine zP ?_|refine zB fun b=>?_|refine zC fun a' c' hc1 hc2=>?_|(apply GJ.a;exact rfl;intro hg)|(apply GJ.o;exact rfl;intro hg)
        refine Wk.id ⟨(j+1,o'.set k true,(w'++[k],a4,c4),(out'++[k],a5,c5)),⟨rfl,?_⟩,?_,Sub.z,Sup.z⟩
        all_goals try dsimp only
        ·exact ⟨by omega,hpu,j3.push,j4.up (fun x h=>List.mem_append.2 (.inl h)),hnx _ (fun x h=>List.mem_append.2 (.inl h)) (fun _=>by simp),hc4,hc5,by simp only [List.length_append,List.length_singleton];omega,List.mem_append.2 (.inl j9)⟩
        ·omega
   ·obtain rfl:j=row.length:=by omega
    rw [List.take_length] at j5
    repeat first|exact zE|refine zP ?_|refine zB fun b=>?_|refine zC fun a' c' hc1 hc2=>?_|(apply GJ.a;exact rfl;intro hg)|(apply GJ.o;exact rfl;intro hg)
    repeat first|exact zE|refine zP ?_|refine zB fun b=>?_|refine zC fun a' c' hc1 hc2=>?_|(apply GJ.a;exact rfl;intro hg)|(apply GJ.o;exact rfl;intro hg)
    refine Wk.id ⟨(o',(w',aw',cw'),(out',ao',co')),⟨rfl,?_⟩,?_,Sub.z,Sup.z⟩
    all_goals try dsimp only
    ·refine ⟨j2,fun z h1 h2 y h3=>?_,j4,j6,j7,by omega⟩
     by_cases hz:z=i
     ·subst hz
      unfold zCK at h3
      rw [hrow] at h3
      obtain ⟨x,hx,rfl⟩:=List.mem_map.1 h3
      obtain ⟨hx1,hx2⟩:=List.mem_filter.1 hx
      exact j5 x hx1 hx2
     ·exact j3 z h1 (fun e=>e.elim h2 hz) y h3
    ·omega
  ·obtain rfl:w=[]:=List.eq_nil_of_length_eq_zero (by omega)
   repeat first|exact zE|refine zP ?_|refine zB fun b=>?_|refine zC fun a' c' hc1 hc2=>?_|(apply GJ.a;exact rfl;intro hg)|(apply GJ.o;exact rfl;intro hg)
   refine sortN_ok rfl (by have:=i1.cnt;omega) (fun l2 hp hs2=>?_)
   obtain rfl:=i1.all hto i2 i3 hp hs2
   rw [←hp.length_eq] at i5 ⊢
   repeat first|exact zE|refine zP ?_|refine zB fun b=>?_|refine zC fun a' c' hc1 hc2=>?_|(apply GJ.a;exact rfl;intro hg)|(apply GJ.o;exact rfl;intro hg)
   exact Wk.outS Sup.z (.refl _) (hk _ _ i5.1 i5.2)
end
end Go.Proofs.YtmaennnkaoollaaGreatDoor
end
