/- Texts of a walk, one behind the other. -/
import Derived.Test.YtmaennnkaoollaaGreatDoorMg11
set_option linter.unusedVariables false
set_option linter.unusedSimpArgs false
set_option linter.unusedSectionVars false
set_option maxRecDepth 10000
section
namespace Go.E
open Go
theorem Take.ofMem {c:Chunk}:∀ {l:Chs},c∈l→∃ r,Take l c r∧l.Perm (c::r)
 | [],h=>by cases h
 | x::l,h=>by
   rcases List.mem_cons.1 h with rfl|h
   ·exact ⟨l,Take.hit _ _,.refl _⟩
   ·obtain ⟨r,h1,h2⟩:=Take.ofMem h
    exact ⟨x::r,Take.miss _ h1,(h2.cons x).trans (List.Perm.swap _ _ _)⟩
theorem Sup.ofPerm:∀ {o l:Chs},l.Perm o→Sup l o
 | [],l,h=>Sup.nil _
 | c::o,l,h=>by
   obtain ⟨r,h1,h2⟩:=Take.ofMem (l:=l) (c:=c) (h.symm.subset (List.mem_cons_self ..))
   exact Sup.cons h1 (Sup.ofPerm ((List.perm_cons c).1 (h2.symm.trans h)))
end Go.E
namespace Go.Proofs.YtmaennnkaoollaaGreatDoor
open Go Go.E
abbrev RowJ:=(Option Addr × Nat) × List Int
def hdrJ (r:RowJ):Value:=.slice r.1.1 r.2.length r.1.2
def rowJ (r:RowJ):Chunk:=.sl r.1.1 r.2.length r.1.2 3 1 (intV r.2)
def nilJ:RowJ:=((none,0),[])
theorem zFy {R:List RowJ}{i:Nat}{x:RowJ} (h:R[i]?=some x) (r:Chs):(R.map rowJ++r).Perm (rowJ x::((R.take i++R.drop (i+1)).map rowJ++r)):=by
 obtain ⟨hi,hx⟩:=List.getElem?_eq_some_iff.1 h
 have e:R=R.take i++x::R.drop (i+1):=by rw [←hx,←List.drop_eq_getElem_cons hi,List.take_append_drop]
 have e2:=congrArg (List.map rowJ) e
 rw [List.map_append,List.map_cons] at e2
 rw [e2,List.map_append,List.append_assoc,List.append_assoc,List.cons_append]
 exact List.perm_middle
theorem zLd {R:List RowJ}{i:Nat} (hi:i<R.length) (y:RowJ) (r:Chs):(rowJ y::((R.take i++R.drop (i+1)).map rowJ++r)).Perm ((R.set i y).map rowJ++r):=by
 rw [List.set_eq_take_append_cons_drop,if_pos hi,List.map_append,List.map_append,List.map_cons,List.append_assoc,List.append_assoc,List.cons_append]
 exact List.perm_middle.symm
theorem Sup.nilsJ (n:Nat) {l o:Chs} (h:Sup l o):Sup l ((List.replicate n nilJ).map rowJ++o):=by
 induction n with
 | zero=>exact h
 | succ n ih=>rw [List.replicate_succ];exact Sup.nilc ih
theorem supJ {R:List RowJ}{s:Nat} (pre r:Chs) (hs:s≤R.length):Sup (pre++(R.map rowJ++r)) (rowJ (R[s]?.getD nilJ)::(pre++((R.take s++R.drop (s+1)).map rowJ++r))):=by
 by_cases h:s<R.length
 ·obtain ⟨x,hx⟩:∃ x,R[s]?=some x:=⟨_,List.getElem?_eq_getElem h⟩
  rw [hx]
  exact Sup.ofPerm (((zFy hx r).append_left pre).trans List.perm_middle)
 ·have e:R.take s++R.drop (s+1)=R:=by rw [List.take_of_length_le (by omega),List.drop_eq_nil_of_le (by omega),List.append_nil]
  rw [e,List.getElem?_eq_none (by omega)]
  exact Sup.nilc (Sup.all _)
theorem supJn {R:List RowJ}{s:Nat} (y:RowJ) (pre r:Chs) (hs:s<R.length):Sup (rowJ y::(pre++((R.take s++R.drop (s+1)).map rowJ++r))) (rowJ ((R.set s y)[s+1]?.getD nilJ)::(pre++(((R.set s y).take (s+1)++(R.set s y).drop (s+1+1)).map rowJ++r))):=by
 have hp:(rowJ y::(pre++((R.take s++R.drop (s+1)).map rowJ++r))).Perm (pre++((R.set s y).map rowJ++r)):=List.perm_middle.symm.trans ((zLd hs y r).append_left pre)
 generalize R.set s y=S at *
 by_cases h:s+1<S.length
 ·obtain ⟨x,hx⟩:∃ x,S[s+1]?=some x:=⟨_,List.getElem?_eq_getElem h⟩
  rw [hx]
  exact Sup.ofPerm (hp.trans (((zFy hx r).append_left pre).trans List.perm_middle))
 ·have e:S.take (s+1)++S.drop (s+1+1)=S:=by rw [List.take_of_length_le (by omega),List.drop_eq_nil_of_le (by omega),List.append_nil]
  rw [e,List.getElem?_eq_none (by omega)]
  exact Sup.nilc (Sup.ofPerm hp)
def zEe (n:Nat) (seen:List (List Int)):List (List Int):=(List.range n).map fun s=>seen.map fun col=>(col[s]?.getD 0)-1
theorem zMk (n:Nat):zEe n []=List.replicate n []:=by
 apply List.ext_getElem?
 intro i
 unfold zEe
 rw [List.getElem?_map,List.getElem?_replicate]
 by_cases h:i<n
 ·rw [List.getElem?_range h,if_pos h];rfl
 ·rw [List.getElem?_eq_none (by simp;omega),if_neg h];rfl
theorem zHN {n s:Nat} (seen:List (List Int)) (h:s<n):(zEe n seen)[s]?=some (seen.map fun col=>(col[s]?.getD 0)-1):=by
 unfold zEe
 rw [List.getElem?_map,List.getElem?_range h];rfl
def mixJ (n:Nat) (seen:List (List Int)) (col:List Int) (s:Nat):List (List Int):=(zEe n (seen++[col])).take s++(zEe n seen).drop s
theorem zMV (n:Nat) (seen:List (List Int)) (col:List Int):mixJ n seen col 0=zEe n seen:=by simp [mixJ]
theorem zB6 (n:Nat) (seen:List (List Int)):(zEe n seen).length=n:=by simp [zEe]
theorem mixJ_all (n:Nat) (seen:List (List Int)) (col:List Int):mixJ n seen col n=zEe n (seen++[col]):=by
 unfold mixJ
 rw [List.take_of_length_le (by rw [zB6];exact Nat.le_refl _),List.drop_eq_nil_of_le (by rw [zB6];exact Nat.le_refl _),List.append_nil]
theorem mixJ_get {n s:Nat} (seen:List (List Int)) (col:List Int) (h:s<n):(mixJ n seen col s)[s]?=some (seen.map fun c=>(c[s]?.getD 0)-1):=by
 unfold mixJ
 rw [List.getElem?_append_right (by simp [zB6];omega),List.length_take,zB6,Nat.min_eq_left (by omega),Nat.sub_self,List.getElem?_drop,Nat.add_zero]
 exact zHN seen h
theorem mixJ_set {n s:Nat} (seen:List (List Int)) (col:List Int) {z:Int} (h:s<n) (hz:col[s]?=some z):(mixJ n seen col s).set s ((seen.map fun c=>(c[s]?.getD 0)-1)++[z-1])=mixJ n seen col (s+1):=by
 have hg:=zHN (seen++[col]) h
 unfold mixJ
 have hl:((zEe n (seen++[col])).take s).length=s:=by simp [zB6];omega
 rw [List.set_append_right _ _ (by omega),hl,Nat.sub_self,List.drop_eq_getElem_cons (by rw [zB6];exact h),List.set_cons_zero,List.take_add_one,hg]
 simp [hz]
structure NarI (d:DfaA) (c:Nat) (seen:List (List Int)) (out:List Nat):Prop where
 fin:narL d (256-c) c seen out=narL d 256 0 [] []
 len:out.length=c
 few:seen.length≤c
theorem NarI.start (d:DfaA):NarI d 0 [] []:=⟨rfl,rfl,Nat.le_refl _⟩
theorem NarI.old {d:DfaA}{c k:Nat}{seen:List (List Int)}{out:List Nat} (h:NarI d c seen out) (hc:c<256) (hk:seen.idxOf? (colA d c)=some k):NarI d (c+1) seen (out++[k]):=by
 refine ⟨?_,by simp [h.len],by have:=h.few;omega⟩
 have:=h.fin
 rw [show 256-c=(256-(c+1))+1 by omega,narL,hk] at this
 exact this
theorem NarI.new {d:DfaA}{c:Nat}{seen:List (List Int)}{out:List Nat} (h:NarI d c seen out) (hc:c<256) (hk:seen.idxOf? (colA d c)=none):NarI d (c+1) (seen++[colA d c]) (out++[seen.length]):=by
 refine ⟨?_,by simp [h.len],by have:=h.few;simp;omega⟩
 have:=h.fin
 rw [show 256-c=(256-(c+1))+1 by omega,narL,hk] at this
 exact this
theorem colA_adm {w:Nat}{d:DfaA} (ho:zAt w d) (hn:d.next.length≤1024) {c:Nat} (hc:c<256):AdmK (colA d c)∧(colA d c).length=d.next.length:=by
 refine ⟨fun z hz=>?_,by simp [colA]⟩
 obtain ⟨s,hs,e⟩:=List.getElem_of_mem hz
 have hs:s<d.next.length:=by simpa [colA] using hs
 have h1:=zDW ho hs hc
 rw [List.getElem?_eq_getElem (by simpa [colA] using hs),e] at h1
 rw [Option.some.inj h1]
 rcases zAE ho (s:Int) hc with h|⟨t,h,h2⟩<;>rw [h]<;>omega
def u8V (k:Nat):Value:=.int .u8 (k:Int)
section
variable {ro:Ro}{own r:Chs}{K:Value→Ro→Chs→Prop}{g:Chunk→Chs}
set_option maxHeartbeats 8000000 in
theorem zLx {q w:Nat}{d:DfaA} (hD:DAt ro q d) (ho:zAt w d) (hn:d.next.length≤1024)
  (hk:∀ ro' p,Le ro ro'→DAt ro' p (zDO d)→K (ptr' p) ro' own):CallOk Tryz.prog 68 #[ptr' q] ro own K:=by
 obtain ⟨an,cn,aa,ca,hsv,hd⟩:=hD.rd
 have hN:=hd.ldN
 have hA:=hd.ldA
 have hrs:=hd.rs
 have hra:=hd.ra
 have hcm:=hrs.max
 have hcl:=hrs.le
 unfold maxLen at hcm
 refine CallOk.intro (args:=[_]) (rs:=[_]) T_ok Tryz.func68 Tryz.call68 rfl rfl (by kernel_rfl) rfl rfl ?_
 repeat first|exact zE|refine zP ?_|refine zB fun b=>?_|refine zC fun a' c' hc1 hc2=>?_|(apply GJ.a;exact rfl;intro hg)|(apply GJ.o;exact rfl;intro hg)
 refine zBP hD ?_
 repeat first|exact zE|refine zP ?_|refine zB fun b=>?_|refine zC fun a' c' hc1 hc2=>?_|(apply GJ.a;exact rfl;intro hg)|(apply GJ.o;exact rfl;intro hg)
 refine OpOk.makeMapG (kv:=str) (vv:=u8V) (fun bM=>?_)
 repeat first|exact zE|refine zP ?_|refine zB fun b=>?_|refine zC fun a' c' hc1 hc2=>?_|(apply GJ.a;exact rfl;intro hg)|(apply GJ.o;exact rfl;intro hg)
 rename_i bN
 have hN0:(List.replicate (d.next.length:Int).toNat (Value.slice none 0 0))=(List.replicate d.next.length nilJ).map hdrJ:=by rw [Int.toNat_natCast,List.map_replicate];rfl
 rw [hN0,Int.toNat_natCast]
 have hst:zEe d.next.length []=(List.replicate d.next.length nilJ).map (·.2):=by rw [zMk,List.map_replicate];rfl
 refine LoopOk.at (ι:=Nat × List Nat × List (List Int) × List (List UInt8 × Nat × Nat) × Nat × List RowJ) Keep.z (fun (c,out,seen,M,cM,R)=>[(22,.int .i64 (c:Int))])
  (fun (c,out,seen,M,cM,R)=>.blk b 83 (autV (out++List.replicate (256-c) 0) (.slice (some ⟨bN,0,none⟩) d.next.length d.next.length) (.slice aa d.acc.length ca))::.obj bM (mapG str u8V M cM)::.sl (some ⟨bN,0,none⟩) d.next.length d.next.length 84 1 (R.map hdrJ)::(R.map rowJ++own))
  (fun (c,out,seen,M,cM,R)=>c≤256∧NarI d c seen out∧KeyM d.next.length seen M∧R.map (·.2)=zEe d.next.length seen) (fun (c,out,seen,M,cM,R)=>256-c) (0,[],[],[],0,List.replicate d.next.length nilJ) ?_ Sub.z (Sup.cons Take.auto (Sup.cons Take.auto (Sup.cons Take.auto (Sup.nilsJ _ (Sup.all _))))) ?_
 ·exact ⟨Nat.zero_le _,NarI.start d,KeyM.nil _,hst.symm⟩
 rintro ⟨c,out,seen,M,cM,R⟩ ⟨i1,i2,i3,i4⟩
 dsimp only [List.cons_append,List.nil_append] at i1 i2 i3 i4 ⊢
 have hRl:R.length=d.next.length:=by have:=congrArg List.length i4;rwa [List.length_map,zB6] at this
 have hol:=i2.len
 have hCl:(out++List.replicate (256-c) 0).length=256:=by simp;omega
 by_cases hc:c<256
 ·obtain ⟨hka,hkl⟩:=colA_adm ho hn hc
  have hgk:=i3.at' _ hka
  have hold:=fun k=>i2.old (k:=k) hc
  have hnew:=i2.new hc
  have hpush:=i3.push (by omega) hka (by omega)
  obtain ⟨hcw,hcc⟩:=zI8 ho hc
  have hC:=hd.ldC c _ hcc
  have hcg:∀ s,s<d.next.length→(colA d c)[s]?=some (zAb d (s:Int) c+1):=fun s hs=>zDW ho hs hc
  have hss:∀ u:Nat,(autV (out++List.replicate (256-c) 0) (.slice (some ⟨bN,0,none⟩) d.next.length d.next.length) (.slice aa d.acc.length ca)).set (0+0+((c:Nat):Int).toNat*1) (.int .u8 (u:Int))=autV ((out++[u])++List.replicate (256-(c+1)) 0) (.slice (some ⟨bN,0,none⟩) d.next.length d.next.length) (.slice aa d.acc.length ca):=fun u=>by
   rw [show 0+0+((c:Nat):Int).toNat*1=c by simp,zNV (by omega),zD7 hol hc]
  have hsl:=zDA hCl (.slice (some ⟨bN,0,none⟩) d.next.length d.next.length) (.slice aa d.acc.length ca)
  generalize colA d c=col at *
  repeat first|exact zE|refine zP ?_|refine zB fun b=>?_|refine zC fun a' c' hc1 hc2=>?_|(apply GJ.a;exact rfl;intro hg)|(apply GJ.o;exact rfl;intro hg)
  refine LoopOk.at (ι:=Nat × Option Addr × Nat) Keep.z (fun (j,a1,c1)=>[(30,.int .i64 (j:Int)),(6,.slice a1 j c1)]) (fun (j,a1,c1)=>.sl a1 j c1 3 1 (intV (col.take j))::.blk b 83 (autV (out++List.replicate (256-c) 0) (.slice (some ⟨bN,0,none⟩) d.next.length d.next.length) (.slice aa d.acc.length ca))::.obj bM (mapG str u8V M cM)::.sl (some ⟨bN,0,none⟩) d.next.length d.next.length 84 1 (R.map hdrJ)::(R.map rowJ++own)) (fun (j,a1,c1)=>j≤d.next.length∧j≤c1∧c1≤maxLen) (fun (j,a1,c1)=>d.next.length-j) (0,none,0) ?_ Sub.z Sup.z ?_
  ·exact ⟨Nat.zero_le _,Nat.le_refl _,Nat.zero_le _⟩
  rintro ⟨j,a1,c1⟩ ⟨j1,j2,j3⟩
  dsimp only [List.cons_append,List.nil_append] at j1 j2 j3 ⊢
  have htl:(intV (col.take j)).length=j:=by rw [zAO];simp;omega
  by_cases hj:j<d.next.length
  ·obtain ⟨row,hrow⟩:∃ row,d.next[j]?=some row:=⟨_,List.getElem?_eq_getElem hj⟩
   obtain ⟨ar,cr,q1,q2⟩:=hd.rows j row hrow
   have hrl:=ho.row row (List.mem_of_getElem? hrow)
   obtain ⟨k,row',p1,p2,p3,p4⟩:=zBb ho hj hc
   rw [hrow] at p3;cases p3
   rw [hcc] at p1;cases p1
   have hbr:=bang p4
   have hst:=zAE ho (j:Int) hc
   have hcj:=hcg j hj
   generalize zAb d (j:Int) c=z at *
   have htk:col.take (j+1)=col.take j++[z+1]:=by rw [List.take_add_one,hcj];rfl
   repeat first|exact zE|refine zP ?_|refine zB fun b=>?_|refine zC fun a' c' hc1 hc2=>?_|(apply GJ.a;exact rfl;intro hg)|(apply GJ.o;exact rfl;intro hg)
   refine OpOk.load rfl rfl (Go.E.Ld.rs hrs (by rw [Int.toNat_natCast];exact q1)) ?_
   repeat first|exact zE|refine zP ?_|refine zB fun b=>?_|refine zC fun a' c' hc1 hc2=>?_|(apply GJ.a;exact rfl;intro hg)|(apply GJ.o;exact rfl;intro hg)
   refine OpOk.load rfl rfl (hC.ldE (by simp)) ?_
   repeat first|exact zE|refine zP ?_|refine zB fun b=>?_|refine zC fun a' c' hc1 hc2=>?_|(apply GJ.a;exact rfl;intro hg)|(apply GJ.o;exact rfl;intro hg)
   rw [hbr]
   refine ⟨⟨by omega,by omega⟩,?_⟩
   repeat first|exact zE|refine zP ?_|refine zB fun b=>?_|refine zC fun a' c' hc1 hc2=>?_|(apply GJ.a;exact rfl;intro hg)|(apply GJ.o;exact rfl;intro hg)
   have hap:intV (col.take j)++[.int .i64 (z+1)]=intV (col.take (j+1)):=by rw [htk];simp [intV]
   rw [hap]
   repeat first|exact zE|refine zP ?_|refine zB fun b=>?_|refine zC fun a' c' hc1 hc2=>?_|(apply GJ.a;exact rfl;intro hg)|(apply GJ.o;exact rfl;intro hg)
   refine Wk.id ⟨(j+1,a',c'),⟨rfl,?_⟩,?_,Sub.z,Sup.z⟩
   all_goals try dsimp only
   ·exact ⟨by omega,hc1,hc2⟩
   ·omega
  ·obtain rfl:j=d.next.length:=by omega
   have htc:col.take d.next.length=col:=List.take_of_length_le (by omega)
   rw [htc] at *
   have hkt:(keyT col).length≤maxLen:=by rw [zCm,hkl];unfold maxLen;omega
   have hfew:=i2.few
   repeat first|exact zE|refine zP ?_|refine zB fun b=>?_|refine zC fun a' c' hc1 hc2=>?_|(apply GJ.a;exact rfl;intro hg)|(apply GJ.o;exact rfl;intro hg)
   have hkr:Rds ro (.sl a1 d.next.length c1 3 1 (intV col)::.blk b 83 (autV (out++List.replicate (256-c) 0) (.slice (some ⟨bN,0,none⟩) d.next.length d.next.length) (.slice aa d.acc.length ca))::.obj bM (mapG str u8V M cM)::.sl (some ⟨bN,0,none⟩) d.next.length d.next.length 84 1 (R.map hdrJ)::(R.map rowJ++own)) a1 d.next.length c1 1 (col.map (Value.int .i64)):=Rds.hasSl j2 j3 (by show (intV _).length=_;rw [zAO,hkl,Nat.mul_one])
   refine zFG (l:=col) hkr hkl (by omega) hka ?_
   repeat first|exact zE|refine zP ?_|refine zB fun b=>?_|refine zC fun a' c' hc1 hc2=>?_|(apply GJ.a;exact rfl;intro hg)|(apply GJ.o;exact rfl;intro hg)
   refine OpOk.lookupOkG (kt:=9) (et:=5) (kv:=str) (vv:=u8V) (k:=keyT col) (z:=.int .u8 0) rfl rfl (by kernel_rfl) (KeyEnc.text (by kernel_rfl)) i3.map hkt (by kernel_rfl) ?_
   rw [hgk]
   cases hidx:seen.idxOf? col with
   | some u =>
     have hold:=hold u hidx
     have hu:u<seen.length:=(List.findIdx?_eq_some_iff_getElem.1 hidx).1
     simp only [Option.map_some,Option.getD_some,Option.isSome_some,u8V]
     repeat first|exact zE|refine zP ?_|refine zB fun b=>?_|refine zC fun a' c' hc1 hc2=>?_|(apply GJ.a;exact rfl;intro hg)|(apply GJ.o;exact rfl;intro hg)
     refine OpOk.storeAt rfl rfl rfl rfl (by rw [hsl];simp;omega) ?_
     rw [hss]
     repeat first|exact zE|refine zP ?_|refine zB fun b=>?_|refine zC fun a' c' hc1 hc2=>?_|(apply GJ.a;exact rfl;intro hg)|(apply GJ.o;exact rfl;intro hg)
     repeat first|exact zE|refine zP ?_|refine zB fun b=>?_|refine zC fun a' c' hc1 hc2=>?_|(apply GJ.a;exact rfl;intro hg)|(apply GJ.o;exact rfl;intro hg)
     refine Wk.id ⟨(c+1,out++[u],seen,M,cM,R),⟨rfl,?_⟩,?_,Sub.z,Sup.z⟩
     all_goals try dsimp only
     ·exact ⟨by omega,hold,i3,i4⟩
     ·omega
   | none =>
     have hnew:=hnew hidx
     have hpush:=hpush hidx cM
     have hMl:=i3.len
     simp only [Option.map_none,Option.getD_none,Option.isSome_none]
     repeat first|exact zE|refine zP ?_|refine zB fun b=>?_|refine zC fun a' c' hc1 hc2=>?_|(apply GJ.a;exact rfl;intro hg)|(apply GJ.o;exact rfl;intro hg)
     refine OpOk.lenG (kv:=str) (vv:=u8V) (et:=5) (kt:=9) rfl (by kernel_rfl) ?_
     rw [hMl]
     repeat first|exact zE|refine zP ?_|refine zB fun b=>?_|refine zC fun a' c' hc1 hc2=>?_|(apply GJ.a;exact rfl;intro hg)|(apply GJ.o;exact rfl;intro hg)
     rw [show ((seen.length:Nat):Int) % 256=(seen.length:Int) by omega]
     refine zFG (l:=col) hkr hkl (by omega) hka ?_
     repeat first|exact zE|refine zP ?_|refine zB fun b=>?_|refine zC fun a' c' hc1 hc2=>?_|(apply GJ.a;exact rfl;intro hg)|(apply GJ.o;exact rfl;intro hg)
     refine OpOk.mapUpdateG (kt:=9) (et:=5) (kv:=str) (vv:=u8V) (k:=keyT col) (v:=seen.length) rfl rfl rfl (by kernel_rfl) (KeyEnc.text (by kernel_rfl)) i3.map hkt (fun c2=>?_)
     generalize putG M cM (keyT col) seen.length=M2 at *
     repeat first|exact zE|refine zP ?_|refine zB fun b=>?_|refine zC fun a' c' hc1 hc2=>?_|(apply GJ.a;exact rfl;intro hg)|(apply GJ.o;exact rfl;intro hg)
     refine LoopOk.at (ι:=Nat × List RowJ) Keep.z (fun (s,S)=>[(69,.int .i64 (s:Int))])
      (fun (s,S)=>rowJ (S[s]?.getD nilJ)::([.sl a1 d.next.length c1 3 1 (intV col),.blk b 83 (autV (out++List.replicate (256-c) 0) (.slice (some ⟨bN,0,none⟩) d.next.length d.next.length) (.slice aa d.acc.length ca)),.obj bM (mapG str u8V M2 c2),.sl (some ⟨bN,0,none⟩) d.next.length d.next.length 84 1 (S.map hdrJ)]++((S.take s++S.drop (s+1)).map rowJ++own)))
      (fun (s,S)=>s≤d.next.length∧S.length=d.next.length∧S.map (·.2)=mixJ d.next.length seen col s) (fun (s,S)=>d.next.length-s) (0,R) ?_ Sub.z (supJ (s:=0) (R:=R) [_,_,_,_] own (Nat.zero_le _)) ?_
     ·exact ⟨Nat.zero_le _,hRl,by rw [zMV];exact i4⟩
     rintro ⟨s,S⟩ ⟨s1,s2,s3⟩
     dsimp only [List.cons_append,List.nil_append] at s1 s2 s3 ⊢
     by_cases hs:s<d.next.length
     ·obtain ⟨x,hx⟩:∃ x,S[s]?=some x:=⟨_,List.getElem?_eq_getElem (by omega)⟩
      have hxr:x.2=seen.map fun c=>(c[s]?.getD 0)-1:=by
       have:=mixJ_get seen col hs
       rw [←s3,List.getElem?_map,hx] at this
       exact Option.some.inj this
      have hcs:=hcg s hs
      have hst:=zAE ho (s:Int) hc
      generalize zAb d (s:Int) c=z at *
      have hms:=mixJ_set seen col hs hcs
      have hbz:=bang hcs
      have hbx:=bang hx
      rw [hx]
      obtain ⟨⟨ra,rc⟩,rl⟩:=x
      simp only [Option.getD_some,rowJ] at hxr ⊢
      have hrl:=zAO rl
      have hrlen:rl.length=seen.length:=by rw [hxr];simp
      repeat first|exact zE|refine wkT ?_|refine zB fun b=>?_|refine zC fun a' c' hc1 hc2=>?_|(apply GJ.a;exact rfl;intro hg)|(apply GJ.o;exact rfl;intro hg)
      refine Bs.mk ⟨[.sl a1 d.next.length c1 3 1 (intV col),.blk b 83 (autV (out++List.replicate (256-c) 0) (.slice (some ⟨bN,0,none⟩) d.next.length d.next.length) (.slice aa d.acc.length ca)),.sl (some ⟨bN,0,none⟩) d.next.length d.next.length 84 1 (S.map hdrJ)],Sup.z,?_⟩
      repeat (first|exact zE|refine wkU ?_|(show QOk _ _ _ _ _ _ _;refine QOk.build rfl rfl Nf.auto ?_)|(show GJ _ _ _ _ _ _ _;first|with_reducible refine GJ.neF ?_|with_reducible refine GJ.neT ?_)|(show Br _ _ _;with_reducible refine Br.ne ?_)|refine zB (fun b=>?_)|refine zC (fun a' c' hc1 hc2=>?_)|(apply GJ.a;exact rfl;intro hg)|(apply GJ.o;exact rfl;intro hg))
      rw [hbx]
      dsimp only [hdrJ]
      repeat (first|exact zE|refine wkU ?_|(show QOk _ _ _ _ _ _ _;refine QOk.build rfl rfl Nf.auto ?_)|(show GJ _ _ _ _ _ _ _;first|with_reducible refine GJ.neF ?_|with_reducible refine GJ.neT ?_)|(show Br _ _ _;with_reducible refine Br.ne ?_)|refine zB (fun b=>?_)|refine zC (fun a' c' hc1 hc2=>?_)|(apply GJ.a;exact rfl;intro hg)|(apply GJ.o;exact rfl;intro hg))
      rw [hbz]
      refine ⟨⟨by omega,by omega⟩,?_⟩
      repeat (first|exact zE|refine wkU ?_|(show QOk _ _ _ _ _ _ _;refine QOk.build rfl rfl Nf.auto ?_)|(show GJ _ _ _ _ _ _ _;first|with_reducible refine GJ.neF ?_|with_reducible refine GJ.neT ?_)|(show Br _ _ _;with_reducible refine Br.ne ?_)|refine zB (fun b=>?_)|refine zC (fun a' c' hc1 hc2=>?_)|(apply GJ.a;exact rfl;intro hg)|(apply GJ.o;exact rfl;intro hg))
      rw [Int.toNat_natCast]
      refine OpOk.storeSl (k:=s) rfl rfl rfl rfl (by rw [List.length_map,s2];exact hs) ?_
      repeat (first|exact zE|refine wkU ?_|(show QOk _ _ _ _ _ _ _;refine QOk.build rfl rfl Nf.auto ?_)|(show GJ _ _ _ _ _ _ _;first|with_reducible refine GJ.neF ?_|with_reducible refine GJ.neT ?_)|(show Br _ _ _;with_reducible refine Br.ne ?_)|refine zB (fun b=>?_)|refine zC (fun a' c' hc1 hc2=>?_)|(apply GJ.a;exact rfl;intro hg)|(apply GJ.o;exact rfl;intro hg))
      have e1:rl.length+1=(rl++[z+1-1]).length:=by simp
      have e2:intV rl++[.int .i64 (z+1-1)]=intV (rl++[z+1-1]):=by simp [intV]
      have e3:(S.map hdrJ).set s (.slice a' (rl++[z+1-1]).length c')=(S.set s ((a',c'),rl++[z+1-1])).map hdrJ:=by rw [List.map_set];rfl
      rw [e1] at hc1 ⊢
      rw [e2,e3]
      repeat first|exact zE|refine zP ?_|refine zB fun b=>?_|refine zC fun a' c' hc1 hc2=>?_|(apply GJ.a;exact rfl;intro hg)|(apply GJ.o;exact rfl;intro hg)
      refine Wk.id ⟨(s+1,S.set s ((a',c'),rl++[z+1-1])),⟨rfl,?_⟩,?_,Sub.z,(supJn ((a',c'),rl++[z+1-1]) [_,_,_,_] own (by omega))⟩
      all_goals try dsimp only
      ·refine ⟨by omega,by rw [List.length_set,s2],?_⟩
       rw [List.map_set,s3,←hms,hxr]
      ·omega
     ·obtain rfl:s=d.next.length:=by omega
      rw [mixJ_all] at s3
      have e:S.take d.next.length++S.drop (d.next.length+1)=S:=by rw [List.take_of_length_le (by omega),List.drop_eq_nil_of_le (by omega),List.append_nil]
      rw [e]
      repeat first|exact zE|refine zP ?_|refine zB fun b=>?_|refine zC fun a' c' hc1 hc2=>?_|(apply GJ.a;exact rfl;intro hg)|(apply GJ.o;exact rfl;intro hg)
      refine OpOk.storeAt rfl rfl rfl rfl (by rw [hsl];simp;omega) ?_
      rw [hss]
      repeat first|exact zE|refine zP ?_|refine zB fun b=>?_|refine zC fun a' c' hc1 hc2=>?_|(apply GJ.a;exact rfl;intro hg)|(apply GJ.o;exact rfl;intro hg)
      repeat first|exact zE|refine zP ?_|refine zB fun b=>?_|refine zC fun a' c' hc1 hc2=>?_|(apply GJ.a;exact rfl;intro hg)|(apply GJ.o;exact rfl;intro hg)
      refine Wk.id ⟨(c+1,out++[seen.length],seen++[col],M2,c2,S),⟨rfl,?_⟩,?_,Sub.z,Sup.z⟩
      all_goals try dsimp only
      ·exact ⟨by omega,hnew,hpush,s3⟩
      ·omega
 ·have hc6:c=256:=by omega
  subst hc6
  have hfin:=i2.fin
  rw [show 256-256=0 from rfl,narL] at hfin
  have hC0:out++List.replicate (256-256) 0=out:=by simp
  rw [hC0] at hCl ⊢
  repeat first|exact zE|refine zP ?_|refine zB fun b=>?_|refine zC fun a' c' hc1 hc2=>?_|(apply GJ.a;exact rfl;intro hg)|(apply GJ.o;exact rfl;intro hg)
  refine Wk.freezeL (l:=.blk b 83 (autV out (.slice (some ⟨bN,0,none⟩) d.next.length d.next.length) (.slice aa d.acc.length ca))::.sl (some ⟨bN,0,none⟩) d.next.length d.next.length 84 1 (R.map hdrJ)::R.map rowJ) (rest:=.obj bM (mapG str u8V M cM)::own) ?_ (fun ro2 hl2 hc2=>?_)
  ·refine (List.Perm.cons _ ?_)
   refine (List.Perm.swap _ _ _).trans (List.Perm.cons _ ?_)
   exact List.perm_middle.symm
  have hnar:zDO d=⟨out,zEe d.next.length seen,d.acc⟩:=by unfold zDO;rw [←hfin];rfl
  refine Wk.outS (Sup.drop _ (Sup.all _)) (.refl _) (hk ro2 b hl2 ?_)
  rw [hnar]
  refine ⟨⟨some ⟨bN,0,none⟩,d.next.length,aa,ca,R.map hdrJ,?_,hCl,?_,fun i row hi=>?_,Rs.up hra⟩⟩
  ·dsimp only
   rw [zB6]
   exact hc2 _ (List.mem_cons_self ..)
  ·dsimp only
   rw [zB6]
   exact Rs.last (hc2 _ (List.mem_cons_of_mem _ (List.mem_cons_self ..)))
  ·dsimp only at hi
   rw [←i4,List.getElem?_map] at hi
   obtain ⟨x,hx,rfl⟩:=Option.map_eq_some_iff.1 hi
   refine ⟨x.1.1,x.1.2,by rw [List.getElem?_map,hx];rfl,?_⟩
   exact Rs.last (t:=3) (hc2 (rowJ x) (List.mem_cons_of_mem _ (List.mem_cons_of_mem _ (List.mem_map_of_mem (List.mem_of_getElem? hx)))))
end
structure OrdM (g:List Int) (order:List Nat) (M:List (Int × Nat × Nat)):Prop where
 map:MapOk (fun _=>True) M
 at':∀ z,getG M z=order.findIdx? fun s=>zAk g s == z
theorem OrdM.start (g:List Int) (c:Nat):OrdM g [0] (putG [] c (zAk g 0) 0):=by
 refine ⟨MapOk.nil.put trivial c 0,fun z=>?_⟩
 rw [zDz,List.findIdx?_cons]
 by_cases e:z=zAk g 0
 ·rw [if_pos e];simp [e]
 ·rw [if_neg e]
  have:(zAk g 0 == z)=false:=by simpa using fun h=>e h.symm
  rw [this];rfl
theorem OrdM.push {g:List Int}{order:List Nat}{M:List (Int × Nat × Nat)} (h:OrdM g order M) {s:Nat} (hn:order.findIdx? (fun t=>zAk g t == zAk g s)=none) (c:Nat):OrdM g (order++[s]) (putG M c (zAk g s) order.length):=by
 refine ⟨h.map.put trivial c _,fun z=>?_⟩
 rw [zDz,List.findIdx?_append,List.findIdx?_cons]
 by_cases e:z=zAk g s
 ·subst e
  rw [if_pos rfl,hn];simp
 ·rw [if_neg e,h.at' z]
  have:(zAk g s == z)=false:=by simpa using fun h=>e h.symm
  rw [this]
  cases order.findIdx? fun t=>zAk g t == z<;>simp
theorem OrdI.step {w:Nat}{a:DfaA}{g:List Int}{order:List Nat}{next:List (List Int)}{acc:List Bool}{cur:Nat}{order2:List Nat}{row2:List Int} (h:OrdI a g w order next acc) (hcur:order[next.length]?=some cur) (hr:RowI a g cur w order order2 row2 256):OrdI a g w order2 (next++[row2]) (acc++[getB a.acc cur]):=by
 obtain ⟨e,he⟩:=hr.pre
 have hlt:=(List.getElem?_eq_some_iff.1 hcur).1
 have hold:∀ (i t:Nat),order[i]?=some t→order2[i]?=some t:=fun i t hi=>by
  rw [he,List.getElem?_append_left (List.getElem?_eq_some_iff.1 hi).1,hi]
 have hold2:∀ (i t:Nat),i<order.length→order2[i]?=some t→order[i]?=some t:=fun i t h1 hi=>by
  rw [he,List.getElem?_append_left h1] at hi;exact hi
 have hsn:(next++[row2])[next.length]?=some row2:=zAH _ _
 refine ⟨hr.ord,?_,by simp [h.alen],?_,?_,?_,?_⟩
 ·rw [he];simp;omega
 ·intro s r cs hs hcs
  rcases zAI hs with ⟨h1,h2⟩|⟨h1,h2⟩
  ·obtain ⟨q1,q2⟩:=h.row s r cs h2 (hold2 s cs (by have:=h.nlen;omega) hcs)
   refine ⟨q1,fun c hc=>?_⟩
   rcases q2 c hc with q|⟨i,t,q3,q4,q5⟩
   ·exact .inl q
   ·exact .inr ⟨i,t,q3,hold _ _ q4,q5⟩
  ·subst h1;subst h2
   have hcc:=hold2 _ _ hlt hcs
   rw [hcur] at hcc;cases hcc
   exact ⟨hr.len,fun c hc=>hr.at' c hc⟩
 ·intro s cs hs hcs
  rw [List.length_append,List.length_singleton] at hs
  by_cases e1:s<next.length
  ·exact zAf (h.acc s cs e1 (hold2 s cs (by have:=h.nlen;omega) hcs))
  ·have e2:s=next.length:=by omega
   subst e2
   have hcc:=hold2 _ _ hlt hcs
   rw [hcur] at hcc;cases hcc
   rw [←h.alen];exact zAH _ _
 ·intro u h0 h1
  by_cases e1:u<order.length
  ·obtain ⟨s,c,r,q1,q2,q3,q4⟩:=h.met u h0 e1
   exact ⟨s,c,r,q1,q2,zAf q3,q4⟩
  ·obtain ⟨d,hd,hrd⟩:=hr.new u (by omega) h1
   exact ⟨next.length,d,row2,by omega,hd,hsn,hrd⟩
 ·intro s c r t hs hc ht u hu1 hu2
  rcases zAI hs with ⟨h1,h2⟩|⟨h1,h2⟩
  ·obtain ⟨s2,c2,r2,q1,q2,q3,q4⟩:=h.first s c r t h2 hc ht u hu1 hu2
   exact ⟨s2,c2,r2,q1,q2,zAf q3,q4⟩
  ·subst h1;subst h2
   by_cases e1:u<order.length
   ·obtain ⟨s,c3,r3,q1,q2,q3,q4⟩:=h.met u hu1 e1
    exact ⟨s,c3,r3,.inl (List.getElem?_eq_some_iff.1 q3).1,q2,zAf q3,q4⟩
   ·obtain ⟨e,he1,he2⟩:=hr.first c t hc ht u (by omega) hu2
    exact ⟨next.length,e,r,.inr ⟨rfl,he1⟩,by omega,hsn,he2⟩
theorem Nf.self:∀ l:List Value,Nf l l
 | []=>Nf.nil
 | x::l=>Nf.cons x (Nf.self l)
theorem zNo {P:Program}{f:FuncId}{args:Array Value}{ro:Ro}{l own' own:Chs}{K:Value→Ro→Chs→Prop} (hp:own.Perm (l++own')) (h:∀ ro',Le ro ro'→(∀ c∈l,c.holds ro')→CallOk P f args ro' own' K):CallOk P f args ro own K :=
 ⟨fun w hw=>by
  obtain ⟨r1,h1,h2,h3⟩:=Sat.freezeL (hw.perm hp)
  exact ((h r1 h1 h2).run w h3).mono fun v w' ⟨hh,ro2,own2,hl2,hs2,hk⟩=>⟨hh,ro2,own2,h1.trans hl2,hs2,hk⟩⟩
structure RowsH (ro:Ro) (rows:List (List Int)) (H:List Value):Prop where
 len:H.length=rows.length
 row:∀ (i:Nat) (row:List Int),rows[i]?=some row→∃ (ar:Option Addr) (cr:Nat),H[i]?=some (.slice ar row.length cr)∧Rs ro ar row.length cr 1 (row.map (Value.int .i64))
theorem RowsH.nil (ro:Ro):RowsH ro [] []:=⟨rfl,fun i row h=>by simp at h⟩
theorem RowsH.le {ro ro':Ro}{rows:List (List Int)}{H:List Value} (h:RowsH ro rows H) (hl:Le ro ro'):RowsH ro' rows H:=⟨h.len,fun i row hr=>by
 obtain ⟨ar,cr,h1,h2⟩:=h.row i row hr
 exact ⟨ar,cr,h1,Rs.up h2⟩⟩
theorem RowsH.snoc {ro:Ro}{rows:List (List Int)}{H:List Value} (h:RowsH ro rows H) {row:List Int}{ar:Option Addr}{cr:Nat} (hr:Rs ro ar row.length cr 1 (row.map (Value.int .i64))):RowsH ro (rows++[row]) (H++[.slice ar row.length cr]):=⟨by simp [h.len],fun i x hx=>by
 rcases zAI hx with ⟨h1,h2⟩|⟨h1,h2⟩
 ·obtain ⟨a,c,p1,p2⟩:=h.row i x h2
  exact ⟨a,c,zAf p1,p2⟩
 ·subst h1;subst h2
  exact ⟨ar,cr,by rw [←h.len];exact zAH _ _,hr⟩⟩
section
variable {ro:Ro}{own r:Chs}{K:Value→Ro→Chs→Prop}{g:Chunk→Chs}
set_option maxHeartbeats 8000000 in
theorem zI3 {q w:Nat}{d:DfaA} (hD:DAt ro q d) (ho:zAt w d) (hs:SurA w d) (hw:w≤256) (hp:0<d.next.length) (hn:d.next.length≤1024)
  (hk:∀ ro' p,Le ro ro'→DAt ro' p (zAR d)→K (ptr' p) ro' own):CallOk Tryz.prog 27 #[ptr' q] ro own K:=by
 obtain ⟨an,cn,aa,ca,hsv,hd⟩:=hD.rd
 have hN:=hd.ldN
 have hA:=hd.ldA
 have hrs:=hd.rs
 have hra:=hd.ra
 have hal:=ho.acc
 have hcm:=hrs.max
 have hcl:=hrs.le
 unfold maxLen at hcm
 have hgf:=(zHk ho hs).ok
 have hgl:=hgf.len
 unfold zAR at hk
 rw [if_neg (by intro e;rw [e] at hp;cases hp)] at hk
 obtain ⟨gr,hgr⟩:∃ gr,gr=grpA d:=⟨_,rfl⟩
 rw [←hgr] at hk hgf hgl
 refine CallOk.intro (args:=[_]) (rs:=[_]) T_ok Tryz.func27 Tryz.call27 rfl rfl (by kernel_rfl) rfl rfl ?_
 repeat first|exact zE|refine zP ?_|refine zB fun b=>?_|refine zC fun a' c' hc1 hc2=>?_|(apply GJ.a;exact rfl;intro hg)|(apply GJ.o;exact rfl;intro hg)
 refine zBP hD ?_
 repeat first|exact zE|refine zP ?_|refine zB fun b=>?_|refine zC fun a' c' hc1 hc2=>?_|(apply GJ.a;exact rfl;intro hg)|(apply GJ.o;exact rfl;intro hg)
 refine zLz hD ho hs (by omega) hw (fun ag cg g1 g2=>?_)
 rw [←hgr]
 have hgI:=zAO gr
 obtain ⟨z0,hz0⟩:∃ z,gr[0]?=some z:=⟨_,List.getElem?_eq_getElem (by omega)⟩
 have hb0:=bang hz0
 have hb1:gr[Int.toNat 0]! = z0:=hb0
 rw [zB9 hz0] at hk
 by_cases h0:z0=-1
 ·rw [if_pos h0] at hk
  subst h0
  repeat first|exact zE|refine zP ?_|refine zB fun b=>?_|refine zC fun a' c' hc1 hc2=>?_|(apply GJ.a;exact rfl;intro hg)|(apply GJ.o;exact rfl;intro hg)
  refine Wk.freezeL (l:=[_,_,_,_]) (.refl _) (fun ro2 hl2 hc2=>?_)
  refine Wk.outS (Sup.drop _ (Sup.drop _ (Sup.all _))) (.refl _) (hk ro2 _ hl2 ?_)
  refine ⟨⟨_,_,_,_,_,hc2 _ (List.mem_cons_self ..),by simp [deadA],Rs.last (hc2 _ (List.mem_cons_of_mem _ (List.mem_cons_of_mem _ (List.mem_cons_self ..)))),fun i row hi=>?_,Rs.last (hc2 _ (List.mem_cons_of_mem _ (List.mem_cons_self ..)))⟩⟩
  cases i with
  | zero =>
    cases hi
    exact ⟨_,_,rfl,Rs.last (hc2 _ (List.mem_cons_of_mem _ (List.mem_cons_of_mem _ (List.mem_cons_of_mem _ (List.mem_cons_self ..)))))⟩
  | succ i=>cases hi
 ·rw [if_neg h0] at hk
  obtain ⟨Z,hZ⟩:∃ Z,Z=ordL d gr (d.next.length+1) [0] [] []:=⟨_,rfl⟩
  rw [←hZ] at hk
  have hl0:zA2 d 0:=Classical.byContradiction fun hh=>h0 (by rw [←zB9 hz0];exact (hgf.dead 0 hp).2 hh)
  have hI0:OrdI d gr w [0] [] []:=⟨⟨rfl,(fun s hs=>by rw [List.mem_singleton] at hs;rw [hs];exact hp),(fun s hs=>by rw [List.mem_singleton] at hs;rw [hs];exact hl0),by simp⟩,by simp,rfl,(fun s r cur hs=>by simp at hs),(fun s cur hs=>by simp at hs),(fun u h0 h1=>by simp at h1;omega),fun s c r t hs=>by simp at hs⟩
  have hM0:=OrdM.start gr
  rw [zB9 hz0] at hM0
  have hwd:=zJE ho hp
  obtain ⟨C0,hC0⟩:∃ C:List Nat,C=List.replicate 256 0:=⟨_,rfl⟩
  have hC0l:C0.length=256:=by rw [hC0];simp
  repeat first|exact zE|refine zP ?_|refine zB fun b=>?_|refine zC fun a' c' hc1 hc2=>?_|(apply GJ.a;exact rfl;intro hg)|(apply GJ.o;exact rfl;intro hg)
  obtain ⟨bO,hbO⟩:∃ z:Nat,z=b:=⟨_,rfl⟩
  subst hbO
  refine OpOk.makeMapG (kv:=Value.int .i64) (vv:=nV) (fun bM=>?_)
  repeat first|exact zE|refine zP ?_|refine zB fun b=>?_|refine zC fun a' c' hc1 hc2=>?_|(apply GJ.a;exact rfl;intro hg)|(apply GJ.o;exact rfl;intro hg)
  rw [hb1]
  refine OpOk.insertG (OpOk.mapUpdateG (kt:=3) (et:=3) (kv:=Value.int .i64) (vv:=nV) (k:=z0) (v:=0) rfl rfl rfl (by kernel_rfl) (KeyEnc.int (by kernel_rfl)) MapOk.nil trivial (fun c1=>?_))
  repeat first|exact zE|refine zP ?_|refine zB fun b=>?_|refine zC fun a' c' hc1 hc2=>?_|(apply GJ.a;exact rfl;intro hg)|(apply GJ.o;exact rfl;intro hg)
  refine LoopOk.auto (ι:=(List Nat × Option Addr × Nat) × (List (List Int) × List Value × Option Addr × Nat) × (List Bool × Option Addr × Nat) × List (Int × Nat × Nat) × Nat) Keep.z (fun ((order,ao,co),(nx,H,an2,cn2),(acc,aa2,ca2),M,cM)=>[(7,.int .i64 (nx.length:Int)),(6,.slice ao order.length co)])
   (fun ((order,ao,co),(nx,H,an2,cn2),(acc,aa2,ca2),M,cM)=>.sl ao order.length co 3 1 (zAq order)::.obj bM (mapG (Value.int .i64) nV M cM)::.blk bO 83 (autV C0 (.slice an2 nx.length cn2) (.slice aa2 acc.length ca2))::.sl an2 nx.length cn2 84 1 H::.sl aa2 acc.length ca2 4 1 (zAh acc)::.sl ag d.next.length cg 3 1 (intV gr)::own)
   (fun ((order,ao,co),(nx,H,an2,cn2),(acc,aa2,ca2),M,cM) ro2=>OrdI d gr w order nx acc∧ordL d gr (d.next.length+1-nx.length) order nx acc=Z∧OrdM gr order M∧RowsH ro2 nx H∧(order.length≤co∧co≤maxLen)∧(nx.length≤cn2∧cn2≤maxLen)∧(acc.length≤ca2∧ca2≤maxLen))
   (fun ((order,ao,co),(nx,H,an2,cn2),(acc,aa2,ca2),M,cM)=>d.next.length-nx.length) (([0],some ⟨b,0,none⟩,1),([],[],none,0),([],none,0),_,_) ?_ Sub.z (by subst hC0;exact Sup.z) ?_
  ·exact ⟨hI0,hZ.symm,hM0 0,RowsH.nil _,⟨Nat.le_refl _,by unfold maxLen;decide⟩,⟨Nat.le_refl _,Nat.zero_le _⟩,⟨Nat.le_refl _,Nat.zero_le _⟩⟩
  rintro ⟨⟨order,ao,co⟩,⟨nx,H,an2,cn2⟩,⟨acc,aa2,ca2⟩,M,cM⟩ ro2 hl2 ⟨i1,i2,i3,i4,⟨i5,i6⟩,⟨i7,i8⟩,⟨i9,i10⟩⟩
  dsimp only [List.cons_append,List.nil_append] at i1 i2 i3 i4 i5 i6 i7 i8 i9 i10 ⊢
  have hol:=zGX (w:=w) i1.ord
  have hnl:=i1.nlen
  have hacl:=i1.alen
  have hHl:=i4.len
  by_cases hlt:nx.length<order.length
  ·obtain ⟨cur,hcur⟩:∃ cur,order[nx.length]?=some cur:=⟨_,List.getElem?_eq_getElem hlt⟩
   have hcn:=i1.ord.lt cur (List.mem_of_getElem? hcur)
   have hbc:=bang hcur
   obtain ⟨F,hF⟩:∃ F,d.next.length+1-nx.length=F+1:=⟨d.next.length-nx.length,by omega⟩
   rw [hF,ordL,hcur] at i2
   dsimp only at i2
   rw [hwd] at i2
   have hR0:RowI d gr cur w order order (List.replicate w 0) 0:=⟨⟨[],by simp⟩,by simp,i1.ord,fun d hd=>by omega,fun i h1 h2=>by omega,fun d t hd=>by omega⟩
   have hRf:=fun k c o r (h:c+k≤256)=>zFz (cur:=cur) (base:=order) (w:=w) ho hgf k c o r h
   obtain ⟨R,hR⟩:∃ R,R=rowO d gr cur 256 0 order (List.replicate w 0):=⟨_,rfl⟩
   rw [←hR] at i2
   repeat first|exact zE|refine zP ?_|refine zB fun b=>?_|refine zC fun a' c' hc1 hc2=>?_|(apply GJ.a;exact rfl;intro hg)|(apply GJ.o;exact rfl;intro hg)
   refine zN6 (hD.le hl2) ?_
   rw [hwd]
   repeat first|exact zE|refine zP ?_|refine zB fun b=>?_|refine zC fun a' c' hc1 hc2=>?_|(apply GJ.a;exact rfl;intro hg)|(apply GJ.o;exact rfl;intro hg)
   rw [Int.toNat_natCast,zCI]
   obtain ⟨bR,hbR⟩:∃ z:Nat,z=b:=⟨_,rfl⟩
   subst hbR
   refine LoopOk.at (ι:=Nat × (List Nat × Option Addr × Nat) × List Int × List (Int × Nat × Nat) × Nat) Keep.z (fun (c,(order,ao,co),row,M,cM)=>[(47,.int .i64 (c:Int)),(6,.slice ao order.length co)])
    (fun (c,(order,ao,co),row,M,cM)=>.sl (some ⟨bR,0,none⟩) w w 3 1 (intV row)::.sl ao order.length co 3 1 (zAq order)::.obj bM (mapG (Value.int .i64) nV M cM)::.blk bO 83 (autV C0 (.slice an2 nx.length cn2) (.slice aa2 acc.length ca2))::.sl an2 nx.length cn2 84 1 H::.sl aa2 acc.length ca2 4 1 (zAh acc)::.sl ag d.next.length cg 3 1 (intV gr)::own)
    (fun (c,(order2,ao,co),row,M,cM)=>c≤256∧RowI d gr cur w order order2 row c∧rowO d gr cur (256-c) c order2 row=R∧OrdM gr order2 M∧(order2.length≤co∧co≤maxLen)) (fun (c,(order,ao,co),row,M,cM)=>256-c) (0,(order,ao,co),List.replicate w 0,M,cM) ?_ Sub.z Sup.z ?_
   ·exact ⟨Nat.zero_le _,hR0,hR.symm,i3,⟨i5,i6⟩⟩
   clear i3 i5 i6
   rintro ⟨c,⟨order2,ao2,co2⟩,row,M2,cM2⟩ ⟨c1,c2,c3,c4,⟨c5,c6⟩⟩
   dsimp only [List.cons_append,List.nil_append] at c1 c2 c3 c4 c5 c6 ⊢
   obtain ⟨eo,heo⟩:=c2.pre
   have hlt2:nx.length<order2.length:=by rw [heo];simp;omega
   have hcur2:order2[nx.length]?=some cur:=by rw [heo,List.getElem?_append_left hlt];exact hcur
   have hbc2:=bang hcur2
   have hol2:=zGX (w:=w) c2.ord
   have hrl2:=c2.len
   have hiv2:=zAO row
   by_cases hc:c<256
   ·obtain ⟨hcw,hcc⟩:=zI8 ho hc
    have hC:=hd.ldC c _ hcc
    have hst:=hRf (0+1) c order2 row (by omega) c2
    rw [show 256-c=(256-(c+1))+1 by omega,rowO] at c3
    rw [rowO] at hst
    obtain ⟨k',nrow,p1,p2,p3,p4⟩:=zBb ho hcn hc
    rw [hcc] at p1;cases p1
    obtain ⟨ar,cr,q1,q2⟩:=hd.rows cur nrow p3
    have hnw:=ho.row nrow (List.mem_of_getElem? p3)
    have hzt:=zAE ho (cur:Int) hc
    have hbn:=bang p4
    generalize zAb d (cur:Int) c=z at *
    generalize clsA d c=kk at *
    have hrs2:=zAO (row.set kk (-1))
    rw [List.length_set] at hrs2
    have hset:∀ v:Int,(intV (row.set kk (-1))).set kk (.int .i64 v)=intV (row.set kk v):=fun v=>by rw [zAz,List.set_set]
    rcases hzt with hz|⟨u,hz,hu⟩
    ·have hgz:zA5 gr z=-1:=by rw [hz];rfl
     rw [if_pos hgz] at c3 hst
     rw [rowO] at hst
     subst hz
     repeat first|exact zE|refine zP ?_|refine zB fun b=>?_|refine zC fun a' c' hc1 hc2=>?_|(apply GJ.a;exact rfl;intro hg)|(apply GJ.o;exact rfl;intro hg)
     refine OpOk.load rfl rfl (hC.ldE (by simp)) ?_
     repeat first|exact zE|refine zP ?_|refine zB fun b=>?_|refine zC fun a' c' hc1 hc2=>?_|(apply GJ.a;exact rfl;intro hg)|(apply GJ.o;exact rfl;intro hg)
     refine OpOk.storeSlAt' (k:=kk) rfl rfl rfl rfl (by rw [Int.toNat_natCast]) (by omega) ?_
     rw [zAz]
     repeat first|exact zE|refine zP ?_|refine zB fun b=>?_|refine zC fun a' c' hc1 hc2=>?_|(apply GJ.a;exact rfl;intro hg)|(apply GJ.o;exact rfl;intro hg)
     repeat (first|exact zE|refine wkU ?_|(show QOk _ _ _ _ _ _ _;refine QOk.build rfl rfl Nf.auto ?_)|(show GJ _ _ _ _ _ _ _;first|with_reducible refine GJ.neF ?_|with_reducible refine GJ.neT ?_)|(show Br _ _ _;with_reducible refine Br.ne ?_)|refine zB (fun b=>?_)|refine zC (fun a' c' hc1 hc2=>?_)|(apply GJ.a;exact rfl;intro hg)|(apply GJ.o;exact rfl;intro hg))
     refine QOk.load rfl rfl (Go.E.Ld.rs hrs (by rw [hbc2,Int.toNat_natCast];exact q1)) ?_
     repeat first|exact zE|refine zP ?_|refine zB fun b=>?_|refine zC fun a' c' hc1 hc2=>?_|(apply GJ.a;exact rfl;intro hg)|(apply GJ.o;exact rfl;intro hg)
     repeat first|exact zE|refine zP ?_|refine zB fun b=>?_|refine zC fun a' c' hc1 hc2=>?_|(apply GJ.a;exact rfl;intro hg)|(apply GJ.o;exact rfl;intro hg)
     refine Wk.id ⟨(c+1,(order2,ao2,co2),row.set kk (-1),M2,cM2),⟨rfl,?_⟩,?_,Sub.z,Sup.z⟩
     all_goals try dsimp only
     ·exact ⟨by omega,hst,c3,c4,⟨c5,c6⟩⟩
     ·omega
    ·subst hz
     obtain ⟨y,hy⟩:∃ y,gr[u]?=some y:=⟨_,List.getElem?_eq_getElem (by omega)⟩
     have hgz:zA5 gr (u:Int)=y:=by unfold zA5;rw [if_pos (by omega),Int.toNat_natCast,zB9 hy]
     have hby:=bang hy
     have hby2:gr[(nrow[((kk:Nat):Int).toNat]!).toNat]! = y:=by rw [hbn];exact hby
     rw [hgz] at c3 hst
     by_cases hy1:y=-1
     ·rw [if_pos hy1] at c3 hst
      rw [rowO] at hst
      repeat first|exact zE|refine zP ?_|refine zB fun b=>?_|refine zC fun a' c' hc1 hc2=>?_|(apply GJ.a;exact rfl;intro hg)|(apply GJ.o;exact rfl;intro hg)
      refine OpOk.load rfl rfl (hC.ldE (by simp)) ?_
      repeat first|exact zE|refine zP ?_|refine zB fun b=>?_|refine zC fun a' c' hc1 hc2=>?_|(apply GJ.a;exact rfl;intro hg)|(apply GJ.o;exact rfl;intro hg)
      refine OpOk.storeSlAt' (k:=kk) rfl rfl rfl rfl (by rw [Int.toNat_natCast]) (by omega) ?_
      rw [zAz]
      repeat first|exact zE|refine zP ?_|refine zB fun b=>?_|refine zC fun a' c' hc1 hc2=>?_|(apply GJ.a;exact rfl;intro hg)|(apply GJ.o;exact rfl;intro hg)
      repeat (first|exact zE|refine wkU ?_|(show QOk _ _ _ _ _ _ _;refine QOk.build rfl rfl Nf.auto ?_)|(show GJ _ _ _ _ _ _ _;first|with_reducible refine GJ.neF ?_|with_reducible refine GJ.neT ?_)|(show Br _ _ _;with_reducible refine Br.ne ?_)|refine zB (fun b=>?_)|refine zC (fun a' c' hc1 hc2=>?_)|(apply GJ.a;exact rfl;intro hg)|(apply GJ.o;exact rfl;intro hg))
      refine QOk.load rfl rfl (Go.E.Ld.rs hrs (by rw [hbc2,Int.toNat_natCast];exact q1)) ?_
      repeat first|exact zE|refine zP ?_|refine zB fun b=>?_|refine zC fun a' c' hc1 hc2=>?_|(apply GJ.a;exact rfl;intro hg)|(apply GJ.o;exact rfl;intro hg)
      repeat first|exact zE|refine zP ?_|refine zB fun b=>?_|refine zC fun a' c' hc1 hc2=>?_|(apply GJ.a;exact rfl;intro hg)|(apply GJ.o;exact rfl;intro hg)
      refine Wk.id ⟨(c+1,(order2,ao2,co2),row.set kk (-1),M2,cM2),⟨rfl,?_⟩,?_,Sub.z,Sup.z⟩
      all_goals try dsimp only
      ·exact ⟨by omega,hst,c3,c4,⟨c5,c6⟩⟩
      ·omega
     ·rw [if_neg hy1] at c3 hst
      have hat:=c4.at' y
      repeat first|exact zE|refine zP ?_|refine zB fun b=>?_|refine zC fun a' c' hc1 hc2=>?_|(apply GJ.a;exact rfl;intro hg)|(apply GJ.o;exact rfl;intro hg)
      refine OpOk.load rfl rfl (hC.ldE (by simp)) ?_
      repeat first|exact zE|refine zP ?_|refine zB fun b=>?_|refine zC fun a' c' hc1 hc2=>?_|(apply GJ.a;exact rfl;intro hg)|(apply GJ.o;exact rfl;intro hg)
      refine OpOk.storeSlAt' (k:=kk) rfl rfl rfl rfl (by rw [Int.toNat_natCast]) (by omega) ?_
      rw [zAz]
      repeat first|exact zE|refine zP ?_|refine zB fun b=>?_|refine zC fun a' c' hc1 hc2=>?_|(apply GJ.a;exact rfl;intro hg)|(apply GJ.o;exact rfl;intro hg)
      repeat (first|exact zE|refine wkU ?_|(show QOk _ _ _ _ _ _ _;refine QOk.build rfl rfl Nf.auto ?_)|(show GJ _ _ _ _ _ _ _;first|with_reducible refine GJ.neF ?_|with_reducible refine GJ.neT ?_)|(show Br _ _ _;with_reducible refine Br.ne ?_)|refine zB (fun b=>?_)|refine zC (fun a' c' hc1 hc2=>?_)|(apply GJ.a;exact rfl;intro hg)|(apply GJ.o;exact rfl;intro hg))
      refine QOk.load rfl rfl (Go.E.Ld.rs hrs (by rw [hbc2,Int.toNat_natCast];exact q1)) ?_
      repeat first|exact zE|refine zP ?_|refine zB fun b=>?_|refine zC fun a' c' hc1 hc2=>?_|(apply GJ.a;exact rfl;intro hg)|(apply GJ.o;exact rfl;intro hg)
      rw [hby2]
      refine OpOk.lookupOkG (kt:=3) (et:=3) (kv:=Value.int .i64) (vv:=nV) (k:=y) (z:=.int .i64 0) rfl rfl (by kernel_rfl) (KeyEnc.int (by kernel_rfl)) c4.map trivial (by kernel_rfl) ?_
      rw [hat]
      cases hidx:order2.findIdx? (fun s=>zAk gr s == y) with
      | some m =>
        rw [hidx] at c3 hst
        dsimp only at c3 hst
        rw [rowO] at hst
        simp only [Option.map_some,Option.getD_some,Option.isSome_some,nV]
        repeat first|exact zE|refine zP ?_|refine zB fun b=>?_|refine zC fun a' c' hc1 hc2=>?_|(apply GJ.a;exact rfl;intro hg)|(apply GJ.o;exact rfl;intro hg)
        refine OpOk.storeSlAt' (k:=kk) rfl rfl rfl rfl (by rw [Int.toNat_natCast]) (by omega) ?_
        rw [hset]
        repeat first|exact zE|refine zP ?_|refine zB fun b=>?_|refine zC fun a' c' hc1 hc2=>?_|(apply GJ.a;exact rfl;intro hg)|(apply GJ.o;exact rfl;intro hg)
        repeat first|exact zE|refine zP ?_|refine zB fun b=>?_|refine zC fun a' c' hc1 hc2=>?_|(apply GJ.a;exact rfl;intro hg)|(apply GJ.o;exact rfl;intro hg)
        refine Wk.id ⟨(c+1,(order2,ao2,co2),row.set kk (m:Int),M2,cM2),⟨rfl,?_⟩,?_,Sub.z,Sup.z⟩
        all_goals try dsimp only
        ·exact ⟨by omega,hst,c3,c4,⟨c5,c6⟩⟩
        ·omega
      | none =>
        rw [hidx] at c3 hst
        dsimp only at c3 hst
        rw [rowO,Int.toNat_natCast] at hst
        rw [Int.toNat_natCast] at c3
        have hpu:=c4.push (s:=u) (by rw [zB9 hy];exact hidx) cM2
        rw [zB9 hy] at hpu
        have hnat:zAq order2++[.int .i64 (u:Int)]=zAq (order2++[u]):=by simp [zAq]
        have hnl2:order2.length+1=(order2++[u]).length:=by simp
        simp only [Option.map_none,Option.getD_none,Option.isSome_none]
        repeat first|exact zE|refine zP ?_|refine zB fun b=>?_|refine zC fun a' c' hc1 hc2=>?_|(apply GJ.a;exact rfl;intro hg)|(apply GJ.o;exact rfl;intro hg)
        rw [hby2]
        refine OpOk.mapUpdateG (kt:=3) (et:=3) (kv:=Value.int .i64) (vv:=nV) (k:=y) (v:=order2.length) rfl rfl rfl (by kernel_rfl) (KeyEnc.int (by kernel_rfl)) c4.map trivial (fun cM3=>?_)
        generalize putG M2 cM2 y order2.length=M3 at *
        repeat first|exact zE|refine zP ?_|refine zB fun b=>?_|refine zC fun a' c' hc1 hc2=>?_|(apply GJ.a;exact rfl;intro hg)|(apply GJ.o;exact rfl;intro hg)
        rw [hbn,hnat,hnl2]
        rw [hnl2] at hc1
        refine OpOk.storeSlAt' (k:=kk) rfl rfl rfl rfl (by rw [Int.toNat_natCast]) (by omega) ?_
        rw [hset]
        repeat first|exact zE|refine zP ?_|refine zB fun b=>?_|refine zC fun a' c' hc1 hc2=>?_|(apply GJ.a;exact rfl;intro hg)|(apply GJ.o;exact rfl;intro hg)
        repeat first|exact zE|refine zP ?_|refine zB fun b=>?_|refine zC fun a' c' hc1 hc2=>?_|(apply GJ.a;exact rfl;intro hg)|(apply GJ.o;exact rfl;intro hg)
        refine Wk.id ⟨(c+1,(order2++[u],a',c'),row.set kk (order2.length:Int),M3,cM3),⟨rfl,?_⟩,?_,Sub.z,Sup.z⟩
        all_goals try dsimp only
        ·exact ⟨by omega,hst,c3,hpu,⟨hc1,hc2⟩⟩
        ·omega
   ·have hc6:c=256:=by omega
    subst hc6
    have hst:=i1.step hcur c2
    rw [Nat.sub_self,rowO] at c3
    subst c3
    obtain ⟨pv,hpv⟩:∃ p,d.acc[cur]?=some p:=⟨_,List.getElem?_eq_getElem (by omega)⟩
    have hbp:=bang hpv
    have hbp2:d.acc[(order2[((nx.length:Nat):Int).toNat]!:Int).toNat]! = pv:=by rw [hbc2];exact hbp
    have hacn:zAh acc++[.bool pv]=zAh (acc++[pv]):=by simp [zAh]
    have hnn:nx.length+1=(nx++[row]).length:=by simp
    have hnnI:(nx.length:Int)+1=((nx++[row]).length:Int):=by simp
    have han:acc.length+1=(acc++[pv]).length:=by simp
    rw [zCJ hpv] at hst i2
    dsimp only at i2
    repeat first|exact zE|refine wkT ?_|refine zB fun b=>?_|refine zC fun a' c' hc1 hc2=>?_|(apply GJ.a;exact rfl;intro hg)|(apply GJ.o;exact rfl;intro hg)
    obtain ⟨aN,haN⟩:∃ z,z=a':=⟨_,rfl⟩
    subst haN
    obtain ⟨cN,hcN⟩:∃ z,z=c':=⟨_,rfl⟩
    subst hcN
    have hq1:=hc1
    have hq2:=hc2
    refine Bs.mk ⟨[.sl ao2 order2.length co2 3 1 (zAq order2),.blk bO 83 (autV C0 (.slice aN (nx.length+1) cN) (.slice aa2 acc.length ca2))],Sup.z,?_⟩
    repeat (first|exact zE|refine wkU ?_|(show QOk _ _ _ _ _ _ _;refine QOk.build rfl rfl Nf.auto ?_)|(show GJ _ _ _ _ _ _ _;first|with_reducible refine GJ.neF ?_|with_reducible refine GJ.neT ?_)|(show Br _ _ _;with_reducible refine Br.ne ?_)|refine zB (fun b=>?_)|refine zC (fun a' c' hc1 hc2=>?_)|(apply GJ.a;exact rfl;intro hg)|(apply GJ.o;exact rfl;intro hg))
    rw [hbp2,hacn,hnnI,hnn,han]
    rw [hnn] at hq1
    rw [han] at hc1
    repeat first|exact zE|refine zP ?_|refine zB fun b=>?_|refine zC fun a' c' hc1 hc2=>?_|(apply GJ.a;exact rfl;intro hg)|(apply GJ.o;exact rfl;intro hg)
    refine Wk.freeze (c:=.sl (some ⟨bR,0,none⟩) _ _ _ _ _) Take.auto (fun ro3 hl3 hc3=>?_)
    have hrR:Rs ro3 (some ⟨bR,0,none⟩) row.length w 1 (row.map (Value.int .i64)):=by rw [hrl2];exact Rs.last hc3
    have hRH:=(i4.le hl3).snoc hrR
    rw [hrl2] at hRH
    refine Wk.id ⟨((order2,ao2,co2),(nx++[row],H++[.slice (some ⟨bR,0,none⟩) w w],aN,cN),(acc++[pv],a',c'),M2,cM2),?_,?_,Sub.z,Sup.z⟩
    all_goals try dsimp only
    ·refine ⟨hst,?_,c4,hRH,⟨c5,c6⟩,⟨hq1,hq2⟩,⟨hc1,hc2⟩⟩
     rw [show d.next.length+1-(nx++[row]).length=F by simp;omega]
     exact i2
    ·simp;omega
  ·obtain ⟨F,hF⟩:∃ F,d.next.length+1-nx.length=F+1:=⟨d.next.length-nx.length,by omega⟩
   rw [hF,ordL,List.getElem?_eq_none (by omega)] at i2
   dsimp only at i2
   obtain ⟨q1,q2,q3⟩:=zJb ho hs (hgr▸zHk ho hs) i1 (by omega)
   have hlc:∀ own',LdN ro2 own' q (0+0) (clsV d.cls):=fun own'=>by
    have:=LdN.part 0 256 (LdN.lastBlk (own:=own') (hl2.le _ _ hd.row))
    rwa [List.drop_zero,show (autV d.cls (.slice an d.next.length cn) (.slice aa d.acc.length ca)).take 256=clsV d.cls by unfold autV;rw [List.take_append_of_le_length (by rw [zA0,hd.c256];exact Nat.le_refl _),List.take_of_length_le (by rw [zA0,hd.c256];exact Nat.le_refl _)]] at this
   have hl6:(clsV d.cls).length=256:=by rw [zA0,hd.c256]
   have hone:(clsV d.cls).all (fun u=>u.oneCell')=true:=by rw [List.all_eq_true];intro u hu;obtain ⟨c,_,rfl⟩:=List.mem_map.1 hu;rfl
   have hsp:Go.E.splice (autV C0 (.slice an2 nx.length cn2) (.slice aa2 acc.length ca2)) (0+0) (clsV d.cls)=autV d.cls (.slice an2 nx.length cn2) (.slice aa2 acc.length ca2):=by
    have e1:(clsV C0).length=256:=by rw [zA0,hC0l]
    unfold Go.E.splice autV
    rw [Nat.add_zero,List.take_zero,List.nil_append,Nat.zero_add,hl6,List.drop_append,e1,Nat.sub_self,List.drop_zero,List.drop_eq_nil_of_le (by omega),List.nil_append]
   repeat first|exact zE|refine zP ?_|refine zB fun b=>?_|refine zC fun a' c' hc1 hc2=>?_|(apply GJ.a;exact rfl;intro hg)|(apply GJ.o;exact rfl;intro hg)
   refine OpOk.loadRow rfl rfl (hlc _) hl6 ?_
   repeat first|exact zE|refine zP ?_|refine zB fun b=>?_|refine zC fun a' c' hc1 hc2=>?_|(apply GJ.a;exact rfl;intro hg)|(apply GJ.o;exact rfl;intro hg)
   refine OpOk.storePart rfl rfl rfl hl6 hone (by rw [zDA hC0l];omega) (cs':=autV d.cls (.slice an2 nx.length cn2) (.slice aa2 acc.length ca2)) (by rw [hsp];exact Nf.self _) ?_
   repeat first|exact zE|refine zP ?_|refine zB fun b=>?_|refine zC fun a' c' hc1 hc2=>?_|(apply GJ.a;exact rfl;intro hg)|(apply GJ.o;exact rfl;intro hg)
   refine zNo (l:=[.blk bO 83 (autV d.cls (.slice an2 nx.length cn2) (.slice aa2 acc.length ca2)),.sl an2 nx.length cn2 84 1 H,.sl aa2 acc.length ca2 4 1 (zAh acc)]) (own':=.sl ao order.length co 3 1 (zAq order)::.obj bM (mapG (Value.int .i64) nV M cM)::.sl ag d.next.length cg 3 1 (intV gr)::own) ?_ (fun ro3 hl3 hc3=>?_)
   ·exact (List.perm_append_comm (l₁:=[_,_]) (l₂:=[_,_,_])).append_right _
   have hDt:DAt ro3 bO ⟨d.cls,nx,acc⟩:=⟨⟨an2,cn2,aa2,ca2,H,hc3 _ (List.mem_cons_self ..),hd.c256,by rw [←hHl];exact Rs.last (by rw [hHl];exact hc3 _ (List.mem_cons_of_mem _ (List.mem_cons_self ..))),fun i row hi=>(i4.le hl3).row i row hi,Rs.last (hc3 _ (List.mem_cons_of_mem _ (List.mem_cons_of_mem _ (List.mem_cons_self ..))))⟩⟩
   refine zLx hDt q1 (by dsimp only;omega) (fun ro4 p4 hl4 hp4=>?_)
   rw [←i2] at hk
   repeat first|exact zE|refine zP ?_|refine zB fun b=>?_|refine zC fun a' c' hc1 hc2=>?_|(apply GJ.a;exact rfl;intro hg)|(apply GJ.o;exact rfl;intro hg)
   exact Wk.outS Sup.z (.refl _) (hk ro4 p4 ((hl2.trans hl3).trans hl4) hp4)
end
end Go.Proofs.YtmaennnkaoollaaGreatDoor
end
section
namespace Go.E
open Go
theorem AllOk.keep {P:Program}{T:TT}{all:List Oper}{B:Chs}{fo:Fo}{env:Env}{ro:Ro}{own:Chs}{k:Kt}{ι:Type} (f:ι→Env) (O:ι→Chs) (I:ι→Prop)
  (h:vFo P T all B (fun env' ro' own'=>ro'=ro∧∃ i,Sub (f i++env) env'∧Sup own' (O i)∧I i) fo env ro own) (hk:∀ i,I i→k (f i++env) ro (O i)):AllOk (fun Φ=>vFo P T all B Φ fo env ro own) k ro :=
 AllOk.at (fun i=>f i++env) O I h hk
theorem LoopOk.drop {ws:List Nat}{A:Kt→Kt}{env:Env}{ro:Ro}{own:Chs}{ι:Type}{env0:Env} (ds:List Nat) (hk:Keep (ds++ws) env env0) (f:ι→Env) (O:ι→Chs) (I:ι→Ro→Prop) (μ:ι→Nat) (i0:ι) (hI:I i0 ro) (hs:Sub (f i0) env) (ho:Sup own (O i0))
  (round:∀ i ro',Le ro ro'→I i ro'→A (Wk fun env ro own=>∃ j,I j ro∧μ j<μ i∧Sub (f j++env0) env∧Sup own (O j)) (f i++env0) ro' (O i)):LoopOk ws A env ro own :=
 .intro (fun i=>f i++env0) O I μ (.id ⟨i0,hI,hs.append (Sub.of fun p hp=>(hk.spec p hp).2),ho⟩) round
theorem LoopOk.drop0 {ws:List Nat}{A:Kt→Kt}{env:Env}{ro:Ro}{own:Chs}{ι:Type}{env0:Env} (ds:List Nat) (hk:Keep (ds++ws) env env0) (f:ι→Env) (O:ι→Chs) (I:ι→Prop) (μ:ι→Nat) (i0:ι) (hI:I i0) (hs:Sub (f i0) env) (ho:Sup own (O i0))
  (round:∀ i,I i→A (Wk fun env ro' own=>∃ j,(ro'=ro∧I j)∧μ j<μ i∧Sub (f j++env0) env∧Sup own (O j)) (f i++env0) ro (O i)):LoopOk ws A env ro own :=
 LoopOk.drop ds hk f O (fun i r=>r=ro∧I i) μ i0 ⟨rfl,hI⟩ hs ho (fun i ro' _ h=>by obtain ⟨rfl,h⟩:=h;exact round i h)
end Go.E
namespace Go.Proofs.YtmaennnkaoollaaGreatDoor
open Go Go.E
def zCQ (p:Int × Int):Value:=.agg #[.int .i64 p.1,.int .i64 p.2]
def okP (p:Int × Int):Prop:=(Lit.int .i64 p.1).wf=true∧(Lit.int .i64 p.2).wf=true
theorem okP_of {x y:Int} (hx:-1≤x∧x≤1024) (hy:-1≤y∧y≤1024):okP (x,y):=by
 have h:∀ z:Int,-1≤z∧z≤1024→(Lit.int .i64 z).wf=true:=fun z hz=>by
  show (decide (IntKind.i64.min≤z)&&decide (z≤IntKind.i64.max))=true
  rw [show IntKind.i64.min=-9223372036854775808 by decide,show IntKind.i64.max=9223372036854775807 by decide,decide_eq_true (by omega),decide_eq_true (by omega)]
  rfl
 exact ⟨h x hx,h y hy⟩
def pfA : Field := ⟨ "a", 3, 0, false, "", "guipure/auto", 0⟩
def pfB : Field := ⟨ "b", 3, 1, false, "", "guipure/auto", 8⟩
theorem zBk:KeyEnc Tryz.prog 127 zCQ okP:=KeyEnc.pair (q:=.i64) (e:=3) (f1:=pfA) (f2:=pfB) (deep_law_gate (by kernel_rfl) (by decide +kernel) (by decide +kernel) (by kernel_rfl) (by kernel_rfl)) (by kernel_rfl) (by decide +kernel) (by kernel_rfl) (by kernel_rfl) rfl rfl rfl rfl (by kernel_rfl) (by kernel_rfl) (by kernel_rfl)
def prsV (l:List (Int × Int)):List Value:=l.flatMap fun p=>[.int .i64 p.1,.int .i64 p.2]
theorem zFj (l:List (Int × Int)):(prsV l).length=l.length*2:=by
 unfold prsV
 induction l with
 | nil=>rfl
 | cons x l ih =>
   rw [List.flatMap_cons,List.length_append,ih]
   simp only [List.length_cons,List.length_nil]
   omega
theorem zMy (l:List (Int × Int)) (p:Int × Int):prsV l++[.int .i64 p.1,.int .i64 p.2]=prsV (l++[p]):=by
 unfold prsV;rw [List.flatMap_append];simp
theorem zMz:∀ {l:List (Int × Int)}{i:Nat}{p:Int × Int},l[i]?=some p→((prsV l).drop (i*2)).take 2=[.int .i64 p.1,.int .i64 p.2]
 | [],i,p,h=>by simp at h
 | x::l,0,p,h=>by
   simp at h;subst h;rfl
 | x::l,i+1,p,h=>by
   have:=zMz (l:=l) (i:=i) (p:=p) (by simpa using h)
   rw [show (i+1)*2=i*2+2 by omega]
   exact this
theorem zLP {w:Nat}{d:DfaA} (ho:zAt w d) (hn:d.next.length≤1024) (s:Int) {c:Nat} (hc:c<256):-1≤zAb d s c∧zAb d s c≤1024:=by
 rcases zAE ho s hc with h|⟨u,h,hu⟩
 ·omega
 ·omega
theorem ProdI.step {a b:DfaA}{how:Nat}{first:List Nat}{list:List (Int × Int)}{next:List (List Int)}{acc:List Bool}{p:Int × Int}{q:List (Int × Int) × List Int} (hI:ProdI a b how first list next acc) (hp:list[next.length]?=some p) (hq:zDM a b how p first list []=some q) :
  ProdI a b how first q.1 (next++[q.2]) (acc++[accP how (zAD a p.1) (zAD b p.2)]):=by
 have hpl:=(List.getElem?_eq_some_iff.1 hp).1
 obtain ⟨⟨e,he⟩,h2,h3,h4,h5⟩:=zEC first [] list [] q hq rfl rfl hI.le hI.nodup (fun k c z h=>by simp at h)
 have hup:∀ {p:Int × Int}{c:Nat}{z:Int},EntP a b how list p c z→EntP a b how q.1 p c z:=fun {p c z} hh=>by
  rcases hh with h1|⟨n,h1,h2,h3⟩
  ·exact .inl h1
  ·exact .inr ⟨n,h1,by rw [he,List.getElem?_append_left (List.getElem?_eq_some_iff.1 h2).1];exact h2,h3⟩
 have hold:∀ {i:Nat}{x:Int × Int},i<list.length→q.1[i]?=some x→list[i]?=some x:=fun {i x} hi hx=>by rwa [he,List.getElem?_append_left hi] at hx
 refine ⟨by rw [he,List.getElem?_append_left (List.getElem?_eq_some_iff.1 hI.zero).1];exact hI.zero,h3,h4,by rw [he];simp;omega,by simp [hI.alen],fun i x y hx hy=>?_,fun i x y hx hy=>?_⟩
 ·rcases zAI hx with ⟨r1,r2⟩|⟨r1,r2⟩
  ·obtain ⟨s1,s2⟩:=hI.row i x y r2 (hold (by omega) hy)
   exact ⟨s1,fun k c z t1 t2=>hup (s2 k c z t1 t2)⟩
  ·subst r2
   have:=hold (by omega) hy
   rw [r1,hp] at this
   cases this
   exact ⟨h2,h5⟩
 ·rcases zAI hx with ⟨r1,r2⟩|⟨r1,r2⟩
  ·exact hI.acc i x y r2 (hold (by have:=hI.alen;omega) hy)
  ·subst r2
   have:=hold (by have:=hI.alen;omega) hy
   rw [r1,hI.alen,hp] at this
   cases this
   rfl
section
variable {ro:Ro}{own r:Chs}{K:Value→Ro→Chs→Prop}{g:Chunk→Chs}
set_option maxHeartbeats 16000000 in
theorem aprod_ok {q1 q2:Nat}{A B:DfaA}{how:Nat} (h1:DAt ro q1 A) (h2:DAt ro q2 B) (l1:zDl A) (l2:zDl B) (hh:how=1∨how=2∨how=3)
  (hk0:∀ ro',Le ro ro'→zEl A B how=none→K (.tuple #[.pointer none,.int .i64 80]) ro' own)
  (hk1:∀ ro' p P,Le ro ro'→zEl A B how=some P→DAt ro' p (zAR P)→K (.tuple #[ptr' p,.int .i64 0]) ro' own):CallOk Tryz.prog 31 #[ptr' q1,ptr' q2,.int .i64 (how:Int)] ro own K:=by
 obtain ⟨w1,hw1,o1,s1,_,_⟩:=l1.ok
 obtain ⟨w2,hw2,o2,s2,_,_⟩:=l2.ok
 have hp1:=l1.pos
 have hp2:=l2.pos
 have hn1:=l1.le
 have hn2:=l2.le
 have hmade:=fun P (h:zEl A B how=some P)=>(zHU h).1
 unfold zEl at hk0 hk1 hmade
 obtain ⟨seen,hJ⟩:=zFH A B
 obtain ⟨Z,hZ⟩:∃ Z,Z=zGj A B how (zCo A B).2 1025 [(0,0)] [] []:=⟨_,rfl⟩
 rw [←hZ] at hk0 hk1 hmade
 refine CallOk.intro (args:=[_,_,_]) (rs:=[_,_]) T_ok Tryz.func31 Tryz.call31 rfl rfl (by kernel_rfl) rfl rfl ?_
 repeat first|exact zE|refine zP ?_|refine zB fun b=>?_|refine zC fun a' c' hc1 hc2=>?_|(apply GJ.a;exact rfl;intro hg)|(apply GJ.o;exact rfl;intro hg)
 refine zBP h1 ?_
 repeat first|exact zE|refine zP ?_|refine zB fun b=>?_|refine zC fun a' c' hc1 hc2=>?_|(apply GJ.a;exact rfl;intro hg)|(apply GJ.o;exact rfl;intro hg)
 refine zBP h2 ?_
 repeat first|exact zE|refine zP ?_|refine zB fun b=>?_|refine zC fun a' c' hc1 hc2=>?_|(apply GJ.a;exact rfl;intro hg)|(apply GJ.o;exact rfl;intro hg)
 obtain ⟨bP,hbP⟩:∃ z:Nat,z=b:=⟨_,rfl⟩
 subst hbP
 refine CallOk.sup (own0:=.blk bP 83 (autV (List.replicate 256 0) (.slice none 0 0) (.slice none 0 0))::own) Sup.z ?_
 refine zOd h1 h2 o1 o2 hw1 hw2 (fun ro1 af cf hl1 hrf=>?_)
 obtain ⟨cls,hcls⟩:∃ C,C=(zCo A B).1:=⟨_,rfl⟩
 obtain ⟨first,hfirst⟩:∃ C,C=(zCo A B).2:=⟨_,rfl⟩
 rw [←hcls] at hJ hk1 hmade ⊢
 rw [←hfirst] at hJ hZ hrf ⊢
 clear hcls hfirst
 have hcl:cls.length=256:=hJ.olen
 have hcv:=zA0 cls
 repeat first|exact zE|refine zP ?_|refine zB fun b=>?_|refine zC fun a' c' hc1 hc2=>?_|(apply GJ.a;exact rfl;intro hg)|(apply GJ.o;exact rfl;intro hg)
 refine OpOk.storeRow rfl rfl rfl (by rw [hcv];exact hcl) (by simp) (zHw cls) ?_
 repeat first|exact zE|refine zP ?_|refine zB fun b=>?_|refine zC fun a' c' hc1 hc2=>?_|(apply GJ.a;exact rfl;intro hg)|(apply GJ.o;exact rfl;intro hg)
 refine OpOk.loadRow rfl rfl LdN.hasBlk (by rw [hcv];exact hcl) ?_
 repeat first|exact zE|refine zP ?_|refine zB fun b=>?_|refine zC fun a' c' hc1 hc2=>?_|(apply GJ.a;exact rfl;intro hg)|(apply GJ.o;exact rfl;intro hg)
 have hl6:(clsV cls).length=256:=by rw [hcv];exact hcl
 have hsp:Go.E.splice (autV (List.replicate 256 0) (.slice none 0 0) (.slice none 0 0)) (0+0) (clsV cls)=autV cls (.slice none 0 0) (.slice none 0 0):=by
  have e1:(clsV (List.replicate 256 0)).length=256:=by rw [zA0,List.length_replicate]
  unfold Go.E.splice autV
  rw [Nat.add_zero,List.take_zero,List.nil_append,Nat.zero_add,hl6,List.drop_append,e1,Nat.sub_self,List.drop_zero,List.drop_eq_nil_of_le (by omega),List.nil_append]
 refine OpOk.storePart rfl rfl rfl hl6 (zHw cls) (by rw [zDA (by simp)];omega) (cs':=autV cls (.slice none 0 0) (.slice none 0 0)) (by rw [hsp];exact Nf.self _) ?_
 clear hsp
 repeat first|exact zE|refine zP ?_|refine zB fun b=>?_|refine zC fun a' c' hc1 hc2=>?_|(apply GJ.a;exact rfl;intro hg)|(apply GJ.o;exact rfl;intro hg)
 refine OpOk.makeMapG (kv:=zCQ) (vv:=nV) (fun bM=>?_)
 repeat first|exact zE|refine zP ?_|refine zB fun b=>?_|refine zC fun a' c' hc1 hc2=>?_|(apply GJ.a;exact rfl;intro hg)|(apply GJ.o;exact rfl;intro hg)
 have hok0:okP (0,0):=okP_of (by decide) (by decide)
 refine OpOk.insertG (OpOk.mapUpdateG (kt:=127) (et:=3) (kv:=zCQ) (vv:=nV) (k:=(0,0)) (v:=0) rfl rfl rfl (by kernel_rfl) zBk MapOk.nil hok0 (fun c1=>?_))
 have hM0:NumM okP [((0:Int),(0:Int))] (putG [] 0 (0,0) 0):=(NumM.nil (κ:=Int × Int)).push hok0 rfl 0
 generalize putG ([]:List ((Int × Int) × Nat × Nat)) 0 (0,0) 0=M0 at *
 have hI0:ProdI A B how first [(0,0)] [] []:=⟨rfl,by decide,by simp,by decide,rfl,fun i r p h=>by simp at h,fun i x p h=>by simp at h⟩
 have hfl:=hJ.flen
 have hf256:∀ c∈first,c<256:=fun c hc=>by
  obtain ⟨j,hj,e⟩:=List.getElem_of_mem hc
  exact (hJ.first' j c (by rw [List.getElem?_eq_getElem hj,e])).1
 have hfm:=hrf.max
 have hfle:=hrf.le
 unfold maxLen at hfm
 have hfn:first.length≤256:=by
  have h1:first.Nodup:=by
   rw [List.Nodup,List.pairwise_iff_getElem]
   intro i j hi0 hj hij e2
   have hi:=List.getElem?_eq_getElem hi0
   have hj':=List.getElem?_eq_getElem hj
   have q1:=(hJ.first' i _ hi).2.2
   have q2:=(hJ.first' j _ hj').2.2
   rw [e2,q2] at q1
   have:=Option.some.inj q1
   omega
  have h2:first.length≤(List.range 256).length:=zB7 h1 (fun x hx=>List.mem_range.2 (hf256 x hx))
  rwa [List.length_range] at h2
 repeat first|exact zE|refine zP ?_|refine zB fun b=>?_|refine zC fun a' c' hc1 hc2=>?_|(apply GJ.a;exact rfl;intro hg)|(apply GJ.o;exact rfl;intro hg)
 refine LoopOk.drop (List.range' 23 31) (ι:=(List (Int × Int) × Option Addr × Nat) × (List (List Int) × List Value × Option Addr × Nat) × (List Bool × Option Addr × Nat) × List ((Int × Int) × Nat × Nat) × Nat) Keep.z (fun ((list,ao,co),(nx,H,an,cn),(acc,aa,ca),M,cM)=>[(13,.int .i64 (nx.length:Int)),(11,.slice ao list.length co)])
  (fun ((list,ao,co),(nx,H,an,cn),(acc,aa,ca),M,cM)=>.sl ao list.length co 127 2 (prsV list)::.obj bM (mapG zCQ nV M cM)::.blk bP 83 (autV cls (.slice an nx.length cn) (.slice aa acc.length ca))::.sl an nx.length cn 84 1 H::.sl aa acc.length ca 4 1 (zAh acc)::own)
  (fun ((list,ao,co),(nx,H,an,cn),(acc,aa,ca),M,cM) ro2=>ProdI A B how first list nx acc∧zGj A B how first (1025-nx.length) list nx acc=Z∧NumM okP list M∧RowsH ro2 nx H∧(list.length≤co∧co≤maxLen)∧(nx.length≤cn∧cn≤maxLen)∧(acc.length≤ca∧ca≤maxLen))
  (fun ((list,ao,co),(nx,H,an,cn),(acc,aa,ca),M,cM)=>1025-nx.length) (([(0,0)],some ⟨b,0,none⟩,1),([],[],none,0),([],none,0),M0,c1) ?_ Sub.z Sup.z ?_
 ·exact ⟨hI0,hZ.symm,hM0,RowsH.nil _,⟨Nat.le_refl _,by unfold maxLen;decide⟩,⟨Nat.le_refl _,Nat.zero_le _⟩,⟨Nat.le_refl _,Nat.zero_le _⟩⟩
 clear hI0 hM0 hZ M0
 rintro ⟨⟨list,ao,co⟩,⟨nx,H,an,cn⟩,⟨acc,aa,ca⟩,M,cM⟩ ro2 hl2 ⟨i1,i2,i3,i4,⟨i5,i6⟩,⟨i7,i8⟩,⟨i9,i10⟩⟩
 dsimp only [List.cons_append,List.nil_append] at i1 i2 i3 i4 i5 i6 i7 i8 i9 i10 ⊢
 have hll:=i1.le
 have hnl:=i1.nle
 have hacl:=i1.alen
 have hHl:=i4.len
 have hpl:=zFj list
 obtain ⟨F,hF⟩:∃ F,1025-nx.length=F+1:=⟨1024-nx.length,by omega⟩
 rw [hF,zGj] at i2
 by_cases hlt:nx.length<list.length
 ·obtain ⟨p,hp⟩:∃ p,list[nx.length]?=some p:=⟨_,List.getElem?_eq_getElem hlt⟩
  have hpat:=zMz hp
  rw [hp] at i2
  dsimp only at i2
  obtain ⟨R,hR⟩:∃ R,R=zDM A B how p first list []:=⟨_,rfl⟩
  rw [←hR] at i2
  repeat first|exact zE|refine zP ?_|refine zB fun b=>?_|refine zC fun a' c' hc1 hc2=>?_|(apply GJ.a;exact rfl;intro hg)|(apply GJ.o;exact rfl;intro hg)
  rw [Int.toNat_natCast]
  refine OpOk.loadRow rfl rfl (LdN.slRow hpat) rfl ?_
  repeat first|exact zE|refine zP ?_|refine zB fun b=>?_|refine zC fun a' c' hc1 hc2=>?_|(apply GJ.a;exact rfl;intro hg)|(apply GJ.o;exact rfl;intro hg)
  rename_i bQ
  obtain ⟨bR,hbR⟩:∃ z:Nat,z=b:=⟨_,rfl⟩
  subst hbR
  rw [Int.toNat_natCast,zCI]
  obtain ⟨N,hN⟩:∃ N,N=list.length:=⟨_,rfl⟩
  refine LoopOk.drop0 [55,56,57,54,60,61,62,63,64,65,66] (ι:=Nat × (List (Int × Int) × Option Addr × Nat) × List Int × List ((Int × Int) × Nat × Nat) × Nat) Keep.z (fun (k,(list,ao,co),row,M,cM)=>[(69,.int .i64 (k:Int)),(11,.slice ao list.length co)])
   (fun (k,(list,ao,co),row,M,cM)=>.sl (some ⟨bR,0,none⟩) first.length first.length 3 1 (intV (row++List.replicate (first.length-k) 0))::.blk bQ 127 [.int .i64 p.1,.int .i64 p.2]::.sl ao list.length co 127 2 (prsV list)::.obj bM (mapG zCQ nV M cM)::.blk bP 83 (autV cls (.slice an nx.length cn) (.slice aa acc.length ca))::.sl an nx.length cn 84 1 H::.sl aa acc.length ca 4 1 (zAh acc)::own)
   (fun (k,(list,ao,co),row,M,cM)=>k≤first.length∧row.length=k∧zDM A B how p (first.drop k) list row=R∧NumM okP list M∧list.length≤1024∧(list.length≤co∧co≤maxLen)) (fun (k,(list,ao,co),row,M,cM)=>first.length-k) (0,(list,ao,co),[],M,cM) ?_ Sub.z Sup.z ?_
  ·exact ⟨Nat.zero_le _,rfl,by rw [List.drop_zero];exact hR.symm,i3,hll,⟨i5,i6⟩⟩
  clear i3 i5 i6 hpl
  rintro ⟨k,⟨list2,ao2,co2⟩,row,M2,cM2⟩ ⟨c1,c2,c3,c4,c5,⟨c6,c7⟩⟩
  dsimp only [List.cons_append,List.nil_append] at c1 c2 c3 c4 c5 c6 c7 ⊢
  have hpl:=zFj list2
  have hrl:(intV (row++List.replicate (first.length-k) 0)).length=first.length:=by rw [zAO,List.length_append,List.length_replicate];omega
  by_cases hkl:k<first.length
  ·obtain ⟨c,hc⟩:∃ c,first[k]?=some c:=⟨_,List.getElem?_eq_getElem hkl⟩
   have hc6:=hf256 c (List.mem_of_getElem? hc)
   have hbc:=bang hc
   have hdr:first.drop k=c::first.drop (k+1):=by
    obtain ⟨h,e⟩:=List.getElem?_eq_some_iff.1 hc
    rw [List.drop_eq_getElem_cons h,e]
   rw [hdr,zDM] at c3
   have hb1:=zLP o1 hn1 p.1 hc6
   have hb2:=zLP o2 hn2 p.2 hc6
   repeat first|exact zE|refine zP ?_|refine zB fun b=>?_|refine zC fun a' c' hc1 hc2=>?_|(apply GJ.a;exact rfl;intro hg)|(apply GJ.o;exact rfl;intro hg)
   rw [hbc]
   have hA:=h1.le (hl1.trans hl2)
   have hB:=h2.le (hl1.trans hl2)
   have hstA:∀ {ro':Ro}{own':Chs}{K':Value→Ro→Chs→Prop},DAt ro' q1 A→K' (.int .i64 (zAb A p.1 c)) ro' own'→CallOk Tryz.prog 30 #[ptr' q1,.int .i64 p.1,.int .u8 (c:Int)] ro' own' K':=fun h k=>zFq h o1 hc6 k
   have hstB:∀ {ro':Ro}{own':Chs}{K':Value→Ro→Chs→Prop},DAt ro' q2 B→K' (.int .i64 (zAb B p.2 c)) ro' own'→CallOk Tryz.prog 30 #[ptr' q2,.int .i64 p.2,.int .u8 (c:Int)] ro' own' K':=fun h k=>zFq h o2 hc6 k
   generalize zAb A p.1 c=z1 at *
   generalize zAb B p.2 c=z2 at *
   refine AllOk.keep (ι:=Nat) (fun b=>[(18,.pointer (some ⟨b,0,none⟩))]) (fun b=>.blk b 127 [.int .i64 z1,.int .i64 z2]::.sl (some ⟨bR,0,none⟩) first.length first.length 3 1 (intV (row++List.replicate (first.length-k) 0))::.blk bQ 127 [.int .i64 p.1,.int .i64 p.2]::.sl ao2 list2.length co2 127 2 (prsV list2)::.obj bM (mapG zCQ nV M2 cM2)::.blk bP 83 (autV cls (.slice an nx.length cn) (.slice aa acc.length ca))::.sl an nx.length cn 84 1 H::.sl aa acc.length ca 4 1 (zAh acc)::own) (fun _=>True) ?_ (fun bZ _=>?_)
   ·repeat' (first|with_reducible exact vFo.nil|((with_reducible refine vFo.cons ?_ ?_);refine vOne.at (by rfl) ?_)|((with_reducible refine vFo.leaf ?_);exact ⟨rfl,_,Sub.z,Sup.z,trivial⟩)|(show Stop (OpOk _ _ _ _ _ _ _);refine Stop.mk ?_)|(show Stop (CallOk _ _ _ _ _ _);refine Stop.mk ?_)|(show CallOk _ _ _ _ _ _;first|refine hstA hA ?_|refine hstB hB ?_)|(show OpOk _ _ _ _ _ _ _;first|refine zB (fun b=>?_)|refine OpOk.buildK (ps:=[(0,.tmp 78),(1,.tmp 83)]) [.int .i64 z1,.int .i64 z2] rfl (by kernel_rfl) ?_|refine OpOk.storeRow (cs:=[.int .i64 0,.int .i64 0]) rfl rfl rfl rfl rfl rfl ?_)|refine vFo.stop Sup.z ?_)
   dsimp only [List.cons_append,List.nil_append]
   have hok:okP (z1,z2):=okP_of hb1 hb2
   have hat:=c4.at' (z1,z2)
   rw [zCX] at hat
   have hset:∀ v:Int,((row++[-1])++List.replicate (first.length-(k+1)) 0).set k v=(row++[v])++List.replicate (first.length-(k+1)) 0:=fun v=>by
    rw [List.append_assoc,List.set_append_right _ _ (by omega),c2,Nat.sub_self,List.append_assoc]
    rfl
   have hrl2:(intV ((row++[-1])++List.replicate (first.length-(k+1)) 0)).length=first.length:=by rw [zAO,List.length_append,List.length_append,List.length_replicate];simp only [List.length_cons,List.length_nil];omega
   have hps:prsV list2++flat [Value.agg #[.int .i64 z1,.int .i64 z2]]=prsV (list2++[(z1,z2)]):=zMy list2 (z1,z2)
   have hpn:list2.length+1=(list2++[(z1,z2)]).length:=by simp
   repeat first|exact zE|refine zP ?_|refine zB fun b=>?_|refine zC fun a' c' hc1 hc2=>?_|(apply GJ.a;exact rfl;intro hg)|(apply GJ.o;exact rfl;intro hg)
   refine OpOk.storeSlAt' (k:=k) rfl rfl rfl rfl (by rw [Int.toNat_natCast]) (by omega) ?_
   rw [zAz,zD7 c2 hkl]
   clear hstA hstB hpl
   have hpl:=zFj list2
   by_cases hz1:z1=-1
   ·by_cases hz2:z2=-1
    ·have hsk:zBO how (z1,z2)=true:=by unfold zBO;simp [hz1,hz2]
     rcases hh with rfl|rfl|rfl
     ·rw [if_pos hsk] at c3
      repeat first|exact zE|refine zP ?_|refine zB fun b=>?_|refine zC fun a' c' hc1 hc2=>?_|(apply GJ.a;exact rfl;intro hg)|(apply GJ.o;exact rfl;intro hg)
      refine Wk.id ⟨(k+1,(list2,ao2,co2),row++[-1],M2,cM2),⟨rfl,?_⟩,?_,Sub.z,Sup.z⟩
      all_goals try dsimp only
      ·exact ⟨by omega,by simp [c2],c3,c4,c5,⟨c6,c7⟩⟩
      ·omega
     ·rw [if_pos hsk] at c3
      repeat first|exact zE|refine zP ?_|refine zB fun b=>?_|refine zC fun a' c' hc1 hc2=>?_|(apply GJ.a;exact rfl;intro hg)|(apply GJ.o;exact rfl;intro hg)
      refine Wk.id ⟨(k+1,(list2,ao2,co2),row++[-1],M2,cM2),⟨rfl,?_⟩,?_,Sub.z,Sup.z⟩
      all_goals try dsimp only
      ·exact ⟨by omega,by simp [c2],c3,c4,c5,⟨c6,c7⟩⟩
      ·omega
     ·rw [if_pos hsk] at c3
      repeat first|exact zE|refine zP ?_|refine zB fun b=>?_|refine zC fun a' c' hc1 hc2=>?_|(apply GJ.a;exact rfl;intro hg)|(apply GJ.o;exact rfl;intro hg)
      refine Wk.id ⟨(k+1,(list2,ao2,co2),row++[-1],M2,cM2),⟨rfl,?_⟩,?_,Sub.z,Sup.z⟩
      all_goals try dsimp only
      ·exact ⟨by omega,by simp [c2],c3,c4,c5,⟨c6,c7⟩⟩
      ·omega
    ·rcases hh with rfl|rfl|rfl
     ·have hsk:zBO 1 (z1,z2)=true:=by unfold zBO;simp [hz1,hz2]
      rw [if_pos hsk] at c3
      repeat first|exact zE|refine zP ?_|refine zB fun b=>?_|refine zC fun a' c' hc1 hc2=>?_|(apply GJ.a;exact rfl;intro hg)|(apply GJ.o;exact rfl;intro hg)
      refine Wk.id ⟨(k+1,(list2,ao2,co2),row++[-1],M2,cM2),⟨rfl,?_⟩,?_,Sub.z,Sup.z⟩
      all_goals try dsimp only
      ·exact ⟨by omega,by simp [c2],c3,c4,c5,⟨c6,c7⟩⟩
      ·omega
     ·have hsk:¬zBO 2 (z1,z2)=true:=by unfold zBO;simp [hz1,hz2]
      rw [if_neg hsk] at c3
      repeat first|exact zE|refine zP ?_|refine zB fun b=>?_|refine zC fun a' c' hc1 hc2=>?_|(apply GJ.a;exact rfl;intro hg)|(apply GJ.o;exact rfl;intro hg)
      refine OpOk.lookupOkG (kt:=127) (et:=3) (kv:=zCQ) (vv:=nV) (k:=(z1,z2)) (z:=.int .i64 0) rfl rfl (by kernel_rfl) zBk c4.map hok (by kernel_rfl) ?_
      rw [hat]
      cases hidx:list2.idxOf? (z1,z2) with
      | some n =>
        rw [hidx] at c3
        dsimp only at c3
        simp only [Option.map_some,Option.getD_some,Option.isSome_some,nV]
        repeat first|exact zE|refine zP ?_|refine zB fun b=>?_|refine zC fun a' c' hc1 hc2=>?_|(apply GJ.a;exact rfl;intro hg)|(apply GJ.o;exact rfl;intro hg)
        refine OpOk.storeSlAt' (k:=k) rfl rfl rfl rfl (by rw [Int.toNat_natCast]) (by rw [hrl2];omega) ?_
        rw [zAz,hset]
        repeat first|exact zE|refine zP ?_|refine zB fun b=>?_|refine zC fun a' c' hc1 hc2=>?_|(apply GJ.a;exact rfl;intro hg)|(apply GJ.o;exact rfl;intro hg)
        refine Wk.id ⟨(k+1,(list2,ao2,co2),row++[(n:Int)],M2,cM2),⟨rfl,?_⟩,?_,Sub.z,Sup.z⟩
        all_goals try dsimp only
        ·exact ⟨by omega,by simp [c2],c3,c4,c5,⟨c6,c7⟩⟩
        ·omega
      | none =>
        rw [hidx] at c3
        dsimp only at c3
        simp only [Option.map_none,Option.getD_none,Option.isSome_none]
        by_cases h1024:list2.length=1024
        ·rw [if_pos h1024] at c3
         rw [←c3] at i2
         dsimp only at i2
         rw [←i2] at hk0
         repeat first|exact zE|refine zP ?_|refine zB fun b=>?_|refine zC fun a' c' hc1 hc2=>?_|(apply GJ.a;exact rfl;intro hg)|(apply GJ.o;exact rfl;intro hg)
         exact Wk.outS Sup.z (.refl _) (hk0 ro2 (hl1.trans hl2) rfl)
        ·rw [if_neg h1024] at c3
         have hpu:=c4.push hok (by rw [zCX];exact hidx) cM2
         repeat first|exact zE|refine zP ?_|refine zB fun b=>?_|refine zC fun a' c' hc1 hc2=>?_|(apply GJ.a;exact rfl;intro hg)|(apply GJ.o;exact rfl;intro hg)
         refine OpOk.mapUpdateG (kt:=127) (et:=3) (kv:=zCQ) (vv:=nV) (k:=(z1,z2)) (v:=list2.length) rfl rfl rfl (by kernel_rfl) zBk c4.map hok (fun cM3=>?_)
         generalize putG M2 cM2 (z1,z2) list2.length=M3 at *
         repeat first|exact zE|refine zP ?_|refine zB fun b=>?_|refine zC fun a' c' hc1 hc2=>?_|(apply GJ.a;exact rfl;intro hg)|(apply GJ.o;exact rfl;intro hg)
         rw [hps]
         rw [hpn] at hc1 ⊢
         repeat first|exact zE|refine zP ?_|refine zB fun b=>?_|refine zC fun a' c' hc1 hc2=>?_|(apply GJ.a;exact rfl;intro hg)|(apply GJ.o;exact rfl;intro hg)
         refine OpOk.storeSlAt' (k:=k) rfl rfl rfl rfl (by rw [Int.toNat_natCast]) (by rw [hrl2];omega) ?_
         rw [zAz,hset]
         repeat first|exact zE|refine zP ?_|refine zB fun b=>?_|refine zC fun a' c' hc1 hc2=>?_|(apply GJ.a;exact rfl;intro hg)|(apply GJ.o;exact rfl;intro hg)
         refine Wk.id ⟨(k+1,(list2++[(z1,z2)],a',c'),row++[(list2.length:Int)],M3,cM3),⟨rfl,?_⟩,?_,Sub.z,Sup.z⟩
         all_goals try dsimp only
         ·exact ⟨by omega,by simp [c2],c3,hpu,by rw [←hpn];omega,⟨hc1,hc2⟩⟩
         ·omega
     ·have hsk:zBO 3 (z1,z2)=true:=by unfold zBO;simp [hz1,hz2]
      rw [if_pos hsk] at c3
      repeat first|exact zE|refine zP ?_|refine zB fun b=>?_|refine zC fun a' c' hc1 hc2=>?_|(apply GJ.a;exact rfl;intro hg)|(apply GJ.o;exact rfl;intro hg)
      refine Wk.id ⟨(k+1,(list2,ao2,co2),row++[-1],M2,cM2),⟨rfl,?_⟩,?_,Sub.z,Sup.z⟩
      all_goals try dsimp only
      ·exact ⟨by omega,by simp [c2],c3,c4,c5,⟨c6,c7⟩⟩
      ·omega
   ·by_cases hz2:z2=-1
    ·rcases hh with rfl|rfl|rfl
     ·have hsk:zBO 1 (z1,z2)=true:=by unfold zBO;simp [hz1,hz2]
      rw [if_pos hsk] at c3
      repeat first|exact zE|refine zP ?_|refine zB fun b=>?_|refine zC fun a' c' hc1 hc2=>?_|(apply GJ.a;exact rfl;intro hg)|(apply GJ.o;exact rfl;intro hg)
      refine Wk.id ⟨(k+1,(list2,ao2,co2),row++[-1],M2,cM2),⟨rfl,?_⟩,?_,Sub.z,Sup.z⟩
      all_goals try dsimp only
      ·exact ⟨by omega,by simp [c2],c3,c4,c5,⟨c6,c7⟩⟩
      ·omega
     ·have hsk:¬zBO 2 (z1,z2)=true:=by unfold zBO;simp [hz1,hz2]
      rw [if_neg hsk] at c3
      repeat first|exact zE|refine zP ?_|refine zB fun b=>?_|refine zC fun a' c' hc1 hc2=>?_|(apply GJ.a;exact rfl;intro hg)|(apply GJ.o;exact rfl;intro hg)
      refine OpOk.lookupOkG (kt:=127) (et:=3) (kv:=zCQ) (vv:=nV) (k:=(z1,z2)) (z:=.int .i64 0) rfl rfl (by kernel_rfl) zBk c4.map hok (by kernel_rfl) ?_
      rw [hat]
      cases hidx:list2.idxOf? (z1,z2) with
      | some n =>
        rw [hidx] at c3
        dsimp only at c3
        simp only [Option.map_some,Option.getD_some,Option.isSome_some,nV]
        repeat first|exact zE|refine zP ?_|refine zB fun b=>?_|refine zC fun a' c' hc1 hc2=>?_|(apply GJ.a;exact rfl;intro hg)|(apply GJ.o;exact rfl;intro hg)
        refine OpOk.storeSlAt' (k:=k) rfl rfl rfl rfl (by rw [Int.toNat_natCast]) (by rw [hrl2];omega) ?_
        rw [zAz,hset]
        repeat first|exact zE|refine zP ?_|refine zB fun b=>?_|refine zC fun a' c' hc1 hc2=>?_|(apply GJ.a;exact rfl;intro hg)|(apply GJ.o;exact rfl;intro hg)
        refine Wk.id ⟨(k+1,(list2,ao2,co2),row++[(n:Int)],M2,cM2),⟨rfl,?_⟩,?_,Sub.z,Sup.z⟩
        all_goals try dsimp only
        ·exact ⟨by omega,by simp [c2],c3,c4,c5,⟨c6,c7⟩⟩
        ·omega
      | none =>
        rw [hidx] at c3
        dsimp only at c3
        simp only [Option.map_none,Option.getD_none,Option.isSome_none]
        by_cases h1024:list2.length=1024
        ·rw [if_pos h1024] at c3
         rw [←c3] at i2
         dsimp only at i2
         rw [←i2] at hk0
         repeat first|exact zE|refine zP ?_|refine zB fun b=>?_|refine zC fun a' c' hc1 hc2=>?_|(apply GJ.a;exact rfl;intro hg)|(apply GJ.o;exact rfl;intro hg)
         exact Wk.outS Sup.z (.refl _) (hk0 ro2 (hl1.trans hl2) rfl)
        ·rw [if_neg h1024] at c3
         have hpu:=c4.push hok (by rw [zCX];exact hidx) cM2
         repeat first|exact zE|refine zP ?_|refine zB fun b=>?_|refine zC fun a' c' hc1 hc2=>?_|(apply GJ.a;exact rfl;intro hg)|(apply GJ.o;exact rfl;intro hg)
         refine OpOk.mapUpdateG (kt:=127) (et:=3) (kv:=zCQ) (vv:=nV) (k:=(z1,z2)) (v:=list2.length) rfl rfl rfl (by kernel_rfl) zBk c4.map hok (fun cM3=>?_)
         generalize putG M2 cM2 (z1,z2) list2.length=M3 at *
         repeat first|exact zE|refine zP ?_|refine zB fun b=>?_|refine zC fun a' c' hc1 hc2=>?_|(apply GJ.a;exact rfl;intro hg)|(apply GJ.o;exact rfl;intro hg)
         rw [hps]
         rw [hpn] at hc1 ⊢
         repeat first|exact zE|refine zP ?_|refine zB fun b=>?_|refine zC fun a' c' hc1 hc2=>?_|(apply GJ.a;exact rfl;intro hg)|(apply GJ.o;exact rfl;intro hg)
         refine OpOk.storeSlAt' (k:=k) rfl rfl rfl rfl (by rw [Int.toNat_natCast]) (by rw [hrl2];omega) ?_
         rw [zAz,hset]
         repeat first|exact zE|refine zP ?_|refine zB fun b=>?_|refine zC fun a' c' hc1 hc2=>?_|(apply GJ.a;exact rfl;intro hg)|(apply GJ.o;exact rfl;intro hg)
         refine Wk.id ⟨(k+1,(list2++[(z1,z2)],a',c'),row++[(list2.length:Int)],M3,cM3),⟨rfl,?_⟩,?_,Sub.z,Sup.z⟩
         all_goals try dsimp only
         ·exact ⟨by omega,by simp [c2],c3,hpu,by rw [←hpn];omega,⟨hc1,hc2⟩⟩
         ·omega
     ·have hsk:¬zBO 3 (z1,z2)=true:=by unfold zBO;simp [hz1,hz2]
      rw [if_neg hsk] at c3
      repeat first|exact zE|refine zP ?_|refine zB fun b=>?_|refine zC fun a' c' hc1 hc2=>?_|(apply GJ.a;exact rfl;intro hg)|(apply GJ.o;exact rfl;intro hg)
      refine OpOk.lookupOkG (kt:=127) (et:=3) (kv:=zCQ) (vv:=nV) (k:=(z1,z2)) (z:=.int .i64 0) rfl rfl (by kernel_rfl) zBk c4.map hok (by kernel_rfl) ?_
      rw [hat]
      cases hidx:list2.idxOf? (z1,z2) with
      | some n =>
        rw [hidx] at c3
        dsimp only at c3
        simp only [Option.map_some,Option.getD_some,Option.isSome_some,nV]
        repeat first|exact zE|refine zP ?_|refine zB fun b=>?_|refine zC fun a' c' hc1 hc2=>?_|(apply GJ.a;exact rfl;intro hg)|(apply GJ.o;exact rfl;intro hg)
        refine OpOk.storeSlAt' (k:=k) rfl rfl rfl rfl (by rw [Int.toNat_natCast]) (by rw [hrl2];omega) ?_
        rw [zAz,hset]
        repeat first|exact zE|refine zP ?_|refine zB fun b=>?_|refine zC fun a' c' hc1 hc2=>?_|(apply GJ.a;exact rfl;intro hg)|(apply GJ.o;exact rfl;intro hg)
        refine Wk.id ⟨(k+1,(list2,ao2,co2),row++[(n:Int)],M2,cM2),⟨rfl,?_⟩,?_,Sub.z,Sup.z⟩
        all_goals try dsimp only
        ·exact ⟨by omega,by simp [c2],c3,c4,c5,⟨c6,c7⟩⟩
        ·omega
      | none =>
        rw [hidx] at c3
        dsimp only at c3
        simp only [Option.map_none,Option.getD_none,Option.isSome_none]
        by_cases h1024:list2.length=1024
        ·rw [if_pos h1024] at c3
         rw [←c3] at i2
         dsimp only at i2
         rw [←i2] at hk0
         repeat first|exact zE|refine zP ?_|refine zB fun b=>?_|refine zC fun a' c' hc1 hc2=>?_|(apply GJ.a;exact rfl;intro hg)|(apply GJ.o;exact rfl;intro hg)
         exact Wk.outS Sup.z (.refl _) (hk0 ro2 (hl1.trans hl2) rfl)
        ·rw [if_neg h1024] at c3
         have hpu:=c4.push hok (by rw [zCX];exact hidx) cM2
         repeat first|exact zE|refine zP ?_|refine zB fun b=>?_|refine zC fun a' c' hc1 hc2=>?_|(apply GJ.a;exact rfl;intro hg)|(apply GJ.o;exact rfl;intro hg)
         refine OpOk.mapUpdateG (kt:=127) (et:=3) (kv:=zCQ) (vv:=nV) (k:=(z1,z2)) (v:=list2.length) rfl rfl rfl (by kernel_rfl) zBk c4.map hok (fun cM3=>?_)
         generalize putG M2 cM2 (z1,z2) list2.length=M3 at *
         repeat first|exact zE|refine zP ?_|refine zB fun b=>?_|refine zC fun a' c' hc1 hc2=>?_|(apply GJ.a;exact rfl;intro hg)|(apply GJ.o;exact rfl;intro hg)
         rw [hps]
         rw [hpn] at hc1 ⊢
         repeat first|exact zE|refine zP ?_|refine zB fun b=>?_|refine zC fun a' c' hc1 hc2=>?_|(apply GJ.a;exact rfl;intro hg)|(apply GJ.o;exact rfl;intro hg)
         refine OpOk.storeSlAt' (k:=k) rfl rfl rfl rfl (by rw [Int.toNat_natCast]) (by rw [hrl2];omega) ?_
         rw [zAz,hset]
         repeat first|exact zE|refine zP ?_|refine zB fun b=>?_|refine zC fun a' c' hc1 hc2=>?_|(apply GJ.a;exact rfl;intro hg)|(apply GJ.o;exact rfl;intro hg)
         refine Wk.id ⟨(k+1,(list2++[(z1,z2)],a',c'),row++[(list2.length:Int)],M3,cM3),⟨rfl,?_⟩,?_,Sub.z,Sup.z⟩
         all_goals try dsimp only
         ·exact ⟨by omega,by simp [c2],c3,hpu,by rw [←hpn];omega,⟨hc1,hc2⟩⟩
         ·omega
    ·have hsk:¬zBO how (z1,z2)=true:=by unfold zBO;simp [hz1,hz2]
     rcases hh with rfl|rfl|rfl
     ·rw [if_neg hsk] at c3
      repeat first|exact zE|refine zP ?_|refine zB fun b=>?_|refine zC fun a' c' hc1 hc2=>?_|(apply GJ.a;exact rfl;intro hg)|(apply GJ.o;exact rfl;intro hg)
      refine OpOk.lookupOkG (kt:=127) (et:=3) (kv:=zCQ) (vv:=nV) (k:=(z1,z2)) (z:=.int .i64 0) rfl rfl (by kernel_rfl) zBk c4.map hok (by kernel_rfl) ?_
      rw [hat]
      cases hidx:list2.idxOf? (z1,z2) with
      | some n =>
        rw [hidx] at c3
        dsimp only at c3
        simp only [Option.map_some,Option.getD_some,Option.isSome_some,nV]
        repeat first|exact zE|refine zP ?_|refine zB fun b=>?_|refine zC fun a' c' hc1 hc2=>?_|(apply GJ.a;exact rfl;intro hg)|(apply GJ.o;exact rfl;intro hg)
        refine OpOk.storeSlAt' (k:=k) rfl rfl rfl rfl (by rw [Int.toNat_natCast]) (by rw [hrl2];omega) ?_
        rw [zAz,hset]
        repeat first|exact zE|refine zP ?_|refine zB fun b=>?_|refine zC fun a' c' hc1 hc2=>?_|(apply GJ.a;exact rfl;intro hg)|(apply GJ.o;exact rfl;intro hg)
        refine Wk.id ⟨(k+1,(list2,ao2,co2),row++[(n:Int)],M2,cM2),⟨rfl,?_⟩,?_,Sub.z,Sup.z⟩
        all_goals try dsimp only
        ·exact ⟨by omega,by simp [c2],c3,c4,c5,⟨c6,c7⟩⟩
        ·omega
      | none =>
        rw [hidx] at c3
        dsimp only at c3
        simp only [Option.map_none,Option.getD_none,Option.isSome_none]
        by_cases h1024:list2.length=1024
        ·rw [if_pos h1024] at c3
         rw [←c3] at i2
         dsimp only at i2
         rw [←i2] at hk0
         repeat first|exact zE|refine zP ?_|refine zB fun b=>?_|refine zC fun a' c' hc1 hc2=>?_|(apply GJ.a;exact rfl;intro hg)|(apply GJ.o;exact rfl;intro hg)
         exact Wk.outS Sup.z (.refl _) (hk0 ro2 (hl1.trans hl2) rfl)
        ·rw [if_neg h1024] at c3
         have hpu:=c4.push hok (by rw [zCX];exact hidx) cM2
         repeat first|exact zE|refine zP ?_|refine zB fun b=>?_|refine zC fun a' c' hc1 hc2=>?_|(apply GJ.a;exact rfl;intro hg)|(apply GJ.o;exact rfl;intro hg)
         refine OpOk.mapUpdateG (kt:=127) (et:=3) (kv:=zCQ) (vv:=nV) (k:=(z1,z2)) (v:=list2.length) rfl rfl rfl (by kernel_rfl) zBk c4.map hok (fun cM3=>?_)
         generalize putG M2 cM2 (z1,z2) list2.length=M3 at *
         repeat first|exact zE|refine zP ?_|refine zB fun b=>?_|refine zC fun a' c' hc1 hc2=>?_|(apply GJ.a;exact rfl;intro hg)|(apply GJ.o;exact rfl;intro hg)
         rw [hps]
         rw [hpn] at hc1 ⊢
         repeat first|exact zE|refine zP ?_|refine zB fun b=>?_|refine zC fun a' c' hc1 hc2=>?_|(apply GJ.a;exact rfl;intro hg)|(apply GJ.o;exact rfl;intro hg)
         refine OpOk.storeSlAt' (k:=k) rfl rfl rfl rfl (by rw [Int.toNat_natCast]) (by rw [hrl2];omega) ?_
         rw [zAz,hset]
         repeat first|exact zE|refine zP ?_|refine zB fun b=>?_|refine zC fun a' c' hc1 hc2=>?_|(apply GJ.a;exact rfl;intro hg)|(apply GJ.o;exact rfl;intro hg)
         refine Wk.id ⟨(k+1,(list2++[(z1,z2)],a',c'),row++[(list2.length:Int)],M3,cM3),⟨rfl,?_⟩,?_,Sub.z,Sup.z⟩
         all_goals try dsimp only
         ·exact ⟨by omega,by simp [c2],c3,hpu,by rw [←hpn];omega,⟨hc1,hc2⟩⟩
         ·omega
     ·rw [if_neg hsk] at c3
      repeat first|exact zE|refine zP ?_|refine zB fun b=>?_|refine zC fun a' c' hc1 hc2=>?_|(apply GJ.a;exact rfl;intro hg)|(apply GJ.o;exact rfl;intro hg)
      refine OpOk.lookupOkG (kt:=127) (et:=3) (kv:=zCQ) (vv:=nV) (k:=(z1,z2)) (z:=.int .i64 0) rfl rfl (by kernel_rfl) zBk c4.map hok (by kernel_rfl) ?_
      rw [hat]
      cases hidx:list2.idxOf? (z1,z2) with
      | some n =>
        rw [hidx] at c3
        dsimp only at c3
        simp only [Option.map_some,Option.getD_some,Option.isSome_some,nV]
        repeat first|exact zE|refine zP ?_|refine zB fun b=>?_|refine zC fun a' c' hc1 hc2=>?_|(apply GJ.a;exact rfl;intro hg)|(apply GJ.o;exact rfl;intro hg)
        refine OpOk.storeSlAt' (k:=k) rfl rfl rfl rfl (by rw [Int.toNat_natCast]) (by rw [hrl2];omega) ?_
        rw [zAz,hset]
        repeat first|exact zE|refine zP ?_|refine zB fun b=>?_|refine zC fun a' c' hc1 hc2=>?_|(apply GJ.a;exact rfl;intro hg)|(apply GJ.o;exact rfl;intro hg)
        refine Wk.id ⟨(k+1,(list2,ao2,co2),row++[(n:Int)],M2,cM2),⟨rfl,?_⟩,?_,Sub.z,Sup.z⟩
        all_goals try dsimp only
        ·exact ⟨by omega,by simp [c2],c3,c4,c5,⟨c6,c7⟩⟩
        ·omega
      | none =>
        rw [hidx] at c3
        dsimp only at c3
        simp only [Option.map_none,Option.getD_none,Option.isSome_none]
        by_cases h1024:list2.length=1024
        ·rw [if_pos h1024] at c3
         rw [←c3] at i2
         dsimp only at i2
         rw [←i2] at hk0
         repeat first|exact zE|refine zP ?_|refine zB fun b=>?_|refine zC fun a' c' hc1 hc2=>?_|(apply GJ.a;exact rfl;intro hg)|(apply GJ.o;exact rfl;intro hg)
         exact Wk.outS Sup.z (.refl _) (hk0 ro2 (hl1.trans hl2) rfl)
        ·rw [if_neg h1024] at c3
         have hpu:=c4.push hok (by rw [zCX];exact hidx) cM2
         repeat first|exact zE|refine zP ?_|refine zB fun b=>?_|refine zC fun a' c' hc1 hc2=>?_|(apply GJ.a;exact rfl;intro hg)|(apply GJ.o;exact rfl;intro hg)
         refine OpOk.mapUpdateG (kt:=127) (et:=3) (kv:=zCQ) (vv:=nV) (k:=(z1,z2)) (v:=list2.length) rfl rfl rfl (by kernel_rfl) zBk c4.map hok (fun cM3=>?_)
         generalize putG M2 cM2 (z1,z2) list2.length=M3 at *
         repeat first|exact zE|refine zP ?_|refine zB fun b=>?_|refine zC fun a' c' hc1 hc2=>?_|(apply GJ.a;exact rfl;intro hg)|(apply GJ.o;exact rfl;intro hg)
         rw [hps]
         rw [hpn] at hc1 ⊢
         repeat first|exact zE|refine zP ?_|refine zB fun b=>?_|refine zC fun a' c' hc1 hc2=>?_|(apply GJ.a;exact rfl;intro hg)|(apply GJ.o;exact rfl;intro hg)
         refine OpOk.storeSlAt' (k:=k) rfl rfl rfl rfl (by rw [Int.toNat_natCast]) (by rw [hrl2];omega) ?_
         rw [zAz,hset]
         repeat first|exact zE|refine zP ?_|refine zB fun b=>?_|refine zC fun a' c' hc1 hc2=>?_|(apply GJ.a;exact rfl;intro hg)|(apply GJ.o;exact rfl;intro hg)
         refine Wk.id ⟨(k+1,(list2++[(z1,z2)],a',c'),row++[(list2.length:Int)],M3,cM3),⟨rfl,?_⟩,?_,Sub.z,Sup.z⟩
         all_goals try dsimp only
         ·exact ⟨by omega,by simp [c2],c3,hpu,by rw [←hpn];omega,⟨hc1,hc2⟩⟩
         ·omega
     ·rw [if_neg hsk] at c3
      repeat first|exact zE|refine zP ?_|refine zB fun b=>?_|refine zC fun a' c' hc1 hc2=>?_|(apply GJ.a;exact rfl;intro hg)|(apply GJ.o;exact rfl;intro hg)
      refine OpOk.lookupOkG (kt:=127) (et:=3) (kv:=zCQ) (vv:=nV) (k:=(z1,z2)) (z:=.int .i64 0) rfl rfl (by kernel_rfl) zBk c4.map hok (by kernel_rfl) ?_
      rw [hat]
      cases hidx:list2.idxOf? (z1,z2) with
      | some n =>
        rw [hidx] at c3
        dsimp only at c3
        simp only [Option.map_some,Option.getD_some,Option.isSome_some,nV]
        repeat first|exact zE|refine zP ?_|refine zB fun b=>?_|refine zC fun a' c' hc1 hc2=>?_|(apply GJ.a;exact rfl;intro hg)|(apply GJ.o;exact rfl;intro hg)
        refine OpOk.storeSlAt' (k:=k) rfl rfl rfl rfl (by rw [Int.toNat_natCast]) (by rw [hrl2];omega) ?_
        rw [zAz,hset]
        repeat first|exact zE|refine zP ?_|refine zB fun b=>?_|refine zC fun a' c' hc1 hc2=>?_|(apply GJ.a;exact rfl;intro hg)|(apply GJ.o;exact rfl;intro hg)
        refine Wk.id ⟨(k+1,(list2,ao2,co2),row++[(n:Int)],M2,cM2),⟨rfl,?_⟩,?_,Sub.z,Sup.z⟩
        all_goals try dsimp only
        ·exact ⟨by omega,by simp [c2],c3,c4,c5,⟨c6,c7⟩⟩
        ·omega
      | none =>
        rw [hidx] at c3
        dsimp only at c3
        simp only [Option.map_none,Option.getD_none,Option.isSome_none]
        by_cases h1024:list2.length=1024
        ·rw [if_pos h1024] at c3
         rw [←c3] at i2
         dsimp only at i2
         rw [←i2] at hk0
         repeat first|exact zE|refine zP ?_|refine zB fun b=>?_|refine zC fun a' c' hc1 hc2=>?_|(apply GJ.a;exact rfl;intro hg)|(apply GJ.o;exact rfl;intro hg)
         exact Wk.outS Sup.z (.refl _) (hk0 ro2 (hl1.trans hl2) rfl)
        ·rw [if_neg h1024] at c3
         have hpu:=c4.push hok (by rw [zCX];exact hidx) cM2
         repeat first|exact zE|refine zP ?_|refine zB fun b=>?_|refine zC fun a' c' hc1 hc2=>?_|(apply GJ.a;exact rfl;intro hg)|(apply GJ.o;exact rfl;intro hg)
         refine OpOk.mapUpdateG (kt:=127) (et:=3) (kv:=zCQ) (vv:=nV) (k:=(z1,z2)) (v:=list2.length) rfl rfl rfl (by kernel_rfl) zBk c4.map hok (fun cM3=>?_)
         generalize putG M2 cM2 (z1,z2) list2.length=M3 at *
         repeat first|exact zE|refine zP ?_|refine zB fun b=>?_|refine zC fun a' c' hc1 hc2=>?_|(apply GJ.a;exact rfl;intro hg)|(apply GJ.o;exact rfl;intro hg)
         rw [hps]
         rw [hpn] at hc1 ⊢
         repeat first|exact zE|refine zP ?_|refine zB fun b=>?_|refine zC fun a' c' hc1 hc2=>?_|(apply GJ.a;exact rfl;intro hg)|(apply GJ.o;exact rfl;intro hg)
         refine OpOk.storeSlAt' (k:=k) rfl rfl rfl rfl (by rw [Int.toNat_natCast]) (by rw [hrl2];omega) ?_
         rw [zAz,hset]
         repeat first|exact zE|refine zP ?_|refine zB fun b=>?_|refine zC fun a' c' hc1 hc2=>?_|(apply GJ.a;exact rfl;intro hg)|(apply GJ.o;exact rfl;intro hg)
         refine Wk.id ⟨(k+1,(list2++[(z1,z2)],a',c'),row++[(list2.length:Int)],M3,cM3),⟨rfl,?_⟩,?_,Sub.z,Sup.z⟩
         all_goals try dsimp only
         ·exact ⟨by omega,by simp [c2],c3,hpu,by rw [←hpn];omega,⟨hc1,hc2⟩⟩
         ·omega
  ·obtain rfl:k=first.length:=by omega
   rw [List.drop_length,zDM] at c3
   rw [Nat.sub_self,List.replicate_zero,List.append_nil]
   rw [Nat.sub_self,List.replicate_zero,List.append_nil] at hrl
   rw [←c3] at i2 hR
   dsimp only at i2
   have hst:=i1.step hp hR.symm
   dsimp only at hst
   have hA:=h1.le (hl1.trans hl2)
   have hB:=h2.le (hl1.trans hl2)
   have hnnI:(nx.length:Int)+1=((nx++[row]).length:Int):=by simp
   have hnn:nx.length+1=(nx++[row]).length:=by simp
   repeat first|exact zE|refine zP ?_|refine zB fun b=>?_|refine zC fun a' c' hc1 hc2=>?_|(apply GJ.a;exact rfl;intro hg)|(apply GJ.o;exact rfl;intro hg)
   refine zCr hA ?_
   repeat first|exact zE|refine zP ?_|refine zB fun b=>?_|refine zC fun a' c' hc1 hc2=>?_|(apply GJ.a;exact rfl;intro hg)|(apply GJ.o;exact rfl;intro hg)
   refine zCr hB ?_
   generalize zAD A p.1=x at *
   generalize zAD B p.2=y at *
   have hac:zAh acc++[.bool (decide ((how:Int)=1)&&x&&y||decide ((how:Int)=2)&&(x||y)||decide ((how:Int)=3)&&x&&!y)]=zAh (acc++[accP how x y]):=by
    rw [show (decide ((how:Int)=1)&&x&&y||decide ((how:Int)=2)&&(x||y)||decide ((how:Int)=3)&&x&&!y)=accP how x y by rcases hh with rfl|rfl|rfl<;>cases x<;>cases y<;>rfl]
    simp [zAh]
   generalize accP how x y=xy at *
   have han:acc.length+1=(acc++[xy]).length:=by simp
   have hpl2:=zFj list2
   repeat first|exact zE|refine zP ?_|refine zB fun b=>?_|refine zC fun a' c' hc1 hc2=>?_|(apply GJ.a;exact rfl;intro hg)|(apply GJ.o;exact rfl;intro hg)
   rename_i aN cN hN1 hN2
   rw [hac,hnnI,hnn,han]
   rw [hnn] at hN1
   rw [han] at hc1
   repeat first|exact zE|refine zP ?_|refine zB fun b=>?_|refine zC fun a' c' hc1 hc2=>?_|(apply GJ.a;exact rfl;intro hg)|(apply GJ.o;exact rfl;intro hg)
   refine Wk.freeze (c:=.sl (some ⟨bR,0,none⟩) _ _ _ _ _) Take.auto (fun ro3 hl3 hc3=>?_)
   have hrR:Rs ro3 (some ⟨bR,0,none⟩) row.length first.length 1 (row.map (Value.int .i64)):=by rw [c2];exact Rs.last hc3
   have hRH:=(i4.le hl3).snoc hrR
   rw [c2] at hRH
   refine Wk.id ⟨((list2,ao2,co2),(nx++[row],H++[.slice (some ⟨bR,0,none⟩) first.length first.length],aN,cN),(acc++[xy],a',c'),M2,cM2),?_,?_,Sub.z,Sup.z⟩
   all_goals try dsimp only
   ·refine ⟨hst,?_,c4,hRH,⟨c6,c7⟩,⟨hN1,hN2⟩,⟨hc1,hc2⟩⟩
    rw [show 1025-(nx++[row]).length=F by simp;omega]
    exact i2
   ·simp;omega
 ·rw [List.getElem?_eq_none (by omega)] at i2
  dsimp only at i2
  subst i2
  dsimp only at hk1 hmade
  have hm:=hmade _ rfl
  obtain ⟨w,hw,ho,hs⟩:=hm.ok
  repeat first|exact zE|refine zP ?_|refine zB fun b=>?_|refine zC fun a' c' hc1 hc2=>?_|(apply GJ.a;exact rfl;intro hg)|(apply GJ.o;exact rfl;intro hg)
  refine zNo (l:=[.blk bP 83 (autV cls (.slice an nx.length cn) (.slice aa acc.length ca)),.sl an nx.length cn 84 1 H,.sl aa acc.length ca 4 1 (zAh acc)]) (own':=.sl ao list.length co 127 2 (prsV list)::.obj bM (mapG zCQ nV M cM)::own) ?_ (fun ro3 hl3 hc3=>?_)
  ·exact (List.perm_append_comm (l₁:=[_,_]) (l₂:=[_,_,_])).append_right _
  have hDt:DAt ro3 bP ⟨cls,nx,acc⟩:=⟨⟨an,cn,aa,ca,H,hc3 _ (List.mem_cons_self ..),hcl,by rw [←hHl];exact Rs.last (by rw [hHl];exact hc3 _ (List.mem_cons_of_mem _ (List.mem_cons_self ..))),fun i row hi=>(i4.le hl3).row i row hi,Rs.last (hc3 _ (List.mem_cons_of_mem _ (List.mem_cons_of_mem _ (List.mem_cons_self ..))))⟩⟩
  refine zI3 hDt ho hs hw hm.pos hm.le (fun ro4 p4 hl4 hp4=>?_)
  repeat first|exact zE|refine zP ?_|refine zB fun b=>?_|refine zC fun a' c' hc1 hc2=>?_|(apply GJ.a;exact rfl;intro hg)|(apply GJ.o;exact rfl;intro hg)
  exact Wk.outS Sup.z (.refl _) (hk1 ro4 p4 _ (((hl1.trans hl2).trans hl3).trans hl4) rfl hp4)
end
end Go.Proofs.YtmaennnkaoollaaGreatDoor
end
