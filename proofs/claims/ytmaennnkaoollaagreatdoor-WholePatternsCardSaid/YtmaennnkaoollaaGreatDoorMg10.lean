/- Texts of a walk, one behind the other. -/
import Derived.HandedShaped
import Derived.Shelf.Vars
import Derived.Test.YtmaennnkaoollaaGreatDoorMg2
import Derived.Test.YtmaennnkaoollaaGreatDoorMg3
import Derived.Test.YtmaennnkaoollaaGreatDoorMg5
import Derived.Test.YtmaennnkaoollaaGreatDoorMg6
import Derived.Test.YtmaennnkaoollaaGreatDoorMg7
import Derived.Test.YtmaennnkaoollaaGreatDoorMg8
import Derived.Test.YtmaennnkaoollaaGreatDoorMg9
set_option linter.unusedVariables false
set_option linter.unusedSimpArgs false
set_option linter.unusedSectionVars false
set_option maxRecDepth 10000
section
namespace Go.Proofs.YtmaennnkaoollaaGreatDoor
open Go Go.E
def allE (rows:zAy):Nat:=(rows.map List.length).sum
mutual
theorem zKg:∀ n:RgD,insD n→∀ s∈zFd n,SetIn s
 | .mk k s l a b,h,y,hy=>by
   rw [insD] at h
   rw [zFd] at hy
   split at hy
   ·simp only [List.mem_singleton] at hy;subst hy;exact h.1
   ·exact zHY l h.2 y hy
theorem zHY:∀ l:List RgD,insK l→∀ s∈zGY l,SetIn s
 | [],h,y,hy=>by rw [zGY] at hy;cases hy
 | x::r,h,y,hy=>by
   rw [insK] at h
   rw [zGY,List.mem_append] at hy
   rcases hy with hy|hy
   ·exact zKg x h.1 y hy
   ·exact zHY r h.2 y hy
end
structure zL6 (a:NfaD):Prop where
 ok:zL5 a
 sets:∀ s∈zB4 a.rows,SetIn s
 edges:allE a.rows≤900000
theorem nil_k:zL6 nilN:=⟨zMN,(fun s hs=>by simp [zB4,nilN] at hs),by decide⟩
theorem zMX {n:RgD} (h:insD n):zL6 (zA8 n).2:=by
 by_cases hc:(zAL n 512).1=0
 ·have hw:=(zBZ n 512 hc).1
  refine ⟨zJg hw,fun s hs=>zKg n h s (zJN s hs),?_⟩
  have hb:=zNQ hc
  have m:=zB8 n hw 0 st0 zGs (by decide)
  have hm:=(zDb m.1).1
  unfold zA8
  rw [if_neg (by rw [hc];decide)]
  split
  ·decide
  ·unfold budN at hm hb
   show zAG _≤_
   omega
 ·unfold zA8
  rw [if_pos hc]
  exact nil_k
theorem zII:∀ (rows:zAy) (k:Nat),allE (rows.drop k)≤allE rows
 | rows,0=>Nat.le_refl _
 | [],k+1=>Nat.le_refl _
 | x::rows,k+1=>by have:=zII rows k;unfold allE at *;simp only [List.drop_succ_cons,List.map_cons,List.sum_cons];omega
theorem byte_len (rows:zAy) (c i:Nat):(zBj rows c (i:Int)).length≤(rows[i]?.getD []).length:=by
 unfold zBj
 split
 ·rw [List.length_map,Int.toNat_natCast];exact List.length_filter_le _ _
 ·exact Nat.zero_le _
theorem zHA (rows:zAy) (c:Nat):∀ (l:List Nat) (k:Nat),l.Pairwise (· < ·)→(∀ x∈l,k≤x)→((zAp l).flatMap (zBj rows c)).length≤allE (rows.drop k)
 | [],k,_,_=>Nat.zero_le _
 | x::l,k,h,hk=>by
   obtain ⟨h1,h2⟩:=List.pairwise_cons.1 h
   have ih:=zHA rows c l (x+1) h2 (fun y hy=>h1 y hy)
   have hx:=hk x (by simp)
   have hb:=byte_len rows c x
   have e:zAp (x::l)=(x:Int)::zAp l:=rfl
   rw [e,List.flatMap_cons,List.length_append]
   have e2:rows.drop x=(rows.drop k).drop (x-k):=by rw [List.drop_drop];congr 1;omega
   have e3:=zII (rows.drop k) (x-k)
   rw [←e2] at e3
   by_cases hl:x<rows.length
   ·rw [List.drop_eq_getElem_cons hl] at e3
    rw [List.getElem?_eq_getElem hl] at hb
    unfold allE at *
    simp only [List.map_cons,List.sum_cons,Option.getD_some] at *
    omega
   ·rw [List.getElem?_eq_none (by omega)] at hb
    rw [List.drop_eq_nil_of_le (by omega)] at ih
    unfold allE at *
    have hb2:(zBj rows c (x:Int)).length=0:=by simpa using hb
    have ih2:((zAp l).flatMap (zBj rows c)).length=0:=by simpa using ih
    omega
theorem step_len {rows:zAy}{c:Nat}{l:List Nat} (h:l.Pairwise (· < ·)):((zAp l).flatMap (zBj rows c)).length≤allE rows:=zHA rows c l 0 h (fun _ _=>Nat.zero_le _)
theorem zEv (l:List Nat):(zAp l).map (Value.int .i64)=zAq l:=by unfold zAp zAq;rw [List.map_map];rfl
theorem zFn (l:List Nat):(zAp l).length=l.length:=by simp [zAp]
section
variable {ro:Ro}{own r:Chs}{K:Value→Ro→Chs→Prop}{g:Chunk→Chs}
theorem nlen_ok {a:NfaD}{v:List Value} (hv:AutoOk ro a v) (hk:K (.int .i64 (a.rows.length:Int)) ro own):CallOk Tryz.prog 57 #[.agg v.toArray] ro own K:=by
 obtain ⟨ad,cp,hs,rfl,hrs,hrw⟩:=hv
 refine CallOk.intro (args:=[_]) (rs:=[_]) T_ok Tryz.func57 Tryz.call57 rfl rfl (by kernel_rfl) rfl rfl ?_
 repeat first|exact zE|refine zP ?_|refine zB fun b=>?_|refine zC fun a' c' hc1 hc2=>?_|(apply GJ.a;exact rfl;intro hg)|(apply GJ.o;exact rfl;intro hg)
 exact Wk.outS Sup.z (.refl _) hk
theorem zMI {a:NfaD}{v:List Value} (hv:AutoOk ro a v) (ha:zL5 a)
  (hk:∀ a' c',(zBK a.rows).length≤c'→c'≤maxLen→K (.slice a' (zBK a.rows).length c') ro (.sl a' (zBK a.rows).length c' 3 1 (zAq (zBK a.rows))::own)) :
  CallOk Tryz.prog 61 #[.agg v.toArray] ro own K:=by
 have hv0:=hv
 obtain ⟨ad,cp,hs,rfl,hrs,hrw⟩:=hv
 have hle:=ha.le
 unfold zBK at hk
 by_cases h:a.rows=[]
 ·rw [if_pos h] at hk
  have h0:a.rows.length=0:=by rw [h];rfl
  refine CallOk.intro (args:=[_]) (rs:=[_]) T_ok Tryz.func61 Tryz.call61 rfl rfl (by kernel_rfl) rfl rfl ?_
  repeat first|exact zE|refine zP ?_|refine zB fun b=>?_|refine zC fun a' c' hc1 hc2=>?_|(apply GJ.a;exact rfl;intro hg)|(apply GJ.o;exact rfl;intro hg)
  exact Wk.own _ (Sup.nilc (Sup.drop _ (Sup.all _))) (Wk.id (hk none 0 (Nat.le_refl _) (Nat.zero_le _)))
 ·rw [if_neg h] at hk
  have h0:0<a.rows.length:=List.length_pos_iff.2 h
  refine CallOk.intro (args:=[_]) (rs:=[_]) T_ok Tryz.func61 Tryz.call61 rfl rfl (by kernel_rfl) rfl rfl ?_
  repeat first|exact zE|refine zP ?_|refine zB fun b=>?_|refine zC fun a' c' hc1 hc2=>?_|(apply GJ.a;exact rfl;intro hg)|(apply GJ.o;exact rfl;intro hg)
  refine zIa (list:=[0]) hv0 ha (Rds.hasSl (t:=3) (Nat.le_refl _) (by decide) rfl) rfl (fun a' c' h1 h2=>?_)
  repeat first|exact zE|refine zP ?_|refine zB fun b=>?_|refine zC fun a' c' hc1 hc2=>?_|(apply GJ.a;exact rfl;intro hg)|(apply GJ.o;exact rfl;intro hg)
  exact Wk.outS Sup.z (.refl _) (hk a' c' h1 h2)
theorem zMM {al:Option Addr}{nl cl:Nat}{list:List Int}{x:Int} (hr:Rds ro own al nl cl 1 (list.map (Value.int .i64))) (hnl:list.length=nl)
  (hk:∀ z:Int,decide (z ≥ 0)=list.contains x→K (.int .i64 z) ro own):CallOk Tryz.prog 105 #[.slice al nl cl,.int .i64 x] ro own K:=by
 have hmx:=hr.max
 have hncl:=hr.le
 unfold maxLen at hmx
 subst hnl
 refine CallOk.intro (args:=[_,_]) (rs:=[_]) T_ok Tryz.func105 Tryz.call105 rfl rfl (by kernel_rfl) rfl rfl ?_
 repeat first|exact zE|refine zP ?_|refine zB fun b=>?_|refine zC fun a' c' hc1 hc2=>?_|(apply GJ.a;exact rfl;intro hg)|(apply GJ.o;exact rfl;intro hg)
 refine LoopOk.at (ι:=Nat) Keep.z (fun i=>[(8,.int .i64 (i:Int))]) (fun i=>own) (fun i=>i≤list.length∧x∉list.take i) (fun i=>list.length-i) 0 ?_ Sub.z Sup.z ?_
 ·exact ⟨Nat.zero_le _,by simp⟩
 rintro i ⟨i1,i2⟩
 dsimp only [List.cons_append,List.nil_append] at i1 i2 ⊢
 by_cases hi:i<list.length
 ·obtain ⟨z,hz⟩:∃ z,list[i]?=some z:=⟨_,List.getElem?_eq_getElem hi⟩
  have hzb:list[((i:Nat):Int).toNat]! = z:=by rw [Int.toNat_natCast,List.getElem!_eq_getElem?_getD,hz];rfl
  by_cases hx:x=z
  ·subst hx
   repeat first|exact zE|refine zP ?_|refine zB fun b=>?_|refine zC fun a' c' hc1 hc2=>?_|(apply GJ.a;exact rfl;intro hg)|(apply GJ.o;exact rfl;intro hg)
   refine Wk.id (hk _ ?_)
   rw [decide_eq_true (show (i:Int) ≥ 0 by omega)]
   exact (List.contains_iff_mem.2 (List.mem_of_getElem? hz)).symm
  ·repeat first|exact zE|refine zP ?_|refine zB fun b=>?_|refine zC fun a' c' hc1 hc2=>?_|(apply GJ.a;exact rfl;intro hg)|(apply GJ.o;exact rfl;intro hg)
   repeat first|exact zE|refine zP ?_|refine zB fun b=>?_|refine zC fun a' c' hc1 hc2=>?_|(apply GJ.a;exact rfl;intro hg)|(apply GJ.o;exact rfl;intro hg)
   refine Wk.id ⟨i+1,⟨rfl,?_⟩,?_,Sub.z,Sup.z⟩
   all_goals try dsimp only
   ·refine ⟨by omega,fun hm=>?_⟩
    rw [List.take_add_one,hz] at hm
    rcases List.mem_append.1 hm with hm|hm
    ·exact i2 hm
    ·simp at hm;exact hx hm
   ·omega
 ·obtain rfl:i=list.length:=by omega
  rw [List.take_length] at i2
  repeat first|exact zE|refine zP ?_|refine zB fun b=>?_|refine zC fun a' c' hc1 hc2=>?_|(apply GJ.a;exact rfl;intro hg)|(apply GJ.o;exact rfl;intro hg)
  refine Wk.id (hk _ ?_)
  simpa using i2
theorem zIg {al:Option Addr}{nl cl:Nat}{list:List Int}{x:Int} (hr:Rds ro own al nl cl 1 (list.map (Value.int .i64))) (hnl:list.length=nl)
  (hk:K (.bool (list.contains x)) ro own):CallOk Tryz.prog 94 #[.slice al nl cl,.int .i64 x] ro own K:=by
 refine CallOk.intro (args:=[_,_]) (rs:=[_]) T_ok Tryz.func94 Tryz.call94 rfl rfl (by kernel_rfl) rfl rfl ?_
 repeat first|exact zE|refine zP ?_|refine zB fun b=>?_|refine zC fun a' c' hc1 hc2=>?_|(apply GJ.a;exact rfl;intro hg)|(apply GJ.o;exact rfl;intro hg)
 refine zMM hr hnl (fun z hz=>?_)
 repeat first|exact zE|refine zP ?_|refine zB fun b=>?_|refine zC fun a' c' hc1 hc2=>?_|(apply GJ.a;exact rfl;intro hg)|(apply GJ.o;exact rfl;intro hg)
 exact Wk.val hk (congrArg Value.bool hz.symm)
theorem nends_ok {a:NfaD}{v:List Value}{al:Option Addr}{nl cl:Nat}{list:List Int} (hv:AutoOk ro a v) (ha:zL5 a) (hr:Rds ro own al nl cl 1 (list.map (Value.int .i64))) (hnl:list.length=nl)
  (hk:K (.bool (zHo a list)) ro own):CallOk Tryz.prog 65 #[.agg v.toArray,.slice al nl cl] ro own K:=by
 obtain ⟨ad,cp,hs,rfl,hrs,hrw⟩:=hv
 unfold zHo at hk
 by_cases h:0<a.rows.length
 ·rw [decide_eq_true h,Bool.true_and] at hk
  refine CallOk.intro (args:=[_,_]) (rs:=[_]) T_ok Tryz.func65 Tryz.call65 rfl rfl (by kernel_rfl) rfl rfl ?_
  repeat first|exact zE|refine zP ?_|refine zB fun b=>?_|refine zC fun a' c' hc1 hc2=>?_|(apply GJ.a;exact rfl;intro hg)|(apply GJ.o;exact rfl;intro hg)
  refine zIg (x:=a.last) hr.up hnl ?_
  repeat first|exact zE|refine zP ?_|refine zB fun b=>?_|refine zC fun a' c' hc1 hc2=>?_|(apply GJ.a;exact rfl;intro hg)|(apply GJ.o;exact rfl;intro hg)
  exact Wk.outS Sup.z (.refl _) hk
 ·rw [decide_eq_false h,Bool.false_and] at hk
  have h0:a.rows.length=0:=by omega
  refine CallOk.intro (args:=[_,_]) (rs:=[_]) T_ok Tryz.func65 Tryz.call65 rfl rfl (by kernel_rfl) rfl rfl ?_
  repeat first|exact zE|refine zP ?_|refine zB fun b=>?_|refine zC fun a' c' hc1 hc2=>?_|(apply GJ.a;exact rfl;intro hg)|(apply GJ.o;exact rfl;intro hg)
  exact Wk.outS Sup.z (.refl _) hk
end
end Go.Proofs.YtmaennnkaoollaaGreatDoor
namespace Go.Proofs.YtmaennnkaoollaaGreatDoor
open Go Go.E
def zGi (c:Nat) (l:List zA9):List Int:=(l.filter fun x=>!x.free&&x.set.has c).map fun x=>Int.ofNat x.to
theorem zLe {c:Nat}{row:List zA9}{j:Nat}{x:zA9} (hx:row[j]?=some x):zGi c (row.take (j+1))=zGi c (row.take j)++if (!x.free&&x.set.has c)=true then [Int.ofNat x.to] else []:=by
 unfold zGi
 rw [List.take_add_one,hx,List.filter_append,List.map_append]
 congr 1
 simp only [Option.toList_some,List.filter_cons,List.filter_nil]
 split<;>rfl
theorem zMn {rows:zAy}{c i:Nat}{row:List zA9} (h:rows[i]?=some row):zBj rows c (i:Int)=zGi c row:=by
 have hl:=(List.getElem?_eq_some_iff.1 h).1
 unfold zBj zGi
 rw [if_pos ⟨Int.natCast_nonneg _,by omega⟩,Int.toNat_natCast,h];rfl
theorem zMm (c:Nat) (row:List zA9) (j:Nat):(zGi c (row.take j)).length≤(zGi c row).length:=by
 unfold zGi
 rw [List.length_map,List.length_map]
 exact ((List.take_sublist j row).filter _).length_le
theorem zNr {list:List Int}{f:Int→List Int}{i:Nat}{z:Int} (hz:list[i]?=some z):(list.take (i+1)).flatMap f=(list.take i).flatMap f++f z:=by
 rw [List.take_add_one,hz,List.flatMap_append]
 congr 1
 simp
theorem flat_le {list:List Int}{f:Int→List Int} (i:Nat):((list.take i).flatMap f).length≤(list.flatMap f).length:=by
 have:=congrArg List.length (List.flatMap_append (xs:=list.take i) (ys:=list.drop i) (f:=f))
 rw [List.take_append_drop,List.length_append] at this
 omega
section
variable {ro:Ro}{own r:Chs}{K:Value→Ro→Chs→Prop}{g:Chunk→Chs}
set_option maxHeartbeats 4000000 in
theorem nstep_ok {a:NfaD}{v:List Value}{list:List Int}{al:Option Addr}{nl cl c:Nat} (hv:AutoOk ro a v) (ha:zL6 a) (hr:Rds ro own al nl cl 1 (list.map (Value.int .i64))) (hnl:list.length=nl) (hc:c<256) (hL:(list.flatMap (zBj a.rows c)).length≤1000000)
  (hk:∀ a' c',(zBJ a.rows list c).length≤c'→c'≤maxLen→K (.slice a' (zBJ a.rows list c).length c') ro (.sl a' (zBJ a.rows list c).length c' 3 1 (zAq (zBJ a.rows list c))::own)) :
  CallOk Tryz.prog 64 #[.agg v.toArray,.slice al nl cl,.int .u8 (c:Int)] ro own K:=by
 have hv0:=hv
 obtain ⟨ad,cp,hs,rfl,hrs,hrw⟩:=hv
 have hle:=ha.ok.le
 have hmx:=hr.max
 have hncl:=hr.le
 have hmr:=hrs.max
 have hncr:=hrs.le
 unfold maxLen at hmx hmr
 subst hnl
 refine CallOk.intro (args:=[_,_,_]) (rs:=[_]) T_ok Tryz.func64 Tryz.call64 rfl rfl (by kernel_rfl) rfl rfl ?_
 repeat first|exact zE|refine zP ?_|refine zB fun b=>?_|refine zC fun a' c' hc1 hc2=>?_|(apply GJ.a;exact rfl;intro hg)|(apply GJ.o;exact rfl;intro hg)
 obtain ⟨b1,hb1⟩:∃ z:Nat,z=b:=⟨_,rfl⟩
 subst hb1
 refine LoopOk.at (ι:=Nat × List Int × Option Addr × Nat) Keep.z (fun (i,o,ao,co)=>[(14,.int .i64 (i:Int)),(7,.slice ao o.length co)]) (fun (i,o,ao,co)=>.sl ao o.length co 3 1 (o.map (Value.int .i64))::.blk b1 74 [.slice ad a.rows.length cp,.int .i64 a.last]::own) (fun (i,o,ao,co)=>i≤list.length∧o=(list.take i).flatMap (zBj a.rows c)∧o.length≤co∧co≤maxLen) (fun (i,o,ao,co)=>list.length-i) (0,[],none,0) ?_ Sub.z Sup.z ?_
 ·exact ⟨Nat.zero_le _,rfl,Nat.le_refl _,Nat.zero_le _⟩
 rintro ⟨i,o,ao,co⟩ ⟨i1,i2,i3,i4⟩
 dsimp only [List.cons_append,List.nil_append] at i1 i2 i3 i4 ⊢
 by_cases hi:i<list.length
 ·obtain ⟨z,hz⟩:∃ z,list[i]?=some z:=⟨_,List.getElem?_eq_getElem hi⟩
  have hgz:(list.map (Value.int .i64))[i]?=some (.int .i64 z):=by simp [hz]
  have hzb:list[((i:Nat):Int).toNat]! = z:=by rw [Int.toNat_natCast,List.getElem!_eq_getElem?_getD,hz];rfl
  have hfs:=zNr (f:=zBj a.rows c) hz
  have hfl:=flat_le (list:=list) (f:=zBj a.rows c) (i+1)
  rw [hfs,List.length_append,←i2] at hfl
  by_cases hz0:z<0∨(a.rows.length:Int)≤z
  ·have hb0:zBj a.rows c z=[]:=by unfold zBj;rw [if_neg (by omega)]
   rw [hb0,List.append_nil,←i2] at hfs
   repeat first|exact zE|refine zP ?_|refine zB fun b=>?_|refine zC fun a' c' hc1 hc2=>?_|(apply GJ.a;exact rfl;intro hg)|(apply GJ.o;exact rfl;intro hg)
   repeat first|exact zE|refine zP ?_|refine zB fun b=>?_|refine zC fun a' c' hc1 hc2=>?_|(apply GJ.a;exact rfl;intro hg)|(apply GJ.o;exact rfl;intro hg)
   refine Wk.id ⟨(i+1,o,ao,co),⟨rfl,?_⟩,?_,Sub.z,Sup.z⟩
   all_goals try dsimp only
   ·exact ⟨by omega,hfs.symm,i3,i4⟩
   ·omega
  ·obtain ⟨k,rfl⟩:∃ k:Nat,z=(k:Int):=⟨z.toNat,by omega⟩
   have hkn:k<a.rows.length:=by omega
   obtain ⟨row,hrow⟩:∃ row,a.rows[k]?=some row:=⟨_,List.getElem?_eq_getElem hkn⟩
   obtain ⟨ar,cr,hhs,hrr⟩:=hrw.row k row hrow
   have hrt:=zMn (c:=c) hrow
   rw [hrt] at hfs hfl
   have hrm:=hrr.max
   have hrl:=hrr.le
   unfold maxLen at hrm
   repeat first|exact zE|refine zP ?_|refine zB fun b=>?_|refine zC fun a' c' hc1 hc2=>?_|(apply GJ.a;exact rfl;intro hg)|(apply GJ.o;exact rfl;intro hg)
   rw [hzb,Int.toNat_natCast]
   refine OpOk.load rfl rfl (Ld.rs hrs hhs) ?_
   repeat first|exact zE|refine zP ?_|refine zB fun b=>?_|refine zC fun a' c' hc1 hc2=>?_|(apply GJ.a;exact rfl;intro hg)|(apply GJ.o;exact rfl;intro hg)
   refine LoopOk.at (ι:=Nat × List Int × Option Addr × Nat) Keep.z (fun (j,o,ao,co)=>[(33,.int .i64 (j:Int)),(7,.slice ao o.length co)]) (fun (j,o,ao,co)=>.sl ao o.length co 3 1 (o.map (Value.int .i64))::.blk b1 74 [.slice ad a.rows.length cp,.int .i64 a.last]::own) (fun (j,o,ao,co)=>j≤row.length∧o=(list.take i).flatMap (zBj a.rows c)++zGi c (row.take j)∧o.length≤co∧co≤maxLen) (fun (j,o,ao,co)=>row.length-j) (0,o,ao,co) ?_ Sub.z Sup.z ?_
   ·exact ⟨Nat.zero_le _,by rw [i2];simp [zGi],i3,i4⟩
   rintro ⟨j,o',ao',co'⟩ ⟨j1,j2,j3,j4⟩
   dsimp only [List.cons_append,List.nil_append] at j1 j2 j3 j4 ⊢
   rw [←i2] at j2
   by_cases hj:j<row.length
   ·obtain ⟨x,hx⟩:∃ x,row[j]?=some x:=⟨_,List.getElem?_eq_getElem hj⟩
    have hsn:=zLe (c:=c) hx
    have hrl2:=zMm c row (j+1)
    rw [hsn,List.length_append] at hrl2
    have hol:=congrArg List.length j2
    rw [List.length_append] at hol
    have hlx:=zCZ row j x hx
    have hsi:x.free=false→SetIn x.set:=fun hf=>ha.sets _ (sets_mem.2 ⟨row,List.mem_of_getElem? hrow,x,List.mem_of_getElem? hx,hf,rfl⟩)
    obtain ⟨k2,⟨s1,s2,s3,s4⟩,xf⟩:=x
    dsimp only [zEN] at hlx hsi hsn hrl2
    repeat first|exact zE|refine zP ?_|refine zB fun b=>?_|refine zC fun a' c' hc1 hc2=>?_|(apply GJ.a;exact rfl;intro hg)|(apply GJ.o;exact rfl;intro hg)
    rw [Int.toNat_natCast]
    refine OpOk.loadRow rfl rfl (LdN.at hrr hlx) rfl ?_
    cases xf with
    | true =>
      rw [if_neg (by simp),List.append_nil] at hsn
      repeat first|exact zE|refine zP ?_|refine zB fun b=>?_|refine zC fun a' c' hc1 hc2=>?_|(apply GJ.a;exact rfl;intro hg)|(apply GJ.o;exact rfl;intro hg)
      repeat first|exact zE|refine zP ?_|refine zB fun b=>?_|refine zC fun a' c' hc1 hc2=>?_|(apply GJ.a;exact rfl;intro hg)|(apply GJ.o;exact rfl;intro hg)
      refine Wk.id ⟨(j+1,o',ao',co'),⟨rfl,?_⟩,?_,Sub.z,Sup.z⟩
      all_goals try dsimp only
      ·exact ⟨by omega,by rw [hsn,←i2];exact j2,j3,j4⟩
      ·omega
    | false =>
      have hsi:=hsi rfl
      repeat first|exact zE|refine zP ?_|refine zB fun b=>?_|refine zC fun a' c' hc1 hc2=>?_|(apply GJ.a;exact rfl;intro hg)|(apply GJ.o;exact rfl;intro hg)
      refine zG9 (s:=⟨s1,s2,s3,s4⟩) hsi hc ?_
      cases hb:SetD.has ⟨s1,s2,s3,s4⟩ c with
      | false =>
        rw [hb,if_neg (by simp),List.append_nil] at hsn
        repeat first|exact zE|refine zP ?_|refine zB fun b=>?_|refine zC fun a' c' hc1 hc2=>?_|(apply GJ.a;exact rfl;intro hg)|(apply GJ.o;exact rfl;intro hg)
        repeat first|exact zE|refine zP ?_|refine zB fun b=>?_|refine zC fun a' c' hc1 hc2=>?_|(apply GJ.a;exact rfl;intro hg)|(apply GJ.o;exact rfl;intro hg)
        refine Wk.id ⟨(j+1,o',ao',co'),⟨rfl,?_⟩,?_,Sub.z,Sup.z⟩
        all_goals try dsimp only
        ·exact ⟨by omega,by rw [hsn,←i2];exact j2,j3,j4⟩
        ·omega
      | true =>
        rw [hb,if_pos (by simp)] at hsn
        rw [hb,if_pos (by simp)] at hrl2
        have hl1:([Int.ofNat k2]:List Int).length=1:=rfl
        rw [hl1] at hrl2
        have hs1:o'.map (Value.int .i64)++[.int .i64 (k2:Int)]=(o'++[(k2:Int)]).map (Value.int .i64):=by simp
        have hs2:o'.length+1=(o'++[(k2:Int)]).length:=by simp
        have hO:(o'.map (Value.int .i64)).length=o'.length:=by simp
        repeat first|exact zE|refine zP ?_|refine zB fun b=>?_|refine zC fun a' c' hc1 hc2=>?_|(apply GJ.a;exact rfl;intro hg)|(apply GJ.o;exact rfl;intro hg)
        rw [hs1,hs2]
        rw [hs2] at hc1
        repeat first|exact zE|refine zP ?_|refine zB fun b=>?_|refine zC fun a' c' hc1 hc2=>?_|(apply GJ.a;exact rfl;intro hg)|(apply GJ.o;exact rfl;intro hg)
        refine Wk.id ⟨(j+1,o'++[(k2:Int)],a',c'),⟨rfl,?_⟩,?_,Sub.z,Sup.z⟩
        all_goals try dsimp only
        ·exact ⟨by omega,by rw [hsn,j2,List.append_assoc,←i2];rfl,hc1,hc2⟩
        ·omega
   ·obtain rfl:j=row.length:=by omega
    rw [List.take_length] at j2
    repeat first|exact zE|refine zP ?_|refine zB fun b=>?_|refine zC fun a' c' hc1 hc2=>?_|(apply GJ.a;exact rfl;intro hg)|(apply GJ.o;exact rfl;intro hg)
    repeat first|exact zE|refine zP ?_|refine zB fun b=>?_|refine zC fun a' c' hc1 hc2=>?_|(apply GJ.a;exact rfl;intro hg)|(apply GJ.o;exact rfl;intro hg)
    refine Wk.id ⟨(i+1,o',ao',co'),⟨rfl,?_⟩,?_,Sub.z,Sup.z⟩
    all_goals try dsimp only
    ·exact ⟨by omega,by rw [hfs,←i2];exact j2,j3,j4⟩
    ·omega
 ·obtain rfl:i=list.length:=by omega
  rw [List.take_length] at i2
  subst i2
  repeat first|exact zE|refine zP ?_|refine zB fun b=>?_|refine zC fun a' c' hc1 hc2=>?_|(apply GJ.a;exact rfl;intro hg)|(apply GJ.o;exact rfl;intro hg)
  refine zIa hv0 ha.ok (Rds.hasSl (t:=3) i3 i4 (by simp)) rfl (fun a' c' h1 h2=>?_)
  repeat first|exact zE|refine zP ?_|refine zB fun b=>?_|refine zC fun a' c' hc1 hc2=>?_|(apply GJ.a;exact rfl;intro hg)|(apply GJ.o;exact rfl;intro hg)
  exact Wk.outS Sup.z (.refl _) (hk a' c' h1 h2)
end
end Go.Proofs.YtmaennnkaoollaaGreatDoor
namespace Go.Proofs.YtmaennnkaoollaaGreatDoor
open Go Go.E
theorem zHB (rows:zAy):(zBK rows).Pairwise (· < ·):=by
 unfold zBK
 split
 ·exact List.Pairwise.nil
 ·exact zDt _ _
theorem start_lt {rows:zAy}{j:Nat} (h:j∈zBK rows):j<rows.length:=by
 unfold zBK at h
 split at h
 ·cases h
 ·exact zJX h
theorem zGt:∀ (l:List Nat) (k n:Nat),l.Pairwise (· < ·)→(∀ x∈l,k≤x∧x<n)→l.length≤n-k
 | [],k,n,_,_=>Nat.zero_le _
 | x::l,k,n,h,hk=>by
   obtain ⟨h1,h2⟩:=List.pairwise_cons.1 h
   have ih:=zGt l (x+1) n h2 (fun y hy=>⟨h1 y hy,(hk y (List.mem_cons_of_mem _ hy)).2⟩)
   have:=hk x (by simp)
   rw [List.length_cons];omega
section
variable {ro:Ro}{own r:Chs}{K:Value→Ro→Chs→Prop}{g:Chunk→Chs}
end
end Go.Proofs.YtmaennnkaoollaaGreatDoor
namespace Go.Proofs.YtmaennnkaoollaaGreatDoor
open Go Go.E
end Go.Proofs.YtmaennnkaoollaaGreatDoor
end
section
namespace Go.E
open Go
theorem zCV {P:Program}{t:TypeId} (d:Nat) (hu:P.underlying t=some (.int .u64)) {z:Int} (h0:0≤z) (h1:z≤18446744073709551615):P.keyLits (d+1) t [.int .u64 z]=some [.int .u64 z]:=by
 unfold Program.keyLits
 rw [hu]
 dsimp only
 rw [if_pos ⟨rfl,by simp only [Lit.wf,Bool.and_eq_true,decide_eq_true_iff];exact ⟨h0,h1⟩⟩]
theorem zIs {P:Program}{k e:TypeId} (d:Nat) (hk:P.underlying k=some (.array 4 e)) (he:P.underlying e=some (.int .u64)) (c1:P.cellsOf e=1) (c4:P.cellsOf k=4) {w x y z:Int} (hw:0≤w∧w≤18446744073709551615) (hx:0≤x∧x≤18446744073709551615) (hy:0≤y∧y≤18446744073709551615) (hz:0≤z∧z≤18446744073709551615) :
  P.keyLits (d+1+1) k [.int .u64 w,.int .u64 x,.int .u64 y,.int .u64 z]=some [.int .u64 w,.int .u64 x,.int .u64 y,.int .u64 z]:=by
 unfold Program.keyLits
 rw [hk]
 dsimp only
 rw [if_pos (by rw [c4];rfl),c1,show List.range 4=[0,1,2,3] from rfl]
 have e1:=zCV d he hw.1 hw.2
 have e2:=zCV d he hx.1 hx.2
 have e3:=zCV d he hy.1 hy.2
 have e4:=zCV d he hz.1 hz.2
 simp [List.mapM_cons,e1,e2,e3,e4]
end Go.E
namespace Go.Proofs.YtmaennnkaoollaaGreatDoor
open Go Go.E
def zHH (s:SetD):Value:=.agg (setV s).toArray
theorem zLZ:KeyEnc Tryz.prog 113 zHH SetIn:=KeyEnc.ofLaw (deep_law_gate (by kernel_rfl) (by decide +kernel) (by decide +kernel) (by kernel_rfl) (by kernel_rfl))
 (fun s h=>by
  have b:∀ k,(0:Int)≤(s.w k:Int)∧(s.w k:Int)≤18446744073709551615:=fun k=>⟨Int.natCast_nonneg _,by have:=h k;omega⟩
  have hu:Tryz.prog.underlying 113=some (.array 4 22):=by kernel_rfl
  have he:Tryz.prog.underlying 22=some (.int .u64):=by kernel_rfl
  have c1:Tryz.prog.cellsOf 22=1:=by kernel_rfl
  have c4:Tryz.prog.cellsOf 113=4:=by kernel_rfl
  obtain ⟨d,hd⟩:∃ d,Tryz.prog.types.size+1=d+1+1:=⟨Tryz.prog.types.size-1,by
   have:0<Tryz.prog.types.size:=by decide +kernel
   omega⟩
  have hl:=zIs d hu he c1 c4 (b 0) (b 1) (b 2) (b 3)
  rw [←hd] at hl
  unfold keyOf
  rw [hu]
  dsimp only
  rw [if_pos (by
   rw [Bool.and_eq_true]
   refine ⟨by kernel_rfl,?_⟩
   show Value.formed _ _ (.agg _)=true
   unfold Value.formed
   rw [hu]
   dsimp only
   rw [c4];rfl)]
  rw [show (zHH s).cells.toList=[.int .u64 (s.w 0:Int),.int .u64 (s.w 1:Int),.int .u64 (s.w 2:Int),.int .u64 (s.w 3:Int)] from rfl,hl]
  exact ⟨_,rfl⟩)
 (fun a b h=>by
  obtain ⟨a1,a2,a3,a4⟩:=a
  obtain ⟨b1,b2,b3,b4⟩:=b
  simp only [zHH,setV,wV] at h
  simp at h
  simp;omega)
def rowS (o:List SetD) (l:List zA9):List SetD:=l.foldl addS o
def MarkS (o:List SetD) (M:List (SetD × Bool × Nat)):Prop:=MapOk SetIn M∧∀ s,getG M s=if s∈o then some true else none
theorem MarkS.nil:MarkS [] []:=⟨MapOk.nil,fun s=>by simp [getG]⟩
theorem MarkS.push {o:List SetD}{M:List (SetD × Bool × Nat)} (h:MarkS o M) {s:SetD} (hs:SetIn s) (c:Nat):MarkS (o++[s]) (putG M c s true):=by
 refine ⟨h.1.put hs c true,fun t=>?_⟩
 rw [zDz,h.2 t]
 by_cases e:t=s
 ·rw [if_pos e,if_pos (List.mem_append.2 (.inr (List.mem_singleton.2 e)))]
 ·rw [if_neg e]
  by_cases h2:t∈o
  ·rw [if_pos h2,if_pos (List.mem_append.2 (.inl h2))]
  ·rw [if_neg h2,if_neg (fun h=>(List.mem_append.1 h).elim h2 (fun h3=>e (List.mem_singleton.1 h3)))]
theorem MarkS.is {o:List SetD}{M:List (SetD × Bool × Nat)} (h:MarkS o M) (s:SetD):((getG M s).map Value.bool).getD (.bool false)=.bool (decide (s∈o)):=by
 rw [h.2 s]
 by_cases e:s∈o
 ·rw [if_pos e,decide_eq_true e];rfl
 ·rw [if_neg e,decide_eq_false e];rfl
section
variable {ro:Ro}{own r:Chs}{K:Value→Ro→Chs→Prop}{g:Chunk→Chs}
set_option maxHeartbeats 4000000 in
theorem nsets_ok {a:NfaD}{v:List Value} (hv:AutoOk ro a v) (ha:zL6 a)
  (hk:∀ a' c',(zB4 a.rows).length≤c'→c'≤maxLen→K (.slice a' (zB4 a.rows).length c') ro (.sl a' (zB4 a.rows).length c' 113 4 (zB3 (zB4 a.rows))::own)) :
  CallOk Tryz.prog 59 #[.agg v.toArray] ro own K:=by
 obtain ⟨ad,cp,hs,rfl,hrs,hrw⟩:=hv
 have hle:=ha.ok.le
 have hmr:=hrs.max
 have hncr:=hrs.le
 unfold maxLen at hmr
 refine CallOk.intro (args:=[_]) (rs:=[_]) T_ok Tryz.func59 Tryz.call59 rfl rfl (by kernel_rfl) rfl rfl ?_
 repeat first|exact zE|refine zP ?_|refine zB fun b=>?_|refine zC fun a' c' hc1 hc2=>?_|(apply GJ.a;exact rfl;intro hg)|(apply GJ.o;exact rfl;intro hg)
 obtain ⟨b1,hb1⟩:∃ z:Nat,z=b:=⟨_,rfl⟩
 subst hb1
 refine OpOk.makeMapG (kv:=zHH) (vv:=Value.bool) (fun bM=>?_)
 repeat first|exact zE|refine zP ?_|refine zB fun b=>?_|refine zC fun a' c' hc1 hc2=>?_|(apply GJ.a;exact rfl;intro hg)|(apply GJ.o;exact rfl;intro hg)
 refine LoopOk.at (ι:=Nat × List SetD × (Option Addr × Nat) × List (SetD × Bool × Nat) × Nat) Keep.z (fun (i,o,(ao,co),M,cM)=>[(13,.int .i64 (i:Int)),(4,.slice ao o.length co)]) (fun (i,o,(ao,co),M,cM)=>.sl ao o.length co 113 4 (zB3 o)::.obj bM (mapG zHH Value.bool M cM)::.blk b1 74 [.slice ad a.rows.length cp,.int .i64 a.last]::own) (fun (i,o,(ao,co),M,cM)=>i≤a.rows.length∧(a.rows.drop i).foldl rowS o=zB4 a.rows∧MarkS o M∧(o.length≤co∧co≤maxLen)∧o.length+allE (a.rows.drop i)≤900000) (fun (i,o,(ao,co),M,cM)=>a.rows.length-i) (0,[],(none,0),[],0) ?_ Sub.z Sup.z ?_
 ·exact ⟨Nat.zero_le _,rfl,MarkS.nil,⟨Nat.le_refl _,Nat.zero_le _⟩,by have:=ha.edges;simpa using this⟩
 rintro ⟨i,o,⟨ao,co⟩,M,cM⟩ ⟨i1,i2,i3,i4,i5⟩
 dsimp only [List.cons_append,List.nil_append] at i1 i2 i3 i4 i5 ⊢
 by_cases hi:i<a.rows.length
 ·obtain ⟨row,hrow⟩:∃ row,a.rows[i]?=some row:=⟨_,List.getElem?_eq_getElem hi⟩
  obtain ⟨ar,cr,hhs,hrr⟩:=hrw.row i row hrow
  have hrm:=hrr.max
  have hrl:=hrr.le
  unfold maxLen at hrm
  rw [zB2 hrow,List.foldl_cons] at i2
  have i5:o.length+(row.length+allE (a.rows.drop (i+1)))≤900000:=by
   rw [zB2 hrow] at i5
   unfold allE at i5 ⊢
   simpa using i5
  repeat first|exact zE|refine zP ?_|refine zB fun b=>?_|refine zC fun a' c' hc1 hc2=>?_|(apply GJ.a;exact rfl;intro hg)|(apply GJ.o;exact rfl;intro hg)
  rw [Int.toNat_natCast]
  refine OpOk.load rfl rfl (Ld.rs hrs hhs) ?_
  repeat first|exact zE|refine zP ?_|refine zB fun b=>?_|refine zC fun a' c' hc1 hc2=>?_|(apply GJ.a;exact rfl;intro hg)|(apply GJ.o;exact rfl;intro hg)
  refine LoopOk.at (ι:=Nat × List SetD × (Option Addr × Nat) × List (SetD × Bool × Nat) × Nat) Keep.z (fun (j,o,(ao,co),M,cM)=>[(19,.int .i64 (j:Int)),(4,.slice ao o.length co)]) (fun (j,o,(ao,co),M,cM)=>.sl ao o.length co 113 4 (zB3 o)::.obj bM (mapG zHH Value.bool M cM)::.blk b1 74 [.slice ad a.rows.length cp,.int .i64 a.last]::own) (fun (j,o,(ao,co),M,cM)=>j≤row.length∧(a.rows.drop (i+1)).foldl rowS (rowS o (row.drop j))=zB4 a.rows∧MarkS o M∧(o.length≤co∧co≤maxLen)∧o.length+((row.length-j)+allE (a.rows.drop (i+1)))≤900000) (fun (j,o,(ao,co),M,cM)=>row.length-j) (0,o,(ao,co),M,cM) ?_ Sub.z Sup.z ?_
  ·exact ⟨Nat.zero_le _,i2,i3,i4,i5⟩
  clear i2 i3 i4 i5
  rintro ⟨j,o,⟨ao,co⟩,M,cM⟩ ⟨j1,j2,j3,j4,j5⟩
  dsimp only [List.cons_append,List.nil_append] at j1 j2 j3 j4 j5 ⊢
  by_cases hj:j<row.length
  ·obtain ⟨x,hx⟩:∃ x,row[j]?=some x:=⟨_,List.getElem?_eq_getElem hj⟩
   have hlx:=zCZ row j x hx
   have hsi:x.free=false→SetIn x.set:=fun hf=>ha.sets _ (sets_mem.2 ⟨row,List.mem_of_getElem? hrow,x,List.mem_of_getElem? hx,hf,rfl⟩)
   rw [zB2 hx,rowS,List.foldl_cons] at j2
   have hadd:addS o x=if x.free=true∨x.set∈o then o else o++[x.set]:=rfl
   obtain ⟨k2,⟨s1,s2,s3,s4⟩,xf⟩:=x
   dsimp only [zEN] at hlx hsi hadd
   repeat first|exact zE|refine zP ?_|refine zB fun b=>?_|refine zC fun a' c' hc1 hc2=>?_|(apply GJ.a;exact rfl;intro hg)|(apply GJ.o;exact rfl;intro hg)
   rw [Int.toNat_natCast]
   refine OpOk.loadRow rfl rfl (LdN.at hrr hlx) rfl ?_
   cases xf with
   | true =>
     rw [if_pos (.inl rfl)] at hadd
     rw [hadd] at j2
     repeat first|exact zE|refine zP ?_|refine zB fun b=>?_|refine zC fun a' c' hc1 hc2=>?_|(apply GJ.a;exact rfl;intro hg)|(apply GJ.o;exact rfl;intro hg)
     repeat first|exact zE|refine zP ?_|refine zB fun b=>?_|refine zC fun a' c' hc1 hc2=>?_|(apply GJ.a;exact rfl;intro hg)|(apply GJ.o;exact rfl;intro hg)
     refine Wk.id ⟨(j+1,o,(ao,co),M,cM),⟨rfl,?_⟩,?_,Sub.z,Sup.z⟩
     all_goals try dsimp only
     ·exact ⟨by omega,j2,j3,j4,by omega⟩
     ·omega
   | false =>
     have hsi:=hsi rfl
     repeat first|exact zE|refine zP ?_|refine zB fun b=>?_|refine zC fun a' c' hc1 hc2=>?_|(apply GJ.a;exact rfl;intro hg)|(apply GJ.o;exact rfl;intro hg)
     refine OpOk.lookupG (et:=4) (kv:=zHH) (vv:=Value.bool) (k:=⟨s1,s2,s3,s4⟩) (z:=.bool false) rfl rfl (by kernel_rfl) zLZ j3.1 hsi (by kernel_rfl) ?_
     rw [j3.is]
     by_cases hm:(⟨s1,s2,s3,s4⟩:SetD)∈o
     ·rw [if_pos (.inr hm)] at hadd
      rw [hadd] at j2
      rw [decide_eq_true hm]
      repeat first|exact zE|refine zP ?_|refine zB fun b=>?_|refine zC fun a' c' hc1 hc2=>?_|(apply GJ.a;exact rfl;intro hg)|(apply GJ.o;exact rfl;intro hg)
      repeat first|exact zE|refine zP ?_|refine zB fun b=>?_|refine zC fun a' c' hc1 hc2=>?_|(apply GJ.a;exact rfl;intro hg)|(apply GJ.o;exact rfl;intro hg)
      refine Wk.id ⟨(j+1,o,(ao,co),M,cM),⟨rfl,?_⟩,?_,Sub.z,Sup.z⟩
      all_goals try dsimp only
      ·exact ⟨by omega,j2,j3,j4,by omega⟩
      ·omega
     ·rw [if_neg (fun h=>h.elim (fun h=>by cases h) hm)] at hadd
      rw [hadd] at j2
      rw [decide_eq_false hm]
      have hsl:=zDr o
      have hsn:=zEA o ⟨s1,s2,s3,s4⟩
      have hol:(o++[(⟨s1,s2,s3,s4⟩:SetD)]).length=o.length+1:=by simp
      repeat first|exact zE|refine zP ?_|refine zB fun b=>?_|refine zC fun a' c' hc1 hc2=>?_|(apply GJ.a;exact rfl;intro hg)|(apply GJ.o;exact rfl;intro hg)
      refine OpOk.mapUpdateG (et:=4) (kv:=zHH) (vv:=Value.bool) (k:=⟨s1,s2,s3,s4⟩) (v:=true) rfl rfl rfl (by kernel_rfl) zLZ j3.1 hsi (fun c2=>?_)
      repeat first|exact zE|refine zP ?_|refine zB fun b=>?_|refine zC fun a' c' hc1 hc2=>?_|(apply GJ.a;exact rfl;intro hg)|(apply GJ.o;exact rfl;intro hg)
      rw [show zB3 o++flat [Value.agg #[wV s1,wV s2,wV s3,wV s4]]=zB3 (o++[⟨s1,s2,s3,s4⟩]) from hsn.symm,←hol]
      rw [←hol] at hc1
      repeat first|exact zE|refine zP ?_|refine zB fun b=>?_|refine zC fun a' c' hc1 hc2=>?_|(apply GJ.a;exact rfl;intro hg)|(apply GJ.o;exact rfl;intro hg)
      refine Wk.id ⟨(j+1,o++[⟨s1,s2,s3,s4⟩],(a',c'),putG M cM ⟨s1,s2,s3,s4⟩ true,c2),⟨rfl,?_⟩,?_,Sub.z,Sup.z⟩
      all_goals try dsimp only
      ·exact ⟨by omega,j2,j3.push hsi cM,⟨hc1,hc2⟩,by rw [hol];omega⟩
      ·omega
  ·obtain rfl:j=row.length:=by omega
   rw [List.drop_length] at j2
   repeat first|exact zE|refine zP ?_|refine zB fun b=>?_|refine zC fun a' c' hc1 hc2=>?_|(apply GJ.a;exact rfl;intro hg)|(apply GJ.o;exact rfl;intro hg)
   repeat first|exact zE|refine zP ?_|refine zB fun b=>?_|refine zC fun a' c' hc1 hc2=>?_|(apply GJ.a;exact rfl;intro hg)|(apply GJ.o;exact rfl;intro hg)
   refine Wk.id ⟨(i+1,o,(ao,co),M,cM),⟨rfl,?_⟩,?_,Sub.z,Sup.z⟩
   all_goals try dsimp only
   ·exact ⟨by omega,j2,j3,j4,by omega⟩
   ·omega
 ·obtain rfl:i=a.rows.length:=by omega
  rw [List.drop_length,List.foldl_nil] at i2
  subst i2
  repeat first|exact zE|refine zP ?_|refine zB fun b=>?_|refine zC fun a' c' hc1 hc2=>?_|(apply GJ.a;exact rfl;intro hg)|(apply GJ.o;exact rfl;intro hg)
  exact Wk.outS Sup.z (.refl _) (hk _ _ i4.1 i4.2)
end
end Go.Proofs.YtmaennnkaoollaaGreatDoor
namespace Go.Proofs.YtmaennnkaoollaaGreatDoor
open Go Go.E
mutual
theorem zHQ {ro:Ro}:∀ {n:RgD}{v:List Value},RgOk ro n v→insD n
 | .mk k z l x y,v,h=>by
   rw [RgOk] at h
   obtain ⟨a,c,cs,h1,h2,h3,h4⟩:=h
   rw [insD]
   exact ⟨h2,zMo h4⟩
theorem zMo {ro:Ro}:∀ {l:List RgD}{cs:List Value},RgsOk ro l cs→insK l
 | [],cs,h=>by rw [insK];trivial
 | n::l,cs,h=>by
   rw [RgsOk] at h
   obtain ⟨v,r,h0,h1,h2⟩:=h
   rw [insK]
   exact ⟨zHQ h1,zMo h2⟩
end
theorem RowsOk.le {ro ro':Ro}{R:zAy}{hs:List Value} (h:RowsOk ro R hs) (hl:Le ro ro'):RowsOk ro' R hs:=⟨h.len,fun i row hr=>by
 obtain ⟨ad,cp,h1,h2⟩:=h.row i row hr
 exact ⟨ad,cp,h1,h2.up⟩⟩
theorem AutoOk.le {ro ro':Ro}{a:NfaD}{v:List Value} (h:AutoOk ro a v) (hl:Le ro ro'):AutoOk ro' a v:=by
 obtain ⟨ad,cp,hs,e,hr,hw⟩:=h
 exact ⟨ad,cp,hs,e,hr.up,hw.le hl⟩
section
variable {ro:Ro}{own r:Chs}{K:Value→Ro→Chs→Prop}{g:Chunk→Chs}
end
end Go.Proofs.YtmaennnkaoollaaGreatDoor
namespace Go.Proofs.YtmaennnkaoollaaGreatDoor
open Go Go.E
theorem zH8 {α:Type}{l m:List α}{i:Nat}{x y:α} (hx:l[i]?=some x) (hy:m[i]?=some y) (h:l.take i=m.take i):x=y↔l.take (i+1)=m.take (i+1):=by
 rw [List.take_add_one,List.take_add_one,hx,hy,h]
 simp
section
variable {ro:Ro}{own r:Chs}{K:Value→Ro→Chs→Prop}{g:Chunk→Chs}
theorem zN1 {a1 a2:Option Addr}{n1 n2 c1 c2:Nat}{l m:List Int} (h1:Rds ro own a1 n1 c1 1 (l.map (Value.int .i64))) (h2:Rds ro own a2 n2 c2 1 (m.map (Value.int .i64))) (e1:l.length=n1) (e2:m.length=n2)
  (hk:∀ b:Bool,(b=true↔l=m)→K (.bool b) ro own):CallOk Tryz.prog 35 #[.slice a1 n1 c1,.slice a2 n2 c2] ro own K:=by
 have m1:=h1.max
 have m2:=h2.max
 have k1:=h1.le
 have k2:=h2.le
 unfold maxLen at m1 m2
 subst e1;subst e2
 by_cases hl:l.length=m.length
 ·refine CallOk.intro (args:=[_,_]) (rs:=[_]) T_ok Tryz.func35 Tryz.call35 rfl rfl (by kernel_rfl) rfl rfl ?_
  repeat first|exact zE|refine zP ?_|refine zB fun b=>?_|refine zC fun a' c' hc1 hc2=>?_|(apply GJ.a;exact rfl;intro hg)|(apply GJ.o;exact rfl;intro hg)
  refine LoopOk.at (ι:=Nat) Keep.z (fun i=>[(13,.int .i64 (i:Int))]) (fun i=>own) (fun i=>i≤l.length∧l.take i=m.take i) (fun i=>l.length-i) 0 ?_ Sub.z Sup.z ?_
  ·exact ⟨Nat.zero_le _,by simp⟩
  rintro i ⟨i1,i2⟩
  dsimp only [List.cons_append,List.nil_append] at i1 i2 ⊢
  by_cases hi:i<l.length
  ·obtain ⟨x,hx⟩:∃ x,l[i]?=some x:=⟨_,List.getElem?_eq_getElem hi⟩
   obtain ⟨y,hy⟩:∃ y,m[i]?=some y:=⟨_,List.getElem?_eq_getElem (by omega)⟩
   have hxb:l[((i:Nat):Int).toNat]! = x:=by rw [Int.toNat_natCast,List.getElem!_eq_getElem?_getD,hx];rfl
   have hyb:m[((i:Nat):Int).toNat]! = y:=by rw [Int.toNat_natCast,List.getElem!_eq_getElem?_getD,hy];rfl
   have hn:=zH8 hx hy i2
   by_cases hxy:x=y
   ·repeat first|exact zE|refine zP ?_|refine zB fun b=>?_|refine zC fun a' c' hc1 hc2=>?_|(apply GJ.a;exact rfl;intro hg)|(apply GJ.o;exact rfl;intro hg)
    repeat first|exact zE|refine zP ?_|refine zB fun b=>?_|refine zC fun a' c' hc1 hc2=>?_|(apply GJ.a;exact rfl;intro hg)|(apply GJ.o;exact rfl;intro hg)
    refine Wk.id ⟨i+1,⟨rfl,?_⟩,?_,Sub.z,Sup.z⟩
    all_goals try dsimp only
    ·exact ⟨by omega,hn.1 hxy⟩
    ·omega
   ·repeat first|exact zE|refine zP ?_|refine zB fun b=>?_|refine zC fun a' c' hc1 hc2=>?_|(apply GJ.a;exact rfl;intro hg)|(apply GJ.o;exact rfl;intro hg)
    refine Wk.id (hk false ⟨(fun h=>by cases h),fun h=>?_⟩)
    subst h
    exact absurd (Option.some.inj (hx.symm.trans hy)) hxy
  ·obtain rfl:i=l.length:=by omega
   repeat first|exact zE|refine zP ?_|refine zB fun b=>?_|refine zC fun a' c' hc1 hc2=>?_|(apply GJ.a;exact rfl;intro hg)|(apply GJ.o;exact rfl;intro hg)
   refine Wk.id (hk true ⟨fun _=>?_,fun _=>rfl⟩)
   rw [List.take_length,hl,List.take_length] at i2
   exact i2
 ·refine CallOk.intro (args:=[_,_]) (rs:=[_]) T_ok Tryz.func35 Tryz.call35 rfl rfl (by kernel_rfl) rfl rfl ?_
  repeat first|exact zE|refine zP ?_|refine zB fun b=>?_|refine zC fun a' c' hc1 hc2=>?_|(apply GJ.a;exact rfl;intro hg)|(apply GJ.o;exact rfl;intro hg)
  exact Wk.id (hk false ⟨(fun h=>by cases h),fun h=>absurd (congrArg List.length h) hl⟩)
end
variable {H:Type}{enc:TypeId × Value→H}
theorem returnsS {a:Assume}{C:Checked}{os:Os}{f:FuncId}{fn:Func}{s:ChangeSpec}{conds:List PathCond}{apart zLu handsOn again:Bool}{X:World→Array Value→Prop}
  (hX:∀ (w w':World) (args:Array Value),w.heap=w'.heap→X w args→X w' args)
  (own:ownKnob C.prog.godebug=none) (started:os.Started) (noInit:C.prog.inits.idxOf? f=none) (hfn:C.prog.funcs[f]?=some fn)
  (witness:∃ (w:World) (tape:Tape) (i:Input),w.os=os∧(w.forCall tape i).Shaped C.prog∧i.vars=[]∧Input.okWide C.prog (w.forCall tape i) .any w.heap.size f i ∧
   ((s.pre enc C.prog fn conds apart (w.forCall tape i).memory i.args∧X (w.forCall tape i).memory i.args)∧sizedMet enc C.prog fn (OpenSpec.ofChange s) apart (w.forCall tape i).memory i.args)∧a.holds C.prog (lone (Frame.enter C.prog f i.args .normal) [] (w.forCall tape i)))
  (contract:∀ (W:World) (base:Nat) (args:Array Value) (ds gs:List (DataW H)) (before:List MemPlace),
   (∀ (j:Nat) t v,fn.params[j]?=some t→args[j]?=some v→Value.okWide C.prog W .any base t v) →
   DataW.Whole enc C.prog fn.params.toList s.vars apart W args.toList ds gs before →
   conds.all (PathCond.test C.prog ⟨fn.params.toList,ds,s.plain.varTypes C.prog,gs⟩)=true →
   (DataW.weightsEach C.prog (fn.params.toList++s.plain.varTypes C.prog) (ds++gs)).all (·≤reachBytes)=true→X W args→W.ShapedOpen C.prog →
   a.holds C.prog (lone (Frame.enter C.prog f args .normal) [] W) →
   Calls C.prog f args W fun e W'=>∃ v,e=.returned v∧s.post enc C.prog fn apart zLu handsOn again W args v W') :
  ReturnsInHanded a C os f .any (fun w args=>(s.pre enc C.prog fn conds apart w args∧X w args)∧sizedMet enc C.prog fn (OpenSpec.ofChange s) apart w args) (s.post enc C.prog fn apart zLu handsOn again):=by
 refine returnsInHanded_of_calls own started noInit witness (fun w tape i _ hshape _ hok hpre hh=>?_)
 obtain ⟨_,_,_,fn2,hfn2,_,_,_,_,hval⟩:=hok
 obtain rfl:fn2=fn:=Option.some.inj (hfn2.symm.trans hfn)
 obtain ⟨⟨⟨ds,gs,before,hw,hc⟩,hx⟩,hz⟩:=hpre
 refine (contract (w.forCall tape i) w.heap.size i.args ds gs before hval (DataW.Whole.of_heap (w':=w.forCall tape i) (by rfl) hw) hc (hz.weights hw) (hX _ _ _ (by rfl) hx) hshape hh).mono fun e W' ⟨v,he,hp⟩=>?_
 subst he
 exact ChangeSpec.post_blind hp
theorem MaxOk.ofShape {W:World} (h:W.ShapedOpen Tryz.prog):MaxOk (hm W.heap):=by
 obtain ⟨m,hc⟩:=Go.Proofs.cell_of_shapedOpen_int (g:=1) (t:=3) (k:=.i64) (zero:=#[.int .i64 0]) h (of_decide_eq_true (by kernel_rfl)) (by kernel_rfl) rfl (by kernel_rfl) (by kernel_rfl) Tryz.underlying3
 refine ⟨m,fun own hp hs=>?_⟩
 obtain ⟨cs,hh,hz,_⟩:=h.1 1 #[.int .i64 0] 3 (of_decide_eq_true (by kernel_rfl)) (by kernel_rfl)
 have h1:=hs.last 1 _ (show hm W.heap 1=some _ from hh)
 rw [zBM h1]
 simpa [World.cell?,hh] using hc
theorem zK8:∀ (k n:Nat),(decD k n).length≤k
 | 0,n=>by simp [decD]
 | k+1,n=>by
   rw [decD]
   split
   ·simp
   ·rw [List.length_append];have:=zK8 k (n / 10);simp;omega
theorem zEy (n:Nat):(zDo n).length≤20:=zK8 20 n
section
variable {ro:Ro}{own r:Chs}{K:Value→Ro→Chs→Prop}{g:Chunk→Chs}
set_option maxHeartbeats 4000000 in
theorem zD5 {n:Nat} (hn:n<18446744073709551616) (hk:K (str (zDo n)) ro own):CallOk Tryz.prog 80 #[.int .u64 (n:Int)] ro own K:=by
 refine CallOk.intro (args:=[_]) (rs:=[_]) T_ok Tryz.func80 Tryz.call80 rfl rfl (by kernel_rfl) rfl rfl ?_
 repeat first|exact zE|refine zP ?_|refine zB fun b=>?_|refine zC fun a' c' hc1 hc2=>?_|(apply GJ.a;exact rfl;intro hg)|(apply GJ.o;exact rfl;intro hg)
 obtain ⟨b3,hb3⟩:∃ z:Nat,z=b:=⟨_,rfl⟩
 subst hb3
 refine LoopOk.at (ι:=Nat × Nat × List Value × List UInt8) Keep.z (fun (a,m,cs,l)=>[(4,.int .i64 (a:Int)),(0,.int .u64 (m:Int))]) (fun (a,m,cs,l)=>.blk b3 162 cs::own) (fun (a,m,cs,l)=>1≤a∧a≤20∧m<10 ^ a∧m<18446744073709551616∧cs.length=20∧cs.drop a=l.map u8∧decD a m++l=zDo n) (fun (a,m,cs,l)=>a) (20,n,List.replicate 20 (.int .u8 0),[]) ?_ Sub.z Sup.z ?_
 ·exact ⟨by decide,by decide,by omega,hn,by simp,by simp,by simp [zDo]⟩
 rintro ⟨a,m,cs,l⟩ ⟨i1,i2,i3,i4,i5,i6,i7⟩
 dsimp only [List.cons_append,List.nil_append] at i1 i2 i3 i4 i5 i6 i7 ⊢
 obtain ⟨a,rfl⟩:∃ j,a=j+1:=⟨a-1,by omega⟩
 repeat first|exact zE|refine zP ?_|refine zB fun b=>?_|refine zC fun a' c' hc1 hc2=>?_|(apply GJ.a;exact rfl;intro hg)|(apply GJ.o;exact rfl;intro hg)
 have e1:(((a+1:Nat):Int)-1)=(a:Int):=by omega
 obtain ⟨u,hu⟩:∃ u:UInt8,u=UInt8.ofNat (48+m % 10):=⟨_,rfl⟩
 have hut:u.toNat=48+m % 10:=by rw [hu];exact UInt8.toNat_ofNat_of_lt' (by show _<256;omega)
 have e2:(48+(m:Int) % 10) % 18446744073709551616 % 256=((u.toNat:Nat):Int):=by rw [hut];omega
 rw [e1,e2,show 0+((a:Int)).toNat*1=a by simp]
 have hd:(cs.set a (u8 u)).drop a=(u::l).map u8:=by
  have hlt:a<(cs.set a (u8 u)).length:=by rw [List.length_set,i5];omega
  rw [List.drop_eq_getElem_cons hlt,List.getElem_set_self,List.drop_set_of_lt (by omega),i6];rfl
 have hln:(u::l).length=20-a:=by
  have:=congrArg List.length hd
  rw [List.length_drop,List.length_set,i5,List.length_map] at this;omega
 refine OpOk.storeAt rfl rfl rfl rfl (by rw [i5];omega) ?_
 repeat first|exact zE|refine zP ?_|refine zB fun b=>?_|refine zC fun a' c' hc1 hc2=>?_|(apply GJ.a;exact rfl;intro hg)|(apply GJ.o;exact rfl;intro hg)
 by_cases hm:m<10
 ·have hz:m / 10=0:=by omega
  have hzi:(m:Int) / 10=0:=by omega
  rw [decD,if_pos hm] at i7
  have hres:u::l=zDo n:=by rw [←i7,hu,show m % 10=m by omega];rfl
  rw [hzi]
  repeat first|exact zE|refine zP ?_|refine zB fun b=>?_|refine zC fun a' c' hc1 hc2=>?_|(apply GJ.a;exact rfl;intro hg)|(apply GJ.o;exact rfl;intro hg)
  refine OpOk.sliceArrL rfl rfl rfl ⟨by omega,by omega⟩ ?_
  repeat first|exact zE|refine zP ?_|refine zB fun b=>?_|refine zC fun a' c' hc1 hc2=>?_|(apply GJ.a;exact rfl;intro hg)|(apply GJ.o;exact rfl;intro hg)
  refine OpOk.toStr (l:=u::l) rfl rfl rfl rfl (Rds.arr (cs:=cs.set a (u8 u)) (k:=(a:Int).toNat*1) (by simpa using hd) (by rw [List.length_map,hln];simp) (by omega) (by unfold maxLen;omega)) ?_
  rw [hres]
  repeat first|exact zE|refine zP ?_|refine zB fun b=>?_|refine zC fun a' c' hc1 hc2=>?_|(apply GJ.a;exact rfl;intro hg)|(apply GJ.o;exact rfl;intro hg)
  exact Wk.outS Sup.z (.refl _) hk
 ·have hz:¬(m:Int) / 10=0:=by omega
  have hq:(m:Int) / 10=((m / 10:Nat):Int):=by omega
  rw [decD,if_neg hm,List.append_assoc] at i7
  have h10:m / 10<10 ^ a:=by
   rw [Nat.pow_succ] at i3;omega
  have ha:1≤a:=by
   rcases Nat.eq_zero_or_pos a with h|h
   ·subst h;simp at h10;omega
   ·exact h
  rw [hq]
  repeat first|exact zE|refine zP ?_|refine zB fun b=>?_|refine zC fun a' c' hc1 hc2=>?_|(apply GJ.a;exact rfl;intro hg)|(apply GJ.o;exact rfl;intro hg)
  refine Wk.id ⟨(a,m / 10,cs.set a (u8 u),u::l),⟨rfl,?_⟩,?_,Sub.z,Sup.z⟩
  all_goals try dsimp only
  ·exact ⟨ha,by omega,h10,by omega,by rw [List.length_set,i5],hd,by rw [←i7,hu];rfl⟩
  ·omega
set_option maxHeartbeats 4000000 in
theorem zHP {k x y:Int}{z:SetD}{a:Option Addr}{m c:Nat} (h:¬(x<0∨256<x∨256<y∨(0≤y∧y<x))) (hk:K (str (zBd x y)) ro own) :
  CallOk Tryz.prog 50 #[.agg (zA7 k z a m c x y).toArray] ro own K:=by
 have hx:=zEy x.toNat
 have hy:=zEy y.toNat
 have ex:x % 18446744073709551616=((x.toNat:Nat):Int):=by omega
 unfold zBd at hk
 by_cases h1:x=0∧y<0
 ·rw [if_pos h1] at hk
  refine CallOk.intro (args:=[_]) (rs:=[_]) T_ok Tryz.func50 Tryz.call50 rfl rfl (by kernel_rfl) rfl rfl ?_
  repeat first|exact zE|refine zP ?_|refine zB fun b=>?_|refine zC fun a' c' hc1 hc2=>?_|(apply GJ.a;exact rfl;intro hg)|(apply GJ.o;exact rfl;intro hg)
  exact Wk.outS Sup.z (.refl _) hk
 rw [if_neg h1] at hk
 by_cases h2:x=1∧y<0
 ·rw [if_pos h2] at hk
  refine CallOk.intro (args:=[_]) (rs:=[_]) T_ok Tryz.func50 Tryz.call50 rfl rfl (by kernel_rfl) rfl rfl ?_
  repeat first|exact zE|refine zP ?_|refine zB fun b=>?_|refine zC fun a' c' hc1 hc2=>?_|(apply GJ.a;exact rfl;intro hg)|(apply GJ.o;exact rfl;intro hg)
  exact Wk.outS Sup.z (.refl _) hk
 rw [if_neg h2] at hk
 by_cases h3:x=0∧y=1
 ·rw [if_pos h3] at hk
  refine CallOk.intro (args:=[_]) (rs:=[_]) T_ok Tryz.func50 Tryz.call50 rfl rfl (by kernel_rfl) rfl rfl ?_
  repeat first|exact zE|refine zP ?_|refine zB fun b=>?_|refine zC fun a' c' hc1 hc2=>?_|(apply GJ.a;exact rfl;intro hg)|(apply GJ.o;exact rfl;intro hg)
  exact Wk.outS Sup.z (.refl _) hk
 rw [if_neg h3] at hk
 by_cases h4:y<0
 ·rw [if_pos h4] at hk
  refine CallOk.intro (args:=[_]) (rs:=[_]) T_ok Tryz.func50 Tryz.call50 rfl rfl (by kernel_rfl) rfl rfl ?_
  repeat first|exact zE|refine zP ?_|refine zB fun b=>?_|refine zC fun a' c' hc1 hc2=>?_|(apply GJ.a;exact rfl;intro hg)|(apply GJ.o;exact rfl;intro hg)
  rw [ex]
  refine zD5 (by omega) ?_
  generalize zDo x.toNat=D at hx hk ⊢
  repeat first|exact zE|refine zP ?_|refine zB fun b=>?_|refine zC fun a' c' hc1 hc2=>?_|(apply GJ.a;exact rfl;intro hg)|(apply GJ.o;exact rfl;intro hg)
  refine ⟨by simp;omega,?_⟩
  repeat first|exact zE|refine zP ?_|refine zB fun b=>?_|refine zC fun a' c' hc1 hc2=>?_|(apply GJ.a;exact rfl;intro hg)|(apply GJ.o;exact rfl;intro hg)
  refine ⟨by simp;omega,?_⟩
  repeat first|exact zE|refine zP ?_|refine zB fun b=>?_|refine zC fun a' c' hc1 hc2=>?_|(apply GJ.a;exact rfl;intro hg)|(apply GJ.o;exact rfl;intro hg)
  exact Wk.outE Sup.z (.refl _) hk (congrArg str (by simp))
 rw [if_neg h4] at hk
 have ey:y % 18446744073709551616=((y.toNat:Nat):Int):=by omega
 by_cases h5:x=y
 ·rw [if_pos h5] at hk
  refine CallOk.intro (args:=[_]) (rs:=[_]) T_ok Tryz.func50 Tryz.call50 rfl rfl (by kernel_rfl) rfl rfl ?_
  repeat first|exact zE|refine zP ?_|refine zB fun b=>?_|refine zC fun a' c' hc1 hc2=>?_|(apply GJ.a;exact rfl;intro hg)|(apply GJ.o;exact rfl;intro hg)
  rw [ex]
  refine zD5 (by omega) ?_
  generalize zDo x.toNat=D at hx hk ⊢
  repeat first|exact zE|refine zP ?_|refine zB fun b=>?_|refine zC fun a' c' hc1 hc2=>?_|(apply GJ.a;exact rfl;intro hg)|(apply GJ.o;exact rfl;intro hg)
  refine ⟨by simp;omega,?_⟩
  repeat first|exact zE|refine zP ?_|refine zB fun b=>?_|refine zC fun a' c' hc1 hc2=>?_|(apply GJ.a;exact rfl;intro hg)|(apply GJ.o;exact rfl;intro hg)
  refine ⟨by simp;omega,?_⟩
  repeat first|exact zE|refine zP ?_|refine zB fun b=>?_|refine zC fun a' c' hc1 hc2=>?_|(apply GJ.a;exact rfl;intro hg)|(apply GJ.o;exact rfl;intro hg)
  exact Wk.outE Sup.z (.refl _) hk (congrArg str (by simp))
 ·rw [if_neg h5] at hk
  refine CallOk.intro (args:=[_]) (rs:=[_]) T_ok Tryz.func50 Tryz.call50 rfl rfl (by kernel_rfl) rfl rfl ?_
  repeat first|exact zE|refine zP ?_|refine zB fun b=>?_|refine zC fun a' c' hc1 hc2=>?_|(apply GJ.a;exact rfl;intro hg)|(apply GJ.o;exact rfl;intro hg)
  rw [ex]
  refine zD5 (by omega) ?_
  repeat first|exact zE|refine zP ?_|refine zB fun b=>?_|refine zC fun a' c' hc1 hc2=>?_|(apply GJ.a;exact rfl;intro hg)|(apply GJ.o;exact rfl;intro hg)
  generalize zDo x.toNat=D at hx hk ⊢
  refine ⟨by simp;omega,?_⟩
  repeat first|exact zE|refine zP ?_|refine zB fun b=>?_|refine zC fun a' c' hc1 hc2=>?_|(apply GJ.a;exact rfl;intro hg)|(apply GJ.o;exact rfl;intro hg)
  refine ⟨by simp;omega,?_⟩
  repeat first|exact zE|refine zP ?_|refine zB fun b=>?_|refine zC fun a' c' hc1 hc2=>?_|(apply GJ.a;exact rfl;intro hg)|(apply GJ.o;exact rfl;intro hg)
  rw [ey]
  refine zD5 (by omega) ?_
  repeat first|exact zE|refine zP ?_|refine zB fun b=>?_|refine zC fun a' c' hc1 hc2=>?_|(apply GJ.a;exact rfl;intro hg)|(apply GJ.o;exact rfl;intro hg)
  generalize zDo y.toNat=E at hy hk ⊢
  refine ⟨by simp;omega,?_⟩
  repeat first|exact zE|refine zP ?_|refine zB fun b=>?_|refine zC fun a' c' hc1 hc2=>?_|(apply GJ.a;exact rfl;intro hg)|(apply GJ.o;exact rfl;intro hg)
  refine ⟨by simp;omega,?_⟩
  repeat first|exact zE|refine zP ?_|refine zB fun b=>?_|refine zC fun a' c' hc1 hc2=>?_|(apply GJ.a;exact rfl;intro hg)|(apply GJ.o;exact rfl;intro hg)
  exact Wk.outE Sup.z (.refl _) hk (congrArg str (by simp))
end
section
variable {ro:Ro}{own r:Chs}{K:Value→Ro→Chs→Prop}{g:Chunk→Chs}
theorem zBH {b n c x:Nat}{q a:Option Addr}{l:List UInt8}{u:UInt8} (hq:BQ b q) (hx:x=u.toNat) (hn:n=l.length) (hl:l.length≤20000000) (hk:∀ a' c',n+1≤c'→c'≤maxLen→K .nilIface ro (.blk b 62 [ptr' b,.slice a' (n+1) c']::.sl a' (n+1) c' 5 1 ((l++[u]).map u8)::r)) :
  CallOk Tryz.prog 47 #[ptr' b,.int .u8 (x:Int)] ro (.blk b 62 [.pointer q,.slice a n c]::.sl a n c 5 1 (l.map u8)::r) K:=by
 subst hx
 rw [List.map_append] at hk
 refine CallOk.intro (args:=[_,_]) (rs:=[_]) T_ok Tryz.func47 Tryz.call47 rfl rfl (by kernel_rfl) rfl rfl ?_
 repeat first|exact zE|refine wkG ?_|refine zB fun b=>?_|refine zC fun a' c' hc1 hc2=>?_|(show GJ _ _ _ _ _ _ _;first|(apply GJ.a;exact rfl;intro hg)|(apply GJ.o;exact rfl;intro hg)|refine GJ.t zO ?_|refine GJ.f zO ?_|refine GJ.ft zO ?_|refine GJ.ff zO ?_)
 refine zHu hq ?_
 repeat first|exact zE|refine wkG ?_|refine zB fun b=>?_|refine zC fun a' c' hc1 hc2=>?_|(show GJ _ _ _ _ _ _ _;first|(apply GJ.a;exact rfl;intro hg)|(apply GJ.o;exact rfl;intro hg)|refine GJ.t zO ?_|refine GJ.f zO ?_|refine GJ.ft zO ?_|refine GJ.ff zO ?_)
 exact Wk.outS Sup.z (.refl _) (hk a' c' hc1 hc2)
theorem zGN {b n c:Nat}{q a:Option Addr}{l m:List UInt8} (hq:BQ b q) (hn:n=l.length) (hl:l.length≤20000000∧m.length≤20000000) (hk:∀ a' c',n+m.length≤c'→c'≤maxLen→K (.tuple #[.int .i64 ((m.length:Nat):Int),.nilIface]) ro (.blk b 62 [ptr' b,.slice a' (n+m.length) c']::.sl a' (n+m.length) c' 5 1 ((l++m).map u8)::r)) :
  CallOk Tryz.prog 48 #[ptr' b,str m] ro (.blk b 62 [.pointer q,.slice a n c]::.sl a n c 5 1 (l.map u8)::r) K:=by
 rw [List.map_append] at hk
 refine CallOk.intro (args:=[_,_]) (rs:=[_,_]) T_ok Tryz.func48 Tryz.call48 rfl rfl (by kernel_rfl) rfl rfl ?_
 repeat first|exact zE|refine wkG ?_|refine zB fun b=>?_|refine zC fun a' c' hc1 hc2=>?_|(show GJ _ _ _ _ _ _ _;first|(apply GJ.a;exact rfl;intro hg)|(apply GJ.o;exact rfl;intro hg)|refine GJ.t zO ?_|refine GJ.f zO ?_|refine GJ.ft zO ?_|refine GJ.ff zO ?_)
 refine zHu hq ?_
 repeat first|exact zE|refine wkG ?_|refine zB fun b=>?_|refine zC fun a' c' hc1 hc2=>?_|(show GJ _ _ _ _ _ _ _;first|(apply GJ.a;exact rfl;intro hg)|(apply GJ.o;exact rfl;intro hg)|refine GJ.t zO ?_|refine GJ.f zO ?_|refine GJ.ft zO ?_|refine GJ.ff zO ?_)
 refine OpOk.appendS rfl rfl (by kernel_rfl) (by kernel_rfl) (by kernel_rfl) (by omega) (fun a' c' hc1 hc2=>?_)
 repeat first|exact zE|refine wkG ?_|refine zB fun b=>?_|refine zC fun a' c' hc1 hc2=>?_|(show GJ _ _ _ _ _ _ _;first|(apply GJ.a;exact rfl;intro hg)|(apply GJ.o;exact rfl;intro hg)|refine GJ.t zO ?_|refine GJ.f zO ?_|refine GJ.ft zO ?_|refine GJ.ff zO ?_)
 exact Wk.outS Sup.z (.refl _) (hk a' c' hc1 hc2)
theorem bstrL_ok {b n c:Nat}{q a:Option Addr}{l:List UInt8} (hn:n=l.length) (h0:l≠[]) (hnc:n≤c) (hl:l.length≤20000000) (hk:K (str l) ro (.blk b 62 [.pointer q,.slice a n c]::r)) :
  CallOk Tryz.prog 20 #[ptr' b] ro (.blk b 62 [.pointer q,.slice a n c]::.sl a n c 5 1 (l.map u8)::r) K:=by
 refine CallOk.intro (args:=[_]) (rs:=[_]) T_ok Tryz.func20 Tryz.call20 rfl rfl (by kernel_rfl) rfl rfl ?_
 repeat first|exact zE|refine wkG ?_|refine zB fun b=>?_|refine zC fun a' c' hc1 hc2=>?_|(show GJ _ _ _ _ _ _ _;first|(apply GJ.a;exact rfl;intro hg)|(apply GJ.o;exact rfl;intro hg)|refine GJ.t zO ?_|refine GJ.f zO ?_|refine GJ.ft zO ?_|refine GJ.ff zO ?_)
 refine Bs.all ?_
 repeat first|exact zE|refine wkG ?_|refine zB fun b=>?_|refine zC fun a' c' hc1 hc2=>?_|(show GJ _ _ _ _ _ _ _;first|(apply GJ.a;exact rfl;intro hg)|(apply GJ.o;exact rfl;intro hg)|refine GJ.t zO ?_|refine GJ.f zO ?_|refine GJ.ft zO ?_|refine GJ.ff zO ?_)
 have hl0:l.length≠0:=by simpa using h0
 refine OpOk.know (∃ b',a=some ⟨b',0,none⟩) (fun h hs=>Sat.slSome Take.auto hs (by omega)) (fun ⟨b',e⟩=>?_)
 subst e
 refine OpOk.sliceData rfl (by omega) ?_
 repeat first|exact zE|refine wkG ?_|refine zB fun b=>?_|refine zC fun a' c' hc1 hc2=>?_|(show GJ _ _ _ _ _ _ _;first|(apply GJ.a;exact rfl;intro hg)|(apply GJ.o;exact rfl;intro hg)|refine GJ.t zO ?_|refine GJ.f zO ?_|refine GJ.ft zO ?_|refine GJ.ff zO ?_)
 subst hn
 refine OpOk.unsafeString (l:=l) rfl rfl (by kernel_rfl) (by kernel_rfl) Take.auto h0 (by omega) ?_
 repeat first|exact zE|refine wkG ?_|refine zB fun b=>?_|refine zC fun a' c' hc1 hc2=>?_|(show GJ _ _ _ _ _ _ _;first|(apply GJ.a;exact rfl;intro hg)|(apply GJ.o;exact rfl;intro hg)|refine GJ.t zO ?_|refine GJ.f zO ?_|refine GJ.ft zO ?_|refine GJ.ff zO ?_)
 exact Wk.outS Sup.z (.refl _) hk
end
theorem text_len (s:SetD):(zBC s).length≤2306:=by
 rcases zDK s with ⟨h1,h2⟩|⟨c,hc,h1,h2,h3,h4,h5⟩|⟨h1,h2,h3⟩
 ·rw [h2];decide
 ·rw [h5];have:=(zCe c).2;omega
 ·rw [h3];have:=zFx s 256 0;simp;omega
theorem zMF (a b:Int):(zBd a b).length≤44:=by
 have h1:=zEy a.toNat
 have h2:=zEy b.toNat
 unfold zBd
 repeat' split
 all_goals first|(simp;done)|(simp;omega)
theorem zC3:∀ (a b:List RgD),zAo (a++b)=zAo a++zAo b
 | [],b=>rfl
 | x::a,b=>by rw [List.cons_append,zAo,zAo,zC3 a b,List.append_assoc]
theorem zC4:∀ (a b:List RgD) (f:Bool),zAi (a++b) f=zAi a f++zAi b (f&&a.isEmpty)
 | [],b,f=>by simp [zAi]
 | x::a,b,f=>by rw [List.cons_append,zAi,zAi,zC4 a b];simp
mutual
theorem zFt:∀ (n:RgD) (w:Bool),(zAc n w).length+1≤2400*zAn n
 | .mk k s l a b,w=>by
   have h1:=text_len s
   have h2:=zMF a b
   have h3:=zGl l
   rw [zAc,zAn]
   have e1:(if w=true∧k≠2∧k≠5 then ([40]:List UInt8) else []).length≤1:=by split<;>simp
   have e2:(if w=true∧k≠2∧k≠5 then ([41]:List UInt8) else []).length≤1:=by split<;>simp
   have e3:(if k=2 then zBC s else if k=3 then zAo l else if k=4 then zAi l true else if k=5 then zDe l++zBd a b else []).length≤2390+2400*zAr l:=by
    have h4:=h3.2.1 true
    repeat' split
    all_goals first|omega|(rw [List.length_append];omega)|simp
   rw [List.length_append,List.length_append]
   omega
theorem zGl:∀ (l:List RgD),(zAo l).length≤2400*zAr l∧(∀ f,(zAi l f).length≤2400*zAr l)∧(zDe l).length≤2400*zAr l
 | []=>by simp [zAo,zAi,zDe]
 | x::r=>by
   have h1:=zFt x true
   have h2:=zFt x false
   have h3:=zGl r
   rw [zAo,zDe,zAr,List.length_append]
   refine ⟨by omega,fun f=>?_,by omega⟩
   have h4:=h3.2.1 false
   rw [zAi,List.length_append,List.length_append]
   have e1:(if f then ([]:List UInt8) else [124]).length≤1:=by split<;>simp
   cases decide (x.kind=4)<;>omega
end
structure WrC (n:RgD):Prop where
 run:∀ {ro:Ro}{r:Chs}{K:Value→Ro→Chs→Prop}{p c:Nat}{q a:Option Addr}{l:List UInt8}{v:List Value}{x:Int} (w:Bool),x=(if w then 1 else 0)→zAJ n=0→TabOk ro→RgOk ro n v→BQ p q→l.length≤c→c≤maxLen→l.length+(zAc n w).length≤10000000 →
  (∀ q' a' c',BQ p q'→(l++zAc n w).length≤c'→c'≤maxLen→K (.tuple #[]) ro (.blk p 62 [.pointer q',.slice a' (l++zAc n w).length c']::.sl a' (l++zAc n w).length c' 5 1 ((l++zAc n w).map u8)::r)) →
  CallOk Tryz.prog 19 #[ptr' p,.agg v.toArray,.int .i64 x] ro (.blk p 62 [.pointer q,.slice a l.length c]::.sl a l.length c 5 1 (l.map u8)::r) K
section
variable {ro:Ro}{own r:Chs}{K:Value→Ro→Chs→Prop}{g:Chunk→Chs}{p c:Nat}{q a:Option Addr}{l:List UInt8}{x:Int}
set_option maxHeartbeats 4000000 in
theorem zL8 {s:SetD}{m y:Int}{ad:Option Addr}{k cp:Nat} (ht:TabOk ro) (hs:SetIn s) (hq:BQ p q) (hc:l.length≤c) (hm:c≤maxLen) (hl:l.length+(zBC s).length≤10000000)
  (hk:∀ q' a' c',BQ p q'→(l++zBC s).length≤c'→c'≤maxLen→K (.tuple #[]) ro (.blk p 62 [.pointer q',.slice a' (l++zBC s).length c']::.sl a' (l++zBC s).length c' 5 1 ((l++zBC s).map u8)::r)) :
  CallOk Tryz.prog 19 #[ptr' p,.agg (zA7 2 s ad k cp m y).toArray,.int .i64 x] ro (.blk p 62 [.pointer q,.slice a l.length c]::.sl a l.length c 5 1 (l.map u8)::r) K:=by
 by_cases hx:x > 0
 ·refine CallOk.intro (args:=[_,_,_]) (rs:=[]) T_ok Tryz.func19 Tryz.call19 rfl rfl (by kernel_rfl) rfl rfl ?_
  repeat first|exact zE|refine zP ?_|refine zB fun b=>?_|refine zC fun a' c' hc1 hc2=>?_|(apply GJ.a;exact rfl;intro hg)|(apply GJ.o;exact rfl;intro hg)
  refine zLI ht hs ?_
  generalize zBC s=tx at hl hk ⊢
  repeat first|exact zE|refine zP ?_|refine zB fun b=>?_|refine zC fun a' c' hc1 hc2=>?_|(apply GJ.a;exact rfl;intro hg)|(apply GJ.o;exact rfl;intro hg)
  refine CallOk.sup (own0:=.blk p 62 [.pointer q,.slice a l.length c]::.sl a l.length c 5 1 (l.map u8)::r) Sup.z ?_
  refine zGN hq rfl ⟨by omega,by omega⟩ (fun a1 c1 h1 h2=>?_)
  rw [←List.length_append] at h1 ⊢
  repeat first|exact zE|refine zP ?_|refine zB fun b=>?_|refine zC fun a' c' hc1 hc2=>?_|(apply GJ.a;exact rfl;intro hg)|(apply GJ.o;exact rfl;intro hg)
  exact Wk.outS Sup.z (.refl _) (hk _ a1 c1 (.inr rfl) h1 h2)
 ·refine CallOk.intro (args:=[_,_,_]) (rs:=[]) T_ok Tryz.func19 Tryz.call19 rfl rfl (by kernel_rfl) rfl rfl ?_
  repeat first|exact zE|refine zP ?_|refine zB fun b=>?_|refine zC fun a' c' hc1 hc2=>?_|(apply GJ.a;exact rfl;intro hg)|(apply GJ.o;exact rfl;intro hg)
  refine zLI ht hs ?_
  generalize zBC s=tx at hl hk ⊢
  repeat first|exact zE|refine zP ?_|refine zB fun b=>?_|refine zC fun a' c' hc1 hc2=>?_|(apply GJ.a;exact rfl;intro hg)|(apply GJ.o;exact rfl;intro hg)
  refine CallOk.sup (own0:=.blk p 62 [.pointer q,.slice a l.length c]::.sl a l.length c 5 1 (l.map u8)::r) Sup.z ?_
  refine zGN hq rfl ⟨by omega,by omega⟩ (fun a1 c1 h1 h2=>?_)
  rw [←List.length_append] at h1 ⊢
  repeat first|exact zE|refine zP ?_|refine zB fun b=>?_|refine zC fun a' c' hc1 hc2=>?_|(apply GJ.a;exact rfl;intro hg)|(apply GJ.o;exact rfl;intro hg)
  exact Wk.outS Sup.z (.refl _) (hk _ a1 c1 (.inr rfl) h1 h2)
end
theorem zC2:∀ {l:List RgD}{n:RgD},zBp l=0→n∈l→zAJ n=0
 | [],n,_,h=>by simp at h
 | x::r,n,hw,h=>by
   obtain ⟨h1,h2⟩:=zAB hw
   rcases List.mem_cons.1 h with rfl|h
   ·exact h1
   ·exact zC2 h2 h
section
variable {ro:Ro}{own r:Chs}{K:Value→Ro→Chs→Prop}{g:Chunk→Chs}{p c:Nat}{q a:Option Addr}{l:List UInt8}{x:Int}
set_option maxHeartbeats 8000000 in
theorem zL9 {s:SetD}{m y:Int}{ad:Option Addr}{cp:Nat}{ks:List RgD}{cs:List Value} (w:Bool) (ih:∀ n∈ks,WrC n) (hx:x=(if w then 1 else 0)) (hwk:zBp ks=0) (ht:TabOk ro) (hrs:Rs ro ad ks.length cp 8 cs) (hks:RgsOk ro ks cs) (hn2:ks.length≤9223372036854775807)
  (hq:BQ p q) (hc:l.length≤c) (hm:c≤maxLen) (hl:l.length+(zAo ks).length+(if w then 2 else 0)≤10000000)
  (hk:∀ q' a' c' l',l'=(if w then l++[40]++zAo ks++[41] else l++zAo ks)→BQ p q'→l'.length≤c'→c'≤maxLen→K (.tuple #[]) ro (.blk p 62 [.pointer q',.slice a' l'.length c']::.sl a' l'.length c' 5 1 (l'.map u8)::r)) :
  CallOk Tryz.prog 19 #[ptr' p,.agg (zA7 3 s ad ks.length cp m y).toArray,.int .i64 x] ro (.blk p 62 [.pointer q,.slice a l.length c]::.sl a l.length c 5 1 (l.map u8)::r) K:=by
 cases w with
 | true =>
   have hx:x=1:=hx
   subst hx
   have hl:l.length+(zAo ks).length+2≤10000000:=hl
   have hl2:(l++[40]).length+(zAo ks).length≤10000000:=by simp;omega
   refine CallOk.intro (args:=[_,_,_]) (rs:=[]) T_ok Tryz.func19 Tryz.call19 rfl rfl (by kernel_rfl) rfl rfl ?_
   repeat first|exact zE|refine zP ?_|refine zB fun b=>?_|refine zC fun a' c' hc1 hc2=>?_|(apply GJ.a;exact rfl;intro hg)|(apply GJ.o;exact rfl;intro hg)
   refine CallOk.sup (own0:=.blk p 62 [.pointer q,.slice a l.length c]::.sl a l.length c 5 1 (l.map u8)::.blk b 26 (zA7 3 s ad ks.length cp m y)::r) Sup.z ?_
   refine zBH (u:=40) hq rfl rfl (by omega) (fun a0 c0 k1 k2=>?_)
   rw [show l.length+1=(l++[40]).length by simp] at k1 ⊢
   repeat first|exact zE|refine zP ?_|refine zB fun b=>?_|refine zC fun a' c' hc1 hc2=>?_|(apply GJ.a;exact rfl;intro hg)|(apply GJ.o;exact rfl;intro hg)
   refine LoopOk.at (ι:=Nat × Option Addr × Option Addr × Nat × List UInt8) Keep.z (fun (i,q1,a1,c1,l1)=>[(41,.int .i64 (i:Int))]) (fun (i,q1,a1,c1,l1)=>.blk p 62 [.pointer q1,.slice a1 l1.length c1]::.sl a1 l1.length c1 5 1 (l1.map u8)::r) (fun (i,q1,a1,c1,l1)=>i≤ks.length∧BQ p q1∧l1=l++[40]++zAo (ks.take i)∧l1.length≤c1∧c1≤maxLen) (fun (i,q1,a1,c1,l1)=>ks.length-i) (0,some ⟨p,0,none⟩,a0,c0,l++[40]) ?_ Sub.z Sup.z ?_
   ·exact ⟨Nat.zero_le _,.inr rfl,by simp [zAo],k1,k2⟩
   rintro ⟨i,q1,a1,c1,l1⟩ ⟨i1,i2,i3,i4,i5⟩
   dsimp only [List.cons_append,List.nil_append] at i1 i2 i3 i4 i5 ⊢
   by_cases hi:i<ks.length
   ·obtain ⟨kd,hkd⟩:∃ kd,ks[i]?=some kd:=⟨_,List.getElem?_eq_getElem hi⟩
    have hv:=hks.get hkd
    obtain ⟨ak,ck,hvk⟩:=hv.cells
    rw [hvk] at hv
    have htk:zAo (ks.take (i+1))=zAo (ks.take i)++zAc kd true:=by
     rw [List.take_add_one,hkd];show zAo (ks.take i++[kd])=_
     rw [zC3,zAo,zAo,List.append_nil]
    have hsum:zAo ks=zAo (ks.take (i+1))++zAo (ks.drop (i+1)):=by rw [←zC3,List.take_append_drop]
    have hlen:l1.length+(zAc kd true).length≤10000000:=by
     have:=congrArg List.length hsum
     rw [htk] at this
     simp only [i3,List.length_append] at this ⊢
     (try simp only [List.length_append] at hl2)
     omega
    repeat first|exact zE|refine zP ?_|refine zB fun b=>?_|refine zC fun a' c' hc1 hc2=>?_|(apply GJ.a;exact rfl;intro hg)|(apply GJ.o;exact rfl;intro hg)
    rw [Int.toNat_natCast]
    refine OpOk.loadRow rfl rfl (LdN.at hrs hvk) rfl ?_
    repeat first|exact zE|refine zP ?_|refine zB fun b=>?_|refine zC fun a' c' hc1 hc2=>?_|(apply GJ.a;exact rfl;intro hg)|(apply GJ.o;exact rfl;intro hg)
    refine CallOk.sup (own0:=.blk p 62 [.pointer q1,.slice a1 l1.length c1]::.sl a1 l1.length c1 5 1 (l1.map u8)::r) Sup.z ?_
    refine (ih kd (List.mem_of_getElem? hkd)).run true rfl (zC2 hwk (List.mem_of_getElem? hkd)) ht hv i2 i4 i5 hlen (fun q2 a2 c2 g1 g2 g3=>?_)
    repeat first|exact zE|refine zP ?_|refine zB fun b=>?_|refine zC fun a' c' hc1 hc2=>?_|(apply GJ.a;exact rfl;intro hg)|(apply GJ.o;exact rfl;intro hg)
    refine Wk.id ⟨(i+1,q2,a2,c2,l1++zAc kd true),⟨rfl,?_⟩,?_,Sub.z,Sup.z⟩
    all_goals try dsimp only
    ·exact ⟨by omega,g1,by rw [htk,i3];simp,g2,g3⟩
    ·omega
   obtain rfl:i=ks.length:=by omega
   rw [List.take_length] at i3
   repeat first|exact zE|refine zP ?_|refine zB fun b=>?_|refine zC fun a' c' hc1 hc2=>?_|(apply GJ.a;exact rfl;intro hg)|(apply GJ.o;exact rfl;intro hg)
   refine CallOk.sup (own0:=.blk p 62 [.pointer q1,.slice a1 l1.length c1]::.sl a1 l1.length c1 5 1 (l1.map u8)::r) Sup.z ?_
   refine zBH (u:=41) i2 rfl rfl (by rw [i3];simp;simp at hl2;omega) (fun a2 c2 k3 k4=>?_)
   rw [show l1.length+1=(l1++[41]).length by simp] at k3 ⊢
   repeat first|exact zE|refine zP ?_|refine zB fun b=>?_|refine zC fun a' c' hc1 hc2=>?_|(apply GJ.a;exact rfl;intro hg)|(apply GJ.o;exact rfl;intro hg)
   exact Wk.outS Sup.z (.refl _) (hk _ a2 c2 _ (by rw [i3];rfl) (.inr rfl) k3 k4)
 | false =>
   have hx:x=0:=hx
   subst hx
   have hl:l.length+(zAo ks).length+0≤10000000:=hl
   have hl2:l.length+(zAo ks).length≤10000000:=by omega
   refine CallOk.intro (args:=[_,_,_]) (rs:=[]) T_ok Tryz.func19 Tryz.call19 rfl rfl (by kernel_rfl) rfl rfl ?_
   repeat first|exact zE|refine zP ?_|refine zB fun b=>?_|refine zC fun a' c' hc1 hc2=>?_|(apply GJ.a;exact rfl;intro hg)|(apply GJ.o;exact rfl;intro hg)
   refine LoopOk.at (ι:=Nat × Option Addr × Option Addr × Nat × List UInt8) Keep.z (fun (i,q1,a1,c1,l1)=>[(41,.int .i64 (i:Int))]) (fun (i,q1,a1,c1,l1)=>.blk p 62 [.pointer q1,.slice a1 l1.length c1]::.sl a1 l1.length c1 5 1 (l1.map u8)::r) (fun (i,q1,a1,c1,l1)=>i≤ks.length∧BQ p q1∧l1=l++zAo (ks.take i)∧l1.length≤c1∧c1≤maxLen) (fun (i,q1,a1,c1,l1)=>ks.length-i) (0,q,a,c,l) ?_ Sub.z Sup.z ?_
   ·exact ⟨Nat.zero_le _,hq,by simp [zAo],hc,hm⟩
   rintro ⟨i,q1,a1,c1,l1⟩ ⟨i1,i2,i3,i4,i5⟩
   dsimp only [List.cons_append,List.nil_append] at i1 i2 i3 i4 i5 ⊢
   by_cases hi:i<ks.length
   ·obtain ⟨kd,hkd⟩:∃ kd,ks[i]?=some kd:=⟨_,List.getElem?_eq_getElem hi⟩
    have hv:=hks.get hkd
    obtain ⟨ak,ck,hvk⟩:=hv.cells
    rw [hvk] at hv
    have htk:zAo (ks.take (i+1))=zAo (ks.take i)++zAc kd true:=by
     rw [List.take_add_one,hkd];show zAo (ks.take i++[kd])=_
     rw [zC3,zAo,zAo,List.append_nil]
    have hsum:zAo ks=zAo (ks.take (i+1))++zAo (ks.drop (i+1)):=by rw [←zC3,List.take_append_drop]
    have hlen:l1.length+(zAc kd true).length≤10000000:=by
     have:=congrArg List.length hsum
     rw [htk] at this
     simp only [i3,List.length_append] at this ⊢
     (try simp only [List.length_append] at hl2)
     omega
    repeat first|exact zE|refine zP ?_|refine zB fun b=>?_|refine zC fun a' c' hc1 hc2=>?_|(apply GJ.a;exact rfl;intro hg)|(apply GJ.o;exact rfl;intro hg)
    rw [Int.toNat_natCast]
    refine OpOk.loadRow rfl rfl (LdN.at hrs hvk) rfl ?_
    repeat first|exact zE|refine zP ?_|refine zB fun b=>?_|refine zC fun a' c' hc1 hc2=>?_|(apply GJ.a;exact rfl;intro hg)|(apply GJ.o;exact rfl;intro hg)
    refine CallOk.sup (own0:=.blk p 62 [.pointer q1,.slice a1 l1.length c1]::.sl a1 l1.length c1 5 1 (l1.map u8)::r) Sup.z ?_
    refine (ih kd (List.mem_of_getElem? hkd)).run true rfl (zC2 hwk (List.mem_of_getElem? hkd)) ht hv i2 i4 i5 hlen (fun q2 a2 c2 g1 g2 g3=>?_)
    repeat first|exact zE|refine zP ?_|refine zB fun b=>?_|refine zC fun a' c' hc1 hc2=>?_|(apply GJ.a;exact rfl;intro hg)|(apply GJ.o;exact rfl;intro hg)
    refine Wk.id ⟨(i+1,q2,a2,c2,l1++zAc kd true),⟨rfl,?_⟩,?_,Sub.z,Sup.z⟩
    all_goals try dsimp only
    ·exact ⟨by omega,g1,by rw [htk,i3];simp,g2,g3⟩
    ·omega
   obtain rfl:i=ks.length:=by omega
   rw [List.take_length] at i3
   repeat first|exact zE|refine zP ?_|refine zB fun b=>?_|refine zC fun a' c' hc1 hc2=>?_|(apply GJ.a;exact rfl;intro hg)|(apply GJ.o;exact rfl;intro hg)
   exact Wk.outS Sup.z (.refl _) (hk _ a1 c1 _ (by rw [i3];rfl) i2 i4 i5)
set_option maxHeartbeats 8000000 in
theorem zLA {s:SetD}{m y:Int}{ad:Option Addr}{cp:Nat}{ks:List RgD}{cs:List Value} (w:Bool) (ih:∀ n∈ks,WrC n) (hx:x=(if w then 1 else 0)) (hwk:zBp ks=0) (ht:TabOk ro) (hrs:Rs ro ad ks.length cp 8 cs) (hks:RgsOk ro ks cs) (hn2:ks.length≤9223372036854775807)
  (hq:BQ p q) (hc:l.length≤c) (hm:c≤maxLen) (hl:l.length+(zAi ks true).length+(if w then 2 else 0)≤10000000)
  (hk:∀ q' a' c' l',l'=(if w then l++[40]++zAi ks true++[41] else l++zAi ks true)→BQ p q'→l'.length≤c'→c'≤maxLen→K (.tuple #[]) ro (.blk p 62 [.pointer q',.slice a' l'.length c']::.sl a' l'.length c' 5 1 (l'.map u8)::r)) :
  CallOk Tryz.prog 19 #[ptr' p,.agg (zA7 4 s ad ks.length cp m y).toArray,.int .i64 x] ro (.blk p 62 [.pointer q,.slice a l.length c]::.sl a l.length c 5 1 (l.map u8)::r) K:=by
 cases w with
 | true =>
   have hx:x=1:=hx
   subst hx
   have hl:l.length+(zAi ks true).length+2≤10000000:=hl
   have hl2:(l++[40]).length+(zAi ks true).length≤10000000:=by simp;omega
   refine CallOk.intro (args:=[_,_,_]) (rs:=[]) T_ok Tryz.func19 Tryz.call19 rfl rfl (by kernel_rfl) rfl rfl ?_
   repeat first|exact zE|refine zP ?_|refine zB fun b=>?_|refine zC fun a' c' hc1 hc2=>?_|(apply GJ.a;exact rfl;intro hg)|(apply GJ.o;exact rfl;intro hg)
   refine CallOk.sup (own0:=.blk p 62 [.pointer q,.slice a l.length c]::.sl a l.length c 5 1 (l.map u8)::.blk b 26 (zA7 4 s ad ks.length cp m y)::r) Sup.z ?_
   refine zBH (u:=40) hq rfl rfl (by omega) (fun a0 c0 k1 k2=>?_)
   rw [show l.length+1=(l++[40]).length by simp] at k1 ⊢
   repeat first|exact zE|refine zP ?_|refine zB fun b=>?_|refine zC fun a' c' hc1 hc2=>?_|(apply GJ.a;exact rfl;intro hg)|(apply GJ.o;exact rfl;intro hg)
   refine LoopOk.at (ι:=Nat × Option Addr × Option Addr × Nat × List UInt8) Keep.z (fun (i,q1,a1,c1,l1)=>[(54,.int .i64 (i:Int))]) (fun (i,q1,a1,c1,l1)=>.blk p 62 [.pointer q1,.slice a1 l1.length c1]::.sl a1 l1.length c1 5 1 (l1.map u8)::r) (fun (i,q1,a1,c1,l1)=>i≤ks.length∧BQ p q1∧l1=l++[40]++zAi (ks.take i) true∧l1.length≤c1∧c1≤maxLen) (fun (i,q1,a1,c1,l1)=>ks.length-i) (0,some ⟨p,0,none⟩,a0,c0,l++[40]) ?_ Sub.z Sup.z ?_
   ·exact ⟨Nat.zero_le _,.inr rfl,by simp [zAi],k1,k2⟩
   rintro ⟨i,q1,a1,c1,l1⟩ ⟨i1,i2,i3,i4,i5⟩
   dsimp only [List.cons_append,List.nil_append] at i1 i2 i3 i4 i5 ⊢
   by_cases hi:i<ks.length
   ·obtain ⟨kd,hkd⟩:∃ kd,ks[i]?=some kd:=⟨_,List.getElem?_eq_getElem hi⟩
    have hv:=hks.get hkd
    obtain ⟨ak,ck,hvk⟩:=hv.cells
    rw [hvk] at hv
    have htk:zAi (ks.take (i+1)) true=zAi (ks.take i) true++((if i=0 then [] else [124])++zAc kd (decide (kd.kind=4))):=by
     rw [List.take_add_one,hkd];show zAi (ks.take i++[kd]) true=_
     rw [zC4,zAi,zAi,List.append_nil]
     cases i with
     | zero=>simp
     | succ i =>
       have:(ks.take (i+1)).isEmpty=false:=by cases ks with
        | nil=>simp at hi
        | cons y ys=>rfl
       rw [this];simp
    have hsum:zAi ks true=zAi (ks.take (i+1)) true++zAi (ks.drop (i+1)) (true&&(ks.take (i+1)).isEmpty):=by rw [←zC4,List.take_append_drop]
    have hlen:l1.length+((if i=0 then ([]:List UInt8) else [124])++zAc kd (decide (kd.kind=4))).length≤10000000:=by
     have:=congrArg List.length hsum
     rw [htk] at this
     simp only [i3,List.length_append] at this ⊢
     (try simp only [List.length_append] at hl2)
     omega
    have hwk1:=zC2 hwk (List.mem_of_getElem? hkd)
    have hiz:i=0∨0<i:=by omega
    rcases hiz with rfl|hpos
    ·rw [if_pos rfl,List.nil_append] at htk hlen
     repeat first|exact zE|refine zP ?_|refine zB fun b=>?_|refine zC fun a' c' hc1 hc2=>?_|(apply GJ.a;exact rfl;intro hg)|(apply GJ.o;exact rfl;intro hg)
     rw [Int.toNat_natCast]
     refine OpOk.loadRow rfl rfl (LdN.at hrs hvk) rfl ?_
     by_cases h4:kd.kind=4
     ·rw [decide_eq_true h4] at htk hlen
      repeat first|exact zE|refine zP ?_|refine zB fun b=>?_|refine zC fun a' c' hc1 hc2=>?_|(apply GJ.a;exact rfl;intro hg)|(apply GJ.o;exact rfl;intro hg)
      refine CallOk.sup (own0:=.blk p 62 [.pointer q1,.slice a1 l1.length c1]::.sl a1 l1.length c1 5 1 (l1.map u8)::r) Sup.z ?_
      refine (ih kd (List.mem_of_getElem? hkd)).run true rfl hwk1 ht hv i2 i4 i5 hlen (fun q2 a2 c2 g1 g2 g3=>?_)
      repeat first|exact zE|refine zP ?_|refine zB fun b=>?_|refine zC fun a' c' hc1 hc2=>?_|(apply GJ.a;exact rfl;intro hg)|(apply GJ.o;exact rfl;intro hg)
      refine Wk.id ⟨(1,q2,a2,c2,l1++zAc kd true),⟨rfl,?_⟩,?_,Sub.z,Sup.z⟩
      all_goals try dsimp only
      ·exact ⟨by omega,g1,by rw [htk,i3];simp,g2,g3⟩
      ·omega
     ·rw [decide_eq_false h4] at htk hlen
      repeat first|exact zE|refine zP ?_|refine zB fun b=>?_|refine zC fun a' c' hc1 hc2=>?_|(apply GJ.a;exact rfl;intro hg)|(apply GJ.o;exact rfl;intro hg)
      refine CallOk.sup (own0:=.blk p 62 [.pointer q1,.slice a1 l1.length c1]::.sl a1 l1.length c1 5 1 (l1.map u8)::r) Sup.z ?_
      refine (ih kd (List.mem_of_getElem? hkd)).run false rfl hwk1 ht hv i2 i4 i5 hlen (fun q2 a2 c2 g1 g2 g3=>?_)
      repeat first|exact zE|refine zP ?_|refine zB fun b=>?_|refine zC fun a' c' hc1 hc2=>?_|(apply GJ.a;exact rfl;intro hg)|(apply GJ.o;exact rfl;intro hg)
      refine Wk.id ⟨(1,q2,a2,c2,l1++zAc kd false),⟨rfl,?_⟩,?_,Sub.z,Sup.z⟩
      all_goals try dsimp only
      ·exact ⟨by omega,g1,by rw [htk,i3];simp,g2,g3⟩
      ·omega
    ·rw [if_neg (by omega),List.length_append,List.length_singleton] at hlen
     rw [if_neg (by omega)] at htk
     repeat first|exact zE|refine zP ?_|refine zB fun b=>?_|refine zC fun a' c' hc1 hc2=>?_|(apply GJ.a;exact rfl;intro hg)|(apply GJ.o;exact rfl;intro hg)
     rw [Int.toNat_natCast]
     refine OpOk.loadRow rfl rfl (LdN.at hrs hvk) rfl ?_
     repeat first|exact zE|refine zP ?_|refine zB fun b=>?_|refine zC fun a' c' hc1 hc2=>?_|(apply GJ.a;exact rfl;intro hg)|(apply GJ.o;exact rfl;intro hg)
     refine CallOk.sup (own0:=.blk p 62 [.pointer q1,.slice a1 l1.length c1]::.sl a1 l1.length c1 5 1 (l1.map u8)::.blk b 26 (zA7 kd.kind kd.set ak kd.kids.length ck kd.min kd.max)::r) Sup.z ?_
     refine zBH (u:=124) i2 rfl rfl (by omega) (fun a3 c3 k1 k2=>?_)
     rw [show l1.length+1=(l1++[124]).length by simp] at k1 ⊢
     by_cases h4:kd.kind=4
     ·rw [decide_eq_true h4] at htk hlen
      repeat first|exact zE|refine zP ?_|refine zB fun b=>?_|refine zC fun a' c' hc1 hc2=>?_|(apply GJ.a;exact rfl;intro hg)|(apply GJ.o;exact rfl;intro hg)
      refine CallOk.sup (own0:=.blk p 62 [ptr' p,.slice a3 (l1++[124]).length c3]::.sl a3 (l1++[124]).length c3 5 1 ((l1++[124]).map u8)::r) Sup.z ?_
      refine (ih kd (List.mem_of_getElem? hkd)).run true rfl hwk1 ht hv (.inr rfl) k1 k2 (by rw [List.length_append,List.length_singleton];omega) (fun q2 a2 c2 g1 g2 g3=>?_)
      repeat first|exact zE|refine zP ?_|refine zB fun b=>?_|refine zC fun a' c' hc1 hc2=>?_|(apply GJ.a;exact rfl;intro hg)|(apply GJ.o;exact rfl;intro hg)
      refine Wk.id ⟨(i+1,q2,a2,c2,l1++[124]++zAc kd true),⟨rfl,?_⟩,?_,Sub.z,Sup.z⟩
      all_goals try dsimp only
      ·exact ⟨by omega,g1,by rw [htk,i3];simp,g2,g3⟩
      ·omega
     ·rw [decide_eq_false h4] at htk hlen
      repeat first|exact zE|refine zP ?_|refine zB fun b=>?_|refine zC fun a' c' hc1 hc2=>?_|(apply GJ.a;exact rfl;intro hg)|(apply GJ.o;exact rfl;intro hg)
      refine CallOk.sup (own0:=.blk p 62 [ptr' p,.slice a3 (l1++[124]).length c3]::.sl a3 (l1++[124]).length c3 5 1 ((l1++[124]).map u8)::r) Sup.z ?_
      refine (ih kd (List.mem_of_getElem? hkd)).run false rfl hwk1 ht hv (.inr rfl) k1 k2 (by rw [List.length_append,List.length_singleton];omega) (fun q2 a2 c2 g1 g2 g3=>?_)
      repeat first|exact zE|refine zP ?_|refine zB fun b=>?_|refine zC fun a' c' hc1 hc2=>?_|(apply GJ.a;exact rfl;intro hg)|(apply GJ.o;exact rfl;intro hg)
      refine Wk.id ⟨(i+1,q2,a2,c2,l1++[124]++zAc kd false),⟨rfl,?_⟩,?_,Sub.z,Sup.z⟩
      all_goals try dsimp only
      ·exact ⟨by omega,g1,by rw [htk,i3];simp,g2,g3⟩
      ·omega
   obtain rfl:i=ks.length:=by omega
   rw [List.take_length] at i3
   repeat first|exact zE|refine zP ?_|refine zB fun b=>?_|refine zC fun a' c' hc1 hc2=>?_|(apply GJ.a;exact rfl;intro hg)|(apply GJ.o;exact rfl;intro hg)
   refine CallOk.sup (own0:=.blk p 62 [.pointer q1,.slice a1 l1.length c1]::.sl a1 l1.length c1 5 1 (l1.map u8)::r) Sup.z ?_
   refine zBH (u:=41) i2 rfl rfl (by rw [i3];simp;simp at hl2;omega) (fun a2 c2 k3 k4=>?_)
   rw [show l1.length+1=(l1++[41]).length by simp] at k3 ⊢
   repeat first|exact zE|refine zP ?_|refine zB fun b=>?_|refine zC fun a' c' hc1 hc2=>?_|(apply GJ.a;exact rfl;intro hg)|(apply GJ.o;exact rfl;intro hg)
   exact Wk.outS Sup.z (.refl _) (hk _ a2 c2 _ (by rw [i3];rfl) (.inr rfl) k3 k4)
 | false =>
   have hx:x=0:=hx
   subst hx
   have hl:l.length+(zAi ks true).length+0≤10000000:=hl
   have hl2:l.length+(zAi ks true).length≤10000000:=by omega
   refine CallOk.intro (args:=[_,_,_]) (rs:=[]) T_ok Tryz.func19 Tryz.call19 rfl rfl (by kernel_rfl) rfl rfl ?_
   repeat first|exact zE|refine zP ?_|refine zB fun b=>?_|refine zC fun a' c' hc1 hc2=>?_|(apply GJ.a;exact rfl;intro hg)|(apply GJ.o;exact rfl;intro hg)
   refine LoopOk.at (ι:=Nat × Option Addr × Option Addr × Nat × List UInt8) Keep.z (fun (i,q1,a1,c1,l1)=>[(54,.int .i64 (i:Int))]) (fun (i,q1,a1,c1,l1)=>.blk p 62 [.pointer q1,.slice a1 l1.length c1]::.sl a1 l1.length c1 5 1 (l1.map u8)::r) (fun (i,q1,a1,c1,l1)=>i≤ks.length∧BQ p q1∧l1=l++zAi (ks.take i) true∧l1.length≤c1∧c1≤maxLen) (fun (i,q1,a1,c1,l1)=>ks.length-i) (0,q,a,c,l) ?_ Sub.z Sup.z ?_
   ·exact ⟨Nat.zero_le _,hq,by simp [zAi],hc,hm⟩
   rintro ⟨i,q1,a1,c1,l1⟩ ⟨i1,i2,i3,i4,i5⟩
   dsimp only [List.cons_append,List.nil_append] at i1 i2 i3 i4 i5 ⊢
   by_cases hi:i<ks.length
   ·obtain ⟨kd,hkd⟩:∃ kd,ks[i]?=some kd:=⟨_,List.getElem?_eq_getElem hi⟩
    have hv:=hks.get hkd
    obtain ⟨ak,ck,hvk⟩:=hv.cells
    rw [hvk] at hv
    have htk:zAi (ks.take (i+1)) true=zAi (ks.take i) true++((if i=0 then [] else [124])++zAc kd (decide (kd.kind=4))):=by
     rw [List.take_add_one,hkd];show zAi (ks.take i++[kd]) true=_
     rw [zC4,zAi,zAi,List.append_nil]
     cases i with
     | zero=>simp
     | succ i =>
       have:(ks.take (i+1)).isEmpty=false:=by cases ks with
        | nil=>simp at hi
        | cons y ys=>rfl
       rw [this];simp
    have hsum:zAi ks true=zAi (ks.take (i+1)) true++zAi (ks.drop (i+1)) (true&&(ks.take (i+1)).isEmpty):=by rw [←zC4,List.take_append_drop]
    have hlen:l1.length+((if i=0 then ([]:List UInt8) else [124])++zAc kd (decide (kd.kind=4))).length≤10000000:=by
     have:=congrArg List.length hsum
     rw [htk] at this
     simp only [i3,List.length_append] at this ⊢
     (try simp only [List.length_append] at hl2)
     omega
    have hwk1:=zC2 hwk (List.mem_of_getElem? hkd)
    have hiz:i=0∨0<i:=by omega
    rcases hiz with rfl|hpos
    ·rw [if_pos rfl,List.nil_append] at htk hlen
     repeat first|exact zE|refine zP ?_|refine zB fun b=>?_|refine zC fun a' c' hc1 hc2=>?_|(apply GJ.a;exact rfl;intro hg)|(apply GJ.o;exact rfl;intro hg)
     rw [Int.toNat_natCast]
     refine OpOk.loadRow rfl rfl (LdN.at hrs hvk) rfl ?_
     by_cases h4:kd.kind=4
     ·rw [decide_eq_true h4] at htk hlen
      repeat first|exact zE|refine zP ?_|refine zB fun b=>?_|refine zC fun a' c' hc1 hc2=>?_|(apply GJ.a;exact rfl;intro hg)|(apply GJ.o;exact rfl;intro hg)
      refine CallOk.sup (own0:=.blk p 62 [.pointer q1,.slice a1 l1.length c1]::.sl a1 l1.length c1 5 1 (l1.map u8)::r) Sup.z ?_
      refine (ih kd (List.mem_of_getElem? hkd)).run true rfl hwk1 ht hv i2 i4 i5 hlen (fun q2 a2 c2 g1 g2 g3=>?_)
      repeat first|exact zE|refine zP ?_|refine zB fun b=>?_|refine zC fun a' c' hc1 hc2=>?_|(apply GJ.a;exact rfl;intro hg)|(apply GJ.o;exact rfl;intro hg)
      refine Wk.id ⟨(1,q2,a2,c2,l1++zAc kd true),⟨rfl,?_⟩,?_,Sub.z,Sup.z⟩
      all_goals try dsimp only
      ·exact ⟨by omega,g1,by rw [htk,i3];simp,g2,g3⟩
      ·omega
     ·rw [decide_eq_false h4] at htk hlen
      repeat first|exact zE|refine zP ?_|refine zB fun b=>?_|refine zC fun a' c' hc1 hc2=>?_|(apply GJ.a;exact rfl;intro hg)|(apply GJ.o;exact rfl;intro hg)
      refine CallOk.sup (own0:=.blk p 62 [.pointer q1,.slice a1 l1.length c1]::.sl a1 l1.length c1 5 1 (l1.map u8)::r) Sup.z ?_
      refine (ih kd (List.mem_of_getElem? hkd)).run false rfl hwk1 ht hv i2 i4 i5 hlen (fun q2 a2 c2 g1 g2 g3=>?_)
      repeat first|exact zE|refine zP ?_|refine zB fun b=>?_|refine zC fun a' c' hc1 hc2=>?_|(apply GJ.a;exact rfl;intro hg)|(apply GJ.o;exact rfl;intro hg)
      refine Wk.id ⟨(1,q2,a2,c2,l1++zAc kd false),⟨rfl,?_⟩,?_,Sub.z,Sup.z⟩
      all_goals try dsimp only
      ·exact ⟨by omega,g1,by rw [htk,i3];simp,g2,g3⟩
      ·omega
    ·rw [if_neg (by omega),List.length_append,List.length_singleton] at hlen
     rw [if_neg (by omega)] at htk
     repeat first|exact zE|refine zP ?_|refine zB fun b=>?_|refine zC fun a' c' hc1 hc2=>?_|(apply GJ.a;exact rfl;intro hg)|(apply GJ.o;exact rfl;intro hg)
     rw [Int.toNat_natCast]
     refine OpOk.loadRow rfl rfl (LdN.at hrs hvk) rfl ?_
     repeat first|exact zE|refine zP ?_|refine zB fun b=>?_|refine zC fun a' c' hc1 hc2=>?_|(apply GJ.a;exact rfl;intro hg)|(apply GJ.o;exact rfl;intro hg)
     refine CallOk.sup (own0:=.blk p 62 [.pointer q1,.slice a1 l1.length c1]::.sl a1 l1.length c1 5 1 (l1.map u8)::.blk b 26 (zA7 kd.kind kd.set ak kd.kids.length ck kd.min kd.max)::r) Sup.z ?_
     refine zBH (u:=124) i2 rfl rfl (by omega) (fun a3 c3 k1 k2=>?_)
     rw [show l1.length+1=(l1++[124]).length by simp] at k1 ⊢
     by_cases h4:kd.kind=4
     ·rw [decide_eq_true h4] at htk hlen
      repeat first|exact zE|refine zP ?_|refine zB fun b=>?_|refine zC fun a' c' hc1 hc2=>?_|(apply GJ.a;exact rfl;intro hg)|(apply GJ.o;exact rfl;intro hg)
      refine CallOk.sup (own0:=.blk p 62 [ptr' p,.slice a3 (l1++[124]).length c3]::.sl a3 (l1++[124]).length c3 5 1 ((l1++[124]).map u8)::r) Sup.z ?_
      refine (ih kd (List.mem_of_getElem? hkd)).run true rfl hwk1 ht hv (.inr rfl) k1 k2 (by rw [List.length_append,List.length_singleton];omega) (fun q2 a2 c2 g1 g2 g3=>?_)
      repeat first|exact zE|refine zP ?_|refine zB fun b=>?_|refine zC fun a' c' hc1 hc2=>?_|(apply GJ.a;exact rfl;intro hg)|(apply GJ.o;exact rfl;intro hg)
      refine Wk.id ⟨(i+1,q2,a2,c2,l1++[124]++zAc kd true),⟨rfl,?_⟩,?_,Sub.z,Sup.z⟩
      all_goals try dsimp only
      ·exact ⟨by omega,g1,by rw [htk,i3];simp,g2,g3⟩
      ·omega
     ·rw [decide_eq_false h4] at htk hlen
      repeat first|exact zE|refine zP ?_|refine zB fun b=>?_|refine zC fun a' c' hc1 hc2=>?_|(apply GJ.a;exact rfl;intro hg)|(apply GJ.o;exact rfl;intro hg)
      refine CallOk.sup (own0:=.blk p 62 [ptr' p,.slice a3 (l1++[124]).length c3]::.sl a3 (l1++[124]).length c3 5 1 ((l1++[124]).map u8)::r) Sup.z ?_
      refine (ih kd (List.mem_of_getElem? hkd)).run false rfl hwk1 ht hv (.inr rfl) k1 k2 (by rw [List.length_append,List.length_singleton];omega) (fun q2 a2 c2 g1 g2 g3=>?_)
      repeat first|exact zE|refine zP ?_|refine zB fun b=>?_|refine zC fun a' c' hc1 hc2=>?_|(apply GJ.a;exact rfl;intro hg)|(apply GJ.o;exact rfl;intro hg)
      refine Wk.id ⟨(i+1,q2,a2,c2,l1++[124]++zAc kd false),⟨rfl,?_⟩,?_,Sub.z,Sup.z⟩
      all_goals try dsimp only
      ·exact ⟨by omega,g1,by rw [htk,i3];simp,g2,g3⟩
      ·omega
   obtain rfl:i=ks.length:=by omega
   rw [List.take_length] at i3
   repeat first|exact zE|refine zP ?_|refine zB fun b=>?_|refine zC fun a' c' hc1 hc2=>?_|(apply GJ.a;exact rfl;intro hg)|(apply GJ.o;exact rfl;intro hg)
   exact Wk.outS Sup.z (.refl _) (hk _ a1 c1 _ (by rw [i3];rfl) i2 i4 i5)
end
section
variable {ro:Ro}{own r:Chs}{K:Value→Ro→Chs→Prop}{g:Chunk→Chs}{p c:Nat}{q a:Option Addr}{l:List UInt8}{x:Int}
set_option maxHeartbeats 8000000 in
theorem zGk {s:SetD}{m y:Int}{ad:Option Addr}{cp k0:Nat} (w:Bool) (hx:x=(if w then 1 else 0)) (hq:BQ p q) (hc:l.length≤c) (hm:c≤maxLen) (hl:l.length≤10000000)
  (hk:∀ q' a' c' l',l'=(if w then l++[40,41] else l)→BQ p q'→l'.length≤c'→c'≤maxLen→(w=false→q'=q∧a'=a∧c'=c)→K (.tuple #[]) ro (.blk p 62 [.pointer q',.slice a' l'.length c']::.sl a' l'.length c' 5 1 (l'.map u8)::r)) :
  CallOk Tryz.prog 19 #[ptr' p,.agg (zA7 1 s ad k0 cp m y).toArray,.int .i64 x] ro (.blk p 62 [.pointer q,.slice a l.length c]::.sl a l.length c 5 1 (l.map u8)::r) K:=by
 cases w with
 | true =>
   have hx:x=1:=hx
   subst hx
   refine CallOk.intro (args:=[_,_,_]) (rs:=[]) T_ok Tryz.func19 Tryz.call19 rfl rfl (by kernel_rfl) rfl rfl ?_
   repeat first|exact zE|refine zP ?_|refine zB fun b=>?_|refine zC fun a' c' hc1 hc2=>?_|(apply GJ.a;exact rfl;intro hg)|(apply GJ.o;exact rfl;intro hg)
   refine CallOk.sup (own0:=.blk p 62 [.pointer q,.slice a l.length c]::.sl a l.length c 5 1 (l.map u8)::.blk b 26 (zA7 1 s ad k0 cp m y)::r) Sup.z ?_
   refine zBH (u:=40) hq rfl rfl (by omega) (fun a0 c0 k1 k2=>?_)
   rw [show l.length+1=(l++[40]).length by simp] at k1 ⊢
   repeat first|exact zE|refine zP ?_|refine zB fun b=>?_|refine zC fun a' c' hc1 hc2=>?_|(apply GJ.a;exact rfl;intro hg)|(apply GJ.o;exact rfl;intro hg)
   refine CallOk.sup (own0:=.blk p 62 [ptr' p,.slice a0 (l++[40]).length c0]::.sl a0 (l++[40]).length c0 5 1 ((l++[40]).map u8)::r) Sup.z ?_
   refine zBH (u:=41) (.inr rfl) rfl rfl (by simp;omega) (fun a2 c2 k3 k4=>?_)
   have e1:(l++[40]).length+1=(l++[40]++[41]).length:=by simp
   rw [e1] at k3 ⊢
   repeat first|exact zE|refine zP ?_|refine zB fun b=>?_|refine zC fun a' c' hc1 hc2=>?_|(apply GJ.a;exact rfl;intro hg)|(apply GJ.o;exact rfl;intro hg)
   exact Wk.outS Sup.z (.refl _) (hk _ a2 c2 _ (by simp) (.inr rfl) k3 k4 (fun h=>by cases h))
 | false =>
   have hx:x=0:=hx
   subst hx
   refine CallOk.intro (args:=[_,_,_]) (rs:=[]) T_ok Tryz.func19 Tryz.call19 rfl rfl (by kernel_rfl) rfl rfl ?_
   repeat first|exact zE|refine zP ?_|refine zB fun b=>?_|refine zC fun a' c' hc1 hc2=>?_|(apply GJ.a;exact rfl;intro hg)|(apply GJ.o;exact rfl;intro hg)
   exact Wk.outS Sup.z (.refl _) (hk _ a c l rfl hq hc hm (fun _=>⟨rfl,rfl,rfl⟩))
set_option maxHeartbeats 8000000 in
theorem zL7 {s:SetD}{m y:Int}{ad:Option Addr}{cp:Nat}{kd:RgD}{v:List Value} (ih:WrC kd) (hwk:zAJ kd=0) (ht:TabOk ro) (hrs:Rs ro ad 1 cp 8 v) (hv:RgOk ro kd v) (h:¬(m<0∨256<m∨256<y∨(0≤y∧y<m)))
  (hq:BQ p q) (hc:l.length≤c) (hm:c≤maxLen) (hl:l.length+(zAc kd true).length+(zBd m y).length≤10000000)
  (hk:∀ q' a' c',BQ p q'→(l++(zAc kd true++zBd m y)).length≤c'→c'≤maxLen→K (.tuple #[]) ro (.blk p 62 [.pointer q',.slice a' (l++(zAc kd true++zBd m y)).length c']::.sl a' (l++(zAc kd true++zBd m y)).length c' 5 1 ((l++(zAc kd true++zBd m y)).map u8)::r)) :
  CallOk Tryz.prog 19 #[ptr' p,.agg (zA7 5 s ad 1 cp m y).toArray,.int .i64 x] ro (.blk p 62 [.pointer q,.slice a l.length c]::.sl a l.length c 5 1 (l.map u8)::r) K:=by
 obtain ⟨ak,ck,hvk⟩:=hv.cells
 subst hvk
 have hd:((zA7 kd.kind kd.set ak kd.kids.length ck kd.min kd.max).drop 0).take 8=zA7 kd.kind kd.set ak kd.kids.length ck kd.min kd.max:=rfl
 have fin:∀ q2 a2 c2,BQ p q2→(l++zAc kd true).length≤c2→c2≤maxLen→∀ {R:Value→Ro→Chs→Prop}{rest:Chs},(∀ q' a' c',BQ p q'→(l++(zAc kd true++zBd m y)).length≤c'→c'≤maxLen→R (.tuple #[.int .i64 (((zBd m y).length:Nat):Int),.nilIface]) ro (.blk p 62 [.pointer q',.slice a' (l++(zAc kd true++zBd m y)).length c']::.sl a' (l++(zAc kd true++zBd m y)).length c' 5 1 ((l++(zAc kd true++zBd m y)).map u8)::rest)) →
   CallOk Tryz.prog 48 #[ptr' p,str (zBd m y)] ro (.blk p 62 [.pointer q2,.slice a2 (l++zAc kd true).length c2]::.sl a2 (l++zAc kd true).length c2 5 1 ((l++zAc kd true).map u8)::rest) R:=fun q2 a2 c2 g1 g2 g3 {R rest} hR=>by
  refine zGN g1 rfl ⟨by rw [List.length_append];omega,by omega⟩ (fun a3 c3 k1 k2=>?_)
  have e2:(l++zAc kd true).length+(zBd m y).length=(l++(zAc kd true++zBd m y)).length:=by simp [Nat.add_assoc]
  rw [e2] at k1 ⊢
  have:=hR (some ⟨p,0,none⟩) a3 c3 (.inr rfl) k1 k2
  rw [List.append_assoc]
  exact this
 by_cases hx:x > 0
 ·refine CallOk.intro (args:=[_,_,_]) (rs:=[]) T_ok Tryz.func19 Tryz.call19 rfl rfl (by kernel_rfl) rfl rfl ?_
  repeat first|exact zE|refine zP ?_|refine zB fun b=>?_|refine zC fun a' c' hc1 hc2=>?_|(apply GJ.a;exact rfl;intro hg)|(apply GJ.o;exact rfl;intro hg)
  refine OpOk.loadRow rfl rfl (LdN.at hrs hd) rfl ?_
  repeat first|exact zE|refine zP ?_|refine zB fun b=>?_|refine zC fun a' c' hc1 hc2=>?_|(apply GJ.a;exact rfl;intro hg)|(apply GJ.o;exact rfl;intro hg)
  refine CallOk.sup (own0:=.blk p 62 [.pointer q,.slice a l.length c]::.sl a l.length c 5 1 (l.map u8)::.blk b 26 (zA7 5 s ad 1 cp m y)::r) Sup.z ?_
  refine ih.run true rfl hwk ht hv hq hc hm (by omega) (fun q2 a2 c2 g1 g2 g3=>?_)
  repeat first|exact zE|refine zP ?_|refine zB fun b=>?_|refine zC fun a' c' hc1 hc2=>?_|(apply GJ.a;exact rfl;intro hg)|(apply GJ.o;exact rfl;intro hg)
  refine zHP h ?_
  repeat first|exact zE|refine zP ?_|refine zB fun b=>?_|refine zC fun a' c' hc1 hc2=>?_|(apply GJ.a;exact rfl;intro hg)|(apply GJ.o;exact rfl;intro hg)
  refine CallOk.sup (own0:=.blk p 62 [.pointer q2,.slice a2 (l++zAc kd true).length c2]::.sl a2 (l++zAc kd true).length c2 5 1 ((l++zAc kd true).map u8)::r) Sup.z ?_
  refine fin q2 a2 c2 g1 g2 g3 (fun q' a' c' k1 k2 k3=>?_)
  repeat first|exact zE|refine zP ?_|refine zB fun b=>?_|refine zC fun a' c' hc1 hc2=>?_|(apply GJ.a;exact rfl;intro hg)|(apply GJ.o;exact rfl;intro hg)
  exact Wk.outS Sup.z (.refl _) (hk q' a' c' k1 k2 k3)
 ·refine CallOk.intro (args:=[_,_,_]) (rs:=[]) T_ok Tryz.func19 Tryz.call19 rfl rfl (by kernel_rfl) rfl rfl ?_
  repeat first|exact zE|refine zP ?_|refine zB fun b=>?_|refine zC fun a' c' hc1 hc2=>?_|(apply GJ.a;exact rfl;intro hg)|(apply GJ.o;exact rfl;intro hg)
  refine OpOk.loadRow rfl rfl (LdN.at hrs hd) rfl ?_
  repeat first|exact zE|refine zP ?_|refine zB fun b=>?_|refine zC fun a' c' hc1 hc2=>?_|(apply GJ.a;exact rfl;intro hg)|(apply GJ.o;exact rfl;intro hg)
  refine CallOk.sup (own0:=.blk p 62 [.pointer q,.slice a l.length c]::.sl a l.length c 5 1 (l.map u8)::.blk b 26 (zA7 5 s ad 1 cp m y)::r) Sup.z ?_
  refine ih.run true rfl hwk ht hv hq hc hm (by omega) (fun q2 a2 c2 g1 g2 g3=>?_)
  repeat first|exact zE|refine zP ?_|refine zB fun b=>?_|refine zC fun a' c' hc1 hc2=>?_|(apply GJ.a;exact rfl;intro hg)|(apply GJ.o;exact rfl;intro hg)
  refine zHP h ?_
  repeat first|exact zE|refine zP ?_|refine zB fun b=>?_|refine zC fun a' c' hc1 hc2=>?_|(apply GJ.a;exact rfl;intro hg)|(apply GJ.o;exact rfl;intro hg)
  refine CallOk.sup (own0:=.blk p 62 [.pointer q2,.slice a2 (l++zAc kd true).length c2]::.sl a2 (l++zAc kd true).length c2 5 1 ((l++zAc kd true).map u8)::r) Sup.z ?_
  refine fin q2 a2 c2 g1 g2 g3 (fun q' a' c' k1 k2 k3=>?_)
  repeat first|exact zE|refine zP ?_|refine zB fun b=>?_|refine zC fun a' c' hc1 hc2=>?_|(apply GJ.a;exact rfl;intro hg)|(apply GJ.o;exact rfl;intro hg)
  exact Wk.outS Sup.z (.refl _) (hk q' a' c' k1 k2 k3)
end
theorem zJS {ro:Ro}{a:Option Addr}{n c s:Nat}{cs:List Value} (h:Rs ro a n c s cs):n≤9223372036854775807:=by
 have h1:=h.le
 have h2:=h.max
 unfold maxLen at h2
 omega
theorem wrC:∀ n,WrC n:=RgD.ind fun k s l x y ih=>⟨fun {ro r K b c q a ls v z} w hz hw ht hr hq hc hm hl hk=>by
 obtain ⟨hf,hwk⟩:=zAM hw
 rw [RgOk] at hr
 obtain ⟨ad,cp,cs,rfl,hs,hrs,hks⟩:=hr
 cases zBm hf with
 | none s x y =>
   refine zGk w hz hq hc hm (by omega) (fun q' a' c' l' e g1 g2 g3 _=>?_)
   have e2:ls++zAc (.mk 1 s [] x y) w=l':=by rw [e,zAc];cases w<;>simp
   have:=hk q' a' c' g1 (by rw [e2];exact g2) g3
   rwa [e2] at this
 | one s x y h =>
   have e2:zAc (.mk 2 s [] x y) w=zBC s:=by rw [zAc];simp
   rw [e2] at hl hk
   exact zL8 ht hs hq hc hm hl hk
 | cat s x1 y1 l1 x y =>
   generalize x1::y1::l1=L at ih hrs hks hw hl hk hf hwk ⊢
   have e2:zAc (.mk 3 s L x y) w=(if w then [40]++(zAo L++[41]) else zAo L):=by rw [zAc];cases w<;>simp
   rw [e2] at hl hk
   refine zL9 w ih hz hwk ht hrs hks (zJS hrs) hq hc hm ?_ (fun q' a' c' l' e g1 g2 g3=>?_)
   ·cases w with
    | true=>simp at hl ⊢;omega
    | false=>simpa using hl
   ·have e3:ls++(if w then [40]++(zAo L++[41]) else zAo L)=l':=by rw [e];cases w<;>simp
    have:=hk q' a' c' g1 (by rw [e3];exact g2) g3
    rwa [e3] at this
 | alt s x1 y1 l1 x y =>
   generalize x1::y1::l1=L at ih hrs hks hw hl hk hf hwk ⊢
   have e2:zAc (.mk 4 s L x y) w=(if w then [40]++(zAi L true++[41]) else zAi L true):=by rw [zAc];cases w<;>simp
   rw [e2] at hl hk
   refine zLA w ih hz hwk ht hrs hks (zJS hrs) hq hc hm ?_ (fun q' a' c' l' e g1 g2 g3=>?_)
   ·cases w with
    | true=>simp at hl ⊢;omega
    | false=>simpa using hl
   ·have e3:ls++(if w then [40]++(zAi L true++[41]) else zAi L true)=l':=by rw [e];cases w<;>simp
    have:=hk q' a' c' g1 (by rw [e3];exact g2) g3
    rwa [e3] at this
 | rep s k1 x y h =>
   have e2:zAc (.mk 5 s [k1] x y) w=zAc k1 true++zBd x y:=by rw [zAc,zDe];simp
   rw [e2] at hl hk
   exact zL7 (ih k1 (by simp)) (zAB hwk).1 ht hrs hks.single h hq hc hm (by rw [List.length_append] at hl;omega) hk⟩
theorem OpOk.sliceData0 {P:Program}{ty:TypeId}{env:Env}{ro:Ro}{own:Chs}{K:Value→Ro→Chs→Prop}{x:Operand}{t:TypeId}{n c:Nat} (hx:ev env x=some (.slice none n c)) (hk:K (.pointer none) ro own):OpOk P (.call ⟨.builtin .unsafeSliceData,#[x],#[t]⟩) ty env ro own K :=
 OpOk.pu (fun h hs d pos af g=>.mk fun ρ w hρ hw=>by
  have:=Lib.run_unsafeSliceData_nil (P:=P) w #[t] ty n c
  simp only [execOp,resolve,invoke,builtin,Sem.run_bind,Sem.run_pure,Result.andThen_ok]
  simp [hρ _ _ hx,this,Result.andThen]) hk
theorem bstr0_ok {ro:Ro}{r:Chs}{K:Value→Ro→Chs→Prop}{b:Nat} (hk:K (str []) ro (.blk b 62 [.pointer none,.slice none 0 0]::r)) :
  CallOk Tryz.prog 20 #[ptr' b] ro (.blk b 62 [.pointer none,.slice none 0 0]::r) K:=by
 refine CallOk.intro (args:=[_]) (rs:=[_]) T_ok Tryz.func20 Tryz.call20 rfl rfl (by kernel_rfl) rfl rfl ?_
 repeat first|exact zE|refine wkG ?_|refine zB fun b=>?_|refine zC fun a' c' hc1 hc2=>?_|(show GJ _ _ _ _ _ _ _;first|(apply GJ.a;exact rfl;intro hg)|(apply GJ.o;exact rfl;intro hg)|refine GJ.t zO ?_|refine GJ.f zO ?_|refine GJ.ft zO ?_|refine GJ.ff zO ?_)
 refine Bs.all ?_
 repeat first|exact zE|refine wkG ?_|refine zB fun b=>?_|refine zC fun a' c' hc1 hc2=>?_|(show GJ _ _ _ _ _ _ _;first|(apply GJ.a;exact rfl;intro hg)|(apply GJ.o;exact rfl;intro hg)|refine GJ.t zO ?_|refine GJ.f zO ?_|refine GJ.ft zO ?_|refine GJ.ff zO ?_)
 refine OpOk.sliceData0 rfl ?_
 repeat first|exact zE|refine wkG ?_|refine zB fun b=>?_|refine zC fun a' c' hc1 hc2=>?_|(show GJ _ _ _ _ _ _ _;first|(apply GJ.a;exact rfl;intro hg)|(apply GJ.o;exact rfl;intro hg)|refine GJ.t zO ?_|refine GJ.f zO ?_|refine GJ.ft zO ?_|refine GJ.ff zO ?_)
 refine OpOk.unsafeString0 rfl rfl ?_
 repeat first|exact zE|refine wkG ?_|refine zB fun b=>?_|refine zC fun a' c' hc1 hc2=>?_|(show GJ _ _ _ _ _ _ _;first|(apply GJ.a;exact rfl;intro hg)|(apply GJ.o;exact rfl;intro hg)|refine GJ.t zO ?_|refine GJ.f zO ?_|refine GJ.ft zO ?_|refine GJ.ff zO ?_)
 exact Wk.outS Sup.z (.refl _) hk
theorem zKQ {n:RgD} (hw:zAJ n=0) (hi:insD n) (h1:n.kind≠1):zFb n≠[]:=by
 intro e
 obtain ⟨k,s,l,a,b⟩:=n
 obtain ⟨hf,hk⟩:=zAM hw
 unfold zFb at e
 rw [zAc] at e
 rw [insD] at hi
 cases zBm hf with
 | none=>exact h1 rfl
 | one s a b h =>
   obtain ⟨x,m,hx⟩:=zLJ hi.1
   rw [hx] at e;simp at e
 | cat s x y l a b =>
   simp [zAo] at e
   obtain ⟨x1,m,hx,_⟩:=(zFe x (zAB hk).1 (by have:=hi.2;rw [insK] at this;exact this.1)).1.head
   rw [hx] at e;simp at e
 | alt s x y l a b=>simp [zAi] at e
 | rep s x a b h =>
   simp [zDe] at e
   obtain ⟨x1,m,hx,_⟩:=(zFe x (zAB hk).1 (by have:=hi.2;rw [insK] at this;exact this.1)).1.head
   rw [hx] at e;simp at e
mutual
theorem RgOk.ins {ro:Ro}:∀ {n:RgD}{v:List Value},RgOk ro n v→insD n
 | .mk k z l x y,v,h=>by
   rw [RgOk] at h
   obtain ⟨a,c,cs,h1,h2,h3,h4⟩:=h
   rw [insD]
   exact ⟨h2,RgsOk.ins h4⟩
theorem RgsOk.ins {ro:Ro}:∀ {l:List RgD}{cs:List Value},RgsOk ro l cs→insK l
 | [],cs,h=>by rw [insK];trivial
 | n::l,cs,h=>by
   rw [RgsOk] at h
   obtain ⟨v,r,h0,h1,h2⟩:=h
   rw [insK]
   exact ⟨RgOk.ins h1,RgsOk.ins h2⟩
end
section
variable {ro:Ro}{own r:Chs}{K:Value→Ro→Chs→Prop}{g:Chunk→Chs}
set_option maxHeartbeats 4000000 in
theorem zFi {n:RgD}{v:List Value} (ht:TabOk ro) (hw:zAJ n=0) (hv:RgOk ro n v) (hs:zAn n≤4000) (hk:K (str (zFb n)) ro own):CallOk Tryz.prog 6 #[.agg v.toArray] ro own K:=by
 have hlen:=zFt n false
 obtain ⟨a1,c1,hvc⟩:=hv.cells
 by_cases h1:n.kind=1
 ·have hT:zFb n=[]:=by
   obtain ⟨k,s,l,a,b⟩:=n
   have h1:k=1:=h1
   subst h1
   unfold zFb;rw [zAc];simp
  rw [hT] at hk
  subst hvc
  rw [h1]
  refine CallOk.intro (args:=[_]) (rs:=[_]) T_ok Tryz.func6 Tryz.call6 rfl rfl (by kernel_rfl) rfl rfl ?_
  repeat first|exact zE|refine zP ?_|refine zB fun b=>?_|refine zC fun a' c' hc1 hc2=>?_|(apply GJ.a;exact rfl;intro hg)|(apply GJ.o;exact rfl;intro hg)
  rename_i b0
  obtain ⟨p,hp⟩:∃ z:Nat,z=b:=⟨_,rfl⟩
  subst hp
  refine CallOk.sup (own0:=.blk p 62 [.pointer none,.slice none ([]:List UInt8).length 0]::.sl none ([]:List UInt8).length 0 5 1 (([]:List UInt8).map u8)::own) Sup.z ?_
  refine zGk false rfl (.inl rfl) (Nat.zero_le _) (Nat.zero_le _) (by decide) (fun q' a' c' l' e g1 g2 g3 g4=>?_)
  obtain ⟨rfl,rfl,rfl⟩:=g4 rfl
  subst e
  repeat first|exact zE|refine zP ?_|refine zB fun b=>?_|refine zC fun a' c' hc1 hc2=>?_|(apply GJ.a;exact rfl;intro hg)|(apply GJ.o;exact rfl;intro hg)
  refine CallOk.sup (own0:=.blk p 62 [.pointer none,.slice none 0 0]::own) Sup.z ?_
  refine bstr0_ok ?_
  repeat first|exact zE|refine zP ?_|refine zB fun b=>?_|refine zC fun a' c' hc1 hc2=>?_|(apply GJ.a;exact rfl;intro hg)|(apply GJ.o;exact rfl;intro hg)
  exact Wk.outS Sup.z (.refl _) hk
 ·have hne:=zKQ hw hv.ins h1
  have hT:zFb n=zAc n false:=rfl
  have hwr:=wrC n
  rw [hvc] at hv ⊢
  refine CallOk.intro (args:=[_]) (rs:=[_]) T_ok Tryz.func6 Tryz.call6 rfl rfl (by kernel_rfl) rfl rfl ?_
  repeat first|exact zE|refine zP ?_|refine zB fun b=>?_|refine zC fun a' c' hc1 hc2=>?_|(apply GJ.a;exact rfl;intro hg)|(apply GJ.o;exact rfl;intro hg)
  rename_i b0
  obtain ⟨p,hp⟩:∃ z:Nat,z=b:=⟨_,rfl⟩
  subst hp
  refine CallOk.sup (own0:=.blk p 62 [.pointer none,.slice none ([]:List UInt8).length 0]::.sl none ([]:List UInt8).length 0 5 1 (([]:List UInt8).map u8)::own) Sup.z ?_
  refine hwr.run false rfl hw ht hv (.inl rfl) (Nat.zero_le _) (Nat.zero_le _) (by simp only [List.length_nil];omega) (fun q' a' c' g1 g2 g3=>?_)
  rw [List.nil_append] at g2 ⊢
  rw [←hT] at g2 hlen ⊢
  repeat first|exact zE|refine zP ?_|refine zB fun b=>?_|refine zC fun a' c' hc1 hc2=>?_|(apply GJ.a;exact rfl;intro hg)|(apply GJ.o;exact rfl;intro hg)
  refine bstrL_ok rfl hne g2 (by omega) ?_
  repeat first|exact zE|refine zP ?_|refine zB fun b=>?_|refine zC fun a' c' hc1 hc2=>?_|(apply GJ.a;exact rfl;intro hg)|(apply GJ.o;exact rfl;intro hg)
  exact Wk.outS Sup.z (.refl _) hk
end
theorem zMs {ro:Ro}{cs:List Value} (h:Wf Tryz.prog ro 23 cs):∃ s:SetD,cs=setV s∧SetIn s:=by
 have hl:cs.length=4:=(Wf.array_inv Tryz.underlying23 h).1.trans (by kernel_rfl)
 have ha:=(Wf.array_inv Tryz.underlying23 h).2
 rw [show Tryz.prog.cellsOf 22=1 by kernel_rfl] at ha
 match cs,hl,ha with
 | [v0,v1,v2,v3],_,ha =>
   obtain ⟨n0,rfl,w0⟩:=Wf.int_inv Tryz.underlying22 (ha 0 (by decide))
   obtain ⟨n1,rfl,w1⟩:=Wf.int_inv Tryz.underlying22 (ha 1 (by decide))
   obtain ⟨n2,rfl,w2⟩:=Wf.int_inv Tryz.underlying22 (ha 2 (by decide))
   obtain ⟨n3,rfl,w3⟩:=Wf.int_inv Tryz.underlying22 (ha 3 (by decide))
   obtain ⟨m0,rfl,b0⟩:=zJF w0
   obtain ⟨m1,rfl,b1⟩:=zJF w1
   obtain ⟨m2,rfl,b2⟩:=zJF w2
   obtain ⟨m3,rfl,b3⟩:=zJF w3
   refine ⟨⟨m0,m1,m2,m3⟩,rfl,fun k=>?_⟩
   unfold SetD.w
   dsimp only
   repeat' split
   all_goals assumption
theorem rgs_of {ro:Ro}:∀ {css:List (List Value)},(∀ (i:Nat) (x:List Value),css[i]?=some x→∃ n,RgOk ro n x)→∃ l,RgsOk ro l css.flatten∧l.length=css.length
 | [],_=>⟨[],by rw [RgsOk];rfl,rfl⟩
 | c::css,h=>by
   obtain ⟨n,hn⟩:=h 0 c rfl
   obtain ⟨l,hl,hlen⟩:=rgs_of (css:=css) (fun i x hx=>h (i+1) x (by simpa using hx))
   exact ⟨n::l,by rw [RgsOk];exact ⟨c,css.flatten,rfl,hn,hl⟩,by simp [hlen]⟩
theorem zMt {ro:Ro}{t:TypeId}{cs:List Value} (h:Wf Tryz.prog ro t cs):(t=26→∃ n,RgOk ro n cs)∧(t=24→∃ l a c vs,cs=[.slice a l.length c]∧Rs ro a l.length c 8 vs∧RgsOk ro l vs):=by
 have hu:=Tryz.underlying26
 have hu2:=Tryz.underlying24
 induction h with
 | bool h=>exact ⟨fun e=>(by subst e;rw [hu] at h;cases h),fun e=>(by subst e;rw [hu2] at h;cases h)⟩
 | int h _=>exact ⟨fun e=>(by subst e;rw [hu] at h;cases h),fun e=>(by subst e;rw [hu2] at h;cases h)⟩
 | str h _=>exact ⟨fun e=>(by subst e;rw [hu] at h;cases h),fun e=>(by subst e;rw [hu2] at h;cases h)⟩
 | array h _ _ _=>exact ⟨fun e=>(by subst e;rw [hu] at h;cases h),fun e=>(by subst e;rw [hu2] at h;cases h)⟩
 | nought h h0 =>
   refine ⟨fun e=>(by subst e;rw [hu] at h;cases h),fun e=>?_⟩
   subst e;rw [hu2] at h;cases h
   exact absurd h0 (by rw [show Tryz.prog.cellsOf 26=8 by kernel_rfl];decide)
 | other h =>
   refine ⟨fun e=>?_,fun e=>?_⟩
   ·subst e;exact absurd rfl ((h _ hu).2.2.2.2.1 _)
   ·subst e;exact absurd rfl ((h _ hu2).2.2.2.1 _)
 | slice h h0 hr hl hs hw ih =>
   refine ⟨fun e=>(by subst e;rw [hu] at h;cases h),fun e=>?_⟩
   subst e;rw [hu2] at h;cases h
   obtain ⟨l,h1,h2⟩:=rgs_of (fun i x hx=>(ih i x hx).1 rfl)
   rw [show Tryz.prog.cellsOf 26=8 by kernel_rfl] at hr
   rw [hl] at h2
   exact ⟨l,_,_,_,by rw [h2],by rw [h2];exact hr,h1⟩
 | @struct t fs cs h hl hw ih =>
   refine ⟨fun e=>?_,fun e=>(by subst e;rw [hu2] at h;cases h)⟩
   subst e
   have hW:Wf Tryz.prog ro 26 cs:=.struct h hl hw
   have hl:cs.length=8:=hl.trans (by kernel_rfl)
   rw [hu] at h;cases h
   have i2:=(ih 2 _ rfl).2 rfl
   match cs,hl,hW,i2 with
   | [v0,v1,v2,v3,v4,v5,v6,v7],_,hW,i2 =>
     obtain ⟨n0,rfl,_⟩:=Wf.int_inv Tryz.underlying3 (Wf.fld (i:=0) (off:=0) (k:=1) hu hW rfl rfl rfl (by kernel_rfl))
     obtain ⟨z,hz,hzi⟩:=zMs (Wf.fld (i:=1) (off:=1) (k:=4) hu hW rfl rfl rfl (by kernel_rfl))
     obtain ⟨n6,rfl,_⟩:=Wf.int_inv Tryz.underlying3 (Wf.fld (i:=3) (off:=6) (k:=1) hu hW rfl rfl rfl (by kernel_rfl))
     obtain ⟨n7,rfl,_⟩:=Wf.int_inv Tryz.underlying3 (Wf.fld (i:=4) (off:=7) (k:=1) hu hW rfl rfl rfl (by kernel_rfl))
     obtain ⟨l,a,c,vs,e5,hrs,hks⟩:=i2
     have hz:[v1,v2,v3,v4]=setV z:=hz
     have e5:[v5]=[.slice a l.length c]:=by
      have:(([.int .i64 n0,v1,v2,v3,v4,v5,.int .i64 n6,.int .i64 n7]:List Value).drop 5).take 1=[v5]:=rfl
      rw [←this]
      exact e5
     cases e5
     unfold setV at hz
     cases hz
     refine ⟨.mk n0 z l n6 n7,?_⟩
     rw [RgOk]
     exact ⟨a,c,vs,rfl,hzi,hrs,hks⟩
theorem read_rgx {ro:Ro}{cs:List Value} (h:Wf Tryz.prog ro 26 cs):∃ n,RgOk ro n cs:=(zMt h).1 rfl
end Go.Proofs.YtmaennnkaoollaaGreatDoor
end
section
namespace Go.E
open Go
theorem SetR.ofSet {v:Value}:∀ {l:List Value}{k:Nat},k<l.length→SetR l k v (l.set k v)
 | [],_,h=>absurd h (Nat.not_lt_zero _)
 | x::l,0,_=>SetR.hit _ _ _
 | x::l,k+1,h=>SetR.miss _ (SetR.ofSet (by simpa using h))
def DLd (ro:Ro) (b o:Nat) (v:Value):Prop:=∀ own,Ld ro own b o v
theorem DLd.ld {ro ro':Ro}{own:Chs}{b o:Nat}{v:Value} (h:DLd ro b o v) [hl:Leq ro ro']:Ld ro' own b o v:=fun g hs=>h own g (hs.leq hl)
theorem DLd.ldE {ro ro':Ro}{own:Chs}{b o o':Nat}{v:Value} (h:DLd ro b o v) [hl:Leq ro ro'] (e:o'=o):Ld ro' own b o' v:=e▸h.ld
end Go.E
namespace Go.Proofs.YtmaennnkaoollaaGreatDoor
open Go Go.E
def clsV (C:List Nat):List Value:=C.map fun (k:Nat)=>.int .u8 (k:Int)
def autV (C:List Nat) (x y:Value):List Value:=clsV C++[x,y]
theorem zA0 (C:List Nat):(clsV C).length=C.length:=by simp [clsV]
theorem zDA {C:List Nat} (h:C.length=256) (x y:Value):(autV C x y).length=258:=by simp [autV,clsV,h]
theorem zKI {C:List Nat}{x y:Value} (h:C.length=256):(autV C x y)[256]?=some x:=by
 unfold autV;rw [List.getElem?_append_right (by rw [zA0];omega),zA0,h];rfl
theorem zNW {C:List Nat}{x y:Value} (h:C.length=256):(autV C x y)[257]?=some y:=by
 unfold autV;rw [List.getElem?_append_right (by rw [zA0];omega),zA0,h];rfl
theorem aut_cls {C:List Nat}{x y:Value}{c k:Nat} (h:C[c]?=some k):(autV C x y)[c]?=some (.int .u8 (k:Int)):=by
 have hc:=(List.getElem?_eq_some_iff.1 h).1
 unfold autV clsV
 rw [List.getElem?_append_left (by simpa using hc),List.getElem?_map,h];rfl
theorem zNV {C:List Nat}{x y:Value}{c:Nat} (hc:c<C.length) (k:Nat):(autV C x y).set c (.int .u8 (k:Int))=autV (C.set c k) x y:=by
 unfold autV clsV
 rw [List.set_append_left _ _ (by simpa using hc),List.map_set]
theorem aut_set1 {C:List Nat}{x y v:Value} (h:C.length=256):SetR (autV C x y) 256 v (autV C v y):=by
 have e:(autV C x y).set 256 v=autV C v y:=by
  unfold autV
  rw [List.set_append_right _ _ (by rw [zA0];omega),zA0,h];rfl
 rw [←e]
 exact SetR.ofSet (by rw [zDA h];omega)
theorem aut_set2 {C:List Nat}{x y v:Value} (h:C.length=256):SetR (autV C x y) 257 v (autV C x v):=by
 have e:(autV C x y).set 257 v=autV C x v:=by
  unfold autV
  rw [List.set_append_right _ _ (by rw [zA0];omega),zA0,h];rfl
 rw [←e]
 exact SetR.ofSet (by rw [zDA h];omega)
theorem Ld.auto {ro:Ro}{own:Chs}{b o:Nat}{v:Value} (h:Ld ro own b o v:=by first|exact Go.E.Ld.hasBlk rfl|exact Go.E.DLd.ld (by assumption)|exact Go.E.Ld.hasBlkAt (zKI (by assumption))|exact Go.E.Ld.hasBlkAt (zNW (by assumption))|exact Go.E.Ld.rs (by assumption) (zEx (by omega))|exact Go.E.Ld.rds (by assumption) (zEx (by omega))|exact Go.E.Ld.hasSl (zEx (by omega))|exact Go.E.Ld.hasBlkAt (zEx (by omega))):Ld ro own b o v:=h
theorem SetR.auto {cs:List Value}{o:Nat}{v:Value}{cs2:List Value} (h:SetR cs o v cs2:=by first|((repeat (first|exact Go.E.SetR.hit _ _ _|apply Go.E.SetR.miss));done)|exact aut_set1 (by assumption)|exact aut_set2 (by assumption)):SetR cs o v cs2:=h
structure DAt (ro:Ro) (q:Nat) (d:DfaA):Prop where
 ex:∃ (an:Option Addr) (cn:Nat) (aa:Option Addr) (ca:Nat) (hs:List Value),RowR ro q 83 (autV d.cls (.slice an d.next.length cn) (.slice aa d.acc.length ca))∧d.cls.length=256∧Rs ro an d.next.length cn 1 hs ∧
  (∀ (i:Nat) (row:List Int),d.next[i]?=some row→∃ (ar:Option Addr) (cr:Nat),hs[i]?=some (.slice ar row.length cr)∧Rs ro ar row.length cr 1 (row.map (Value.int .i64)))∧Rs ro aa d.acc.length ca 1 (d.acc.map Value.bool)
theorem DAt.le {ro ro':Ro}{q:Nat}{d:DfaA} (h:DAt ro q d) (hl:Le ro ro'):DAt ro' q d:=by
 obtain ⟨an,cn,aa,ca,hs,h1,h2,h3,h4,h5⟩:=h.ex
 refine ⟨an,cn,aa,ca,hs,hl.le _ _ h1,h2,Rs.up h3,fun i row hr=>?_,Rs.up h5⟩
 obtain ⟨ar,cr,p1,p2⟩:=h4 i row hr
 exact ⟨ar,cr,p1,Rs.up p2⟩
structure DRd (ro:Ro) (q:Nat) (d:DfaA) (an:Option Addr) (cn:Nat) (aa:Option Addr) (ca:Nat) (hs:List Value):Prop where
 row:RowR ro q 83 (autV d.cls (.slice an d.next.length cn) (.slice aa d.acc.length ca))
 c256:d.cls.length=256
 ldN:DLd ro q 256 (.slice an d.next.length cn)
 ldA:DLd ro q 257 (.slice aa d.acc.length ca)
 ldC:∀ c k:Nat,d.cls[c]?=some k→DLd ro q c (.int .u8 (k:Int))
 rs:Rs ro an d.next.length cn 1 hs
 ra:Rs ro aa d.acc.length ca 1 (d.acc.map Value.bool)
 rows:∀ (i:Nat) (row:List Int),d.next[i]?=some row→∃ (ar:Option Addr) (cr:Nat),hs[i]?=some (.slice ar row.length cr)∧Rs ro ar row.length cr 1 (row.map (Value.int .i64))
theorem DLd.row {ro:Ro}{q o:Nat}{t:TypeId}{cs:List Value}{v:Value} (h:RowR ro q t cs) (hv:cs[o]?=some v):DLd ro q o v:=fun own g hs=>Row.cell (h:=g) (t:=t) (cs:=cs) (hs.last _ _ h) hv
theorem DAt.rd {ro:Ro}{q:Nat}{d:DfaA} (h:DAt ro q d):∃ an cn aa ca hs,DRd ro q d an cn aa ca hs:=by
 obtain ⟨an,cn,aa,ca,hs,h1,h2,h3,h4,h5⟩:=h.ex
 exact ⟨an,cn,aa,ca,hs,h1,h2,DLd.row h1 (zKI h2),DLd.row h1 (zNW h2),fun c k hk=>DLd.row h1 (aut_cls hk),h3,h5,h4⟩
theorem getB_get {m:List Bool}{i:Nat} (h:i<m.length):m[(i:Int).toNat]! = getB m i:=by
 rw [Int.toNat_natCast,List.getElem!_eq_getElem?_getD]
 unfold getB
 rw [List.getElem?_eq_getElem h];rfl
section
variable {ro:Ro}{own r:Chs}{K:Value→Ro→Chs→Prop}{g:Chunk→Chs}
theorem zBP {q:Nat}{d:DfaA} (hD:DAt ro q d) (hk:K (.int .i64 (d.next.length:Int)) ro own):CallOk Tryz.prog 10 #[ptr' q] ro own K:=by
 obtain ⟨an,cn,aa,ca,hs,hd⟩:=hD.rd
 have hN:=hd.ldN
 refine CallOk.intro (args:=[_]) (rs:=[_]) T_ok Tryz.func10 Tryz.call10 rfl rfl (by kernel_rfl) rfl rfl ?_
 repeat first|exact zE|refine zP ?_|refine zB fun b=>?_|refine zC fun a' c' hc1 hc2=>?_|(apply GJ.a;exact rfl;intro hg)|(apply GJ.o;exact rfl;intro hg)
 exact Wk.id hk
theorem zN6 {q:Nat}{d:DfaA} (hD:DAt ro q d) (hk:K (.int .i64 (zGo d:Int)) ro own):CallOk Tryz.prog 67 #[ptr' q] ro own K:=by
 obtain ⟨an,cn,aa,ca,hs,hd⟩:=hD.rd
 have hN:=hd.ldN
 have hrs:=hd.rs
 unfold zGo at hk
 refine CallOk.intro (args:=[_]) (rs:=[_]) T_ok Tryz.func67 Tryz.call67 rfl rfl (by kernel_rfl) rfl rfl ?_
 repeat first|exact zE|refine zP ?_|refine zB fun b=>?_|refine zC fun a' c' hc1 hc2=>?_|(apply GJ.a;exact rfl;intro hg)|(apply GJ.o;exact rfl;intro hg)
 by_cases h0:d.next.length=0
 ·have hn:d.next=[]:=List.eq_nil_of_length_eq_zero h0
  rw [hn] at hk
  repeat first|exact zE|refine zP ?_|refine zB fun b=>?_|refine zC fun a' c' hc1 hc2=>?_|(apply GJ.a;exact rfl;intro hg)|(apply GJ.o;exact rfl;intro hg)
  exact Wk.id hk
 ·obtain ⟨row,hrow⟩:∃ row,d.next[0]?=some row:=⟨_,List.getElem?_eq_getElem (by omega)⟩
  obtain ⟨ar,cr,h1,h2⟩:=hd.rows 0 row hrow
  rw [hrow] at hk
  repeat first|exact zE|refine zP ?_|refine zB fun b=>?_|refine zC fun a' c' hc1 hc2=>?_|(apply GJ.a;exact rfl;intro hg)|(apply GJ.o;exact rfl;intro hg)
  refine OpOk.load rfl rfl (Go.E.Ld.rs hrs h1) ?_
  repeat first|exact zE|refine zP ?_|refine zB fun b=>?_|refine zC fun a' c' hc1 hc2=>?_|(apply GJ.a;exact rfl;intro hg)|(apply GJ.o;exact rfl;intro hg)
  exact Wk.id hk
theorem zFq {q:Nat}{d:DfaA}{w:Nat}{s:Int}{c:Nat} (hD:DAt ro q d) (ho:zAt w d) (hc:c<256) (hk:K (.int .i64 (zAb d s c)) ro own):CallOk Tryz.prog 30 #[ptr' q,.int .i64 s,.int .u8 (c:Int)] ro own K:=by
 obtain ⟨an,cn,aa,ca,hs,hd⟩:=hD.rd
 have hN:=hd.ldN
 have hrs:=hd.rs
 refine CallOk.intro (args:=[_,_,_]) (rs:=[_]) T_ok Tryz.func30 Tryz.call30 rfl rfl (by kernel_rfl) rfl rfl ?_
 by_cases h0:s<0
 ·unfold zAb at hk
  rw [if_pos (.inl h0)] at hk
  repeat first|exact zE|refine zP ?_|refine zB fun b=>?_|refine zC fun a' c' hc1 hc2=>?_|(apply GJ.a;exact rfl;intro hg)|(apply GJ.o;exact rfl;intro hg)
  exact Wk.id hk
 by_cases h1:(d.next.length:Int)≤s
 ·unfold zAb at hk
  rw [if_pos (.inr h1)] at hk
  repeat first|exact zE|refine zP ?_|refine zB fun b=>?_|refine zC fun a' c' hc1 hc2=>?_|(apply GJ.a;exact rfl;intro hg)|(apply GJ.o;exact rfl;intro hg)
  exact Wk.id hk
 obtain ⟨n,rfl⟩:∃ n:Nat,s=(n:Int):=⟨s.toNat,by omega⟩
 obtain ⟨k,row,p1,p2,p3,p4⟩:=zBb ho (s:=n) (by omega) hc
 obtain ⟨ar,cr,q1,q2⟩:=hd.rows n row p3
 have hC:=hd.ldC c k p1
 have hrl:=ho.row row (List.mem_of_getElem? p3)
 have hgr:(row.map (Value.int .i64))[k]?=some (.int .i64 (zAb d (n:Int) c)):=by rw [List.getElem?_map,p4];rfl
 repeat first|exact zE|refine zP ?_|refine zB fun b=>?_|refine zC fun a' c' hc1 hc2=>?_|(apply GJ.a;exact rfl;intro hg)|(apply GJ.o;exact rfl;intro hg)
 repeat (first|exact zE|refine wkU ?_|(show QOk _ _ _ _ _ _ _;refine QOk.build rfl rfl Nf.auto ?_)|(show GJ _ _ _ _ _ _ _;first|with_reducible refine GJ.neF ?_|with_reducible refine GJ.neT ?_)|(show Br _ _ _;with_reducible refine Br.ne ?_)|refine zB (fun b=>?_)|refine zC (fun a' c' hc1 hc2=>?_)|(apply GJ.a;exact rfl;intro hg)|(apply GJ.o;exact rfl;intro hg))
 refine QOk.load rfl rfl (Go.E.Ld.rs hrs (by rw [Int.toNat_natCast];exact q1)) ?_
 repeat (first|exact zE|refine wkU ?_|(show QOk _ _ _ _ _ _ _;refine QOk.build rfl rfl Nf.auto ?_)|(show GJ _ _ _ _ _ _ _;first|with_reducible refine GJ.neF ?_|with_reducible refine GJ.neT ?_)|(show Br _ _ _;with_reducible refine Br.ne ?_)|refine zB (fun b=>?_)|refine zC (fun a' c' hc1 hc2=>?_)|(apply GJ.a;exact rfl;intro hg)|(apply GJ.o;exact rfl;intro hg))
 refine QOk.load rfl rfl (hC.ldE (by simp)) ?_
 repeat (first|exact zE|refine wkU ?_|(show QOk _ _ _ _ _ _ _;refine QOk.build rfl rfl Nf.auto ?_)|(show GJ _ _ _ _ _ _ _;first|with_reducible refine GJ.neF ?_|with_reducible refine GJ.neT ?_)|(show Br _ _ _;with_reducible refine Br.ne ?_)|refine zB (fun b=>?_)|refine zC (fun a' c' hc1 hc2=>?_)|(apply GJ.a;exact rfl;intro hg)|(apply GJ.o;exact rfl;intro hg))
 repeat first|exact zE|refine zP ?_|refine zB fun b=>?_|refine zC fun a' c' hc1 hc2=>?_|(apply GJ.a;exact rfl;intro hg)|(apply GJ.o;exact rfl;intro hg)
 exact Wk.val hk (by rw [Int.toNat_natCast,List.getElem!_eq_getElem?_getD,p4];rfl)
theorem zCr {q:Nat}{d:DfaA}{s:Int} (hD:DAt ro q d) (hk:K (.bool (zAD d s)) ro own):CallOk Tryz.prog 28 #[ptr' q,.int .i64 s] ro own K:=by
 obtain ⟨an,cn,aa,ca,hs,hd⟩:=hD.rd
 have hA:=hd.ldA
 have hra:=hd.ra
 unfold zAD at hk
 refine CallOk.intro (args:=[_,_]) (rs:=[_]) T_ok Tryz.func28 Tryz.call28 rfl rfl (by kernel_rfl) rfl rfl ?_
 by_cases h0:s<0
 ·rw [decide_eq_false (by omega)] at hk
  repeat first|exact zE|refine zP ?_|refine zB fun b=>?_|refine zC fun a' c' hc1 hc2=>?_|(apply GJ.a;exact rfl;intro hg)|(apply GJ.o;exact rfl;intro hg)
  exact Wk.id hk
 by_cases h1:(d.acc.length:Int)≤s
 ·rw [decide_eq_false (p:=s<_) (by omega),Bool.and_false] at hk
  repeat first|exact zE|refine zP ?_|refine zB fun b=>?_|refine zC fun a' c' hc1 hc2=>?_|(apply GJ.a;exact rfl;intro hg)|(apply GJ.o;exact rfl;intro hg)
  exact Wk.id hk
 obtain ⟨n,rfl⟩:∃ n:Nat,s=(n:Int):=⟨s.toNat,by omega⟩
 obtain ⟨z,hz⟩:∃ z,d.acc[n]?=some z:=⟨_,List.getElem?_eq_getElem (by omega)⟩
 rw [decide_eq_true (by omega),decide_eq_true (by omega),Int.toNat_natCast,hz] at hk
 have hgz:(d.acc.map Value.bool)[n]?=some (.bool z):=by rw [List.getElem?_map,hz];rfl
 repeat first|exact zE|refine zP ?_|refine zB fun b=>?_|refine zC fun a' c' hc1 hc2=>?_|(apply GJ.a;exact rfl;intro hg)|(apply GJ.o;exact rfl;intro hg)
 exact Wk.val hk (by rw [Int.toNat_natCast,List.getElem!_eq_getElem?_getD,hz];rfl)
theorem zN7 {q w:Nat}{d:DfaA}{a:Option Addr}{n c:Nat}{tx:List UInt8} (hD:DAt ro q d) (ho:zAt w d) (hb:Rds ro own a n c 1 (tx.map u8)) (hn:tx.length=n) (hk:K (.bool (zBe d tx)) ro own):CallOk Tryz.prog 14 #[ptr' q,.slice a n c] ro own K:=by
 subst hn
 have hmx:=hb.max
 have hle:=hb.le
 unfold maxLen at hmx
 refine CallOk.intro (args:=[_,_]) (rs:=[_]) T_ok Tryz.func14 Tryz.call14 rfl rfl (by kernel_rfl) rfl rfl ?_
 repeat first|exact zE|refine zP ?_|refine zB fun b=>?_|refine zC fun a' c' hc1 hc2=>?_|(apply GJ.a;exact rfl;intro hg)|(apply GJ.o;exact rfl;intro hg)
 refine LoopOk.at (ι:=Nat) Keep.z (fun i=>[(10,.int .i64 (i:Int)),(5,.int .i64 (runA d (tx.take i)))]) (fun i=>own) (fun i=>i≤tx.length) (fun i=>tx.length-i) 0 ?_ Sub.z Sup.z ?_
 ·exact Nat.zero_le _
 rintro i i1
 dsimp only [List.cons_append,List.nil_append] at i1 ⊢
 by_cases hi:i<tx.length
 ·obtain ⟨z,hz⟩:∃ z,tx[i]?=some z:=⟨_,List.getElem?_eq_getElem hi⟩
  have hzb:tx[((i:Nat):Int).toNat]! = z:=by rw [Int.toNat_natCast,List.getElem!_eq_getElem?_getD,hz];rfl
  have htk:tx.take (i+1)=tx.take i++[z]:=by rw [List.take_add_one,hz];rfl
  have hr:zAb d (runA d (tx.take i)) z.toNat=runA d (tx.take (i+1)):=by rw [htk];unfold runA;rw [List.foldl_append];rfl
  generalize runA d (tx.take i)=s at *
  generalize hs2:runA d (tx.take (i+1))=s2 at *
  repeat first|exact zE|refine zP ?_|refine zB fun b=>?_|refine zC fun a' c' hc1 hc2=>?_|(apply GJ.a;exact rfl;intro hg)|(apply GJ.o;exact rfl;intro hg)
  rw [hzb]
  refine zFq (c:=z.toNat) hD ho (UInt8.toNat_lt z) ?_
  rw [hr]
  repeat first|exact zE|refine zP ?_|refine zB fun b=>?_|refine zC fun a' c' hc1 hc2=>?_|(apply GJ.a;exact rfl;intro hg)|(apply GJ.o;exact rfl;intro hg)
  subst hs2
  refine Wk.id ⟨i+1,⟨rfl,?_⟩,?_,Sub.z,Sup.z⟩
  all_goals try dsimp only
  ·omega
  ·omega
 ·obtain rfl:i=tx.length:=by omega
  rw [List.take_length] at *
  repeat first|exact zE|refine zP ?_|refine zB fun b=>?_|refine zC fun a' c' hc1 hc2=>?_|(apply GJ.a;exact rfl;intro hg)|(apply GJ.o;exact rfl;intro hg)
  refine zCr hD ?_
  repeat first|exact zE|refine zP ?_|refine zB fun b=>?_|refine zC fun a' c' hc1 hc2=>?_|(apply GJ.a;exact rfl;intro hg)|(apply GJ.o;exact rfl;intro hg)
  exact Wk.id hk
end
end Go.Proofs.YtmaennnkaoollaaGreatDoor
end
