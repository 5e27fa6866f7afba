/- Texts of a walk, one behind the other. -/
import Derived.Test.YtnapjcnfgdkmcaaGreatDoorMg3
import Derived.Test.YtnapjcnfgdkmcaaGreatDoorMg7
set_option linter.unusedVariables false
set_option linter.unusedSimpArgs false
set_option linter.unusedSectionVars false
set_option maxRecDepth 10000
section
namespace Go.E
open Go
instance HasObj.app (G l:Chs) (b:Nat) (o:Obj) (f:Chunk→Chs) [h:HasObj l b o f]:HasObj (G++l) b o (fun x=>G++f x):=⟨fun x=>(h.repl x).app G⟩
end Go.E
namespace Go.Proofs.YtnapjcnfgdkmcaaGreatDoor
open Go Go.E
theorem zBZ:∀ (l:List UInt8) (i k:Nat),k≤l.length→zBp i l=(zBp i (l.take k)&&zBp (i+k) (l.drop k))
 | l,i,0,_=>by simp [zBp]
 | [],i,k+1,h=>by simp at h
 | c::l,i,k+1,h=>by
   rw [List.take_succ_cons,List.drop_succ_cons,zBp,zBp,zBZ l (i+1) k (by simpa using h),Bool.and_assoc,show i+1+k=i+(k+1) by omega]
section
variable {ro:Ro}{own:Chs}{K:Value→Ro→Chs→Prop}
theorem zDw {t:List UInt8} (hM:MaxOk ro) (ht:t.length≤4611686018427387904) (hk:∀ ro',Le ro ro'→K (.bool (zAY t)) ro' own):CallOk Tryz.prog 68 #[str t] ro own K:=by
 refine CallOk.intro (args:=[_]) (rs:=[_]) T_ok Tryz.func68 Tryz.call68 rfl rfl (by kernel_rfl) rfl rfl ?_
 repeat first|exact zE|refine zP ?_|refine zB fun b=>?_|refine zC fun a' c' hc1 hc2=>?_|(apply GJ.a;exact rfl;intro hg)|(apply GJ.o;exact rfl;intro hg)
 refine OpOk.bytesOf rfl Tryz.underlying9 Tryz.underlying88 Tryz.underlying5 (by unfold maxLen;omega) (fun ro1 b c hl1 hr=>?_)
 have hk1:=hk ro1 hl1
 have hM1:=hM.le hl1
 unfold zAY at hk1
 repeat first|exact zE|refine zP ?_|refine zB fun b=>?_|refine zC fun a' c' hc1 hc2=>?_|(apply GJ.a;exact rfl;intro hg)|(apply GJ.o;exact rfl;intro hg)
 refine LoopOk.at (ι:=Nat) Keep.z (fun i=>[(9,.int .i64 (i:Int))]) (fun i=>own) (fun i=>i≤t.length∧zBp 0 (t.take i)=true) (fun i=>t.length-i) 0 ?_ Sub.z Sup.z ?_
 ·exact ⟨Nat.zero_le _,by simp [zBp]⟩
 rintro i ⟨i1,i2⟩
 dsimp only [List.cons_append,List.nil_append] at i1 i2 ⊢
 by_cases hi:i<t.length
 ·obtain ⟨y,hy⟩:∃ y,t[i]?=some y:=⟨_,List.getElem?_eq_getElem hi⟩
  have hyb:t[((i:Nat):Int).toNat]! = y:=by rw [Int.toNat_natCast,List.getElem!_eq_getElem?_getD,hy];rfl
  have htk:t.take (i+1)=t.take i++[y]:=by rw [List.take_add_one,hy];rfl
  have hdr:t.drop i=y::t.drop (i+1):=by rw [List.drop_eq_getElem_cons hi];congr 1;exact Option.some.inj ((List.getElem?_eq_getElem hi).symm.trans hy)
  have hlen:(t.take i).length=i:=by rw [List.length_take];omega
  have hs1:zBp 0 (t.take (i+1))=decide (zEO i y.toNat):=by
   rw [htk,zBZ (t.take i++[y]) 0 i (by rw [List.length_append,hlen];omega),List.take_left' hlen,List.drop_left' hlen,i2,Bool.true_and,Nat.zero_add,zBp,zBp,Bool.and_true]
  have hs2:zBp 0 t=(decide (zEO i y.toNat)&&zBp (i+1) (t.drop (i+1))):=by
   rw [zBZ t 0 i i1,i2,Bool.true_and,Nat.zero_add,hdr,zBp]
  repeat first|exact zE|refine zP ?_|refine zB fun b=>?_|refine zC fun a' c' hc1 hc2=>?_|(apply GJ.a;exact rfl;intro hg)|(apply GJ.o;exact rfl;intro hg)
  rw [hyb]
  by_cases hok:zEO i y.toNat
  ·rw [decide_eq_true hok] at hs1
   unfold zEO at hok
   refine Br.f (by omega) ?_
   repeat first|exact zE|refine zP ?_|refine zB fun b=>?_|refine zC fun a' c' hc1 hc2=>?_|(apply GJ.a;exact rfl;intro hg)|(apply GJ.o;exact rfl;intro hg)
   refine Wk.id ⟨i+1,⟨rfl,?_⟩,?_,Sub.z,Sup.z⟩
   all_goals try dsimp only
   ·exact ⟨by omega,hs1⟩
   ·omega
  ·rw [decide_eq_false hok,Bool.false_and] at hs2
   rw [hs2,Bool.false_and] at hk1
   unfold zEO at hok
   refine Br.t (by omega) ?_
   repeat first|exact zE|refine zP ?_|refine zB fun b=>?_|refine zC fun a' c' hc1 hc2=>?_|(apply GJ.a;exact rfl;intro hg)|(apply GJ.o;exact rfl;intro hg)
   exact Wk.outS Sup.z (.refl _) hk1
 ·obtain rfl:i=t.length:=by omega
  rw [List.take_length] at i2
  rw [i2,Bool.true_and] at hk1
  by_cases h0:t=[]
  ·subst h0
   repeat first|exact zE|refine zP ?_|refine zB fun b=>?_|refine zC fun a' c' hc1 hc2=>?_|(apply GJ.a;exact rfl;intro hg)|(apply GJ.o;exact rfl;intro hg)
   exact Wk.outS Sup.z (.refl _) hk1
  by_cases h24:t.length≤24
  ·rw [decide_eq_true h0,decide_eq_true h24,Bool.true_and,Bool.true_and] at hk1
   repeat first|exact zE|refine zP ?_|refine zB fun b=>?_|refine zC fun a' c' hc1 hc2=>?_|(apply GJ.a;exact rfl;intro hg)|(apply GJ.o;exact rfl;intro hg)
   refine zEn hM1 (by omega) ?_
   repeat first|exact zE|refine zP ?_|refine zB fun b=>?_|refine zC fun a' c' hc1 hc2=>?_|(apply GJ.a;exact rfl;intro hg)|(apply GJ.o;exact rfl;intro hg)
   exact Wk.outS Sup.z (.refl _) hk1
  ·rw [decide_eq_true h0,decide_eq_false h24,Bool.and_false,Bool.false_and] at hk1
   repeat first|exact zE|refine zP ?_|refine zB fun b=>?_|refine zC fun a' c' hc1 hc2=>?_|(apply GJ.a;exact rfl;intro hg)|(apply GJ.o;exact rfl;intro hg)
   exact Wk.outS Sup.z (.refl _) hk1
theorem Rds.clip {ro:Ro}{own:Chs}{a:Option Addr}{n c s:Nat}{cs:List Value} (hr:Rds ro own a n c s cs):Rds ro own a n n s cs :=
 ⟨fun h hs=>by
  rcases hr.run h hs with ⟨h1,h2,a',c',h3,_⟩|⟨h1,b,o,cap,h3,h4,h5,h6⟩
  ·exact .inl ⟨h1,h2,a,n,by rw [h1],by rw [h1];exact Nat.zero_le _⟩
  ·cases h3
   exact .inr ⟨h1,b,o,n,rfl,Nat.le_refl _,Nat.le_trans h4 h5,h6⟩,hr.len,Nat.le_refl _,Nat.le_trans hr.le hr.max⟩
theorem zBr {ds:List zAh}{xs:List zA5}{i o:Nat}{d:zAh}{x:zA5} (hd:ds[i]?=some d) (hx:xs[i]?=some x) (ho:o<18):(zA4 ds xs)[i*18+o]?=(zAl d x)[o]?:=by
 have h:=zAj ds xs i d x hd hx
 rw [←h,List.getElem?_take_of_lt ho,List.getElem?_drop]
theorem zBO {ds:List zAh}{xs:List zA5}{i:Nat}{d:zAh}{x:zA5} (hd:ds[i]?=some d) (hx:xs[i]?=some x):(zA4 ds xs)[i*18+13]?=some (.slice x.fa d.fields.length x.fc):=by
 have:=congrArg (·[13]?) (zAj ds xs i d x hd hx)
 simpa [zAl,List.getElem?_take,List.getElem?_drop] using this
def nmC (cs:List (List UInt8)):Option (Option Addr × Nat)→Chs
 | none=>[]
 | some (oa,oc)=>[.sl oa cs.length oc 9 1 (cs.map str)]
def nmV (na:Option Addr) (ns cs:List (List UInt8)):Option (Option Addr × Nat)→Value
 | none=>.slice na ns.length ns.length
 | some (oa,oc)=>.slice oa cs.length oc
def flV (f:Int × Int):Value:=.agg #[.int .i64 f.1,.int .i64 f.2]
structure TextIn (s:zAd):Prop where
 names:∀ d∈s.nodes,∀ f∈d.fields,f.name.length≤4611686018427387904
 texts:∀ d∈s.nodes,d.text.length≤4611686018427387904
 defs:∀ d∈s.defs,d.name.length≤4611686018427387904
structure KeysOk (kn:List (List UInt8)) (M:List (List UInt8 × Int × Nat)):Prop where
 map:MapOk (fun l:List UInt8=>l.length≤maxLen) M
 is:∀ x,(getG M x).isSome=decide (x∈kn)
def KindC (s:zAd) (a:zAp) (ro:Ro) (p bm:Nat) (M:List (List UInt8 × Int × Nat)) (cM:Nat) (R:Chs) (kn:List (List UInt8)) (n:Nat):Prop :=
 ∀ (i:Nat),i<n→i<s.nodes.length→∀ (ns:List (List UInt8)) (na:Option Addr) (nc:Nat) (ro':Ro) (G:Chs) (K:Value→Ro→Chs→Prop),Le ro ro' →
  Rds ro' (G++.blk p 127 (zAf s a++[.map (some bm)])::.obj bm (mapG str (Value.int .i64) M cM)::R) na ns.length nc 1 (ns.map str)→ns.length+65*i≤200000 →
  (∀ ro2,Le ro' ro2→K (flV (zAT s kn n i ns)) ro2 (G++.blk p 127 (zAf s a++[.map (some bm)])::.obj bm (mapG str (Value.int .i64) M cM)::R)) →
  CallOk Tryz.prog 69 #[ptr' p,.int .i64 (i:Int),.slice na ns.length nc] ro' (G++.blk p 127 (zAf s a++[.map (some bm)])::.obj bm (mapG str (Value.int .i64) M cM)::R) K
variable {s:zAd}{a:zAp}{p bm:Nat}{M:List (List UInt8 × Int × Nat)}{cM:Nat}{R:Chs}{kn:List (List UInt8)}
set_option maxHeartbeats 4000000 in
theorem zG9 (ho:SpecOk ro s a) (hv:Ahead s) (hM:MaxOk ro) (hT:TextIn s) {n:Nat} (ih:KindC s a ro p bm M cM R kn n) {i:Nat}{d:zAh} (hin:i<n+1) (hd:s.nodes[i]?=some d) (h5:d.kind=5) {ns:List (List UInt8)}{na:Option Addr}{nc:Nat}{ro':Ro}{G:Chs} (hle:Le ro ro')
  (hns:Rds ro' (G++.blk p 127 (zAf s a++[.map (some bm)])::.obj bm (mapG str (Value.int .i64) M cM)::R) na ns.length nc 1 (ns.map str)) (hb:ns.length+65*i≤200000)
  (hk:∀ ro2,Le ro' ro2→K (flV (recS (zAT s kn n) (i:Int) d.fields ns)) ro2 (G++.blk p 127 (zAf s a++[.map (some bm)])::.obj bm (mapG str (Value.int .i64) M cM)::R)) :
  CallOk Tryz.prog 93 #[ptr' p,.int .i64 (i:Int),.slice na ns.length nc] ro' (G++.blk p 127 (zAf s a++[.map (some bm)])::.obj bm (mapG str (Value.int .i64) M cM)::R) K:=by
 have hi:=(List.getElem?_eq_some_iff.1 hd).1
 have hL:Leq ro ro':=⟨hle.1⟩
 have hr1:Rs ro' a.na s.nodes.length a.nc 18 (zA4 s.nodes a.xs):=ho.nodes.up
 have hm:=hr1.max
 unfold maxLen at hm
 obtain ⟨x,hx⟩:∃ x,a.xs[i]?=some x:=⟨_,List.getElem?_eq_getElem (by rw [ho.len];exact hi)⟩
 have hn1:=(ho.each i d x hd hx).le hle
 have hfr:=hn1.fields
 have hdr1:=zAj _ _ _ _ _ hd hx
 obtain ⟨hf,hks⟩:=hv i d hd
 have hsm:=zAI hf
 have hnl:=hns.len
 have hnc:=hns.le
 have hnm:=hns.max
 unfold maxLen at hnm
 refine CallOk.intro (args:=[_,_,_]) (rs:=[_]) T_ok Tryz.func93 Tryz.call93 rfl rfl (by kernel_rfl) rfl rfl ?_
 repeat first|exact zE|refine zP ?_|refine zB fun b=>?_|refine zC fun a' c' hc1 hc2=>?_|(apply GJ.a;exact rfl;intro hg)|(apply GJ.o;exact rfl;intro hg)
 rw [Int.toNat_natCast,Nat.add_assoc]
 refine OpOk.load rfl rfl (Ld.rs hr1 (zBO hd hx)) ?_
 have hns2:=Rds.clip hns
 have hfm:=hfr.max
 have hfl:=hfr.le
 unfold maxLen at hfm
 repeat first|exact zE|refine zP ?_|refine zB fun b=>?_|refine zC fun a' c' hc1 hc2=>?_|(apply GJ.a;exact rfl;intro hg)|(apply GJ.o;exact rfl;intro hg)
 refine LoopOk.auto (ι:=Nat × List (List UInt8) × Option (Option Addr × Nat)) Keep.z (fun (j,cs,w)=>[(29,.int .i64 (j:Int)),(7,nmV na ns cs w)]) (fun (j,cs,w)=>nmC cs w++.blk b 58 [.int .i64 0,.int .i64 0]::(G++.blk p 127 (zAf s a++[.map (some bm)])::.obj bm (mapG str (Value.int .i64) M cM)::R)) (fun (j,cs,w) r'=>j≤d.fields.length∧(w=none→j=0∧cs=ns)∧(∀ q,w=some q→cs.length≤q.2∧q.2≤maxLen)∧cs.length=ns.length+j∧recS (zAT s kn n) (i:Int) d.fields ns=recS (zAT s kn n) (i:Int) (d.fields.drop j) cs) (fun (j,cs,w)=>d.fields.length-j) (0,ns,none) ?_ Sub.z Sup.z ?_
 ·exact ⟨Nat.zero_le _,fun _=>⟨rfl,rfl⟩,(fun q h=>by cases h),rfl,rfl⟩
 rintro ⟨j,cs,w⟩ ro2 hl2 ⟨i1,i2,i3,i4,i5⟩
 dsimp only [List.cons_append,List.nil_append] at i1 i2 i3 i4 i5 ⊢
 have hL2:Leq ro' ro2:=⟨hl2.1⟩
 have hM2:=(hM.le hle).le hl2
 have hfr2:Rs ro2 x.fa d.fields.length x.fc 5 (zA0 d.fields):=hfr.up
 cases w with
 | none =>
   obtain ⟨hj0,rfl⟩:=i2 rfl
   have hnames:Rds ro2 (.blk b 58 [.int .i64 0,.int .i64 0]::(G++.blk p 127 (zAf s a++[.map (some bm)])::.obj bm (mapG str (Value.int .i64) M cM)::R)) na cs.length cs.length 1 (cs.map str):=hns2.up
   dsimp only [nmC,nmV,List.nil_append]
   by_cases hj:j<d.fields.length
   ·obtain ⟨f,hfj⟩:∃ f,d.fields[j]?=some f:=⟨_,List.getElem?_eq_getElem hj⟩
    have hfe:d.fields[j]=f:=Option.some.inj ((List.getElem?_eq_getElem hj).symm.trans hfj)
    have hfd:=zAn d.fields hj
    rw [hfe] at hfd
    have hdj:d.fields.drop j=f::d.fields.drop (j+1):=by rw [List.drop_eq_getElem_cons hj,hfe]
    rw [hdj,recS] at i5
    have hfm':=List.mem_of_getElem? hfj
    have hfn:=hT.names d (List.mem_of_getElem? hd) f hfm'
    have hty:f.type∈zAc d:=by rw [zAz hf h5];exact List.mem_map.2 ⟨f,hfm',rfl⟩
    obtain ⟨q1,q2⟩:=hks _ hty
    obtain ⟨k,hk0⟩:=Int.eq_ofNat_of_zero_le q1
    clear hfe hfj hdj hty hfm'
    repeat first|exact zE|refine zP ?_|refine zB fun b=>?_|refine zC fun a' c' hc1 hc2=>?_|(apply GJ.a;exact rfl;intro hg)|(apply GJ.o;exact rfl;intro hg)
    rw [Int.toNat_natCast]
    refine OpOk.loadRow rfl rfl (LdN.at hfr2 hfd) rfl ?_
    repeat first|exact zE|refine zP ?_|refine zB fun b=>?_|refine zC fun a' c' hc1 hc2=>?_|(apply GJ.a;exact rfl;intro hg)|(apply GJ.o;exact rfl;intro hg)
    rename_i b9x
    obtain ⟨bF,hbF⟩:∃ z:Nat,z=b:=⟨_,rfl⟩
    subst hbF
    refine zDw hM2 hfn (fun ro3 hl3=>?_)
    have hL3:Leq ro2 ro3:=⟨hl3.1⟩
    by_cases hp:zAY f.name=false
    ·rw [if_pos hp] at i5
     have hk2:=hk ro3 (hl2.trans hl3)
     rw [i5] at hk2
     rw [hp]
     dsimp only [flV] at hk2
     repeat first|exact zE|refine zP ?_|refine zB fun b=>?_|refine zC fun a' c' hc1 hc2=>?_|(apply GJ.a;exact rfl;intro hg)|(apply GJ.o;exact rfl;intro hg)
     exact Wk.outS Sup.z (.refl _) hk2
    rw [if_neg hp] at i5
    have hp1:zAY f.name=true:=by simpa using hp
    rw [hp1]
    have hcm:(cs.map str).length=cs.length:=List.length_map ..
    repeat first|exact zE|refine zP ?_|refine zB fun b=>?_|refine zC fun a' c' hc1 hc2=>?_|(apply GJ.a;exact rfl;intro hg)|(apply GJ.o;exact rfl;intro hg)
    refine LoopOk.at (ι:=Nat) Keep.z (fun e=>[(41,.int .i64 (e:Int))]) (fun e=>.blk bF 47 (zA1 f)::.blk b9x 58 [.int .i64 0,.int .i64 0]::(G++.blk p 127 (zAf s a++[.map (some bm)])::.obj bm (mapG str (Value.int .i64) M cM)::R)) (fun e=>e≤cs.length∧f.name∉cs.take e) (fun e=>cs.length-e) 0 ?_ Sub.z Sup.z ?_
    ·exact ⟨Nat.zero_le _,by simp⟩
    rintro e ⟨m1,m2⟩
    dsimp only [List.cons_append,List.nil_append] at m1 m2 ⊢
    by_cases he:e<cs.length
    ·obtain ⟨y,hy⟩:∃ y,cs[e]?=some y:=⟨_,List.getElem?_eq_getElem he⟩
     have hyb:cs[((e:Nat):Int).toNat]! = y:=by rw [Int.toNat_natCast,List.getElem!_eq_getElem?_getD,hy];rfl
     have htk:cs.take (e+1)=cs.take e++[y]:=by rw [List.take_add_one,hy];rfl
     repeat first|exact zE|refine zP ?_|refine zB fun b=>?_|refine zC fun a' c' hc1 hc2=>?_|(apply GJ.a;exact rfl;intro hg)|(apply GJ.o;exact rfl;intro hg)
     rw [hyb]
     by_cases hyf:y=f.name
     ·have hmem:f.name∈cs:=hyf▸List.mem_of_getElem? hy
      rw [if_pos hmem] at i5
      have hk2:=hk ro3 (hl2.trans hl3)
      rw [i5] at hk2
      dsimp only [flV] at hk2
      refine Br.t hyf ?_
      repeat first|exact zE|refine zP ?_|refine zB fun b=>?_|refine zC fun a' c' hc1 hc2=>?_|(apply GJ.a;exact rfl;intro hg)|(apply GJ.o;exact rfl;intro hg)
      exact Wk.outS Sup.z (.refl _) hk2
     ·refine Br.f hyf ?_
      repeat first|exact zE|refine zP ?_|refine zB fun b=>?_|refine zC fun a' c' hc1 hc2=>?_|(apply GJ.a;exact rfl;intro hg)|(apply GJ.o;exact rfl;intro hg)
      refine Wk.id ⟨e+1,⟨rfl,?_⟩,?_,Sub.z,Sup.z⟩
      all_goals try dsimp only
      ·refine ⟨by omega,?_⟩
       rw [htk,List.mem_append,List.mem_singleton]
       exact fun h=>h.elim m2 (fun h=>hyf h.symm)
      ·omega
    ·obtain rfl:e=cs.length:=by omega
     rw [List.take_length] at m2
     rw [if_neg m2] at i5
     repeat first|exact zE|refine zP ?_|refine zB fun b=>?_|refine zC fun a' c' hc1 hc2=>?_|(apply GJ.a;exact rfl;intro hg)|(apply GJ.o;exact rfl;intro hg)
     rw [hk0] at i5 ⊢
     have hRD:Rds ro3 (.blk bF 47 (zA1 f)::.blk b9x 58 [.int .i64 0,.int .i64 0]::(G++.blk p 127 (zAf s a++[.map (some bm)])::.obj bm (mapG str (Value.int .i64) M cM)::R)) na cs.length cs.length 1 (cs.map str):=(by exact hns2.up)
     refine ih k (by omega) (by omega) cs na cs.length ro3 (.blk bF 47 (zA1 f)::.blk b9x 58 [.int .i64 0,.int .i64 0]::G) _ ((hle.trans hl2).trans hl3) hRD (by omega) (fun ro4 hl4=>?_)
     have hk4:=fun r5 h5=>hk r5 (((hl2.trans hl3).trans hl4).trans h5)
     dsimp only [List.cons_append,flV]
     generalize zAT s kn n (k:Int) cs=z at *
     obtain ⟨z1,z2⟩:=z
     dsimp only at i5 ⊢
     repeat first|exact zE|refine zP ?_|refine zB fun b=>?_|refine zC fun a' c' hc1 hc2=>?_|(apply GJ.a;exact rfl;intro hg)|(apply GJ.o;exact rfl;intro hg)
     by_cases hz:z1≠0
     ·rw [if_pos hz] at i5
      have hk2:=hk4 ro4 (Le.refl _)
      rw [i5] at hk2
      dsimp only [flV] at hk2
      refine Br.t hz ?_
      repeat first|exact zE|refine zP ?_|refine zB fun b=>?_|refine zC fun a' c' hc1 hc2=>?_|(apply GJ.a;exact rfl;intro hg)|(apply GJ.o;exact rfl;intro hg)
      exact Wk.outS Sup.z (.refl _) hk2
     ·rw [if_neg hz] at i5
      have hL4:Leq ro3 ro4:=⟨hl4.1⟩
      have hcl:cs.map str++[str f.name]=(cs++[f.name]).map str:=by simp
      have hnl:cs.length+1=(cs++[f.name]).length:=by simp
      refine Br.f hz ?_
      repeat first|exact zE|refine zP ?_|refine zB fun b=>?_|refine zC fun a' c' hc1 hc2=>?_|(apply GJ.a;exact rfl;intro hg)|(apply GJ.o;exact rfl;intro hg)
      refine OpOk.appendFull rfl rfl rfl rfl rfl (by exact hns2.up) (Rds.hasSl (by decide) (by decide) rfl) (by intro u hu;simp at hu;subst hu;rfl) (by decide) (by omega) (fun a' c' hc1 hc2=>?_)
      repeat first|exact zE|refine zP ?_|refine zB fun b=>?_|refine zC fun a' c' hc1 hc2=>?_|(apply GJ.a;exact rfl;intro hg)|(apply GJ.o;exact rfl;intro hg)
      rw [hcl]
      rw [hnl] at hc1 ⊢
      refine Wk.id ⟨(j+1,cs++[f.name],some (a',c')),?_,?_,Sub.z,Sup.z⟩
      all_goals try dsimp only
      ·exact ⟨by omega,(fun h=>by cases h),(fun q hq=>by cases hq;exact ⟨hc1,hc2⟩),by rw [←hnl];omega,i5⟩
      ·omega
   ·rw [List.drop_eq_nil_of_le (by omega),recS] at i5
    have hk2:=hk ro2 hl2
    rw [i5] at hk2
    dsimp only [flV] at hk2
    repeat first|exact zE|refine zP ?_|refine zB fun b=>?_|refine zC fun a' c' hc1 hc2=>?_|(apply GJ.a;exact rfl;intro hg)|(apply GJ.o;exact rfl;intro hg)
    exact Wk.outS Sup.z (.refl _) hk2
 | some q =>
   obtain ⟨oa,oc⟩:=q
   obtain ⟨i6,i7⟩:=i3 _ rfl
   dsimp only at i6 i7
   have i8:=i7
   unfold maxLen at i8
   dsimp only [nmC,nmV,List.nil_append,List.cons_append]
   by_cases hj:j<d.fields.length
   ·obtain ⟨f,hfj⟩:∃ f,d.fields[j]?=some f:=⟨_,List.getElem?_eq_getElem hj⟩
    have hfe:d.fields[j]=f:=Option.some.inj ((List.getElem?_eq_getElem hj).symm.trans hfj)
    have hfd:=zAn d.fields hj
    rw [hfe] at hfd
    have hdj:d.fields.drop j=f::d.fields.drop (j+1):=by rw [List.drop_eq_getElem_cons hj,hfe]
    rw [hdj,recS] at i5
    have hfm':=List.mem_of_getElem? hfj
    have hfn:=hT.names d (List.mem_of_getElem? hd) f hfm'
    have hty:f.type∈zAc d:=by rw [zAz hf h5];exact List.mem_map.2 ⟨f,hfm',rfl⟩
    obtain ⟨q1,q2⟩:=hks _ hty
    obtain ⟨k,hk0⟩:=Int.eq_ofNat_of_zero_le q1
    clear hfe hfj hdj hty hfm'
    repeat first|exact zE|refine zP ?_|refine zB fun b=>?_|refine zC fun a' c' hc1 hc2=>?_|(apply GJ.a;exact rfl;intro hg)|(apply GJ.o;exact rfl;intro hg)
    rw [Int.toNat_natCast]
    refine OpOk.loadRow rfl rfl (LdN.at hfr2 hfd) rfl ?_
    repeat first|exact zE|refine zP ?_|refine zB fun b=>?_|refine zC fun a' c' hc1 hc2=>?_|(apply GJ.a;exact rfl;intro hg)|(apply GJ.o;exact rfl;intro hg)
    rename_i b9x
    obtain ⟨bF,hbF⟩:∃ z:Nat,z=b:=⟨_,rfl⟩
    subst hbF
    refine zDw hM2 hfn (fun ro3 hl3=>?_)
    have hL3:Leq ro2 ro3:=⟨hl3.1⟩
    by_cases hp:zAY f.name=false
    ·rw [if_pos hp] at i5
     have hk2:=hk ro3 (hl2.trans hl3)
     rw [i5] at hk2
     rw [hp]
     dsimp only [flV] at hk2
     repeat first|exact zE|refine zP ?_|refine zB fun b=>?_|refine zC fun a' c' hc1 hc2=>?_|(apply GJ.a;exact rfl;intro hg)|(apply GJ.o;exact rfl;intro hg)
     exact Wk.outS Sup.z (.refl _) hk2
    rw [if_neg hp] at i5
    have hp1:zAY f.name=true:=by simpa using hp
    rw [hp1]
    have hcm:(cs.map str).length=cs.length:=List.length_map ..
    repeat first|exact zE|refine zP ?_|refine zB fun b=>?_|refine zC fun a' c' hc1 hc2=>?_|(apply GJ.a;exact rfl;intro hg)|(apply GJ.o;exact rfl;intro hg)
    refine LoopOk.at (ι:=Nat) Keep.z (fun e=>[(41,.int .i64 (e:Int))]) (fun e=>.blk bF 47 (zA1 f)::.sl oa cs.length oc 9 1 (cs.map str)::.blk b9x 58 [.int .i64 0,.int .i64 0]::(G++.blk p 127 (zAf s a++[.map (some bm)])::.obj bm (mapG str (Value.int .i64) M cM)::R)) (fun e=>e≤cs.length∧f.name∉cs.take e) (fun e=>cs.length-e) 0 ?_ Sub.z Sup.z ?_
    ·exact ⟨Nat.zero_le _,by simp⟩
    rintro e ⟨m1,m2⟩
    dsimp only [List.cons_append,List.nil_append] at m1 m2 ⊢
    by_cases he:e<cs.length
    ·obtain ⟨y,hy⟩:∃ y,cs[e]?=some y:=⟨_,List.getElem?_eq_getElem he⟩
     have hyb:cs[((e:Nat):Int).toNat]! = y:=by rw [Int.toNat_natCast,List.getElem!_eq_getElem?_getD,hy];rfl
     have htk:cs.take (e+1)=cs.take e++[y]:=by rw [List.take_add_one,hy];rfl
     repeat first|exact zE|refine zP ?_|refine zB fun b=>?_|refine zC fun a' c' hc1 hc2=>?_|(apply GJ.a;exact rfl;intro hg)|(apply GJ.o;exact rfl;intro hg)
     rw [hyb]
     by_cases hyf:y=f.name
     ·have hmem:f.name∈cs:=hyf▸List.mem_of_getElem? hy
      rw [if_pos hmem] at i5
      have hk2:=hk ro3 (hl2.trans hl3)
      rw [i5] at hk2
      dsimp only [flV] at hk2
      refine Br.t hyf ?_
      repeat first|exact zE|refine zP ?_|refine zB fun b=>?_|refine zC fun a' c' hc1 hc2=>?_|(apply GJ.a;exact rfl;intro hg)|(apply GJ.o;exact rfl;intro hg)
      exact Wk.outS Sup.z (.refl _) hk2
     ·refine Br.f hyf ?_
      repeat first|exact zE|refine zP ?_|refine zB fun b=>?_|refine zC fun a' c' hc1 hc2=>?_|(apply GJ.a;exact rfl;intro hg)|(apply GJ.o;exact rfl;intro hg)
      refine Wk.id ⟨e+1,⟨rfl,?_⟩,?_,Sub.z,Sup.z⟩
      all_goals try dsimp only
      ·refine ⟨by omega,?_⟩
       rw [htk,List.mem_append,List.mem_singleton]
       exact fun h=>h.elim m2 (fun h=>hyf h.symm)
      ·omega
    ·obtain rfl:e=cs.length:=by omega
     rw [List.take_length] at m2
     rw [if_neg m2] at i5
     repeat first|exact zE|refine zP ?_|refine zB fun b=>?_|refine zC fun a' c' hc1 hc2=>?_|(apply GJ.a;exact rfl;intro hg)|(apply GJ.o;exact rfl;intro hg)
     rw [hk0] at i5 ⊢
     have hRD:Rds ro3 (.blk bF 47 (zA1 f)::.sl oa cs.length oc 9 1 (cs.map str)::.blk b9x 58 [.int .i64 0,.int .i64 0]::(G++.blk p 127 (zAf s a++[.map (some bm)])::.obj bm (mapG str (Value.int .i64) M cM)::R)) oa cs.length oc 1 (cs.map str):=Rds.auto
     refine ih k (by omega) (by omega) cs oa oc ro3 (.blk bF 47 (zA1 f)::.sl oa cs.length oc 9 1 (cs.map str)::.blk b9x 58 [.int .i64 0,.int .i64 0]::G) _ ((hle.trans hl2).trans hl3) hRD (by omega) (fun ro4 hl4=>?_)
     have hk4:=fun r5 h5=>hk r5 (((hl2.trans hl3).trans hl4).trans h5)
     dsimp only [List.cons_append,flV]
     generalize zAT s kn n (k:Int) cs=z at *
     obtain ⟨z1,z2⟩:=z
     dsimp only at i5 ⊢
     repeat first|exact zE|refine zP ?_|refine zB fun b=>?_|refine zC fun a' c' hc1 hc2=>?_|(apply GJ.a;exact rfl;intro hg)|(apply GJ.o;exact rfl;intro hg)
     by_cases hz:z1≠0
     ·rw [if_pos hz] at i5
      have hk2:=hk4 ro4 (Le.refl _)
      rw [i5] at hk2
      dsimp only [flV] at hk2
      refine Br.t hz ?_
      repeat first|exact zE|refine zP ?_|refine zB fun b=>?_|refine zC fun a' c' hc1 hc2=>?_|(apply GJ.a;exact rfl;intro hg)|(apply GJ.o;exact rfl;intro hg)
      exact Wk.outS Sup.z (.refl _) hk2
     ·rw [if_neg hz] at i5
      have hL4:Leq ro3 ro4:=⟨hl4.1⟩
      have hcl:cs.map str++[str f.name]=(cs++[f.name]).map str:=by simp
      have hnl:cs.length+1=(cs++[f.name]).length:=by simp
      refine Br.f hz ?_
      repeat first|exact zE|refine zP ?_|refine zB fun b=>?_|refine zC fun a' c' hc1 hc2=>?_|(apply GJ.a;exact rfl;intro hg)|(apply GJ.o;exact rfl;intro hg)
      rw [hcl]
      rw [hnl] at hc1 ⊢
      refine Wk.id ⟨(j+1,cs++[f.name],some (a',c')),?_,?_,Sub.z,Sup.z⟩
      all_goals try dsimp only
      ·exact ⟨by omega,(fun h=>by cases h),(fun q hq=>by cases hq;exact ⟨hc1,hc2⟩),by rw [←hnl];omega,i5⟩
      ·omega
   ·rw [List.drop_eq_nil_of_le (by omega),recS] at i5
    have hk2:=hk ro2 hl2
    rw [i5] at hk2
    dsimp only [flV] at hk2
    repeat first|exact zE|refine zP ?_|refine zB fun b=>?_|refine zC fun a' c' hc1 hc2=>?_|(apply GJ.a;exact rfl;intro hg)|(apply GJ.o;exact rfl;intro hg)
    exact Wk.outS Sup.z (.refl _) hk2
set_option maxHeartbeats 8000000 in
theorem lkind_ok (ho:SpecOk ro s a) (hv:Ahead s) (hM:MaxOk ro) (hT:TextIn s) (hK:KeysOk kn M):∀ n,KindC s a ro p bm M cM R kn n:=by
 intro n
 induction n with
 | zero=>intro i h;omega
 | succ n ih =>
   intro i hin hi ns na nc ro' G K hle hns hb hk
   obtain ⟨d,hd⟩:∃ d,s.nodes[i]?=some d:=⟨_,List.getElem?_eq_getElem hi⟩
   have hL:Leq ro ro':=⟨hle.1⟩
   have hr1:Rs ro' a.na s.nodes.length a.nc 18 (zA4 s.nodes a.xs):=ho.nodes.up
   have hm:=hr1.max
   unfold maxLen at hm
   obtain ⟨x,hx⟩:∃ x,a.xs[i]?=some x:=⟨_,List.getElem?_eq_getElem (by rw [ho.len];exact hi)⟩
   have hn1:=(ho.each i d x hd hx).le hle
   have hdr1:=zAj _ _ _ _ _ hd hx
   obtain ⟨hf,hks⟩:=hv i d hd
   have hsm:=zAI hf
   have htx:=hT.texts d (List.mem_of_getElem? hd)
   rw [zAT,Int.toNat_natCast,hd] at hk
   dsimp only at hk
   refine CallOk.intro (args:=[_,_,_]) (rs:=[_]) T_ok Tryz.func69 Tryz.call69 rfl rfl (by kernel_rfl) rfl rfl ?_
   repeat first|exact zE|refine zP ?_|refine zB fun b=>?_|refine zC fun a' c' hc1 hc2=>?_|(apply GJ.a;exact rfl;intro hg)|(apply GJ.o;exact rfl;intro hg)
   rw [Int.toNat_natCast]
   refine OpOk.loadRow rfl rfl (LdN.at hr1 hdr1) rfl ?_
   by_cases h13:d.kind=13
   ·repeat first|exact zE|refine zP ?_|refine zB fun b=>?_|refine zC fun a' c' hc1 hc2=>?_|(apply GJ.a;exact rfl;intro hg)|(apply GJ.o;exact rfl;intro hg)
    refine QOk.lookupOkG (kt:=9) (et:=3) (kv:=str) (vv:=Value.int .i64) (k:=d.text) (z:=.int .i64 0) rfl rfl Tryz.underlying125 (KeyEnc.text Tryz.underlying9) hK.map (by unfold maxLen;omega) (by kernel_rfl) ?_
    rw [hK.is]
    by_cases hin2:d.text∈kn
    ·rw [if_neg (fun h=>h.2 hin2),if_neg (by omega)] at hk
     rw [decide_eq_true hin2]
     repeat first|exact zE|refine zP ?_|refine zB fun b=>?_|refine zC fun a' c' hc1 hc2=>?_|(apply GJ.a;exact rfl;intro hg)|(apply GJ.o;exact rfl;intro hg)
     rename_i bF
     obtain ⟨bN,hbN⟩:∃ z:Nat,z=b:=⟨_,rfl⟩
     subst hbN
     refine zC6 hn1 (by omega) (fun a1 n1 c1 h1 h2 h3=>?_)
     subst h1
     have hkl:(zAc d).length≤1000:=by unfold zAc;split<;>simp<;>omega
     repeat first|exact zE|refine zP ?_|refine zB fun b=>?_|refine zC fun a' c' hc1 hc2=>?_|(apply GJ.a;exact rfl;intro hg)|(apply GJ.o;exact rfl;intro hg)
     refine LoopOk.auto (ι:=Nat) Keep.z (fun j=>[(48,.int .i64 (j:Int))]) (fun j=>.sl a1 (zAc d).length c1 3 1 (zAs (zAc d))::.blk bN 40 (zAl d x)::.blk bF 58 [.int .i64 0,.int .i64 0]::(G++.blk p 127 (zAf s a++[.map (some bm)])::.obj bm (mapG str (Value.int .i64) M cM)::R)) (fun j r'=>j≤(zAc d).length∧goS (fun k=>zAT s kn n k ns) (zAc d)=goS (fun k=>zAT s kn n k ns) ((zAc d).drop j)) (fun j=>(zAc d).length-j) 0 ?_ Sub.z Sup.z ?_
     ·exact ⟨Nat.zero_le _,rfl⟩
     rintro j ro2 hl2 ⟨i1,i2⟩
     dsimp only [List.cons_append,List.nil_append] at i1 i2 ⊢
     by_cases hj:j<(zAc d).length
     ·obtain ⟨y,hy⟩:∃ y,(zAc d)[j]?=some y:=⟨_,List.getElem?_eq_getElem hj⟩
      have hyb:(zAc d)[((j:Nat):Int).toNat]! = y:=by rw [Int.toNat_natCast,List.getElem!_eq_getElem?_getD,hy];rfl
      have hdj:(zAc d).drop j=y::(zAc d).drop (j+1):=by rw [List.drop_eq_getElem_cons hj];congr 1;exact Option.some.inj ((List.getElem?_eq_getElem hj).symm.trans hy)
      rw [hdj,goS] at i2
      obtain ⟨q1,q2⟩:=hks y (List.mem_of_getElem? hy)
      obtain ⟨k,rfl⟩:=Int.eq_ofNat_of_zero_le q1
      have hL2:Leq ro' ro2:=⟨hl2.1⟩
      repeat first|exact zE|refine zP ?_|refine zB fun b=>?_|refine zC fun a' c' hc1 hc2=>?_|(apply GJ.a;exact rfl;intro hg)|(apply GJ.o;exact rfl;intro hg)
      rw [hyb]
      have hRD:Rds ro2 (.sl a1 (zAc d).length c1 3 1 (zAs (zAc d))::.blk bN 40 (zAl d x)::.blk bF 58 [.int .i64 0,.int .i64 0]::(G++.blk p 127 (zAf s a++[.map (some bm)])::.obj bm (mapG str (Value.int .i64) M cM)::R)) na ns.length nc 1 (ns.map str):=hns.up
      refine ih k (by omega) (by omega) ns na nc ro2 (.sl a1 (zAc d).length c1 3 1 (zAs (zAc d))::.blk bN 40 (zAl d x)::.blk bF 58 [.int .i64 0,.int .i64 0]::G) _ (hle.trans hl2) hRD (by omega) (fun ro3 hl3=>?_)
      have hk4:=hk ro3 (hl2.trans hl3)
      rw [i2] at hk4
      dsimp only [List.cons_append,flV] at hk4 ⊢
      generalize zAT s kn n (k:Int) ns=z at *
      obtain ⟨z1,z2⟩:=z
      dsimp only at hk4 i2 ⊢
      repeat first|exact zE|refine zP ?_|refine zB fun b=>?_|refine zC fun a' c' hc1 hc2=>?_|(apply GJ.a;exact rfl;intro hg)|(apply GJ.o;exact rfl;intro hg)
      by_cases hz:z1≠0
      ·rw [if_pos hz] at hk4
       refine Br.t hz ?_
       repeat first|exact zE|refine zP ?_|refine zB fun b=>?_|refine zC fun a' c' hc1 hc2=>?_|(apply GJ.a;exact rfl;intro hg)|(apply GJ.o;exact rfl;intro hg)
       exact Wk.outS Sup.z (.refl _) hk4
      ·rw [if_neg hz] at i2
       have hL3:Leq ro2 ro3:=⟨hl3.1⟩
       refine Br.f hz ?_
       repeat first|exact zE|refine zP ?_|refine zB fun b=>?_|refine zC fun a' c' hc1 hc2=>?_|(apply GJ.a;exact rfl;intro hg)|(apply GJ.o;exact rfl;intro hg)
       refine Wk.id ⟨j+1,?_,?_,Sub.z,Sup.z⟩
       all_goals try dsimp only
       ·exact ⟨by omega,i2⟩
       ·omega
     ·rw [List.drop_eq_nil_of_le (by omega),goS] at i2
      have hk2:=hk ro2 hl2
      rw [i2] at hk2
      dsimp only [flV] at hk2
      repeat first|exact zE|refine zP ?_|refine zB fun b=>?_|refine zC fun a' c' hc1 hc2=>?_|(apply GJ.a;exact rfl;intro hg)|(apply GJ.o;exact rfl;intro hg)
      exact Wk.outS Sup.z (.refl _) hk2
    ·rw [if_pos ⟨h13,hin2⟩] at hk
     have hk2:=hk ro' (Le.refl _)
     dsimp only [flV] at hk2
     rw [decide_eq_false hin2]
     repeat first|exact zE|refine zP ?_|refine zB fun b=>?_|refine zC fun a' c' hc1 hc2=>?_|(apply GJ.a;exact rfl;intro hg)|(apply GJ.o;exact rfl;intro hg)
     exact Wk.outS Sup.z (.refl _) hk2
   ·rw [if_neg (fun h=>h13 h.1)] at hk
    repeat first|exact zE|refine zP ?_|refine zB fun b=>?_|refine zC fun a' c' hc1 hc2=>?_|(apply GJ.a;exact rfl;intro hg)|(apply GJ.o;exact rfl;intro hg)
    by_cases h5:d.kind=5
    ·rw [if_pos h5] at hk
     refine Br.t h5 ?_
     repeat first|exact zE|refine zP ?_|refine zB fun b=>?_|refine zC fun a' c' hc1 hc2=>?_|(apply GJ.a;exact rfl;intro hg)|(apply GJ.o;exact rfl;intro hg)
     rename_i bF
     obtain ⟨bN,hbN⟩:∃ z:Nat,z=b:=⟨_,rfl⟩
     subst hbN
     have hRD:Rds ro' (.blk bN 40 (zAl d x)::.blk bF 58 [.int .i64 0,.int .i64 0]::(G++.blk p 127 (zAf s a++[.map (some bm)])::.obj bm (mapG str (Value.int .i64) M cM)::R)) na ns.length nc 1 (ns.map str):=hns.up
     refine zG9 ho hv hM hT ih hin hd h5 (G:=.blk bN 40 (zAl d x)::.blk bF 58 [.int .i64 0,.int .i64 0]::G) hle hRD hb (fun ro2 hl2=>?_)
     have hk2:=hk ro2 hl2
     dsimp only [List.cons_append,flV] at hk2 ⊢
     generalize recS (zAT s kn n) (i:Int) d.fields ns=z at *
     obtain ⟨z1,z2⟩:=z
     dsimp only at hk2 ⊢
     repeat first|exact zE|refine zP ?_|refine zB fun b=>?_|refine zC fun a' c' hc1 hc2=>?_|(apply GJ.a;exact rfl;intro hg)|(apply GJ.o;exact rfl;intro hg)
     exact Wk.outS Sup.z (.refl _) hk2
    ·rw [if_neg h5] at hk
     refine Br.f h5 ?_
     repeat first|exact zE|refine zP ?_|refine zB fun b=>?_|refine zC fun a' c' hc1 hc2=>?_|(apply GJ.a;exact rfl;intro hg)|(apply GJ.o;exact rfl;intro hg)
     rename_i bF
     obtain ⟨bN,hbN⟩:∃ z:Nat,z=b:=⟨_,rfl⟩
     subst hbN
     refine zC6 hn1 (by omega) (fun a1 n1 c1 h1 h2 h3=>?_)
     subst h1
     have hkl:(zAc d).length≤1000:=by unfold zAc;split<;>simp<;>omega
     repeat first|exact zE|refine zP ?_|refine zB fun b=>?_|refine zC fun a' c' hc1 hc2=>?_|(apply GJ.a;exact rfl;intro hg)|(apply GJ.o;exact rfl;intro hg)
     refine LoopOk.auto (ι:=Nat) Keep.z (fun j=>[(48,.int .i64 (j:Int))]) (fun j=>.sl a1 (zAc d).length c1 3 1 (zAs (zAc d))::.blk bN 40 (zAl d x)::.blk bF 58 [.int .i64 0,.int .i64 0]::(G++.blk p 127 (zAf s a++[.map (some bm)])::.obj bm (mapG str (Value.int .i64) M cM)::R)) (fun j r'=>j≤(zAc d).length∧goS (fun k=>zAT s kn n k ns) (zAc d)=goS (fun k=>zAT s kn n k ns) ((zAc d).drop j)) (fun j=>(zAc d).length-j) 0 ?_ Sub.z Sup.z ?_
     ·exact ⟨Nat.zero_le _,rfl⟩
     rintro j ro2 hl2 ⟨i1,i2⟩
     dsimp only [List.cons_append,List.nil_append] at i1 i2 ⊢
     by_cases hj:j<(zAc d).length
     ·obtain ⟨y,hy⟩:∃ y,(zAc d)[j]?=some y:=⟨_,List.getElem?_eq_getElem hj⟩
      have hyb:(zAc d)[((j:Nat):Int).toNat]! = y:=by rw [Int.toNat_natCast,List.getElem!_eq_getElem?_getD,hy];rfl
      have hdj:(zAc d).drop j=y::(zAc d).drop (j+1):=by rw [List.drop_eq_getElem_cons hj];congr 1;exact Option.some.inj ((List.getElem?_eq_getElem hj).symm.trans hy)
      rw [hdj,goS] at i2
      obtain ⟨q1,q2⟩:=hks y (List.mem_of_getElem? hy)
      obtain ⟨k,rfl⟩:=Int.eq_ofNat_of_zero_le q1
      have hL2:Leq ro' ro2:=⟨hl2.1⟩
      repeat first|exact zE|refine zP ?_|refine zB fun b=>?_|refine zC fun a' c' hc1 hc2=>?_|(apply GJ.a;exact rfl;intro hg)|(apply GJ.o;exact rfl;intro hg)
      rw [hyb]
      have hRD:Rds ro2 (.sl a1 (zAc d).length c1 3 1 (zAs (zAc d))::.blk bN 40 (zAl d x)::.blk bF 58 [.int .i64 0,.int .i64 0]::(G++.blk p 127 (zAf s a++[.map (some bm)])::.obj bm (mapG str (Value.int .i64) M cM)::R)) na ns.length nc 1 (ns.map str):=hns.up
      refine ih k (by omega) (by omega) ns na nc ro2 (.sl a1 (zAc d).length c1 3 1 (zAs (zAc d))::.blk bN 40 (zAl d x)::.blk bF 58 [.int .i64 0,.int .i64 0]::G) _ (hle.trans hl2) hRD (by omega) (fun ro3 hl3=>?_)
      have hk4:=hk ro3 (hl2.trans hl3)
      rw [i2] at hk4
      dsimp only [List.cons_append,flV] at hk4 ⊢
      generalize zAT s kn n (k:Int) ns=z at *
      obtain ⟨z1,z2⟩:=z
      dsimp only at hk4 i2 ⊢
      repeat first|exact zE|refine zP ?_|refine zB fun b=>?_|refine zC fun a' c' hc1 hc2=>?_|(apply GJ.a;exact rfl;intro hg)|(apply GJ.o;exact rfl;intro hg)
      by_cases hz:z1≠0
      ·rw [if_pos hz] at hk4
       refine Br.t hz ?_
       repeat first|exact zE|refine zP ?_|refine zB fun b=>?_|refine zC fun a' c' hc1 hc2=>?_|(apply GJ.a;exact rfl;intro hg)|(apply GJ.o;exact rfl;intro hg)
       exact Wk.outS Sup.z (.refl _) hk4
      ·rw [if_neg hz] at i2
       have hL3:Leq ro2 ro3:=⟨hl3.1⟩
       refine Br.f hz ?_
       repeat first|exact zE|refine zP ?_|refine zB fun b=>?_|refine zC fun a' c' hc1 hc2=>?_|(apply GJ.a;exact rfl;intro hg)|(apply GJ.o;exact rfl;intro hg)
       refine Wk.id ⟨j+1,?_,?_,Sub.z,Sup.z⟩
       all_goals try dsimp only
       ·exact ⟨by omega,i2⟩
       ·omega
     ·rw [List.drop_eq_nil_of_le (by omega),goS] at i2
      have hk2:=hk ro2 hl2
      rw [i2] at hk2
      dsimp only [flV] at hk2
      repeat first|exact zE|refine zP ?_|refine zB fun b=>?_|refine zC fun a' c' hc1 hc2=>?_|(apply GJ.a;exact rfl;intro hg)|(apply GJ.o;exact rfl;intro hg)
      exact Wk.outS Sup.z (.refl _) hk2
end
theorem SpecOk.lift {ro ro':Ro}{s:zAd}{a:zAp} (h:SpecOk ro s a) (hl:Le ro ro'):SpecOk ro' s a:=⟨h.len,h.nodes.up,fun i d x g1 g2=>(h.each i d x g1 g2).le hl,h.defs.up⟩
structure MemoOk (s:zAd) (D:List Int):Prop where
 len:D.length=s.nodes.length
 is:∀ (i:Nat) (v:Int),D[i]?=some v→v=-1∨v=depI s i
theorem MemoOk.set {s:zAd}{D:List Int} (h:MemoOk s D) (i:Nat) {v:Int} (hv:v=depI s i):MemoOk s (D.set i v):=by
 refine ⟨by rw [List.length_set];exact h.len,fun j w hw=>?_⟩
 rw [List.getElem?_set] at hw
 split at hw
 ·rename_i e
  subst e
  split at hw
  ·cases hw;exact .inr hv
  ·cases hw
 ·exact h.is j w hw
theorem zES (x:Int):∀ l:List Int,maxL (l++[x])=max (maxL l) (max x 0)
 | []=>by simp [maxL];omega
 | k::l=>by rw [List.cons_append,maxL,zES x l,maxL];omega
theorem fuel_le {s:zAd} (hc:zAo s=0):zFB s≤133185:=by
 obtain ⟨_,_,_,_,h1,h2,_,_⟩:=zA8 hc
 unfold zFB
 exact Nat.mul_le_mul (show s.defs.length+1≤65 by omega) (show s.nodes.length+1≤2049 by omega)
theorem zIb {s:zAd} (hc:zAo s=0) (a:Int):0≤depI s a∧depI s a≤266370:=by
 have h1:=zCW s (zFB s) a
 have h2:=fuel_le hc
 unfold depI
 omega
theorem zB0 (l:List Int):(zAs l).length=l.length:=List.length_map ..
theorem zCI (l:List Int) (i:Nat) (v:Int):(zAs l).set i (.int .i64 v)=zAs (l.set i v):=by unfold zAs;rw [List.map_set]
section
variable {ro:Ro}{own:Chs}{K:Value→Ro→Chs→Prop}{s:zAd}{a:zAp}{rk:Nat→Nat}
set_option maxHeartbeats 4000000 in
theorem zIf (ho:SpecOk ro s a) (hc:zAo s=0) (RK:RkOk s rk) {R:Chs}{da:Option Addr}{dc:Nat} (hdc:s.nodes.length≤dc∧dc≤maxLen):∀ (r i:Nat),rk i<r→i<s.nodes.length→∀ (D:List Int) (ro':Ro) (G:Chs) (K:Value→Ro→Chs→Prop),Le ro ro'→MemoOk s D →
  (∀ D',MemoOk s D'→K (.int .i64 (depI s (i:Int))) ro' (G++.sl da s.nodes.length dc 3 1 (zAs D')::R)) →
  CallOk Tryz.prog 94 #[.agg (zAf s a).toArray,.int .i64 (i:Int),.slice da s.nodes.length dc] ro' (G++.sl da s.nodes.length dc 3 1 (zAs D)::R) K:=by
 intro r
 induction r with
 | zero=>intro i h;omega
 | succ r ih =>
   intro i hri hi D ro' G K hle hD hk
   have hL:Leq ro ro':=⟨hle.1⟩
   have ho':=ho.lift hle
   have hr1:=ho'.nodes
   have hm:=hr1.max
   have hnc:=hr1.le
   unfold maxLen at hm
   obtain ⟨d,hd⟩:∃ d,s.nodes[i]?=some d:=⟨_,List.getElem?_eq_getElem hi⟩
   obtain ⟨x,hx⟩:∃ x,a.xs[i]?=some x:=⟨_,List.getElem?_eq_getElem (by rw [ho.len];exact hi)⟩
   have hn1:=ho'.each i d x hd hx
   have hdr1:=zAj _ _ _ _ _ hd hx
   obtain ⟨hf,hks⟩:=Ahead.of hc i d hd
   have hsm:=zAI hf
   have hdl:=hD.len
   have hkl:=zB0 D
   obtain ⟨d1,d2⟩:=hdc
   have d3:=d2
   unfold maxLen at d3
   have hdep:=zIb hc (i:Int)
   have heq:=dep_eq RK hd
   obtain ⟨v,hv⟩:∃ v,D[i]?=some v:=⟨_,List.getElem?_eq_getElem (by omega)⟩
   have hvb:D[((i:Nat):Int).toNat]! = v:=by rw [Int.toNat_natCast,List.getElem!_eq_getElem?_getD,hv];rfl
   have hpos:=zIa RK (rk i+1) i (by omega) hi
   refine CallOk.intro (args:=[_,_,_]) (rs:=[_]) T_ok Tryz.func94 Tryz.call94 rfl rfl (by kernel_rfl) rfl rfl ?_
   repeat first|exact zE|refine zP ?_|refine zB fun b=>?_|refine zC fun a' c' hc1 hc2=>?_|(apply GJ.a;exact rfl;intro hg)|(apply GJ.o;exact rfl;intro hg)
   rw [hvb]
   by_cases hv0:0≤v
   ·have hve:v=depI s (i:Int):=(hD.is i v hv).resolve_left (fun h=>by omega)
    have hk2:=hk D hD
    refine Br.t hv0 ?_
    repeat first|exact zE|refine zP ?_|refine zB fun b=>?_|refine zC fun a' c' hc1 hc2=>?_|(apply GJ.a;exact rfl;intro hg)|(apply GJ.o;exact rfl;intro hg)
    rw [hvb,hve]
    repeat first|exact zE|refine zP ?_|refine zB fun b=>?_|refine zC fun a' c' hc1 hc2=>?_|(apply GJ.a;exact rfl;intro hg)|(apply GJ.o;exact rfl;intro hg)
    exact Wk.outS Sup.z (.refl _) hk2
   refine Br.f hv0 ?_
   clear hvb hv hv0
   repeat first|exact zE|refine zP ?_|refine zB fun b=>?_|refine zC fun a' c' hc1 hc2=>?_|(apply GJ.a;exact rfl;intro hg)|(apply GJ.o;exact rfl;intro hg)
   rw [Int.toNat_natCast]
   refine OpOk.loadRow rfl rfl (LdN.at hr1 hdr1) rfl ?_
   by_cases hk13:d.kind=13
   ·rw [if_pos hk13] at heq
    obtain ⟨u1,u2,u3⟩:=RK.use i d hd hk13
    obtain ⟨u,hu⟩:=Int.eq_ofNat_of_zero_le u1
    rw [hu] at u2 u3 heq
    rw [Int.toNat_natCast] at u3
    repeat first|exact zE|refine wkG ?_|refine zB fun b=>?_|refine zC fun a' c' hc1 hc2=>?_|(show GJ _ _ _ _ _ _ _;first|(apply GJ.a;exact rfl;intro hg)|(apply GJ.o;exact rfl;intro hg)|refine GJ.t zO ?_|refine GJ.f zO ?_|refine GJ.ft zO ?_|refine GJ.ff zO ?_)
    rename_i bS
    obtain ⟨bN,hbN⟩:∃ z:Nat,z=b:=⟨_,rfl⟩
    subst hbN
    refine Bs.mk ⟨[.blk bN 40 (zAl d x),.blk bS 25 (zAf s a)],Sup.z,?_⟩
    repeat (first|exact zE|refine wkU ?_|(show QOk _ _ _ _ _ _ _;refine QOk.build rfl rfl Nf.auto ?_)|(show GJ _ _ _ _ _ _ _;first|with_reducible refine GJ.neF ?_|with_reducible refine GJ.neT ?_)|(show Br _ _ _;with_reducible refine Br.ne ?_)|refine zB (fun b=>?_)|refine zC (fun a' c' hc1 hc2=>?_)|(apply GJ.a;exact rfl;intro hg)|(apply GJ.o;exact rfl;intro hg))
    refine def_ok ho' ?_
    rw [hu]
    repeat (first|exact zE|refine wkU ?_|(show QOk _ _ _ _ _ _ _;refine QOk.build rfl rfl Nf.auto ?_)|(show GJ _ _ _ _ _ _ _;first|with_reducible refine GJ.neF ?_|with_reducible refine GJ.neT ?_)|(show Br _ _ _;with_reducible refine Br.ne ?_)|refine zB (fun b=>?_)|refine zC (fun a' c' hc1 hc2=>?_)|(apply GJ.a;exact rfl;intro hg)|(apply GJ.o;exact rfl;intro hg))
    refine ih u (by omega) (by omega) D ro' (.blk bN 40 (zAl d x)::.blk bS 25 (zAf s a)::G) _ hle hD (fun D2 hD2=>?_)
    dsimp only [List.cons_append]
    have hdl2:=hD2.len
    have hkl2:=zB0 D2
    have hil:i<(zAs D2).length:=by omega
    refine Stop.mk (Bk.all Sup.z ?_)
    repeat (first|exact zE|refine wkU ?_|(show QOk _ _ _ _ _ _ _;refine QOk.build rfl rfl Nf.auto ?_)|(show GJ _ _ _ _ _ _ _;first|with_reducible refine GJ.neF ?_|with_reducible refine GJ.neT ?_)|(show Br _ _ _;with_reducible refine Br.ne ?_)|refine zB (fun b=>?_)|refine zC (fun a' c' hc1 hc2=>?_)|(apply GJ.a;exact rfl;intro hg)|(apply GJ.o;exact rfl;intro hg))
    rw [Int.toNat_natCast]
    refine OpOk.storeSl rfl rfl rfl rfl (by omega) ?_
    rw [zCI]
    have hS:=hD2.set i heq.symm
    have hk2:=hk _ hS
    have hsl:=hS.len
    have hgb:(D2.set i (depI s (u:Int)))[((i:Nat):Int).toNat]! = depI s (i:Int):=by
     rw [Int.toNat_natCast,List.getElem!_eq_getElem?_getD,List.getElem?_set_self (by omega),heq];rfl
    have hkl3:=zB0 (D2.set i (depI s (u:Int)))
    generalize D2.set i (depI s (u:Int))=D3 at *
    repeat (first|exact zE|refine wkU ?_|(show QOk _ _ _ _ _ _ _;refine QOk.build rfl rfl Nf.auto ?_)|(show GJ _ _ _ _ _ _ _;first|with_reducible refine GJ.neF ?_|with_reducible refine GJ.neT ?_)|(show Br _ _ _;with_reducible refine Br.ne ?_)|refine zB (fun b=>?_)|refine zC (fun a' c' hc1 hc2=>?_)|(apply GJ.a;exact rfl;intro hg)|(apply GJ.o;exact rfl;intro hg))
    rw [hgb]
    repeat (first|exact zE|refine wkU ?_|(show QOk _ _ _ _ _ _ _;refine QOk.build rfl rfl Nf.auto ?_)|(show GJ _ _ _ _ _ _ _;first|with_reducible refine GJ.neF ?_|with_reducible refine GJ.neT ?_)|(show Br _ _ _;with_reducible refine Br.ne ?_)|refine zB (fun b=>?_)|refine zC (fun a' c' hc1 hc2=>?_)|(apply GJ.a;exact rfl;intro hg)|(apply GJ.o;exact rfl;intro hg))
    exact Wk.outS Sup.z (.refl _) hk2
   ·rw [if_neg hk13] at heq
    repeat first|exact zE|refine zP ?_|refine zB fun b=>?_|refine zC fun a' c' hc1 hc2=>?_|(apply GJ.a;exact rfl;intro hg)|(apply GJ.o;exact rfl;intro hg)
    refine zC6 hn1 (by omega) (fun a1 n1 c1 h1 h2 h3=>?_)
    subst h1
    have hkl:(zAc d).length≤1000:=by unfold zAc;split<;>simp<;>omega
    rename_i bS
    obtain ⟨bN,hbN⟩:∃ z:Nat,z=b:=⟨_,rfl⟩
    subst hbN
    repeat first|exact zE|refine zP ?_|refine zB fun b=>?_|refine zC fun a' c' hc1 hc2=>?_|(apply GJ.a;exact rfl;intro hg)|(apply GJ.o;exact rfl;intro hg)
    refine LoopOk.at (ι:=Nat × List Int × Int) Keep.z (fun (j,D,z)=>[(47,.int .i64 (j:Int)),(8,.int .i64 z)]) (fun (j,D,z)=>.sl a1 (zAc d).length c1 3 1 (zAs (zAc d))::.blk bN 40 (zAl d x)::.blk bS 25 (zAf s a)::(G++.sl da s.nodes.length dc 3 1 (zAs D)::R)) (fun (j,D,z)=>j≤(zAc d).length∧MemoOk s D∧z=maxL (((zAc d).take j).map (depI s))∧0≤z∧z≤266370) (fun (j,D,z)=>(zAc d).length-j) (0,D,0) ?_ Sub.z Sup.z ?_
    ·exact ⟨Nat.zero_le _,hD,rfl,by omega,by omega⟩
    clear hD hdl
    rintro ⟨j,D,z⟩ ⟨i1,hD,i3,i4,i5⟩
    dsimp only [List.cons_append,List.nil_append] at i1 hD i3 i4 i5 ⊢
    have hdl:=hD.len
    have hkl2:=zB0 D
    by_cases hj:j<(zAc d).length
    ·obtain ⟨y,hy⟩:∃ y,(zAc d)[j]?=some y:=⟨_,List.getElem?_eq_getElem hj⟩
     have hyb:(zAc d)[((j:Nat):Int).toNat]! = y:=by rw [Int.toNat_natCast,List.getElem!_eq_getElem?_getD,hy];rfl
     have htk:((zAc d).take (j+1)).map (depI s)=((zAc d).take j).map (depI s)++[depI s y]:=by rw [List.take_add_one,hy,List.map_append];rfl
     obtain ⟨q1,q2,q3⟩:=RK.kids i d hd y (List.mem_of_getElem? hy)
     obtain ⟨k,rfl⟩:=Int.eq_ofNat_of_zero_le q1
     rw [Int.toNat_natCast] at q3
     have hdk:=zIb hc (k:Int)
     repeat first|exact zE|refine zP ?_|refine zB fun b=>?_|refine zC fun a' c' hc1 hc2=>?_|(apply GJ.a;exact rfl;intro hg)|(apply GJ.o;exact rfl;intro hg)
     rw [hyb]
     refine ih k (by omega) (by omega) D ro' (.sl a1 (zAc d).length c1 3 1 (zAs (zAc d))::.blk bN 40 (zAl d x)::.blk bS 25 (zAf s a)::G) _ hle hD (fun D2 hD2=>?_)
     dsimp only [List.cons_append]
     repeat first|exact zE|refine zP ?_|refine zB fun b=>?_|refine zC fun a' c' hc1 hc2=>?_|(apply GJ.a;exact rfl;intro hg)|(apply GJ.o;exact rfl;intro hg)
     refine Wk.id ⟨(j+1,D2,max z (depI s (k:Int))),⟨rfl,?_⟩,?_,Sub.z,Sup.z⟩
     all_goals try dsimp only
     ·exact ⟨by omega,hD2,by rw [htk,zES,←i3];omega,by omega,by omega⟩
     ·omega
    ·obtain rfl:j=(zAc d).length:=by omega
     rw [List.take_length] at i3
     rw [←i3] at heq
     have hil:i<(zAs D).length:=by omega
     repeat first|exact zE|refine zP ?_|refine zB fun b=>?_|refine zC fun a' c' hc1 hc2=>?_|(apply GJ.a;exact rfl;intro hg)|(apply GJ.o;exact rfl;intro hg)
     rw [Int.toNat_natCast]
     refine OpOk.storeSl rfl rfl rfl rfl (by omega) ?_
     rw [zCI]
     have hgb1:(D.set i (z+1))[((i:Nat):Int).toNat]! = z+1:=by
      rw [Int.toNat_natCast,List.getElem!_eq_getElem?_getD,List.getElem?_set_self (by omega)];rfl
     have hsl1:(D.set i (z+1)).length=s.nodes.length:=by rw [List.length_set];exact hdl
     have hkl3:=zB0 (D.set i (z+1))
     by_cases h11:d.kind=11
     ·rw [if_pos h11] at heq
      repeat first|exact zE|refine zP ?_|refine zB fun b=>?_|refine zC fun a' c' hc1 hc2=>?_|(apply GJ.a;exact rfl;intro hg)|(apply GJ.o;exact rfl;intro hg)
      rw [hgb1,Int.toNat_natCast]
      refine OpOk.storeSl rfl rfl rfl rfl (by omega) ?_
      rw [zCI,List.set_set,show z+1+1=z+2 by omega]
      have hS:=hD.set i heq.symm
      have hk2:=hk _ hS
      have hsl:=hS.len
      have hgb:(D.set i (z+2))[((i:Nat):Int).toNat]! = depI s (i:Int):=by
       rw [Int.toNat_natCast,List.getElem!_eq_getElem?_getD,List.getElem?_set_self (by omega),heq];rfl
      have hkl4:=zB0 (D.set i (z+2))
      clear hgb1 hsl1 hkl3
      generalize D.set i (z+2)=D3 at *
      repeat first|exact zE|refine zP ?_|refine zB fun b=>?_|refine zC fun a' c' hc1 hc2=>?_|(apply GJ.a;exact rfl;intro hg)|(apply GJ.o;exact rfl;intro hg)
      rw [hgb]
      repeat first|exact zE|refine zP ?_|refine zB fun b=>?_|refine zC fun a' c' hc1 hc2=>?_|(apply GJ.a;exact rfl;intro hg)|(apply GJ.o;exact rfl;intro hg)
      exact Wk.outS Sup.z (.refl _) hk2
     ·rw [if_neg h11] at heq
      have hS:=hD.set i heq.symm
      have hk2:=hk _ hS
      have hgb:(D.set i (z+1))[((i:Nat):Int).toNat]! = depI s (i:Int):=by rw [hgb1,heq]
      clear hgb1
      generalize D.set i (z+1)=D3 at *
      repeat first|exact zE|refine zP ?_|refine zB fun b=>?_|refine zC fun a' c' hc1 hc2=>?_|(apply GJ.a;exact rfl;intro hg)|(apply GJ.o;exact rfl;intro hg)
      rw [hgb]
      repeat first|exact zE|refine zP ?_|refine zB fun b=>?_|refine zC fun a' c' hc1 hc2=>?_|(apply GJ.a;exact rfl;intro hg)|(apply GJ.o;exact rfl;intro hg)
      exact Wk.outS Sup.z (.refl _) hk2
end
theorem zCt {s:zAd} (h:zAo s=0):∀ d∈s.defs,0≤d.type∧d.type<(s.nodes.length:Int):=fun d hd=>by
 obtain ⟨o,o',_,h2,_⟩:=zA8 h
 exact zBt h2 d.type (List.mem_map.2 ⟨d,hd,rfl⟩)
theorem root_in {s:zAd} (h:zAo s=0):∃ r:Nat,zDi s=(r:Int)∧r<s.nodes.length:=by
 obtain ⟨_,_,_,_,_,_,h5,_⟩:=zA8 h
 unfold zDi
 cases hl:s.defs.getLast? with
 | none=>exact absurd (List.getLast?_eq_none_iff.1 hl) h5
 | some d =>
   obtain ⟨q1,q2⟩:=zCt h d (List.mem_of_getLast? hl)
   obtain ⟨r,hr⟩:=Int.eq_ofNat_of_zero_le q1
   exact ⟨r,hr,by omega⟩
theorem KeysOk.nil:KeysOk [] []:=⟨MapOk.nil,fun x=>by simp [getG]⟩
theorem KeysOk.put {kn:List (List UInt8)}{M:List (List UInt8 × Int × Nat)} (h:KeysOk kn M) {x:List UInt8} (hx:x.length≤maxLen) (c:Nat) (v:Int):KeysOk (kn++[x]) (putG M c x v):=by
 refine ⟨h.map.put hx c v,fun y=>?_⟩
 rw [zBF]
 by_cases hy:y=x
 ·subst hy;simp
 ·rw [if_neg hy,h.is]
  simp [hy]
section
variable {ro:Ro}{own:Chs}{K:Value→Ro→Chs→Prop}{s:zAd}{a:zAp}{rk:Nat→Nat}
set_option maxHeartbeats 4000000 in
theorem deep_ok (ho:SpecOk ro s a) (hc:zAo s=0) (RK:RkOk s rk) (hk:K (.int .i64 (depI s (zDi s))) ro own):CallOk Tryz.prog 70 #[.agg (zAf s a).toArray] ro own K:=by
 have hr1:=ho.nodes
 have hm:=hr1.max
 have hle:=hr1.le
 unfold maxLen at hm
 obtain ⟨_,_,_,_,hn,_,_,_⟩:=zA8 hc
 obtain ⟨r,hr,hrl⟩:=root_in hc
 rw [hr] at hk
 refine CallOk.intro (args:=[_]) (rs:=[_]) T_ok Tryz.func70 Tryz.call70 rfl rfl (by kernel_rfl) rfl rfl ?_
 repeat first|exact zE|refine zP ?_|refine zB fun b=>?_|refine zC fun a' c' hc1 hc2=>?_|(apply GJ.a;exact rfl;intro hg)|(apply GJ.o;exact rfl;intro hg)
 rw [Int.toNat_natCast]
 rename_i bS
 obtain ⟨bD,hbD⟩:∃ z:Nat,z=b:=⟨_,rfl⟩
 subst hbD
 have e0:List.replicate s.nodes.length (Value.int .i64 0)=zAs (List.replicate 0 (-1)++List.replicate (s.nodes.length-0) 0):=by simp [zAs]
 rw [e0]
 refine LoopOk.at (ι:=Nat) Keep.z (fun i=>[(12,.int .i64 (i:Int))]) (fun i=>.sl (some ⟨bD,0,none⟩) s.nodes.length s.nodes.length 3 1 (zAs (List.replicate i (-1)++List.replicate (s.nodes.length-i) 0))::.blk bS 25 (zAf s a)::own) (fun i=>i≤s.nodes.length) (fun i=>s.nodes.length-i) 0 ?_ Sub.z Sup.z ?_
 ·exact Nat.zero_le _
 clear e0
 rintro i i1
 dsimp only [List.cons_append,List.nil_append] at i1 ⊢
 have hkl:=zB0 (List.replicate i (-1)++List.replicate (s.nodes.length-i) 0)
 have hll:(List.replicate i (-1:Int)++List.replicate (s.nodes.length-i) 0).length=s.nodes.length:=by simp;omega
 rw [hll] at hkl
 by_cases hi:i<s.nodes.length
 ·have hst:(List.replicate i (-1:Int)++List.replicate (s.nodes.length-i) 0).set i (-1)=List.replicate (i+1) (-1)++List.replicate (s.nodes.length-(i+1)) 0:=by
   rw [List.set_append_right _ _ (by simp),List.length_replicate,Nat.sub_self,show s.nodes.length-i=(s.nodes.length-(i+1))+1 by omega,List.replicate_succ,List.set_cons_zero,List.replicate_succ' (n:=i),List.append_assoc]
   rfl
  generalize List.replicate i (-1:Int)++List.replicate (s.nodes.length-i) 0=D at *
  repeat first|exact zE|refine zP ?_|refine zB fun b=>?_|refine zC fun a' c' hc1 hc2=>?_|(apply GJ.a;exact rfl;intro hg)|(apply GJ.o;exact rfl;intro hg)
  rw [Int.toNat_natCast]
  refine OpOk.storeSl rfl rfl rfl rfl (by omega) ?_
  rw [zCI,hst]
  repeat first|exact zE|refine zP ?_|refine zB fun b=>?_|refine zC fun a' c' hc1 hc2=>?_|(apply GJ.a;exact rfl;intro hg)|(apply GJ.o;exact rfl;intro hg)
  refine Wk.id ⟨i+1,⟨rfl,?_⟩,?_,Sub.z,Sup.z⟩
  all_goals try dsimp only
  ·omega
  ·omega
 ·obtain rfl:i=s.nodes.length:=by omega
  have hD:MemoOk s (List.replicate s.nodes.length (-1)++List.replicate (s.nodes.length-s.nodes.length) 0):=by
   refine ⟨hll,fun j v hv=>.inl ?_⟩
   rw [Nat.sub_self,List.replicate_zero,List.append_nil] at hv
   exact List.eq_of_mem_replicate (List.mem_of_getElem? hv)
  generalize List.replicate s.nodes.length (-1:Int)++List.replicate (s.nodes.length-s.nodes.length) 0=D at *
  repeat first|exact zE|refine wkG ?_|refine zB fun b=>?_|refine zC fun a' c' hc1 hc2=>?_|(show GJ _ _ _ _ _ _ _;first|(apply GJ.a;exact rfl;intro hg)|(apply GJ.o;exact rfl;intro hg)|refine GJ.t zO ?_|refine GJ.f zO ?_|refine GJ.ft zO ?_|refine GJ.ff zO ?_)
  refine Bs.mk ⟨[.blk bS 25 (zAf s a)],Sup.z,?_⟩
  repeat (first|exact zE|refine wkU ?_|(show QOk _ _ _ _ _ _ _;refine QOk.build rfl rfl Nf.auto ?_)|(show GJ _ _ _ _ _ _ _;first|with_reducible refine GJ.neF ?_|with_reducible refine GJ.neT ?_)|(show Br _ _ _;with_reducible refine Br.ne ?_)|refine zB (fun b=>?_)|refine zC (fun a' c' hc1 hc2=>?_)|(apply GJ.a;exact rfl;intro hg)|(apply GJ.o;exact rfl;intro hg))
  refine zF2 ho ?_
  rw [hr]
  repeat (first|exact zE|refine wkU ?_|(show QOk _ _ _ _ _ _ _;refine QOk.build rfl rfl Nf.auto ?_)|(show GJ _ _ _ _ _ _ _;first|with_reducible refine GJ.neF ?_|with_reducible refine GJ.neT ?_)|(show Br _ _ _;with_reducible refine Br.ne ?_)|refine zB (fun b=>?_)|refine zC (fun a' c' hc1 hc2=>?_)|(apply GJ.a;exact rfl;intro hg)|(apply GJ.o;exact rfl;intro hg))
  refine zIf ho hc RK (R:=.blk bS 25 (zAf s a)::own) ⟨Nat.le_refl _,by unfold maxLen;omega⟩ (rk r+1) r (by omega) hrl D ro [] _ (Le.refl _) hD (fun D2 hD2=>?_)
  dsimp only [List.nil_append]
  repeat (first|exact zE|refine wkU ?_|(show QOk _ _ _ _ _ _ _;refine QOk.build rfl rfl Nf.auto ?_)|(show GJ _ _ _ _ _ _ _;first|with_reducible refine GJ.neF ?_|with_reducible refine GJ.neT ?_)|(show Br _ _ _;with_reducible refine Br.ne ?_)|refine zB (fun b=>?_)|refine zC (fun a' c' hc1 hc2=>?_)|(apply GJ.a;exact rfl;intro hg)|(apply GJ.o;exact rfl;intro hg))
  exact Wk.outS Sup.z (.refl _) hk
set_option maxHeartbeats 8000000 in
theorem zEA (ho:SpecOk ro s a) (hM:MaxOk ro) (hT:TextIn s) (hk:∀ ro',Le ro ro'→K (flV (zBo s)) ro' own):CallOk Tryz.prog 35 #[.agg (zAf s a).toArray] ro own K:=by
 have hr2:=ho.defs
 have hm2:=hr2.max
 have hle2:=hr2.le
 unfold maxLen at hm2
 unfold zBo at hk
 refine CallOk.intro (args:=[_]) (rs:=[_]) T_ok Tryz.func35 Tryz.call35 rfl rfl (by kernel_rfl) rfl rfl ?_
 repeat first|exact zE|refine zP ?_|refine zB fun b=>?_|refine zC fun a' c' hc1 hc2=>?_|(apply GJ.a;exact rfl;intro hg)|(apply GJ.o;exact rfl;intro hg)
 refine zGk ho ?_
 by_cases hc:zAo s≠0
 ·have hk2:=hk ro (Le.refl _)
  rw [if_pos hc] at hk2
  dsimp only [flV] at hk2
  generalize zAo s=z at *
  repeat first|exact zE|refine zP ?_|refine zB fun b=>?_|refine zC fun a' c' hc1 hc2=>?_|(apply GJ.a;exact rfl;intro hg)|(apply GJ.o;exact rfl;intro hg)
  exact Wk.outS Sup.z (.refl _) hk2
 have hc0:zAo s=0:=Decidable.of_not_not hc
 rw [if_neg hc] at hk
 obtain ⟨hnn,hnd⟩:s.nodes.length≤2048∧s.defs.length≤64:=by
  obtain ⟨_,_,_,_,h1,h2,_,_⟩:=zA8 hc0
  exact ⟨h1,h2⟩
 have hv:=Ahead.of hc0
 have hdi:=zCt hc0
 rw [hc0]
 have hcl:(Value.agg (zAf s a).toArray).cells.toList=zAf s a:=rfl
 repeat first|exact zE|refine zP ?_|refine zB fun b=>?_|refine zC fun a' c' hc1 hc2=>?_|(apply GJ.a;exact rfl;intro hg)|(apply GJ.o;exact rfl;intro hg)
 rw [hcl]
 rename_i bS
 obtain ⟨bF,hbF⟩:∃ z:Nat,z=b:=⟨_,rfl⟩
 subst hbF
 refine OpOk.makeMapG (kv:=str) (vv:=Value.int .i64) (fun bm=>?_)
 repeat first|exact zE|refine zP ?_|refine zB fun b=>?_|refine zC fun a' c' hc1 hc2=>?_|(apply GJ.a;exact rfl;intro hg)|(apply GJ.o;exact rfl;intro hg)
 obtain ⟨p,hp⟩:∃ z:Nat,z=b:=⟨_,rfl⟩
 subst hp
 refine LoopOk.auto (ι:=Nat × List (List UInt8 × Int × Nat) × Nat) Keep.z (fun (j,M,cM)=>[(23,.int .i64 (j:Int))]) (fun (j,M,cM)=>.blk p 127 (zAf s a++[.map (some bm)])::.obj bm (mapG str (Value.int .i64) M cM)::.blk bF 58 [.int .i64 0,.int .i64 0]::.blk bS 25 (zAf s a)::own) (fun (j,M,cM) r'=>j≤s.defs.length∧KeysOk ((s.defs.take j).map (·.name)) M∧zDF s [] s.defs=zDF s ((s.defs.take j).map (·.name)) (s.defs.drop j)) (fun (j,M,cM)=>s.defs.length-j) (0,[],0) ?_ Sub.z Sup.z ?_
 ·exact ⟨Nat.zero_le _,KeysOk.nil,rfl⟩
 rintro ⟨j,M,cM⟩ ro2 hl2 ⟨i1,i2,i3⟩
 dsimp only [List.cons_append,List.nil_append] at i1 i2 i3 ⊢
 have hL2:Leq ro ro2:=⟨hl2.1⟩
 have ho2:=ho.lift hl2
 have hM2:=hM.le hl2
 by_cases hj:j<s.defs.length
 ·obtain ⟨d,hd⟩:∃ d,s.defs[j]?=some d:=⟨_,List.getElem?_eq_getElem hj⟩
  have hde:s.defs[j]=d:=Option.some.inj ((List.getElem?_eq_getElem hj).symm.trans hd)
  have hdd:=zBv s.defs hj
  rw [hde] at hdd
  have hdj:s.defs.drop j=d::s.defs.drop (j+1):=by rw [List.drop_eq_getElem_cons hj,hde]
  have htk:(s.defs.take (j+1)).map (·.name)=(s.defs.take j).map (·.name)++[d.name]:=by rw [List.take_add_one,hd,List.map_append];rfl
  have hmem:=List.mem_of_getElem? hd
  have hdn:=hT.defs d hmem
  obtain ⟨q1,q2⟩:=hdi d hmem
  obtain ⟨k,hk0⟩:=Int.eq_ofNat_of_zero_le q1
  rw [hdj,zDF] at i3
  have hr4:=ho2.defs
  repeat first|exact zE|refine zP ?_|refine zB fun b=>?_|refine zC fun a' c' hc1 hc2=>?_|(apply GJ.a;exact rfl;intro hg)|(apply GJ.o;exact rfl;intro hg)
  rw [Int.toNat_natCast]
  refine OpOk.loadRow rfl rfl (LdN.at hr4 hdd) rfl ?_
  repeat first|exact zE|refine zP ?_|refine zB fun b=>?_|refine zC fun a' c' hc1 hc2=>?_|(apply GJ.a;exact rfl;intro hg)|(apply GJ.o;exact rfl;intro hg)
  obtain ⟨bD,hbD⟩:∃ z:Nat,z=b:=⟨_,rfl⟩
  subst hbD
  refine zDw hM2 hdn (fun ro3 hl3=>?_)
  have hL3:Leq ro2 ro3:=⟨hl3.1⟩
  have ho3:=ho2.lift hl3
  have hM3:=hM2.le hl3
  by_cases hp:zAY d.name=false
  ·rw [if_pos hp] at i3
   have hk2:=hk ro3 (hl2.trans hl3)
   rw [i3,if_pos (show (5:Int)≠0 by decide)] at hk2
   rw [hp]
   dsimp only [flV] at hk2
   repeat first|exact zE|refine zP ?_|refine zB fun b=>?_|refine zC fun a' c' hc1 hc2=>?_|(apply GJ.a;exact rfl;intro hg)|(apply GJ.o;exact rfl;intro hg)
   exact Wk.outS Sup.z (.refl _) hk2
  rw [if_neg hp] at i3
  have hp1:zAY d.name=true:=by simpa using hp
  rw [hp1]
  repeat first|exact zE|refine zP ?_|refine zB fun b=>?_|refine zC fun a' c' hc1 hc2=>?_|(apply GJ.a;exact rfl;intro hg)|(apply GJ.o;exact rfl;intro hg)
  refine QOk.lookupOkG (kt:=9) (et:=3) (kv:=str) (vv:=Value.int .i64) (k:=d.name) (z:=.int .i64 0) rfl rfl Tryz.underlying125 (KeyEnc.text Tryz.underlying9) i2.map (by unfold maxLen;omega) (by kernel_rfl) ?_
  rw [i2.is]
  by_cases hin:d.name∈(s.defs.take j).map (·.name)
  ·rw [if_pos hin] at i3
   have hk2:=hk ro3 (hl2.trans hl3)
   rw [i3,if_pos (show (4:Int)≠0 by decide)] at hk2
   rw [decide_eq_true hin]
   dsimp only [flV] at hk2
   repeat first|exact zE|refine zP ?_|refine zB fun b=>?_|refine zC fun a' c' hc1 hc2=>?_|(apply GJ.a;exact rfl;intro hg)|(apply GJ.o;exact rfl;intro hg)
   exact Wk.outS Sup.z (.refl _) hk2
  rw [if_neg hin] at i3
  rw [decide_eq_false hin]
  repeat first|exact zE|refine zP ?_|refine zB fun b=>?_|refine zC fun a' c' hc1 hc2=>?_|(apply GJ.a;exact rfl;intro hg)|(apply GJ.o;exact rfl;intro hg)
  rw [hk0] at i3 ⊢
  have hkind:=lkind_ok (p:=p) (bm:=bm) (cM:=cM) (R:=.blk bF 58 [.int .i64 0,.int .i64 0]::.blk bS 25 (zAf s a)::own) ho3 hv hM3 hT i2 s.nodes.length k (by omega) (by omega) [] none 0 ro3 [.blk bD 44 (defV d)]
  refine hkind _ (Le.refl _) (Rds.nil _ _ _) (by simp;omega) (fun ro4 hl4=>?_)
  clear hkind
  have hk4:=fun r5 h5=>hk r5 (((hl2.trans hl3).trans hl4).trans h5)
  dsimp only [List.cons_append,List.nil_append,flV]
  generalize zAT s ((s.defs.take j).map (·.name)) s.nodes.length (k:Int) []=z at *
  obtain ⟨z1,z2⟩:=z
  dsimp only at i3 ⊢
  repeat first|exact zE|refine zP ?_|refine zB fun b=>?_|refine zC fun a' c' hc1 hc2=>?_|(apply GJ.a;exact rfl;intro hg)|(apply GJ.o;exact rfl;intro hg)
  by_cases hz:z1≠0
  ·rw [if_pos hz] at i3
   have hk2:=hk4 ro4 (Le.refl _)
   rw [i3,if_pos hz] at hk2
   dsimp only [flV] at hk2
   refine Br.t hz ?_
   repeat first|exact zE|refine zP ?_|refine zB fun b=>?_|refine zC fun a' c' hc1 hc2=>?_|(apply GJ.a;exact rfl;intro hg)|(apply GJ.o;exact rfl;intro hg)
   exact Wk.outS Sup.z (.refl _) hk2
  ·rw [if_neg hz] at i3
   have hL4:Leq ro3 ro4:=⟨hl4.1⟩
   refine Br.f hz ?_
   repeat first|exact zE|refine zP ?_|refine zB fun b=>?_|refine zC fun a' c' hc1 hc2=>?_|(apply GJ.a;exact rfl;intro hg)|(apply GJ.o;exact rfl;intro hg)
   refine OpOk.mapUpdateG (kt:=9) (et:=3) (kv:=str) (vv:=Value.int .i64) (k:=d.name) (v:=d.type) rfl rfl rfl Tryz.underlying125 (KeyEnc.text Tryz.underlying9) i2.map (by unfold maxLen;omega) (fun cM2=>?_)
   have hput:=i2.put (x:=d.name) (by unfold maxLen;omega) cM d.type
   rw [←htk] at hput i3
   generalize putG M cM d.name d.type=M2 at *
   repeat first|exact zE|refine zP ?_|refine zB fun b=>?_|refine zC fun a' c' hc1 hc2=>?_|(apply GJ.a;exact rfl;intro hg)|(apply GJ.o;exact rfl;intro hg)
   refine Wk.id ⟨(j+1,M2,cM2),?_,?_,Sub.z,Sup.z⟩
   all_goals try dsimp only
   ·exact ⟨by omega,hput,i3⟩
   ·omega
 ·obtain rfl:j=s.defs.length:=by omega
  rw [List.drop_length,zDF] at i3
  rw [i3,if_neg (fun h=>h rfl)] at hk
  have RK:=rank_ok hc0 (by rw [i3])
  repeat first|exact zE|refine zP ?_|refine zB fun b=>?_|refine zC fun a' c' hc1 hc2=>?_|(apply GJ.a;exact rfl;intro hg)|(apply GJ.o;exact rfl;intro hg)
  refine deep_ok ho2 hc0 RK ?_
  have hk2:=hk ro2 hl2
  obtain ⟨x,hx⟩:∃ x,x=depI s (zDi s):=⟨_,rfl⟩
  rw [←hx] at hk2 ⊢
  repeat first|exact zE|refine zP ?_|refine zB fun b=>?_|refine zC fun a' c' hc1 hc2=>?_|(apply GJ.a;exact rfl;intro hg)|(apply GJ.o;exact rfl;intro hg)
  by_cases h200:200<x
  ·rw [if_pos h200] at hk2
   dsimp only [flV] at hk2
   refine Br.t (by omega) ?_
   repeat first|exact zE|refine zP ?_|refine zB fun b=>?_|refine zC fun a' c' hc1 hc2=>?_|(apply GJ.a;exact rfl;intro hg)|(apply GJ.o;exact rfl;intro hg)
   refine zF2 ho2 ?_
   repeat first|exact zE|refine zP ?_|refine zB fun b=>?_|refine zC fun a' c' hc1 hc2=>?_|(apply GJ.a;exact rfl;intro hg)|(apply GJ.o;exact rfl;intro hg)
   exact Wk.outS Sup.z (.refl _) hk2
  ·rw [if_neg h200] at hk2
   dsimp only [flV] at hk2
   refine Br.f (by omega) ?_
   repeat first|exact zE|refine zP ?_|refine zB fun b=>?_|refine zC fun a' c' hc1 hc2=>?_|(apply GJ.a;exact rfl;intro hg)|(apply GJ.o;exact rfl;intro hg)
   exact Wk.outS Sup.z (.refl _) hk2
end
def FewT (d:zAh):Prop:=d.text.length≤300∧d.fields.length≤60∧d.cases.length≤60
def SmallT (s:zAd):Prop:=(∀ d∈s.nodes,FewT d)∧s.nodes.length≤300∧s.defs.length≤64
section
variable {ro:Ro}{own:Chs}{K:Value→Ro→Chs→Prop}
set_option maxHeartbeats 2000000 in
theorem zDT {s:zAd}{a:zAp} (ho:SpecOk ro s a) (h1:¬SmallT s→K (.bool false) ro own) (h2:SmallT s→K (.bool true) ro own):CallOk Tryz.prog 33 #[.agg (zAf s a).toArray] ro own K:=by
 have hr1:=ho.nodes
 have hm1:=hr1.max
 have hle1:=hr1.le
 have hr2:=ho.defs
 have hm2:=hr2.max
 have hle2:=hr2.le
 unfold maxLen at hm1 hm2
 refine CallOk.intro (args:=[_]) (rs:=[_]) T_ok Tryz.func33 Tryz.call33 rfl rfl (by kernel_rfl) rfl rfl ?_
 repeat first|exact zE|refine zP ?_|refine zB fun b=>?_|refine zC fun a' c' hc1 hc2=>?_|(apply GJ.a;exact rfl;intro hg)|(apply GJ.o;exact rfl;intro hg)
 refine LoopOk.at (ι:=Nat) Keep.z (fun i=>[(8,.int .i64 (i:Int))]) (fun i=>.blk b 25 (zAf s a)::own) (fun i=>i≤s.nodes.length∧∀ d∈s.nodes.take i,FewT d) (fun i=>s.nodes.length-i) 0 ?_ Sub.z Sup.z ?_
 ·exact ⟨Nat.zero_le _,fun d hd=>by simp at hd⟩
 rintro i ⟨i1,i2⟩
 dsimp only [List.cons_append,List.nil_append] at i1 i2 ⊢
 by_cases hi:i<s.nodes.length
 ·obtain ⟨d,hd⟩:∃ d,s.nodes[i]?=some d:=⟨_,List.getElem?_eq_getElem hi⟩
  obtain ⟨x,hx⟩:∃ x,a.xs[i]?=some x:=⟨_,List.getElem?_eq_getElem (by rw [ho.len];exact hi)⟩
  have hdr:=zAj _ _ _ _ _ hd hx
  have ht:s.nodes.take (i+1)=s.nodes.take i++[d]:=by rw [List.take_add_one,hd];rfl
  repeat first|exact zE|refine zP ?_|refine zB fun b=>?_|refine zC fun a' c' hc1 hc2=>?_|(apply GJ.a;exact rfl;intro hg)|(apply GJ.o;exact rfl;intro hg)
  rw [Int.toNat_natCast]
  refine OpOk.loadRow rfl rfl (LdN.at hr1 hdr) rfl ?_
  repeat first|exact zE|refine zP ?_|refine zB fun b=>?_|refine zC fun a' c' hc1 hc2=>?_|(apply GJ.a;exact rfl;intro hg)|(apply GJ.o;exact rfl;intro hg)
  refine Br.cases (fun hw=>?_) (fun hw=>?_)
  ·repeat first|exact zE|refine zP ?_|refine zB fun b=>?_|refine zC fun a' c' hc1 hc2=>?_|(apply GJ.a;exact rfl;intro hg)|(apply GJ.o;exact rfl;intro hg)
   refine Wk.outS Sup.z (.refl _) (h1 fun hs=>?_)
   have:=hs.1 d (List.mem_of_getElem? hd)
   unfold FewT at this
   omega
  ·repeat first|exact zE|refine zP ?_|refine zB fun b=>?_|refine zC fun a' c' hc1 hc2=>?_|(apply GJ.a;exact rfl;intro hg)|(apply GJ.o;exact rfl;intro hg)
   refine Wk.id ⟨i+1,⟨rfl,?_⟩,?_,Sub.z,Sup.z⟩
   all_goals try dsimp only
   ·refine ⟨by omega,fun d' hd'=>?_⟩
    rw [ht] at hd'
    rcases List.mem_append.1 hd' with h|h
    ·exact i2 d' h
    ·rw [List.mem_singleton.1 h];unfold FewT;omega
   ·omega
 ·obtain rfl:i=s.nodes.length:=by omega
  rw [List.take_length] at i2
  by_cases hs1:s.nodes.length≤300
  ·by_cases hs2:s.defs.length≤64
   ·have hk2:=h2 ⟨i2,hs1,hs2⟩
    repeat first|exact zE|refine zP ?_|refine zB fun b=>?_|refine zC fun a' c' hc1 hc2=>?_|(apply GJ.a;exact rfl;intro hg)|(apply GJ.o;exact rfl;intro hg)
    exact Wk.outV Sup.z hk2 (congrArg Value.bool (by simp<;>omega))
   ·have hk2:=h1 (fun h=>hs2 h.2.2)
    repeat first|exact zE|refine zP ?_|refine zB fun b=>?_|refine zC fun a' c' hc1 hc2=>?_|(apply GJ.a;exact rfl;intro hg)|(apply GJ.o;exact rfl;intro hg)
    exact Wk.outV Sup.z hk2 (congrArg Value.bool (by simp<;>omega))
  ·have hk2:=h1 (fun h=>hs1 h.2.1)
   repeat first|exact zE|refine zP ?_|refine zB fun b=>?_|refine zC fun a' c' hc1 hc2=>?_|(apply GJ.a;exact rfl;intro hg)|(apply GJ.o;exact rfl;intro hg)
   exact Wk.outV Sup.z hk2 (congrArg Value.bool (by simp<;>omega))
end
section
variable {ro:Ro}{s:zAd}{a:zAp}{rk:Nat→Nat}
end
theorem zFE {α β:Type}{f:α→List β}:∀ {l:List α}{x:α},x∈l→(f x).length≤(l.flatMap f).length
 | [],x,h=>by cases h
 | y::l,x,h=>by
   rw [List.flatMap_cons,List.length_append]
   rcases List.mem_cons.1 h with rfl|h
   ·omega
   ·have:=zFE (f:=f) h;omega
theorem pre_len {s:zAd} (hc:zAo s=0) {d:DefD} (hd:d∈s.defs):(preI (kidsAt s) s.nodes.length d.type).length≤s.nodes.length:=by
 have h1:=allT_len hc
 have h2:=zFE (f:=preI (kidsAt s) s.nodes.length) (l:=s.defs.map (·.type)) (x:=d.type) (List.mem_map.2 ⟨d,hd,rfl⟩)
 unfold allT at h1
 omega
theorem zDy {s:zAd} (hv:Ahead s):∀ (n a:Nat),a<n→a<s.nodes.length→∀ k∈preI (kidsAt s) s.nodes.length a,0≤k∧k≤(a:Int)
 | 0,a,h,_=>by omega
 | n+1,a,hn,ha=>by
   intro k hk
   rw [zAL hv.kidsAt ha] at hk
   rcases List.mem_cons.1 hk with rfl|hk
   ·omega
   ·obtain ⟨x,hx,hkx⟩:=List.mem_flatMap.1 hk
    have:=hv.kidsAt a x hx
    obtain ⟨y,rfl⟩:=Int.eq_ofNat_of_zero_le this.1
    have:=zDy hv n y (by omega) (by omega) k hkx
    omega
section
variable {ro:Ro}{K:Value→Ro→Chs→Prop}{s:zAd}{a:zAp}{rk:Nat→Nat}
end
section
variable {ro:Ro}{K:Value→Ro→Chs→Prop}{s:zAd}{a:zAp}{rk:Nat→Nat}
end
def askV (q:AskD):List Value:=[str q.name,.int .i64 (q.record:Int),.int .i64 (q.field:Int),.bool q.number]
def zBb (l:List AskD):List Value:=l.flatMap askV
theorem zIp (l:List AskD):(zBb l).length=l.length*4:=by induction l with
 | nil=>rfl
 | cons f l ih=>simp [zBb,askV] at ih ⊢;omega
theorem zGR (l:List AskD):∀ {i:Nat} (h:i<l.length),((zBb l).drop (i*4)).take 4=askV l[i]:=by
 induction l with
 | nil=>intro i h;simp at h
 | cons f l ih =>
   intro i h
   cases i with
   | zero=>rfl
   | succ i =>
     have:=ih (i:=i) (by simpa using h)
     rw [show (i+1)*4=i*4+4 by omega,Nat.add_comm]
     show List.take 4 (List.drop (4+i*4) (askV f++zBb l))=_
     rw [←List.drop_drop,List.drop_left' (by rfl)]
     simpa using this
theorem zGL (q:AskD) (l:List AskD) (x:List UInt8):zAO (q::l) x=if q.name=x then some q else zAO l x:=by
 unfold zAO
 rw [List.find?_cons]
 by_cases h:q.name=x
 ·rw [decide_eq_true h,if_pos h]
 ·rw [decide_eq_false h,if_neg h]
def noAsk:List Value:=[str [],.int .i64 0,.int .i64 0,.bool false]
section
variable {ro:Ro}{own:Chs}{K:Value→Ro→Chs→Prop}
theorem find_ok {a:Option Addr}{n c:Nat}{l:List AskD}{x:List UInt8} (hr:Rds ro own a n c 4 (zBb l)) (hl:l.length=n) (hk:K (.tuple #[.agg (match zAO l x with|some q=>askV q|none=>noAsk).toArray,.bool (zAO l x).isSome]) ro own):CallOk Tryz.prog 118 #[.slice a n c,str x] ro own K:=by
 subst hl
 have hm:=hr.max
 have hle:=hr.le
 unfold maxLen at hm
 refine CallOk.intro (args:=[_,_]) (rs:=[_,_]) T_ok Tryz.func118 Tryz.call118 rfl rfl (by kernel_rfl) rfl rfl ?_
 repeat first|exact zE|refine zP ?_|refine zB fun b=>?_|refine zC fun a' c' hc1 hc2=>?_|(apply GJ.a;exact rfl;intro hg)|(apply GJ.o;exact rfl;intro hg)
 refine LoopOk.at (ι:=Nat) Keep.z (fun i=>[(10,.int .i64 (i:Int))]) (fun i=>.blk b 176 noAsk::own) (fun i=>i≤l.length∧zAO l x=zAO (l.drop i) x) (fun i=>l.length-i) 0 ?_ Sub.z Sup.z ?_
 ·exact ⟨Nat.zero_le _,rfl⟩
 rintro i ⟨i1,i2⟩
 dsimp only [List.cons_append,List.nil_append] at i1 i2 ⊢
 by_cases hi:i<l.length
 ·obtain ⟨q,hq⟩:∃ q,l[i]?=some q:=⟨_,List.getElem?_eq_getElem hi⟩
  have hqe:l[i]=q:=Option.some.inj ((List.getElem?_eq_getElem hi).symm.trans hq)
  have hd:=zGR l hi
  rw [hqe] at hd
  have hdr:l.drop i=q::l.drop (i+1):=by rw [List.drop_eq_getElem_cons hi,hqe]
  rw [hdr,zGL] at i2
  repeat first|exact zE|refine zP ?_|refine zB fun b=>?_|refine zC fun a' c' hc1 hc2=>?_|(apply GJ.a;exact rfl;intro hg)|(apply GJ.o;exact rfl;intro hg)
  rw [Int.toNat_natCast]
  refine OpOk.loadRow rfl rfl (LdN.atR hr hd rfl) rfl ?_
  repeat first|exact zE|refine zP ?_|refine zB fun b=>?_|refine zC fun a' c' hc1 hc2=>?_|(apply GJ.a;exact rfl;intro hg)|(apply GJ.o;exact rfl;intro hg)
  by_cases he:q.name=x
  ·rw [if_pos he] at i2
   rw [i2] at hk
   dsimp only [Option.isSome] at hk
   refine Br.t he ?_
   repeat first|exact zE|refine zP ?_|refine zB fun b=>?_|refine zC fun a' c' hc1 hc2=>?_|(apply GJ.a;exact rfl;intro hg)|(apply GJ.o;exact rfl;intro hg)
   exact Wk.outS Sup.z (.refl _) hk
  ·rw [if_neg he] at i2
   refine Br.f he ?_
   repeat first|exact zE|refine zP ?_|refine zB fun b=>?_|refine zC fun a' c' hc1 hc2=>?_|(apply GJ.a;exact rfl;intro hg)|(apply GJ.o;exact rfl;intro hg)
   refine Wk.id ⟨i+1,⟨rfl,?_⟩,?_,Sub.z,Sup.z⟩
   all_goals try dsimp only
   ·exact ⟨by omega,i2⟩
   ·omega
 ·obtain rfl:i=l.length:=by omega
  rw [List.drop_length] at i2
  rw [i2] at hk
  dsimp only [zAO,List.find?_nil,Option.isSome] at hk
  repeat first|exact zE|refine zP ?_|refine zB fun b=>?_|refine zC fun a' c' hc1 hc2=>?_|(apply GJ.a;exact rfl;intro hg)|(apply GJ.o;exact rfl;intro hg)
  exact Wk.outS Sup.z (.refl _) hk
theorem zBY {d:zAh}{z:zA5}{x:List UInt8} (ho:NodeOk ro d z) (hk:K (.int .i64 (zAt d x)) ro own):CallOk Tryz.prog 73 #[.agg (zAl d z).toArray,str x] ro own K:=by
 have hr:=ho.fields
 have hm:=hr.max
 have hle:=hr.le
 unfold maxLen at hm
 have hcl:(Value.agg (zAl d z).toArray).cells.toList=zAl d z:=rfl
 refine CallOk.intro (args:=[_,_]) (rs:=[_]) T_ok Tryz.func73 Tryz.call73 rfl rfl (by kernel_rfl) rfl rfl ?_
 repeat first|exact zE|refine zP ?_|refine zB fun b=>?_|refine zC fun a' c' hc1 hc2=>?_|(apply GJ.a;exact rfl;intro hg)|(apply GJ.o;exact rfl;intro hg)
 rw [hcl]
 refine LoopOk.at (ι:=Nat) Keep.z (fun i=>[(10,.int .i64 (i:Int))]) (fun i=>.blk b 40 (zAl d z)::own) (fun i=>i≤d.fields.length∧zAt d x=zBl (d.fields.drop i) x i) (fun i=>d.fields.length-i) 0 ?_ Sub.z Sup.z ?_
 ·exact ⟨Nat.zero_le _,rfl⟩
 rintro i ⟨i1,i2⟩
 dsimp only [List.cons_append,List.nil_append] at i1 i2 ⊢
 by_cases hi:i<d.fields.length
 ·obtain ⟨f,hf⟩:∃ f,d.fields[i]?=some f:=⟨_,List.getElem?_eq_getElem hi⟩
  have hfe:d.fields[i]=f:=Option.some.inj ((List.getElem?_eq_getElem hi).symm.trans hf)
  have hd:=zAn d.fields hi
  rw [hfe] at hd
  have hdr:d.fields.drop i=f::d.fields.drop (i+1):=by rw [List.drop_eq_getElem_cons hi,hfe]
  rw [hdr,zBl] at i2
  repeat first|exact zE|refine zP ?_|refine zB fun b=>?_|refine zC fun a' c' hc1 hc2=>?_|(apply GJ.a;exact rfl;intro hg)|(apply GJ.o;exact rfl;intro hg)
  rw [Int.toNat_natCast]
  refine OpOk.loadRow rfl rfl (LdN.at hr hd) rfl ?_
  repeat first|exact zE|refine zP ?_|refine zB fun b=>?_|refine zC fun a' c' hc1 hc2=>?_|(apply GJ.a;exact rfl;intro hg)|(apply GJ.o;exact rfl;intro hg)
  by_cases he:f.name=x
  ·rw [if_pos he] at i2
   rw [i2] at hk
   refine Br.t he ?_
   repeat first|exact zE|refine zP ?_|refine zB fun b=>?_|refine zC fun a' c' hc1 hc2=>?_|(apply GJ.a;exact rfl;intro hg)|(apply GJ.o;exact rfl;intro hg)
   exact Wk.outS Sup.z (.refl _) hk
  ·rw [if_neg he] at i2
   refine Br.f he ?_
   repeat first|exact zE|refine zP ?_|refine zB fun b=>?_|refine zC fun a' c' hc1 hc2=>?_|(apply GJ.a;exact rfl;intro hg)|(apply GJ.o;exact rfl;intro hg)
   refine Wk.id ⟨i+1,⟨rfl,?_⟩,?_,Sub.z,Sup.z⟩
   all_goals try dsimp only
   ·exact ⟨by omega,i2⟩
   ·omega
 ·obtain rfl:i=d.fields.length:=by omega
  rw [List.drop_length,zBl] at i2
  rw [i2] at hk
  repeat first|exact zE|refine zP ?_|refine zB fun b=>?_|refine zC fun a' c' hc1 hc2=>?_|(apply GJ.a;exact rfl;intro hg)|(apply GJ.o;exact rfl;intro hg)
  exact Wk.outS Sup.z (.refl _) hk
end
theorem zDZ {K:Int→List (List UInt8)→Int × Int}{a:Int}:∀ {fs:List zAm}{ns:List (List UInt8)},(recS K a fs ns).1=0→(fs.map (·.name)).Nodup∧(∀ f∈fs,f.name∉ns∧zAY f.name=true)
 | [],_,_=>⟨List.nodup_nil,fun f hf=>(by cases hf)⟩
 | x::fs,ns,h=>by
   unfold recS at h
   split at h
   ·cases h
   rename_i hp
   split at h
   ·cases h
   rename_i hn
   split at h
   ·rename_i hx;exact absurd h hx
   obtain ⟨g1,g2⟩:=zDZ h
   refine ⟨?_,fun f hf=>?_⟩
   ·rw [List.map_cons,List.nodup_cons]
    refine ⟨fun hm=>?_,g1⟩
    obtain ⟨f,hf,hfn⟩:=List.mem_map.1 hm
    exact (g2 f hf).1 (by rw [hfn];simp)
   ·rcases List.mem_cons.1 hf with rfl|hf
    ·exact ⟨hn,by simpa using hp⟩
    ·exact ⟨fun h=>(g2 f hf).1 (List.mem_append.2 (.inl h)),(g2 f hf).2⟩
theorem zDs {s:zAd} (h:(zBo s).1=0):zAo s=0∧(zDF s [] s.defs).1=0:=by
 unfold zBo at h
 split at h
 ·rename_i hc;exact absurd h hc
 rename_i hc
 split at h
 ·rename_i hd;exact absurd h hd
 rename_i hd
 exact ⟨Decidable.of_not_not hc,Decidable.of_not_not hd⟩
theorem zDA:∀ (fs:List zAm) (name:List UInt8) (i:Nat),(zBl fs name i=-1∧∀ f∈fs,f.name≠name)∨∃ (j:Nat) (f:zAm),zBl fs name i=((i+j:Nat):Int)∧fs[j]?=some f∧f.name=name
 | [],name,i=>.inl ⟨rfl,fun f hf=>by cases hf⟩
 | x::fs,name,i=>by
   unfold zBl
   by_cases hx:x.name=name
   ·rw [if_pos hx]
    exact .inr ⟨0,x,rfl,rfl,hx⟩
   ·rw [if_neg hx]
    rcases zDA fs name (i+1) with ⟨h1,h2⟩|⟨j,f,h1,h2,h3⟩
    ·refine .inl ⟨h1,fun f hf=>?_⟩
     rcases List.mem_cons.1 hf with rfl|hf
     ·exact hx
     ·exact h2 f hf
    ·refine .inr ⟨j+1,f,?_,by simpa using h2,h3⟩
     rw [h1];omega
theorem zDo (d:zAh) (name:List UInt8):(zAt d name=-1∧∀ f∈d.fields,f.name≠name)∨∃ (j:Nat) (f:zAm),zAt d name=(j:Int)∧d.fields[j]?=some f∧f.name=name:=by
 rcases zDA d.fields name 0 with h|⟨j,f,h1,h2,h3⟩
 ·exact .inl h
 ·refine .inr ⟨j,f,?_,h2,h3⟩
  have:zAt d name=((0+j:Nat):Int):=h1
  rw [this,Nat.zero_add]
theorem zHV {d:zAh} (hn:(d.fields.map (·.name)).Nodup) {i j:Nat}{f g:zAm} (hi:d.fields[i]?=some f) (hj:d.fields[j]?=some g) (h:f.name=g.name):i=j:=by
 have h1:(d.fields.map (·.name))[i]?=some f.name:=by rw [List.getElem?_map,hi];rfl
 have h2:(d.fields.map (·.name))[j]?=some f.name:=by rw [List.getElem?_map,hj,h];rfl
 obtain ⟨l1,e1⟩:=List.getElem?_eq_some_iff.1 h1
 obtain ⟨l2,e2⟩:=List.getElem?_eq_some_iff.1 h2
 have hp:=List.pairwise_iff_getElem.1 (List.nodup_iff_pairwise_ne.1 hn)
 rcases Nat.lt_trichotomy i j with h|h|h
 ·exact absurd (e1.trans e2.symm) (hp i j l1 l2 h)
 ·exact h
 ·exact absurd (e2.trans e1.symm) (hp j i l2 l1 h)
def derOf (d:zAh) (name:List UInt8):Int:=match d.fields.findIdx? (fun f=>decide (f.derive=1∨f.derive=2)&&decide (f.of=name)) with
 | some k=>(k:Int)
 | none=>-1
def lkV (q:Nat × Nat × Nat):Value:=.agg #[.int .i64 (q.1:Int),.int .i64 (q.2.1:Int),.int .i64 (q.2.2:Int)]
structure LkM (lk:Lk) (M:List (Int × (Nat × Nat × Nat) × Nat)):Prop where
 map:MapOk (fun _:Int=>True) M
 is:∀ x:Nat,getG M (x:Int)=(lk x).map (fun p=>(x,p.1,p.2))
theorem LkM.nil:LkM noLk []:=⟨MapOk.nil,fun x=>rfl⟩
theorem LkM.put {lk:Lk}{M:List (Int × (Nat × Nat × Nat) × Nat)} (h:LkM lk M) (x r f c:Nat):LkM (zEM lk x r f) (putG M c (x:Int) (x,r,f)):=by
 refine ⟨h.map.put trivial c _,fun y=>?_⟩
 rw [zBF]
 unfold zEM
 by_cases hy:y=x
 ·subst hy;simp
 ·rw [if_neg (by omega),if_neg hy];exact h.is y
def LkIn (s:zAd) (lk:Lk):Prop:=∀ x r f,lk x=some (r,f)→∃ d,s.nodes[r]?=some d∧f<d.fields.length
theorem zBh {d:zAh} (hf:zB1 d=0) (h:0<d.fields.length):d.kind=5:=by
 unfold zB1 at hf
 split at hf
 ·cases hf
 split at hf
 ·cases hf
 split at hf
 ·cases hf
 split at hf
 ·cases hf
 omega
theorem zBG {l:List zAm}{i o:Nat}{f:zAm} (hf:l[i]?=some f) (ho:o<5):(zA0 l)[i*5+o]?=(zA1 f)[o]?:=by
 have hi:=(List.getElem?_eq_some_iff.1 hf).1
 have h:=zAn l hi
 rw [show l[i]=f from Option.some.inj ((List.getElem?_eq_getElem hi).symm.trans hf)] at h
 rw [←h,List.getElem?_take_of_lt ho,List.getElem?_drop]
section
variable {ro:Ro}{K:Value→Ro→Chs→Prop}{s:zAd}{a:zAp}{p bm cM:Nat}{M:List (Int × (Nat × Nat × Nat) × Nat)}{G:Chs}
set_option maxHeartbeats 4000000 in
theorem sized_ok (ho:SpecOk ro s a) (hv:Ahead s) {t r f:Nat}{d:zAh} (hd:s.nodes[r]?=some d) (hf:f<d.fields.length) (hk:K (.bool (zB3 s r f)) ro (.blk p 138 (zAf s a++[.map (some bm)])::.obj bm (mapG (Value.int .i64) lkV M cM)::G)) :
  CallOk Tryz.prog 166 #[ptr' p,.agg #[.int .i64 (t:Int),.int .i64 (r:Int),.int .i64 (f:Int)]] ro (.blk p 138 (zAf s a++[.map (some bm)])::.obj bm (mapG (Value.int .i64) lkV M cM)::G) K:=by
 have hr1:=ho.nodes
 have hm:=hr1.max
 have hnc:=hr1.le
 unfold maxLen at hm
 obtain ⟨x,hx⟩:∃ x,a.xs[r]?=some x:=⟨_,List.getElem?_eq_getElem (by rw [ho.len];exact (List.getElem?_eq_some_iff.1 hd).1)⟩
 have hrl:=(List.getElem?_eq_some_iff.1 hd).1
 have hn1:=ho.each r d x hd hx
 have hfr:=hn1.fields
 have hfm:=hfr.max
 have hfl:=hfr.le
 unfold maxLen at hfm
 have hdr1:=zAj _ _ _ _ _ hd hx
 obtain ⟨hfo,hks⟩:=hv r d hd
 have h5:=zBh hfo (by omega)
 obtain ⟨g,hg⟩:∃ g,d.fields[f]?=some g:=⟨_,List.getElem?_eq_getElem hf⟩
 have hge:d.fields[f]=g:=Option.some.inj ((List.getElem?_eq_getElem hf).symm.trans hg)
 have hgd:=zAn d.fields hf
 rw [hge] at hgd
 unfold zB3 at hk
 rw [hd] at hk
 dsimp only at hk
 rw [hg] at hk
 dsimp only at hk
 refine CallOk.intro (args:=[_,_]) (rs:=[_]) T_ok Tryz.func166 Tryz.call166 rfl rfl (by kernel_rfl) rfl rfl ?_
 repeat first|exact zE|refine zP ?_|refine zB fun b=>?_|refine zC fun a' c' hc1 hc2=>?_|(apply GJ.a;exact rfl;intro hg)|(apply GJ.o;exact rfl;intro hg)
 rw [Int.toNat_natCast]
 refine QOk.loadRow rfl rfl (LdN.at hr1 hdr1) rfl ?_
 repeat first|exact zE|refine zP ?_|refine zB fun b=>?_|refine zC fun a' c' hc1 hc2=>?_|(apply GJ.a;exact rfl;intro hg)|(apply GJ.o;exact rfl;intro hg)
 rw [Int.toNat_natCast]
 refine OpOk.loadRow rfl rfl (LdN.at hfr hgd) rfl ?_
 repeat first|exact zE|refine zP ?_|refine zB fun b=>?_|refine zC fun a' c' hc1 hc2=>?_|(apply GJ.a;exact rfl;intro hg)|(apply GJ.o;exact rfl;intro hg)
 refine zBY hn1 ?_
 have hix:=zDo d g.of
 by_cases h1:g.derive=1
 rotate_left
 ·rw [decide_eq_false h1,Bool.false_and,Bool.false_and] at hk
  generalize zAt d g.of=z at *
  repeat first|exact zE|refine zP ?_|refine zB fun b=>?_|refine zC fun a' c' hc1 hc2=>?_|(apply GJ.a;exact rfl;intro hg)|(apply GJ.o;exact rfl;intro hg)
  exact Wk.outS Sup.z (.refl _) hk
 rw [decide_eq_true h1,Bool.true_and] at hk
 rcases hix with ⟨e1,_⟩|⟨j,h,e1,e2,e3⟩
 ·rw [e1,show decide ((0:Int)≤-1)=false by decide,Bool.false_and] at hk
  rw [e1]
  repeat first|exact zE|refine zP ?_|refine zB fun b=>?_|refine zC fun a' c' hc1 hc2=>?_|(apply GJ.a;exact rfl;intro hg)|(apply GJ.o;exact rfl;intro hg)
  exact Wk.outS Sup.z (.refl _) hk
 have hjl:=(List.getElem?_eq_some_iff.1 e2).1
 have hht:h.type∈zAc d:=by rw [zAz hfo h5];exact List.mem_map.2 ⟨h,List.mem_of_getElem? e2,rfl⟩
 obtain ⟨q1,q2⟩:=hks _ hht
 obtain ⟨k,hk0⟩:=Int.eq_ofNat_of_zero_le q1
 obtain ⟨e,he⟩:∃ e,s.nodes[k]?=some e:=⟨_,List.getElem?_eq_getElem (by omega)⟩
 obtain ⟨y,hy⟩:∃ y,a.xs[k]?=some y:=⟨_,List.getElem?_eq_getElem (by rw [ho.len];omega)⟩
 have hg1:(zA0 d.fields)[j*5+1]?=some (.int .i64 (k:Int)):=by rw [zBG e2 (by decide),←hk0];rfl
 have hg0:(zA4 s.nodes a.xs)[k*18+0]?=some (.int .i64 e.kind):=by rw [zBr he hy (by decide)];rfl
 rw [e1,Int.toNat_natCast,e2] at hk
 dsimp only at hk
 rw [hk0,Int.toNat_natCast,he] at hk
 dsimp only at hk
 rw [decide_eq_true (by omega:(0:Int)≤(j:Int)),Bool.true_and] at hk
 rw [e1]
 repeat first|exact zE|refine zP ?_|refine zB fun b=>?_|refine zC fun a' c' hc1 hc2=>?_|(apply GJ.a;exact rfl;intro hg)|(apply GJ.o;exact rfl;intro hg)
 rw [Int.toNat_natCast,Nat.add_assoc]
 refine QOk.load rfl rfl (Ld.rs hfr hg1) ?_
 repeat first|exact zE|refine zP ?_|refine zB fun b=>?_|refine zC fun a' c' hc1 hc2=>?_|(apply GJ.a;exact rfl;intro hg)|(apply GJ.o;exact rfl;intro hg)
 rw [Int.toNat_natCast,Nat.add_assoc]
 refine QOk.load rfl rfl (Ld.rs hr1 hg0) ?_
 repeat first|exact zE|refine zP ?_|refine zB fun b=>?_|refine zC fun a' c' hc1 hc2=>?_|(apply GJ.a;exact rfl;intro hg)|(apply GJ.o;exact rfl;intro hg)
 exact Wk.outS Sup.z (.refl _) hk
end
theorem zEP:∀ {l m:List (Int × Bool × Nat)},l.Nodup→(∀ x∈l,x∈m)→l.length≤m.length
 | [],m,_,_=>Nat.zero_le _
 | x::l,m,hn,hs=>by
   have hn2:=List.nodup_cons.1 hn
   have hx:=hs x (List.mem_cons_self ..)
   have:=zEP (m:=m.erase x) hn2.2 (fun y hy=>(List.mem_erase_of_ne (fun (e:y=x)=>hn2.1 (e▸hy))).2 (hs y (List.mem_cons_of_mem _ hy)))
   rw [List.length_erase_of_mem hx] at this
   have:=List.length_pos_of_mem hx
   rw [List.length_cons]
   omega
structure MarkI (L:List Int) (I:List (Int × Bool × Nat)) (c:Nat):Prop where
 map:MapOk (fun _:Int=>True) I
 is:∀ x,getG I x=if x∈L then some true else none
 born:BornOk I c
theorem MarkI.get {L:List Int}{I:List (Int × Bool × Nat)}{c:Nat} (h:MarkI L I c) (x:Int):((getG I x).map Value.bool).getD (.bool false)=.bool (decide (x∈L)):=by
 rw [h.is]
 by_cases hx:x∈L
 ·rw [if_pos hx,decide_eq_true hx];rfl
 ·rw [if_neg hx,decide_eq_false hx];rfl
theorem MarkI.mem {L:List Int}{I:List (Int × Bool × Nat)}{c:Nat} (h:MarkI L I c) {q:Int × Bool × Nat} (hq:q∈I):q.1∈L:=by
 obtain ⟨j,hj⟩:=List.getElem?_of_mem hq
 have h1:=(Go.E.get_at (l:=I) (p:=q) h.map.nodup hj).1
 rw [h.is] at h1
 by_cases hx:q.1∈L
 ·exact hx
 ·rw [if_neg hx] at h1;cases h1
theorem MarkI.has {L:List Int}{I:List (Int × Bool × Nat)}{c:Nat} (h:MarkI L I c) {x:Int} (hx:x∈L):∃ q∈I,q.1=x:=by
 refine Classical.byContradiction fun hn=>?_
 have h1:=(Go.E.get_none (l:=I) (k:=x) (fun q hq e=>hn ⟨q,hq,e⟩)).1
 rw [h.is,if_pos hx] at h1
 cases h1
structure SubI (I S:List (Int × Bool × Nat)):Prop where
 sub:∀ p∈S,p∈I
 nodup:S.Nodup
theorem SubI.snoc {M S:List (Int × Bool × Nat)} (h:SubI M S) {p:Int × Bool × Nat} (hp:p∈M) (hn:p∉S):SubI M (S++[p]):=by
 refine ⟨fun q hq=>?_,?_⟩
 ·rcases List.mem_append.1 hq with hq|hq
  ·exact h.sub q hq
  ·simp at hq;subst hq;exact hp
 ·rw [List.nodup_append]
  exact ⟨h.nodup,by simp,fun x hx y hy=>by simp at hy;subst hy;exact fun e=>hn (e▸hx)⟩
def zEy (s:zAd) (lk:Lk) (L:List Int) (k:Int):Bool:=match lk k.toNat with
 | none=>true
 | some (r,f)=>decide (((r:Nat):Int)∈L)||!zB3 s r f
section
variable {ro:Ro}{K:Value→Ro→Chs→Prop}{s:zAd}{a:zAp}{p bm cM:Nat}{M:List (Int × (Nat × Nat × Nat) × Nat)}{G:Chs}
theorem zIs {bI bi c:Nat}{k:Int}{L:List Int}{I:List (Int × Bool × Nat)}{X R:Chs} (hI:MarkI L I c)
  (hk:∀ I' c',MarkI (L++[k]) I' c'→K (.bool true) ro (X++(.obj bi (mapG (Value.int .i64) Value.bool I' c')::.blk bI 82 [.map (some bi)]::R))) :
  CallOk Tryz.prog 165 #[.int .i64 k,ptr' bI] ro (X++(.obj bi (mapG (Value.int .i64) Value.bool I c)::.blk bI 82 [.map (some bi)]::R)) K:=by
 refine CallOk.intro (args:=[_,_]) (rs:=[_]) T_ok Tryz.func165 Tryz.call165 rfl rfl (by kernel_rfl) rfl rfl ?_
 repeat first|exact zE|refine zP ?_|refine zB fun b=>?_|refine zC fun a' c' hc1 hc2=>?_|(apply GJ.a;exact rfl;intro hg)|(apply GJ.o;exact rfl;intro hg)
 refine OpOk.mapUpdateB (kt:=3) (et:=4) (kv:=Value.int .i64) (vv:=Value.bool) (k:=k) (v:=true) rfl rfl rfl Tryz.underlying82 (KeyEnc.int Tryz.underlying3) hI.map trivial hI.born (fun c2 hB=>?_)
 have h2:MarkI (L++[k]) (putG I c k true) c2:=by
  refine ⟨hI.map.put trivial c true,fun x=>?_,hB⟩
  rw [zBF]
  by_cases hx:x=k
  ·subst hx;simp
  ·rw [if_neg hx,hI.is];simp [hx]
 have hk2:=hk _ _ h2
 generalize putG I c k true=I2 at *
 repeat first|exact zE|refine zP ?_|refine zB fun b=>?_|refine zC fun a' c' hc1 hc2=>?_|(apply GJ.a;exact rfl;intro hg)|(apply GJ.o;exact rfl;intro hg)
 exact Wk.outS Sup.z (.refl _) hk2
set_option maxHeartbeats 8000000 in
theorem apart_ok (ho:SpecOk ro s a) (hc:zAo s=0) {lk:Lk} (hli:LkIn s lk) (hlm:LkM lk M) {i:Nat} (hi:i<s.nodes.length) (hlen:(preI (kidsAt s) s.nodes.length (i:Int)).length≤100000) (hk:K (.bool (zGn s lk (i:Int))) ro (.blk p 138 (zAf s a++[.map (some bm)])::.obj bm (mapG (Value.int .i64) lkV M cM)::G)) :
  CallOk Tryz.prog 159 #[ptr' p,.int .i64 (i:Int)] ro (.blk p 138 (zAf s a++[.map (some bm)])::.obj bm (mapG (Value.int .i64) lkV M cM)::G) K:=by
 have hv:=Ahead.of hc
 have hap:zGn s lk (i:Int)=(preI (kidsAt s) s.nodes.length (i:Int)).all (zEy s lk (preI (kidsAt s) s.nodes.length (i:Int))):=rfl
 rw [hap] at hk
 have hpin:=zDy hv (i+1) i (by omega) hi
 refine CallOk.intro (args:=[_,_]) (rs:=[_]) T_ok Tryz.func159 Tryz.call159 rfl rfl (by kernel_rfl) rfl rfl ?_
 repeat first|exact zE|refine zP ?_|refine zB fun b=>?_|refine zC fun a' c' hc1 hc2=>?_|(apply GJ.a;exact rfl;intro hg)|(apply GJ.o;exact rfl;intro hg)
 refine OpOk.makeMapG (kv:=Value.int .i64) (vv:=Value.bool) (fun bi=>?_)
 repeat first|exact zE|refine zP ?_|refine zB fun b=>?_|refine zC fun a' c' hc1 hc2=>?_|(apply GJ.a;exact rfl;intro hg)|(apply GJ.o;exact rfl;intro hg)
 obtain ⟨bI,hbI⟩:∃ z:Nat,z=b:=⟨_,rfl⟩
 subst hbI
 refine CallOk.sup (own0:=.obj bi (mapG (Value.int .i64) Value.bool ([]:List (Int × Bool × Nat)) 0)::.blk bI 82 [.map (some bi)]::.blk p 138 (zAf s a++[.map (some bm)])::.obj bm (mapG (Value.int .i64) lkV M cM)::G) Sup.z ?_
 refine zHY ho hv (fy:=165) (cap:=#[ptr' bI]) (go:=fun _=>true) (T:=preI (kidsAt s) s.nodes.length (i:Int)) (fun q (w:List (Int × Bool × Nat) × Nat)=>.obj bi (mapG (Value.int .i64) Value.bool w.1 w.2)::.blk bI 82 [.map (some bi)]::.blk p 138 (zAf s a++[.map (some bm)])::.obj bm (mapG (Value.int .i64) lkV M cM)::G) (fun q w=>MarkI q w.1 w.2) ?_ (i+1) i (by omega) hi [] [] (by simp) ([],0) ⟨MapOk.nil,fun x=>by simp [getG],BornOk.nil⟩ ro [] _ ?_
 ·rintro q k r hTp ⟨I,c⟩ w1 ro2 X K2 hle2 hk2
  dsimp only at w1 hk2 ⊢
  exact zIs w1 (fun I' c' g1=>hk2 (I',c') g1)
 rintro ⟨I,c⟩
 rw [zEs (fun _=>rfl)]
 dsimp only [List.nil_append]
 intro hI
 generalize preI (kidsAt s) s.nodes.length (i:Int)=L at *
 repeat first|exact zE|refine zP ?_|refine zB fun b=>?_|refine zC fun a' c' hc1 hc2=>?_|(apply GJ.a;exact rfl;intro hg)|(apply GJ.o;exact rfl;intro hg)
 refine OpOk.rangeG (kt:=3) (et:=4) (kv:=Value.int .i64) (vv:=Value.bool) (bm:=bi) (l:=I) (c:=c) rfl Tryz.underlying82 (fun bR=>?_)
 repeat first|exact zE|refine zP ?_|refine zB fun b=>?_|refine zC fun a' c' hc1 hc2=>?_|(apply GJ.a;exact rfl;intro hg)|(apply GJ.o;exact rfl;intro hg)
 refine LoopOk.at (ι:=List (Int × Bool × Nat)) Keep.z (fun S=>[]) (fun S=>.obj bR (zCi bi c S)::.obj bi (mapG (Value.int .i64) Value.bool I c)::.blk bI 82 [.map (some bi)]::.blk p 138 (zAf s a++[.map (some bm)])::.obj bm (mapG (Value.int .i64) lkV M cM)::G) (fun S=>SubI I S∧∀ q∈S,zEy s lk L q.1=true) (fun S=>I.length-S.length) [] ?_ Sub.z Sup.z ?_
 ·exact ⟨⟨(fun q h=>by cases h),List.nodup_nil⟩,(fun q h=>by cases h)⟩
 rintro S ⟨j1,j2⟩
 dsimp only [List.cons_append,List.nil_append] at j1 j2 ⊢
 repeat first|exact zE|refine zP ?_|refine zB fun b=>?_|refine zC fun a' c' hc1 hc2=>?_|(apply GJ.a;exact rfl;intro hg)|(apply GJ.o;exact rfl;intro hg)
 refine OpOk.nextG (kv:=Value.int .i64) (vv:=Value.bool) (bi:=bR) (bm:=bi) (l:=I) (S:=S) rfl hI.born j1.sub (fun hall=>?_) (fun q hq hqn=>?_)
 ·have hgood:L.all (zEy s lk L)=true:=List.all_eq_true.2 fun x hx=>by
   obtain ⟨q,hq,rfl⟩:=hI.has hx
   exact j2 q (hall q hq)
  rw [hgood] at hk
  repeat first|exact zE|refine zP ?_|refine zB fun b=>?_|refine zC fun a' c' hc1 hc2=>?_|(apply GJ.a;exact rfl;intro hg)|(apply GJ.o;exact rfl;intro hg)
  exact Wk.outS Sup.z (.refl _) hk
 have hqL:=hI.mem hq
 obtain ⟨q1,q2⟩:=hpin q.1 hqL
 obtain ⟨k,hk0⟩:=Int.eq_ofNat_of_zero_le q1
 have hsn:=j1.snoc hq hqn
 have hsl:=zEP hsn.nodup hsn.sub
 rw [List.length_append,List.length_singleton] at hsl
 have hstep:zEy s lk L q.1=true→∀ q'∈S++[q],zEy s lk L q'.1=true:=fun h q' hq'=>by
  rcases List.mem_append.1 hq' with h'|h'
  ·exact j2 q' h'
  ·rw [List.mem_singleton] at h';subst h';exact h
 have hgk:zEy s lk L q.1=match lk k with
  | none=>true
  | some (r,f)=>decide (((r:Nat):Int)∈L)||!zB3 s r f:=by unfold zEy;rw [hk0,Int.toNat_natCast]
 have hbad:zEy s lk L q.1=false→L.all (zEy s lk L)=false:=fun h=>by
  rw [Bool.eq_false_iff]
  intro h2
  have:=List.all_eq_true.1 h2 _ hqL
  rw [h] at this;cases this
 repeat first|exact zE|refine zP ?_|refine zB fun b=>?_|refine zC fun a' c' hc1 hc2=>?_|(apply GJ.a;exact rfl;intro hg)|(apply GJ.o;exact rfl;intro hg)
 refine OpOk.entryG (kv:=Value.int .i64) (vv:=Value.bool) (bi:=bR) (bm:=bi) (l:=I) (S:=S) (p:=q) rfl hI.born hq ?_
 rw [hk0]
 repeat first|exact zE|refine zP ?_|refine zB fun b=>?_|refine zC fun a' c' hc1 hc2=>?_|(apply GJ.a;exact rfl;intro hg)|(apply GJ.o;exact rfl;intro hg)
 refine OpOk.lookupOkG (kt:=3) (et:=70) (kv:=Value.int .i64) (vv:=lkV) (k:=(k:Int)) (z:=.agg #[.int .i64 0,.int .i64 0,.int .i64 0]) rfl rfl Tryz.underlying136 (KeyEnc.int Tryz.underlying3) hlm.map trivial (by kernel_rfl) ?_
 rw [hlm.is]
 cases hlk:lk k with
 | none =>
   rw [hlk] at hgk
   dsimp only at hgk
   have hst:=hstep hgk
   simp only [Option.map_none,Option.getD_none,Option.isSome_none]
   repeat first|exact zE|refine zP ?_|refine zB fun b=>?_|refine zC fun a' c' hc1 hc2=>?_|(apply GJ.a;exact rfl;intro hg)|(apply GJ.o;exact rfl;intro hg)
   refine Wk.id ⟨S++[q],⟨rfl,?_⟩,?_,Sub.z,Sup.z⟩
   all_goals try dsimp only
   ·exact ⟨hsn,hst⟩
   ·rw [List.length_append,List.length_singleton];omega
 | some rf =>
   obtain ⟨r,f⟩:=rf
   obtain ⟨d,hd,hf⟩:=hli k r f hlk
   rw [hlk] at hgk
   dsimp only at hgk
   simp only [Option.map_some,Option.getD_some,Option.isSome_some]
   rw [show lkV (k,r,f)=.agg #[.int .i64 (k:Int),.int .i64 (r:Int),.int .i64 (f:Int)] from rfl]
   repeat first|exact zE|refine zP ?_|refine zB fun b=>?_|refine zC fun a' c' hc1 hc2=>?_|(apply GJ.a;exact rfl;intro hg)|(apply GJ.o;exact rfl;intro hg)
   refine OpOk.lookupG (kt:=3) (et:=4) (kv:=Value.int .i64) (vv:=Value.bool) (k:=(r:Int)) (z:=.bool false) rfl rfl Tryz.underlying82 (KeyEnc.int Tryz.underlying3) hI.map trivial (by kernel_rfl) ?_
   rw [hI.get]
   by_cases hr:((r:Nat):Int)∈L
   ·rw [decide_eq_true hr,Bool.true_or] at hgk
    have hst:=hstep hgk
    rw [decide_eq_true hr]
    repeat first|exact zE|refine zP ?_|refine zB fun b=>?_|refine zC fun a' c' hc1 hc2=>?_|(apply GJ.a;exact rfl;intro hg)|(apply GJ.o;exact rfl;intro hg)
    refine Wk.id ⟨S++[q],⟨rfl,?_⟩,?_,Sub.z,Sup.z⟩
    all_goals try dsimp only
    ·exact ⟨hsn,hst⟩
    ·rw [List.length_append,List.length_singleton];omega
   ·rw [decide_eq_false hr,Bool.false_or] at hgk
    rw [decide_eq_false hr]
    repeat first|exact zE|refine zP ?_|refine zB fun b=>?_|refine zC fun a' c' hc1 hc2=>?_|(apply GJ.a;exact rfl;intro hg)|(apply GJ.o;exact rfl;intro hg)
    obtain ⟨bL,hbL⟩:∃ z:Nat,z=b:=⟨_,rfl⟩
    subst hbL
    refine CallOk.sup (own0:=.blk p 138 (zAf s a++[.map (some bm)])::.obj bm (mapG (Value.int .i64) lkV M cM)::.blk bL 70 [.int .i64 (k:Int),.int .i64 (r:Int),.int .i64 (f:Int)]::.obj bR (zCi bi c (S++[q]))::.obj bi (mapG (Value.int .i64) Value.bool I c)::.blk bI 82 [.map (some bi)]::G) Sup.z ?_
    refine sized_ok ho hv hd hf ?_
    cases hs:zB3 s r f with
    | true =>
      rw [hs] at hgk
      rw [hbad hgk] at hk
      repeat first|exact zE|refine zP ?_|refine zB fun b=>?_|refine zC fun a' c' hc1 hc2=>?_|(apply GJ.a;exact rfl;intro hg)|(apply GJ.o;exact rfl;intro hg)
      exact Wk.outS Sup.z (.refl _) hk
    | false =>
      rw [hs] at hgk
      have hst:=hstep hgk
      repeat first|exact zE|refine zP ?_|refine zB fun b=>?_|refine zC fun a' c' hc1 hc2=>?_|(apply GJ.a;exact rfl;intro hg)|(apply GJ.o;exact rfl;intro hg)
      refine Wk.id ⟨S++[q],⟨rfl,?_⟩,?_,Sub.z,Sup.z⟩
      all_goals try dsimp only
      ·exact ⟨hsn,hst⟩
      ·rw [List.length_append,List.length_singleton];omega
theorem zEz {d:zAh} (hf:zB1 d=0) (h:d.kind=8):d.kids.length=1:=by
 unfold zB1 at hf
 split at hf
 ·omega
 split at hf
 ·omega
 ·rename_i h1 h2;omega
set_option maxHeartbeats 8000000 in
theorem zEi (ho:SpecOk ro s a) (hc:zAo s=0) {lk:Lk} (hli:LkIn s lk) (hlm:LkM lk M) {r i:Nat}{d:zAh} (hd:s.nodes[r]?=some d) (hi:i<d.fields.length) (hlen:∀ k:Nat,k<s.nodes.length→(preI (kidsAt s) s.nodes.length (k:Int)).length≤100000) (hk:K (.bool (zAZ s lk d i)) ro (.blk p 138 (zAf s a++[.map (some bm)])::.obj bm (mapG (Value.int .i64) lkV M cM)::G)) :
  CallOk Tryz.prog 144 #[ptr' p,.int .i64 (r:Int),.int .i64 (i:Int)] ro (.blk p 138 (zAf s a++[.map (some bm)])::.obj bm (mapG (Value.int .i64) lkV M cM)::G) K:=by
 have hv:=Ahead.of hc
 have hr1:=ho.nodes
 have hm:=hr1.max
 have hnc:=hr1.le
 unfold maxLen at hm
 obtain ⟨x,hx⟩:∃ x,a.xs[r]?=some x:=⟨_,List.getElem?_eq_getElem (by rw [ho.len];exact (List.getElem?_eq_some_iff.1 hd).1)⟩
 have hrl:=(List.getElem?_eq_some_iff.1 hd).1
 have hn1:=ho.each r d x hd hx
 have hfr:=hn1.fields
 have hfm:=hfr.max
 have hfl:=hfr.le
 unfold maxLen at hfm
 have hdr1:=zAj _ _ _ _ _ hd hx
 obtain ⟨hfo,hks⟩:=hv r d hd
 have h5:=zBh hfo (by omega)
 have hkr:=zAz hfo h5
 obtain ⟨f,hf⟩:∃ f,d.fields[i]?=some f:=⟨_,List.getElem?_eq_getElem hi⟩
 have hfe:d.fields[i]=f:=Option.some.inj ((List.getElem?_eq_getElem hi).symm.trans hf)
 have hfd:=zAn d.fields hi
 rw [hfe] at hfd
 obtain ⟨q1,q2⟩:=hks f.type (by rw [hkr];exact List.mem_map.2 ⟨f,List.mem_of_getElem? hf,rfl⟩)
 obtain ⟨k,hk0⟩:=Int.eq_ofNat_of_zero_le q1
 obtain ⟨ow,how⟩:∃ e,s.nodes[k]?=some e:=⟨_,List.getElem?_eq_getElem (by omega)⟩
 obtain ⟨y,hy⟩:∃ y,a.xs[k]?=some y:=⟨_,List.getElem?_eq_getElem (by rw [ho.len];omega)⟩
 have hdro:=zAj _ _ _ _ _ how hy
 unfold zAZ at hk
 rw [hf] at hk
 dsimp only at hk
 rw [hk0,Int.toNat_natCast,how] at hk
 dsimp only at hk
 have hio:=zDo d f.of
 have hit:=zDo d f.to
 refine CallOk.intro (args:=[_,_,_]) (rs:=[_]) T_ok Tryz.func144 Tryz.call144 rfl rfl (by kernel_rfl) rfl rfl ?_
 repeat first|exact zE|refine zP ?_|refine zB fun b=>?_|refine zC fun a' c' hc1 hc2=>?_|(apply GJ.a;exact rfl;intro hg)|(apply GJ.o;exact rfl;intro hg)
 rw [Int.toNat_natCast]
 refine OpOk.loadRow rfl rfl (LdN.at hr1 hdr1) rfl ?_
 repeat first|exact zE|refine zP ?_|refine zB fun b=>?_|refine zC fun a' c' hc1 hc2=>?_|(apply GJ.a;exact rfl;intro hg)|(apply GJ.o;exact rfl;intro hg)
 rw [Int.toNat_natCast]
 refine OpOk.loadRow rfl rfl (LdN.at hfr hfd) rfl ?_
 repeat first|exact zE|refine zP ?_|refine zB fun b=>?_|refine zC fun a' c' hc1 hc2=>?_|(apply GJ.a;exact rfl;intro hg)|(apply GJ.o;exact rfl;intro hg)
 refine zBY hn1 ?_
 repeat first|exact zE|refine zP ?_|refine zB fun b=>?_|refine zC fun a' c' hc1 hc2=>?_|(apply GJ.a;exact rfl;intro hg)|(apply GJ.o;exact rfl;intro hg)
 refine zBY hn1 ?_
 repeat first|exact zE|refine zP ?_|refine zB fun b=>?_|refine zC fun a' c' hc1 hc2=>?_|(apply GJ.a;exact rfl;intro hg)|(apply GJ.o;exact rfl;intro hg)
 rw [hk0,Int.toNat_natCast]
 refine QOk.loadRow rfl rfl (LdN.at hr1 hdro) rfl ?_
 by_cases h0:f.derive=0
 ·rw [if_pos h0] at hk
  clear hio hit
  generalize zAt d f.of=z1 at *
  generalize zAt d f.to=z2 at *
  by_cases hof:f.of=[]
  ·rw [decide_eq_true hof,Bool.true_and] at hk
   repeat first|exact zE|refine zP ?_|refine zB fun b=>?_|refine zC fun a' c' hc1 hc2=>?_|(apply GJ.a;exact rfl;intro hg)|(apply GJ.o;exact rfl;intro hg)
   exact Wk.outS Sup.z (.refl _) hk
  ·rw [decide_eq_false hof,Bool.false_and] at hk
   repeat first|exact zE|refine zP ?_|refine zB fun b=>?_|refine zC fun a' c' hc1 hc2=>?_|(apply GJ.a;exact rfl;intro hg)|(apply GJ.o;exact rfl;intro hg)
   exact Wk.outS Sup.z (.refl _) hk
 rw [if_neg h0] at hk
 by_cases h12:f.derive=1∨f.derive=2
 ·rw [if_pos h12] at hk
  have hnum:zBA ow=decide (ow.kind=1∨ow.kind=2):=rfl
  have ht12:(decide (f.derive=1)||decide (f.derive=2))=true:=by rw [←Bool.decide_or];exact decide_eq_true h12
  rcases h12 with hd1|hd2
  ·have hd2:f.derive≠2:=by omega
   repeat first|exact zE|refine zP ?_|refine zB fun b=>?_|refine zC fun a' c' hc1 hc2=>?_|(apply GJ.a;exact rfl;intro hg)|(apply GJ.o;exact rfl;intro hg)
   refine zAB ?_
   rw [←hnum]
   cases hN:zBA ow with
   | false =>
     rw [if_pos (.inl hN)] at hk
     clear hio hit
     generalize zAt d f.of=z1 at *
     generalize zAt d f.to=z2 at *
     repeat first|exact zE|refine zP ?_|refine zB fun b=>?_|refine zC fun a' c' hc1 hc2=>?_|(apply GJ.a;exact rfl;intro hg)|(apply GJ.o;exact rfl;intro hg)
     exact Wk.outS Sup.z (.refl _) hk
   | true =>
     cases hz:ow.zig with
     | true =>
       rw [if_pos (.inr (.inl hz))] at hk
       clear hio hit
       generalize zAt d f.of=z1 at *
       generalize zAt d f.to=z2 at *
       repeat first|exact zE|refine zP ?_|refine zB fun b=>?_|refine zC fun a' c' hc1 hc2=>?_|(apply GJ.a;exact rfl;intro hg)|(apply GJ.o;exact rfl;intro hg)
       exact Wk.outS Sup.z (.refl _) hk
     | false =>
       by_cases hle:zAt d f.of≤(i:Int)
       ·rw [if_pos (.inr (.inr (.inl hle)))] at hk
        clear hio hit
        generalize zAt d f.of=z1 at *
        generalize zAt d f.to=z2 at *
        repeat (first|exact zE|refine zP ?_|refine zB (fun b=>?_)|refine zC (fun a' c' hc1 hc2=>?_))
        rw [hz]
        repeat first|exact zE|refine zP ?_|refine zB fun b=>?_|refine zC fun a' c' hc1 hc2=>?_|(apply GJ.a;exact rfl;intro hg)|(apply GJ.o;exact rfl;intro hg)
        exact Wk.outS Sup.z (.refl _) hk
       by_cases hto:f.to=[]
       rotate_left
       ·rw [if_pos (.inr (.inr (.inr hto)))] at hk
        clear hio hit
        generalize zAt d f.of=z1 at *
        generalize zAt d f.to=z2 at *
        repeat (first|exact zE|refine zP ?_|refine zB (fun b=>?_)|refine zC (fun a' c' hc1 hc2=>?_))
        rw [hz]
        repeat first|exact zE|refine zP ?_|refine zB fun b=>?_|refine zC fun a' c' hc1 hc2=>?_|(apply GJ.a;exact rfl;intro hg)|(apply GJ.o;exact rfl;intro hg)
        exact Wk.outS Sup.z (.refl _) hk
       have hnb:¬(zBA ow=false∨ow.zig=true∨zAt d f.of≤(i:Int)∨f.to≠[]):=fun h=>by
        rcases h with h|h|h|h
        ·rw [hN] at h;cases h
        ·rw [hz] at h;cases h
        ·exact hle h
        ·exact h hto
       rw [if_neg hnb] at hk
       clear hnb
       rcases hio with ⟨e1,_⟩|⟨j,g,e1,e2,e3⟩
       ·omega
       clear hit
       generalize zAt d f.to=z2 at *
       rw [e1,Int.toNat_natCast,e2] at hk
       dsimp only at hk
       rw [e1] at hle ⊢
       obtain ⟨u1,u2⟩:=hks g.type (by rw [hkr];exact List.mem_map.2 ⟨g,List.mem_of_getElem? e2,rfl⟩)
       obtain ⟨m,hm0⟩:=Int.eq_ofNat_of_zero_le u1
       obtain ⟨w,hw⟩:∃ e,s.nodes[m]?=some e:=⟨_,List.getElem?_eq_getElem (by omega)⟩
       obtain ⟨v,hvx⟩:∃ y,a.xs[m]?=some y:=⟨_,List.getElem?_eq_getElem (by rw [ho.len];omega)⟩
       have hdrw:=zAj _ _ _ _ _ hw hvx
       have hjl:=(List.getElem?_eq_some_iff.1 e2).1
       have hg1:(zA0 d.fields)[j*5+1]?=some (.int .i64 (m:Int)):=by rw [zBG e2 (by decide),←hm0];rfl
       rw [hm0,Int.toNat_natCast,hw] at hk
       dsimp only at hk
       repeat (first|exact zE|refine zP ?_|refine zB (fun b=>?_)|refine zC (fun a' c' hc1 hc2=>?_))
       rw [hz]
       repeat first|exact zE|refine zP ?_|refine zB fun b=>?_|refine zC fun a' c' hc1 hc2=>?_|(apply GJ.a;exact rfl;intro hg)|(apply GJ.o;exact rfl;intro hg)
       refine Br.f (fun h=>h hto) ?_
       repeat first|exact zE|refine zP ?_|refine zB fun b=>?_|refine zC fun a' c' hc1 hc2=>?_|(apply GJ.a;exact rfl;intro hg)|(apply GJ.o;exact rfl;intro hg)
       rw [Int.toNat_natCast,Nat.add_assoc]
       refine QOk.load rfl rfl (Ld.rs hfr hg1) ?_
       repeat first|exact zE|refine zP ?_|refine zB fun b=>?_|refine zC fun a' c' hc1 hc2=>?_|(apply GJ.a;exact rfl;intro hg)|(apply GJ.o;exact rfl;intro hg)
       rw [Int.toNat_natCast]
       refine QOk.loadRow rfl rfl (LdN.at hr1 hdrw) rfl ?_
       repeat first|exact zE|refine zP ?_|refine zB fun b=>?_|refine zC fun a' c' hc1 hc2=>?_|(apply GJ.a;exact rfl;intro hg)|(apply GJ.o;exact rfl;intro hg)
       refine OpOk.eqlStruct rfl rfl rfl rfl (by kernel_rfl) (by kernel_rfl) (by kernel_rfl) ?_
       generalize hjr:(_&&_:Bool)=jq
       have hjr2:jq=zBg f w:=by
        have e9:decide ((w.emul:Int)=1)=decide (w.emul=1):=decide_eq_decide.2 (by omega)
        rw [←hjr];simp [zBg,e9]
       rw [hjr2]
       clear hjr hjr2
       generalize zBg f w=jq at *
       rw [if_neg hd2] at hk
       cases jq with
       | false =>
         rw [Bool.false_and] at hk
         repeat first|exact zE|refine zP ?_|refine zB fun b=>?_|refine zC fun a' c' hc1 hc2=>?_|(apply GJ.a;exact rfl;intro hg)|(apply GJ.o;exact rfl;intro hg)
         exact Wk.outS Sup.z (.refl _) hk
       | true =>
         rw [Bool.true_and] at hk
         by_cases k4:w.kind=4
         ·rw [decide_eq_true k4,Bool.true_or] at hk
          repeat first|exact zE|refine zP ?_|refine zB fun b=>?_|refine zC fun a' c' hc1 hc2=>?_|(apply GJ.a;exact rfl;intro hg)|(apply GJ.o;exact rfl;intro hg)
          exact Wk.outS Sup.z (.refl _) hk
         rw [decide_eq_false k4,Bool.false_or] at hk
         by_cases k8:w.kind=8
         rotate_left
         ·rw [decide_eq_false k8,Bool.false_and] at hk
          repeat first|exact zE|refine zP ?_|refine zB fun b=>?_|refine zC fun a' c' hc1 hc2=>?_|(apply GJ.a;exact rfl;intro hg)|(apply GJ.o;exact rfl;intro hg)
          exact Wk.outS Sup.z (.refl _) hk
         rw [decide_eq_true k8,Bool.true_and] at hk
         obtain ⟨v1,v2⟩:=hv m w hw
         have hw1:w.kids.length=1:=zEz v1 k8
         obtain ⟨kk,hkk⟩:=List.length_eq_one_iff.1 hw1
         obtain ⟨w1,w2⟩:=v2 kk (by rw [zAc,hkk];simp)
         obtain ⟨n,hn0⟩:=Int.eq_ofNat_of_zero_le w1
         have hkr2:=(ho.each m w v hw hvx).kids
         have hkk1:w.kids[Int.toNat 0]! = (n:Int):=by rw [hkk,hn0];rfl
         rw [show w.kids[0]?.getD 0=(n:Int) by rw [hkk,hn0];rfl] at hk
         have hla:=hlen n (by omega)
         have hnl:n<s.nodes.length:=by omega
         clear hkk v2 w2
         repeat first|exact zE|refine zP ?_|refine zB fun b=>?_|refine zC fun a' c' hc1 hc2=>?_|(apply GJ.a;exact rfl;intro hg)|(apply GJ.o;exact rfl;intro hg)
         rw [hkk1]
         refine CallOk.sup (own0:=.blk p 138 (zAf s a++[.map (some bm)])::.obj bm (mapG (Value.int .i64) lkV M cM)::G) Sup.z ?_
         refine apart_ok ho hc hli hlm hnl hla ?_
         repeat first|exact zE|refine zP ?_|refine zB fun b=>?_|refine zC fun a' c' hc1 hc2=>?_|(apply GJ.a;exact rfl;intro hg)|(apply GJ.o;exact rfl;intro hg)
         exact Wk.outS Sup.z (.refl _) hk
  ·have hd1:f.derive≠1:=by omega
   repeat first|exact zE|refine zP ?_|refine zB fun b=>?_|refine zC fun a' c' hc1 hc2=>?_|(apply GJ.a;exact rfl;intro hg)|(apply GJ.o;exact rfl;intro hg)
   refine zAB ?_
   rw [←hnum]
   cases hN:zBA ow with
   | false =>
     rw [if_pos (.inl hN)] at hk
     clear hio hit
     generalize zAt d f.of=z1 at *
     generalize zAt d f.to=z2 at *
     repeat first|exact zE|refine zP ?_|refine zB fun b=>?_|refine zC fun a' c' hc1 hc2=>?_|(apply GJ.a;exact rfl;intro hg)|(apply GJ.o;exact rfl;intro hg)
     exact Wk.outS Sup.z (.refl _) hk
   | true =>
     cases hz:ow.zig with
     | true =>
       rw [if_pos (.inr (.inl hz))] at hk
       clear hio hit
       generalize zAt d f.of=z1 at *
       generalize zAt d f.to=z2 at *
       repeat first|exact zE|refine zP ?_|refine zB fun b=>?_|refine zC fun a' c' hc1 hc2=>?_|(apply GJ.a;exact rfl;intro hg)|(apply GJ.o;exact rfl;intro hg)
       exact Wk.outS Sup.z (.refl _) hk
     | false =>
       by_cases hle:zAt d f.of≤(i:Int)
       ·rw [if_pos (.inr (.inr (.inl hle)))] at hk
        clear hio hit
        generalize zAt d f.of=z1 at *
        generalize zAt d f.to=z2 at *
        repeat (first|exact zE|refine zP ?_|refine zB (fun b=>?_)|refine zC (fun a' c' hc1 hc2=>?_))
        rw [hz]
        repeat first|exact zE|refine zP ?_|refine zB fun b=>?_|refine zC fun a' c' hc1 hc2=>?_|(apply GJ.a;exact rfl;intro hg)|(apply GJ.o;exact rfl;intro hg)
        exact Wk.outS Sup.z (.refl _) hk
       by_cases hto:f.to=[]
       rotate_left
       ·rw [if_pos (.inr (.inr (.inr hto)))] at hk
        clear hio hit
        generalize zAt d f.of=z1 at *
        generalize zAt d f.to=z2 at *
        repeat (first|exact zE|refine zP ?_|refine zB (fun b=>?_)|refine zC (fun a' c' hc1 hc2=>?_))
        rw [hz]
        repeat first|exact zE|refine zP ?_|refine zB fun b=>?_|refine zC fun a' c' hc1 hc2=>?_|(apply GJ.a;exact rfl;intro hg)|(apply GJ.o;exact rfl;intro hg)
        exact Wk.outS Sup.z (.refl _) hk
       have hnb:¬(zBA ow=false∨ow.zig=true∨zAt d f.of≤(i:Int)∨f.to≠[]):=fun h=>by
        rcases h with h|h|h|h
        ·rw [hN] at h;cases h
        ·rw [hz] at h;cases h
        ·exact hle h
        ·exact h hto
       rw [if_neg hnb] at hk
       clear hnb
       rcases hio with ⟨e1,_⟩|⟨j,g,e1,e2,e3⟩
       ·omega
       clear hit
       generalize zAt d f.to=z2 at *
       rw [e1,Int.toNat_natCast,e2] at hk
       dsimp only at hk
       rw [e1] at hle ⊢
       obtain ⟨u1,u2⟩:=hks g.type (by rw [hkr];exact List.mem_map.2 ⟨g,List.mem_of_getElem? e2,rfl⟩)
       obtain ⟨m,hm0⟩:=Int.eq_ofNat_of_zero_le u1
       obtain ⟨w,hw⟩:∃ e,s.nodes[m]?=some e:=⟨_,List.getElem?_eq_getElem (by omega)⟩
       obtain ⟨v,hvx⟩:∃ y,a.xs[m]?=some y:=⟨_,List.getElem?_eq_getElem (by rw [ho.len];omega)⟩
       have hdrw:=zAj _ _ _ _ _ hw hvx
       have hjl:=(List.getElem?_eq_some_iff.1 e2).1
       have hg1:(zA0 d.fields)[j*5+1]?=some (.int .i64 (m:Int)):=by rw [zBG e2 (by decide),←hm0];rfl
       rw [hm0,Int.toNat_natCast,hw] at hk
       dsimp only at hk
       repeat (first|exact zE|refine zP ?_|refine zB (fun b=>?_)|refine zC (fun a' c' hc1 hc2=>?_))
       rw [hz]
       repeat first|exact zE|refine zP ?_|refine zB fun b=>?_|refine zC fun a' c' hc1 hc2=>?_|(apply GJ.a;exact rfl;intro hg)|(apply GJ.o;exact rfl;intro hg)
       refine Br.f (fun h=>h hto) ?_
       repeat first|exact zE|refine zP ?_|refine zB fun b=>?_|refine zC fun a' c' hc1 hc2=>?_|(apply GJ.a;exact rfl;intro hg)|(apply GJ.o;exact rfl;intro hg)
       rw [Int.toNat_natCast,Nat.add_assoc]
       refine QOk.load rfl rfl (Ld.rs hfr hg1) ?_
       repeat first|exact zE|refine zP ?_|refine zB fun b=>?_|refine zC fun a' c' hc1 hc2=>?_|(apply GJ.a;exact rfl;intro hg)|(apply GJ.o;exact rfl;intro hg)
       rw [Int.toNat_natCast]
       refine QOk.loadRow rfl rfl (LdN.at hr1 hdrw) rfl ?_
       repeat first|exact zE|refine zP ?_|refine zB fun b=>?_|refine zC fun a' c' hc1 hc2=>?_|(apply GJ.a;exact rfl;intro hg)|(apply GJ.o;exact rfl;intro hg)
       refine OpOk.eqlStruct rfl rfl rfl rfl (by kernel_rfl) (by kernel_rfl) (by kernel_rfl) ?_
       generalize hjr:(_&&_:Bool)=jq
       have hjr2:jq=zBg f w:=by
        have e9:decide ((w.emul:Int)=1)=decide (w.emul=1):=decide_eq_decide.2 (by omega)
        rw [←hjr];simp [zBg,e9]
       rw [hjr2]
       clear hjr hjr2
       generalize zBg f w=jq at *
       rw [if_pos hd2] at hk
       repeat first|exact zE|refine zP ?_|refine zB fun b=>?_|refine zC fun a' c' hc1 hc2=>?_|(apply GJ.a;exact rfl;intro hg)|(apply GJ.o;exact rfl;intro hg)
       exact Wk.outS Sup.z (.refl _) hk
 ·rw [if_neg h12] at hk
  by_cases h3:f.derive=3
  ·rw [if_pos h3] at hk
   have hk3:True:=trivial
   clear hio hit
   generalize hz1:zAt d f.of=z1 at *
   generalize hz2:zAt d f.to=z2 at *
   clear hz1 hz2
   by_cases c1:ow.kind=1
   rotate_left
   ·clear hk3
    rw [show (decide (ow.kind=1)&&decide (ow.width=4)&&decide (ow.min=0)&&decide (ow.max=zCc ow))=false by simp [c1],Bool.false_and] at hk
    repeat first|exact zE|refine zP ?_|refine zB fun b=>?_|refine zC fun a' c' hc1 hc2=>?_|(apply GJ.a;exact rfl;intro hg)|(apply GJ.o;exact rfl;intro hg)
    exact Wk.outS Sup.z (.refl _) hk
   by_cases c2:ow.width=4
   rotate_left
   ·clear hk3
    rw [show (decide (ow.kind=1)&&decide (ow.width=4)&&decide (ow.min=0)&&decide (ow.max=zCc ow))=false by simp [c2],Bool.false_and] at hk
    repeat first|exact zE|refine zP ?_|refine zB fun b=>?_|refine zC fun a' c' hc1 hc2=>?_|(apply GJ.a;exact rfl;intro hg)|(apply GJ.o;exact rfl;intro hg)
    exact Wk.outS Sup.z (.refl _) hk
   by_cases c3:ow.min=0
   rotate_left
   ·clear hk3
    rw [show (decide (ow.kind=1)&&decide (ow.width=4)&&decide (ow.min=0)&&decide (ow.max=zCc ow))=false by simp [c3],Bool.false_and] at hk
    repeat first|exact zE|refine zP ?_|refine zB fun b=>?_|refine zC fun a' c' hc1 hc2=>?_|(apply GJ.a;exact rfl;intro hg)|(apply GJ.o;exact rfl;intro hg)
    exact Wk.outS Sup.z (.refl _) hk
   repeat first|exact zE|refine zP ?_|refine zB fun b=>?_|refine zC fun a' c' hc1 hc2=>?_|(apply GJ.a;exact rfl;intro hg)|(apply GJ.o;exact rfl;intro hg)
   refine zEp ?_
   by_cases c4:ow.max=zCc ow
   rotate_left
   ·clear hk3
    rw [show (decide (ow.kind=1)&&decide (ow.width=4)&&decide (ow.min=0)&&decide (ow.max=zCc ow))=false by simp [c4],Bool.false_and] at hk
    repeat first|exact zE|refine zP ?_|refine zB fun b=>?_|refine zC fun a' c' hc1 hc2=>?_|(apply GJ.a;exact rfl;intro hg)|(apply GJ.o;exact rfl;intro hg)
    exact Wk.outS Sup.z (.refl _) hk
   rw [show (decide (ow.kind=1)&&decide (ow.width=4)&&decide (ow.min=0)&&decide (ow.max=zCc ow))=true by simp [c1,c2,c3,c4],Bool.true_and] at hk
   by_cases p1:0≤z1
   rotate_left
   ·rw [decide_eq_false p1,Bool.false_and,Bool.false_and] at hk
    repeat first|exact zE|refine zP ?_|refine zB fun b=>?_|refine zC fun a' c' hc1 hc2=>?_|(apply GJ.a;exact rfl;intro hg)|(apply GJ.o;exact rfl;intro hg)
    exact Wk.outS Sup.z (.refl _) hk
   rw [decide_eq_true p1,Bool.true_and] at hk
   by_cases p2:z1≤z2
   rotate_left
   ·rw [decide_eq_false p2,Bool.false_and] at hk
    repeat first|exact zE|refine zP ?_|refine zB fun b=>?_|refine zC fun a' c' hc1 hc2=>?_|(apply GJ.a;exact rfl;intro hg)|(apply GJ.o;exact rfl;intro hg)
    exact Wk.outS Sup.z (.refl _) hk
   rw [decide_eq_true p2,Bool.true_and] at hk
   repeat first|exact zE|refine zP ?_|refine zB fun b=>?_|refine zC fun a' c' hc1 hc2=>?_|(apply GJ.a;exact rfl;intro hg)|(apply GJ.o;exact rfl;intro hg)
   exact Wk.outS Sup.z (.refl _) hk
  ·rw [if_neg h3] at hk
   clear hio hit
   generalize zAt d f.of=z1 at *
   generalize zAt d f.to=z2 at *
   repeat first|exact zE|refine zP ?_|refine zB fun b=>?_|refine zC fun a' c' hc1 hc2=>?_|(apply GJ.a;exact rfl;intro hg)|(apply GJ.o;exact rfl;intro hg)
   exact Wk.outS Sup.z (.refl _) hk
end
end Go.Proofs.YtnapjcnfgdkmcaaGreatDoor
end
