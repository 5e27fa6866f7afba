/- Texts of a walk, one behind the other. -/
import Derived.DeepKeys5
import Derived.Test.YtnapjcnfgdkmcaaGreatDoorMg3
import Derived.Test.YtnapjcnfgdkmcaaGreatDoorMg7
import Derived.Test.YtnapjcnfgdkmcaaGreatDoorMg8
set_option linter.unusedVariables false
set_option linter.unusedSimpArgs false
set_option linter.unusedSectionVars false
set_option maxRecDepth 10000
section
namespace Go.Proofs.YtnapjcnfgdkmcaaGreatDoor
open Go Go.E
def SeenIn (s:zAd) (seen:List AskD):Prop:=∀ q∈seen,∃ d,s.nodes[q.record]?=some d∧q.field<d.fields.length
theorem SeenIn.snoc {s:zAd}{l:List AskD}{q:AskD} (h:SeenIn s l) {d:zAh} (h1:s.nodes[q.record]?=some d) (h2:q.field<d.fields.length):SeenIn s (l++[q]):=fun z hz=>by
 rcases List.mem_append.1 hz with h3|h3
 ·exact h z h3
 ·rw [List.mem_singleton.1 h3];exact ⟨d,h1,h2⟩
def askC (cs:List AskD):Option (Option Addr × Nat)→Chs
 | none=>[]
 | some (oa,oc)=>[.sl oa cs.length oc 176 4 (zBb cs)]
def askW (na:Option Addr) (ns cs:List AskD):Option (Option Addr × Nat)→Value
 | none=>.slice na ns.length ns.length
 | some (oa,oc)=>.slice oa cs.length oc
theorem zHO {K:Int→Lk→Except (Int × Int) Lk} (hK:∀ k lk e,K k lk=.error e→e.1≠0):∀ {l:List Int}{lk:Lk}{e:Int × Int},goR K l lk=.error e→e.1≠0
 | [],_,_,h=>by cases h
 | x::l,lk,e,h=>by
   unfold goR at h
   cases hx:K x lk with
   | error e2=>rw [hx] at h;cases h;exact hK _ _ _ hx
   | ok lk1=>rw [hx] at h;exact zHO hK h
theorem zFW {s:zAd}{K:Int→List AskD→Lk→Except (Int × Int) Lk}{a:Nat} (hK:∀ k sn lk e,K k sn lk=.error e→e.1≠0):∀ {fs:List zAm}{i:Nat}{seen:List AskD}{lk:Lk}{e:Int × Int},recR s K a i fs seen lk=.error e→e.1≠0
 | [],_,_,_,_,h=>by cases h
 | x::fs,i,seen,lk,e,h=>by
   unfold recR at h
   cases hx:K x.type seen lk with
   | error e2=>rw [hx] at h;cases h;exact hK _ _ _ _ hx
   | ok lk1=>rw [hx] at h;exact zFW hK h
theorem zBz {s:zAd}:∀ {n:Nat}{a:Int}{seen:List AskD}{lk:Lk} (e:Int × Int),zAC s n a seen lk=.error e→e.1≠0
 | 0,_,_,_,_,h=>by cases h
 | n+1,a,seen,lk,e,h=>by
   unfold zAC at h
   split at h
   ·cases h
   split at h
   ·cases h;exact (by decide:(150:Int)≠0)
   split at h
   ·split at h
    ·rename_i hx;cases h;exact zFW (fun k sn l e he=>zBz e he) hx
    ·split at h
     ·cases h
     ·cases h;exact (by decide:(151:Int)≠0)
   ·exact zHO (fun k l e he=>zBz e he) h
def KindRC (s:zAd) (a:zAp) (ro:Ro) (p bm:Nat) (n:Nat):Prop :=
 ∀ (i:Nat),i<n→i<s.nodes.length→∀ (seen:List AskD) (sa:Option Addr) (sc:Nat) (lk:Lk) (M:List (Int × (Nat × Nat × Nat) × Nat)) (cM:Nat) (G:Chs) (K:Value→Ro→Chs→Prop),
  Rds ro G sa seen.length sc 4 (zBb seen)→SeenIn s seen→LkIn s lk→LkM lk M→seen.length+65*i≤200000 →
  (∀ M' cM',(∀ lk2,zAC s n (i:Int) seen lk=.ok lk2→LkM lk2 M'∧LkIn s lk2)→K (flV (errR (zAC s n (i:Int) seen lk))) ro (.blk p 138 (zAf s a++[.map (some bm)])::.obj bm (mapG (Value.int .i64) lkV M' cM')::G)) →
  CallOk Tryz.prog 92 #[ptr' p,.int .i64 (i:Int),.slice sa seen.length sc] ro (.blk p 138 (zAf s a++[.map (some bm)])::.obj bm (mapG (Value.int .i64) lkV M cM)::G) K
section
variable {ro:Ro}{K:Value→Ro→Chs→Prop}{s:zAd}{a:zAp}{p bm:Nat}
def zFX (s:zAd) (n i:Nat) (d:zAh) (seen:List AskD) (lk:Lk):Except (Int × Int) Lk:=match recR s (zAC s n) i 0 d.fields seen lk with
 | .error e=>.error e
 | .ok lk2=>if zBK s lk2 d=true then .ok lk2 else .error (151,(i:Int))
set_option maxHeartbeats 8000000 in
theorem rgrec_ok (ho:SpecOk ro s a) (hc:zAo s=0) {n:Nat} (ih:KindRC s a ro p bm n) {i:Nat}{d:zAh} (hin:i<n+1) (hd:s.nodes[i]?=some d) (h5:d.kind=5) {seen:List AskD}{sa:Option Addr}{sc:Nat}{lk:Lk}{M:List (Int × (Nat × Nat × Nat) × Nat)}{cM:Nat}{G:Chs}
  (hns:Rds ro G sa seen.length sc 4 (zBb seen)) (hsn:SeenIn s seen) (hli:LkIn s lk) (hlm:LkM lk M) (hb:seen.length+65*i≤200000) (hlen:∀ k:Nat,k<s.nodes.length→(preI (kidsAt s) s.nodes.length (k:Int)).length≤100000)
  (hk:∀ M' cM',(∀ lk2,zFX s n i d seen lk=.ok lk2→LkM lk2 M'∧LkIn s lk2)→K (flV (errR (zFX s n i d seen lk))) ro (.blk p 138 (zAf s a++[.map (some bm)])::.obj bm (mapG (Value.int .i64) lkV M' cM')::G)) :
  CallOk Tryz.prog 119 #[ptr' p,.int .i64 (i:Int),.slice sa seen.length sc] ro (.blk p 138 (zAf s a++[.map (some bm)])::.obj bm (mapG (Value.int .i64) lkV M cM)::G) K:=by
 have hv:=Ahead.of hc
 have hi:=(List.getElem?_eq_some_iff.1 hd).1
 have hr1:=ho.nodes
 have hm:=hr1.max
 have hnn:=hr1.le
 unfold maxLen at hm
 obtain ⟨x,hx⟩:∃ x,a.xs[i]?=some x:=⟨_,List.getElem?_eq_getElem (by rw [ho.len];exact hi)⟩
 have hn1:=ho.each i d x hd hx
 have hfr:=hn1.fields
 have hdr1:=zAj _ _ _ _ _ hd hx
 obtain ⟨hf,hks⟩:=hv i d hd
 have hsm:=zAI hf
 have hnl:=hns.len
 have hnc:=hns.le
 have hnm:=hns.max
 unfold maxLen at hnm
 unfold zFX at hk
 obtain ⟨lk00,hlk00⟩:∃ z,z=lk:=⟨_,rfl⟩
 rw [←hlk00] at hk
 refine CallOk.intro (args:=[_,_,_]) (rs:=[_]) T_ok Tryz.func119 Tryz.call119 rfl rfl (by kernel_rfl) rfl rfl ?_
 repeat first|exact zE|refine zP ?_|refine zB fun b=>?_|refine zC fun a' c' hc1 hc2=>?_|(apply GJ.a;exact rfl;intro hg)|(apply GJ.o;exact rfl;intro hg)
 rw [Int.toNat_natCast,Nat.add_assoc]
 refine OpOk.load rfl rfl (Ld.rs hr1 (zBO hd hx)) ?_
 have hns2:=Rds.clip hns
 have hfm:=hfr.max
 have hfl:=hfr.le
 unfold maxLen at hfm
 repeat first|exact zE|refine zP ?_|refine zB fun b=>?_|refine zC fun a' c' hc1 hc2=>?_|(apply GJ.a;exact rfl;intro hg)|(apply GJ.o;exact rfl;intro hg)
 refine LoopOk.at (ι:=Nat × List AskD × Option (Option Addr × Nat) × Lk × List (Int × (Nat × Nat × Nat) × Nat) × Nat) Keep.z (fun (j,cs,w,lk,M,cM)=>[(28,.int .i64 (j:Int)),(7,askW sa seen cs w)]) (fun (j,cs,w,lk,M,cM)=>askC cs w++.blk b 58 [.int .i64 0,.int .i64 0]::.blk p 138 (zAf s a++[.map (some bm)])::.obj bm (mapG (Value.int .i64) lkV M cM)::G) (fun (j,cs,w,lk,M,cM)=>j≤d.fields.length∧(w=none→j=0∧cs=seen)∧(∀ q,w=some q→cs.length≤q.2∧q.2≤maxLen)∧cs.length=seen.length+j∧SeenIn s cs∧LkIn s lk∧LkM lk M∧recR s (zAC s n) i 0 d.fields seen lk00=recR s (zAC s n) i j (d.fields.drop j) cs lk) (fun (j,cs,w,lk,M,cM)=>d.fields.length-j) (0,seen,none,lk,M,cM) ?_ Sub.z Sup.z ?_
 ·exact ⟨Nat.zero_le _,fun _=>⟨rfl,rfl⟩,(fun q h=>by cases h),rfl,hsn,hli,hlm,by rw [hlk00];rfl⟩
 clear hlm hli
 rintro ⟨j,cs,w,lk,M,cM⟩ ⟨i1,i2,i3,i4,i5,i6,i7,i8⟩
 dsimp only [List.cons_append,List.nil_append] at i1 i2 i3 i4 i5 i6 i7 i8 ⊢
 cases w with
 | none =>
   obtain ⟨hj0,rfl⟩:=i2 rfl
   dsimp only [askC,askW,List.nil_append]
   by_cases hj:j<d.fields.length
   ·obtain ⟨f,hfj⟩:∃ f,d.fields[j]?=some f:=⟨_,List.getElem?_eq_getElem hj⟩
    have hfe:d.fields[j]=f:=Option.some.inj ((List.getElem?_eq_getElem hj).symm.trans hfj)
    have hfd:=zAn d.fields hj
    rw [hfe] at hfd
    have hdj:d.fields.drop j=f::d.fields.drop (j+1):=by rw [List.drop_eq_getElem_cons hj,hfe]
    rw [hdj,recR] at i8
    have hfm':=List.mem_of_getElem? hfj
    have hty:f.type∈zAc d:=by rw [zAz hf h5];exact List.mem_map.2 ⟨f,hfm',rfl⟩
    obtain ⟨q1,q2⟩:=hks _ hty
    obtain ⟨k,hk0⟩:=Int.eq_ofNat_of_zero_le q1
    obtain ⟨e,he⟩:∃ e,s.nodes[k]?=some e:=⟨_,List.getElem?_eq_getElem (by omega)⟩
    obtain ⟨y,hy⟩:∃ y,a.xs[k]?=some y:=⟨_,List.getElem?_eq_getElem (by rw [ho.len];omega)⟩
    have hdre:=zAj _ _ _ _ _ he hy
    have hnum:zBN s (k:Int)=zBA e:=by unfold zBN;rw [Int.toNat_natCast,he]
    clear hfe hdj hty hfm'
    repeat first|exact zE|refine zP ?_|refine zB fun b=>?_|refine zC fun a' c' hc1 hc2=>?_|(apply GJ.a;exact rfl;intro hg)|(apply GJ.o;exact rfl;intro hg)
    rw [Int.toNat_natCast]
    refine OpOk.loadRow rfl rfl (LdN.at hfr hfd) rfl ?_
    repeat first|exact zE|refine zP ?_|refine zB fun b=>?_|refine zC fun a' c' hc1 hc2=>?_|(apply GJ.a;exact rfl;intro hg)|(apply GJ.o;exact rfl;intro hg)
    rename_i b9x
    obtain ⟨bF,hbF⟩:∃ z:Nat,z=b:=⟨_,rfl⟩
    subst hbF
    rw [hk0] at i8 ⊢
    refine CallOk.sup (own0:=.blk p 138 (zAf s a++[.map (some bm)])::.obj bm (mapG (Value.int .i64) lkV M cM)::.blk bF 47 (zA1 f)::.blk b9x 58 [.int .i64 0,.int .i64 0]::G) Sup.z ?_
    have hRD:Rds ro (.blk bF 47 (zA1 f)::.blk b9x 58 [.int .i64 0,.int .i64 0]::G) sa cs.length cs.length 4 (zBb cs):=(by exact hns2.up)
    refine ih k (by omega) (by omega) cs sa cs.length lk M cM _ _ hRD i5 i6 i7 (by omega) (fun M2 cM2 h2=>?_)
    dsimp only [List.cons_append,flV]
    have hne:=zBz (s:=s) (n:=n) (a:=(k:Int)) (seen:=cs) (lk:=lk)
    cases hz:zAC s n (k:Int) cs lk with
    | error z =>
      rw [hz] at i8
      dsimp only at i8
      rw [i8] at hk
      have hz1:=hne z hz
      obtain ⟨z1,z2⟩:=z
      have hk2:=hk M2 cM2 (fun lk2 h=>by cases h)
      dsimp only [errR,flV] at hk2 hz1 ⊢
      repeat first|exact zE|refine zP ?_|refine zB fun b=>?_|refine zC fun a' c' hc1 hc2=>?_|(apply GJ.a;exact rfl;intro hg)|(apply GJ.o;exact rfl;intro hg)
      exact Wk.outS Sup.z (.refl _) hk2
    | ok lk2 =>
      rw [hz] at i8
      dsimp only at i8
      obtain ⟨g1,g2⟩:=h2 lk2 hz
      dsimp only [errR]
      rw [hnum] at i8
      have hne2:zBA e=decide (e.kind=1∨e.kind=2):=rfl
      repeat first|exact zE|refine zP ?_|refine zB fun b=>?_|refine zC fun a' c' hc1 hc2=>?_|(apply GJ.a;exact rfl;intro hg)|(apply GJ.o;exact rfl;intro hg)
      rw [hk0,Int.toNat_natCast]
      refine QOk.loadRow rfl rfl (LdN.at hr1 hdre) rfl ?_
      repeat first|exact zE|refine zP ?_|refine zB fun b=>?_|refine zC fun a' c' hc1 hc2=>?_|(apply GJ.a;exact rfl;intro hg)|(apply GJ.o;exact rfl;intro hg)
      refine zAB ?_
      rw [←hne2]
      cases hbn:zBA e with
      | false =>
        rw [hbn,Bool.false_and] at i8
        obtain ⟨qn,hqn⟩:∃ q:AskD,q=⟨f.name,i,j,false⟩:=⟨_,rfl⟩
        rw [←hqn] at i8
        have hcl:zBb cs++flat [Value.agg #[str f.name,.int .i64 (i:Int),.int .i64 (j:Int),.bool false]]=zBb (cs++[qn]):=by rw [hqn];simp [zBb,askV,flat,Value.cells]
        have hse:SeenIn s (cs++[qn]):=i5.snoc (by rw [hqn];exact hd) (by rw [hqn];exact hj)
        have hnl1:cs.length+1=(cs++[qn]).length:=by rw [List.length_append,List.length_singleton]
        clear hqn hfd
        repeat first|exact zE|refine zP ?_|refine zB fun b=>?_|refine zC fun a' c' hc1 hc2=>?_|(apply GJ.a;exact rfl;intro hg)|(apply GJ.o;exact rfl;intro hg)
        refine OpOk.appendFull rfl rfl rfl rfl rfl (by exact hns2.up) (Rds.hasSl (by decide) (by decide) rfl) (by intro u hu;simp [flat,Value.cells] at hu;rcases hu with rfl|rfl|rfl|rfl<;>rfl) (by decide) (by omega) (fun a' c' hc1 hc2=>?_)
        repeat first|exact zE|refine zP ?_|refine zB fun b=>?_|refine zC fun a' c' hc1 hc2=>?_|(apply GJ.a;exact rfl;intro hg)|(apply GJ.o;exact rfl;intro hg)
        rw [hcl]
        rw [hnl1] at hc1 ⊢
        refine Wk.id ⟨(j+1,cs++[qn],some (a',c'),lk2,M2,cM2),⟨rfl,?_⟩,?_,Sub.z,Sup.z⟩
        all_goals try dsimp only
        ·exact ⟨by omega,(fun h=>by cases h),(fun q hq=>by cases hq;exact ⟨hc1,hc2⟩),by rw [←hnl1];omega,hse,g2,g1,i8⟩
        ·omega
      | true =>
        rw [hbn,Bool.true_and] at i8
        obtain ⟨qn,hqn⟩:∃ q:AskD,q=⟨f.name,i,j,decide (f.derive≠3)⟩:=⟨_,rfl⟩
        rw [←hqn] at i8
        have hcl:zBb cs++flat [Value.agg #[str f.name,.int .i64 (i:Int),.int .i64 (j:Int),.bool (decide (f.derive≠3))]]=zBb (cs++[qn]):=by rw [hqn];simp [zBb,askV,flat,Value.cells]
        have hse:SeenIn s (cs++[qn]):=i5.snoc (by rw [hqn];exact hd) (by rw [hqn];exact hj)
        have hnl1:cs.length+1=(cs++[qn]).length:=by rw [List.length_append,List.length_singleton]
        clear hqn hfd
        repeat first|exact zE|refine zP ?_|refine zB fun b=>?_|refine zC fun a' c' hc1 hc2=>?_|(apply GJ.a;exact rfl;intro hg)|(apply GJ.o;exact rfl;intro hg)
        refine OpOk.appendFull rfl rfl rfl rfl rfl (by exact hns2.up) (Rds.hasSl (by decide) (by decide) rfl) (by intro u hu;simp [flat,Value.cells] at hu;rcases hu with rfl|rfl|rfl|rfl<;>rfl) (by decide) (by omega) (fun a' c' hc1 hc2=>?_)
        repeat first|exact zE|refine zP ?_|refine zB fun b=>?_|refine zC fun a' c' hc1 hc2=>?_|(apply GJ.a;exact rfl;intro hg)|(apply GJ.o;exact rfl;intro hg)
        rw [hcl]
        rw [hnl1] at hc1 ⊢
        refine Wk.id ⟨(j+1,cs++[qn],some (a',c'),lk2,M2,cM2),⟨rfl,?_⟩,?_,Sub.z,Sup.z⟩
        all_goals try dsimp only
        ·exact ⟨by omega,(fun h=>by cases h),(fun q hq=>by cases hq;exact ⟨hc1,hc2⟩),by rw [←hnl1];omega,hse,g2,g1,i8⟩
        ·omega
   ·obtain rfl:j=d.fields.length:=by omega
    rw [List.drop_length,recR] at i8
    rw [i8] at hk
    dsimp only at hk
    repeat first|exact zE|refine zP ?_|refine zB fun b=>?_|refine zC fun a' c' hc1 hc2=>?_|(apply GJ.a;exact rfl;intro hg)|(apply GJ.o;exact rfl;intro hg)
    rw [Int.toNat_natCast,Nat.add_assoc]
    refine OpOk.load rfl rfl (Ld.rs hr1 (zBO hd hx)) ?_
    repeat first|exact zE|refine zP ?_|refine zB fun b=>?_|refine zC fun a' c' hc1 hc2=>?_|(apply GJ.a;exact rfl;intro hg)|(apply GJ.o;exact rfl;intro hg)
    have hall:(zBK s lk d=true↔∀ t:Nat,t<d.fields.length→zAZ s lk d t=true):=by simp [zBK]
    refine LoopOk.at (ι:=Nat) Keep.z (fun t=>[(76,.int .i64 (t:Int))]) (fun t=>.blk b 58 [.int .i64 0,.int .i64 0]::.blk p 138 (zAf s a++[.map (some bm)])::.obj bm (mapG (Value.int .i64) lkV M cM)::G) (fun t=>t≤d.fields.length∧∀ u:Nat,u<t→zAZ s lk d u=true) (fun t=>d.fields.length-t) 0 ?_ Sub.z Sup.z ?_
    ·exact ⟨Nat.zero_le _,fun u hu=>absurd hu (Nat.not_lt_zero u)⟩
    rintro t ⟨t1,t2⟩
    by_cases ht:t<d.fields.length
    ·repeat first|exact zE|refine zP ?_|refine zB fun b=>?_|refine zC fun a' c' hc1 hc2=>?_|(apply GJ.a;exact rfl;intro hg)|(apply GJ.o;exact rfl;intro hg)
     refine CallOk.sup (own0:=.blk p 138 (zAf s a++[.map (some bm)])::.obj bm (mapG (Value.int .i64) lkV M cM)::.blk b 58 [.int .i64 0,.int .i64 0]::G) Sup.z ?_
     refine zEi ho hc i6 i7 hd ht hlen ?_
     cases hdt:zAZ s lk d t with
     | true =>
       repeat first|exact zE|refine zP ?_|refine zB fun b=>?_|refine zC fun a' c' hc1 hc2=>?_|(apply GJ.a;exact rfl;intro hg)|(apply GJ.o;exact rfl;intro hg)
       refine Wk.id ⟨t+1,⟨rfl,?_⟩,?_,Sub.z,Sup.z⟩
       all_goals try dsimp only
       ·exact ⟨by omega,fun u hu=>by
         by_cases hut:u<t
         ·exact t2 u hut
         ·obtain rfl:u=t:=by omega
          exact hdt⟩
       ·omega
     | false =>
       have hna:¬(zBK s lk d=true):=fun h=>by rw [hall.1 h t ht] at hdt;cases hdt
       rw [if_neg hna] at hk
       have hk2:=hk M cM (fun lk2 h=>by cases h)
       dsimp only [errR,flV] at hk2
       repeat first|exact zE|refine zP ?_|refine zB fun b=>?_|refine zC fun a' c' hc1 hc2=>?_|(apply GJ.a;exact rfl;intro hg)|(apply GJ.o;exact rfl;intro hg)
       exact Wk.outS Sup.z (.refl _) hk2
    ·have hya:zBK s lk d=true:=hall.2 (fun u hu=>t2 u (by omega))
     rw [if_pos hya] at hk
     have hk2:=hk M cM (fun lk2 h=>by cases h;exact ⟨i7,i6⟩)
     dsimp only [errR,flV] at hk2
     repeat first|exact zE|refine zP ?_|refine zB fun b=>?_|refine zC fun a' c' hc1 hc2=>?_|(apply GJ.a;exact rfl;intro hg)|(apply GJ.o;exact rfl;intro hg)
     exact Wk.outS Sup.z (.refl _) hk2
 | some q =>
   obtain ⟨oa,oc⟩:=q
   obtain ⟨i9,i10⟩:=i3 _ rfl
   dsimp only at i9 i10
   have i11:=i10
   unfold maxLen at i11
   dsimp only [askC,askW,List.nil_append,List.cons_append]
   by_cases hj:j<d.fields.length
   ·obtain ⟨f,hfj⟩:∃ f,d.fields[j]?=some f:=⟨_,List.getElem?_eq_getElem hj⟩
    have hfe:d.fields[j]=f:=Option.some.inj ((List.getElem?_eq_getElem hj).symm.trans hfj)
    have hfd:=zAn d.fields hj
    rw [hfe] at hfd
    have hdj:d.fields.drop j=f::d.fields.drop (j+1):=by rw [List.drop_eq_getElem_cons hj,hfe]
    rw [hdj,recR] at i8
    have hfm':=List.mem_of_getElem? hfj
    have hty:f.type∈zAc d:=by rw [zAz hf h5];exact List.mem_map.2 ⟨f,hfm',rfl⟩
    obtain ⟨q1,q2⟩:=hks _ hty
    obtain ⟨k,hk0⟩:=Int.eq_ofNat_of_zero_le q1
    obtain ⟨e,he⟩:∃ e,s.nodes[k]?=some e:=⟨_,List.getElem?_eq_getElem (by omega)⟩
    obtain ⟨y,hy⟩:∃ y,a.xs[k]?=some y:=⟨_,List.getElem?_eq_getElem (by rw [ho.len];omega)⟩
    have hdre:=zAj _ _ _ _ _ he hy
    have hnum:zBN s (k:Int)=zBA e:=by unfold zBN;rw [Int.toNat_natCast,he]
    clear hfe hdj hty hfm'
    repeat first|exact zE|refine zP ?_|refine zB fun b=>?_|refine zC fun a' c' hc1 hc2=>?_|(apply GJ.a;exact rfl;intro hg)|(apply GJ.o;exact rfl;intro hg)
    rw [Int.toNat_natCast]
    refine OpOk.loadRow rfl rfl (LdN.at hfr hfd) rfl ?_
    repeat first|exact zE|refine zP ?_|refine zB fun b=>?_|refine zC fun a' c' hc1 hc2=>?_|(apply GJ.a;exact rfl;intro hg)|(apply GJ.o;exact rfl;intro hg)
    rename_i b9x
    obtain ⟨bF,hbF⟩:∃ z:Nat,z=b:=⟨_,rfl⟩
    subst hbF
    rw [hk0] at i8 ⊢
    refine CallOk.sup (own0:=.blk p 138 (zAf s a++[.map (some bm)])::.obj bm (mapG (Value.int .i64) lkV M cM)::.blk bF 47 (zA1 f)::.sl oa cs.length oc 176 4 (zBb cs)::.blk b9x 58 [.int .i64 0,.int .i64 0]::G) Sup.z ?_
    have hRD:Rds ro (.blk bF 47 (zA1 f)::.sl oa cs.length oc 176 4 (zBb cs)::.blk b9x 58 [.int .i64 0,.int .i64 0]::G) oa cs.length oc 4 (zBb cs):=(Rds.hasSl (by omega) (by omega) (zIp cs))
    refine ih k (by omega) (by omega) cs oa oc lk M cM _ _ hRD i5 i6 i7 (by omega) (fun M2 cM2 h2=>?_)
    dsimp only [List.cons_append,flV]
    have hne:=zBz (s:=s) (n:=n) (a:=(k:Int)) (seen:=cs) (lk:=lk)
    cases hz:zAC s n (k:Int) cs lk with
    | error z =>
      rw [hz] at i8
      dsimp only at i8
      rw [i8] at hk
      have hz1:=hne z hz
      obtain ⟨z1,z2⟩:=z
      have hk2:=hk M2 cM2 (fun lk2 h=>by cases h)
      dsimp only [errR,flV] at hk2 hz1 ⊢
      repeat first|exact zE|refine zP ?_|refine zB fun b=>?_|refine zC fun a' c' hc1 hc2=>?_|(apply GJ.a;exact rfl;intro hg)|(apply GJ.o;exact rfl;intro hg)
      exact Wk.outS Sup.z (.refl _) hk2
    | ok lk2 =>
      rw [hz] at i8
      dsimp only at i8
      obtain ⟨g1,g2⟩:=h2 lk2 hz
      dsimp only [errR]
      rw [hnum] at i8
      have hne2:zBA e=decide (e.kind=1∨e.kind=2):=rfl
      repeat first|exact zE|refine zP ?_|refine zB fun b=>?_|refine zC fun a' c' hc1 hc2=>?_|(apply GJ.a;exact rfl;intro hg)|(apply GJ.o;exact rfl;intro hg)
      rw [hk0,Int.toNat_natCast]
      refine QOk.loadRow rfl rfl (LdN.at hr1 hdre) rfl ?_
      repeat first|exact zE|refine zP ?_|refine zB fun b=>?_|refine zC fun a' c' hc1 hc2=>?_|(apply GJ.a;exact rfl;intro hg)|(apply GJ.o;exact rfl;intro hg)
      refine zAB ?_
      rw [←hne2]
      cases hbn:zBA e with
      | false =>
        rw [hbn,Bool.false_and] at i8
        obtain ⟨qn,hqn⟩:∃ q:AskD,q=⟨f.name,i,j,false⟩:=⟨_,rfl⟩
        rw [←hqn] at i8
        have hcl:zBb cs++flat [Value.agg #[str f.name,.int .i64 (i:Int),.int .i64 (j:Int),.bool false]]=zBb (cs++[qn]):=by rw [hqn];simp [zBb,askV,flat,Value.cells]
        have hse:SeenIn s (cs++[qn]):=i5.snoc (by rw [hqn];exact hd) (by rw [hqn];exact hj)
        have hnl1:cs.length+1=(cs++[qn]).length:=by rw [List.length_append,List.length_singleton]
        clear hqn hfd
        repeat first|exact zE|refine zP ?_|refine zB fun b=>?_|refine zC fun a' c' hc1 hc2=>?_|(apply GJ.a;exact rfl;intro hg)|(apply GJ.o;exact rfl;intro hg)
        rw [hcl]
        rw [hnl1] at hc1 ⊢
        refine Wk.id ⟨(j+1,cs++[qn],some (a',c'),lk2,M2,cM2),⟨rfl,?_⟩,?_,Sub.z,Sup.z⟩
        all_goals try dsimp only
        ·exact ⟨by omega,(fun h=>by cases h),(fun q hq=>by cases hq;exact ⟨hc1,hc2⟩),by rw [←hnl1];omega,hse,g2,g1,i8⟩
        ·omega
      | true =>
        rw [hbn,Bool.true_and] at i8
        obtain ⟨qn,hqn⟩:∃ q:AskD,q=⟨f.name,i,j,decide (f.derive≠3)⟩:=⟨_,rfl⟩
        rw [←hqn] at i8
        have hcl:zBb cs++flat [Value.agg #[str f.name,.int .i64 (i:Int),.int .i64 (j:Int),.bool (decide (f.derive≠3))]]=zBb (cs++[qn]):=by rw [hqn];simp [zBb,askV,flat,Value.cells]
        have hse:SeenIn s (cs++[qn]):=i5.snoc (by rw [hqn];exact hd) (by rw [hqn];exact hj)
        have hnl1:cs.length+1=(cs++[qn]).length:=by rw [List.length_append,List.length_singleton]
        clear hqn hfd
        repeat first|exact zE|refine zP ?_|refine zB fun b=>?_|refine zC fun a' c' hc1 hc2=>?_|(apply GJ.a;exact rfl;intro hg)|(apply GJ.o;exact rfl;intro hg)
        rw [hcl]
        rw [hnl1] at hc1 ⊢
        refine Wk.id ⟨(j+1,cs++[qn],some (a',c'),lk2,M2,cM2),⟨rfl,?_⟩,?_,Sub.z,Sup.z⟩
        all_goals try dsimp only
        ·exact ⟨by omega,(fun h=>by cases h),(fun q hq=>by cases hq;exact ⟨hc1,hc2⟩),by rw [←hnl1];omega,hse,g2,g1,i8⟩
        ·omega
   ·obtain rfl:j=d.fields.length:=by omega
    rw [List.drop_length,recR] at i8
    rw [i8] at hk
    dsimp only at hk
    repeat first|exact zE|refine zP ?_|refine zB fun b=>?_|refine zC fun a' c' hc1 hc2=>?_|(apply GJ.a;exact rfl;intro hg)|(apply GJ.o;exact rfl;intro hg)
    rw [Int.toNat_natCast,Nat.add_assoc]
    refine OpOk.load rfl rfl (Ld.rs hr1 (zBO hd hx)) ?_
    repeat first|exact zE|refine zP ?_|refine zB fun b=>?_|refine zC fun a' c' hc1 hc2=>?_|(apply GJ.a;exact rfl;intro hg)|(apply GJ.o;exact rfl;intro hg)
    have hall:(zBK s lk d=true↔∀ t:Nat,t<d.fields.length→zAZ s lk d t=true):=by simp [zBK]
    refine LoopOk.at (ι:=Nat) Keep.z (fun t=>[(76,.int .i64 (t:Int))]) (fun t=>.sl oa cs.length oc 176 4 (zBb cs)::.blk b 58 [.int .i64 0,.int .i64 0]::.blk p 138 (zAf s a++[.map (some bm)])::.obj bm (mapG (Value.int .i64) lkV M cM)::G) (fun t=>t≤d.fields.length∧∀ u:Nat,u<t→zAZ s lk d u=true) (fun t=>d.fields.length-t) 0 ?_ Sub.z Sup.z ?_
    ·exact ⟨Nat.zero_le _,fun u hu=>absurd hu (Nat.not_lt_zero u)⟩
    rintro t ⟨t1,t2⟩
    by_cases ht:t<d.fields.length
    ·repeat first|exact zE|refine zP ?_|refine zB fun b=>?_|refine zC fun a' c' hc1 hc2=>?_|(apply GJ.a;exact rfl;intro hg)|(apply GJ.o;exact rfl;intro hg)
     refine CallOk.sup (own0:=.blk p 138 (zAf s a++[.map (some bm)])::.obj bm (mapG (Value.int .i64) lkV M cM)::.sl oa cs.length oc 176 4 (zBb cs)::.blk b 58 [.int .i64 0,.int .i64 0]::G) Sup.z ?_
     refine zEi ho hc i6 i7 hd ht hlen ?_
     cases hdt:zAZ s lk d t with
     | true =>
       repeat first|exact zE|refine zP ?_|refine zB fun b=>?_|refine zC fun a' c' hc1 hc2=>?_|(apply GJ.a;exact rfl;intro hg)|(apply GJ.o;exact rfl;intro hg)
       refine Wk.id ⟨t+1,⟨rfl,?_⟩,?_,Sub.z,Sup.z⟩
       all_goals try dsimp only
       ·exact ⟨by omega,fun u hu=>by
         by_cases hut:u<t
         ·exact t2 u hut
         ·obtain rfl:u=t:=by omega
          exact hdt⟩
       ·omega
     | false =>
       have hna:¬(zBK s lk d=true):=fun h=>by rw [hall.1 h t ht] at hdt;cases hdt
       rw [if_neg hna] at hk
       have hk2:=hk M cM (fun lk2 h=>by cases h)
       dsimp only [errR,flV] at hk2
       repeat first|exact zE|refine zP ?_|refine zB fun b=>?_|refine zC fun a' c' hc1 hc2=>?_|(apply GJ.a;exact rfl;intro hg)|(apply GJ.o;exact rfl;intro hg)
       exact Wk.outS Sup.z (.refl _) hk2
    ·have hya:zBK s lk d=true:=hall.2 (fun u hu=>t2 u (by omega))
     rw [if_pos hya] at hk
     have hk2:=hk M cM (fun lk2 h=>by cases h;exact ⟨i7,i6⟩)
     dsimp only [errR,flV] at hk2
     repeat first|exact zE|refine zP ?_|refine zB fun b=>?_|refine zC fun a' c' hc1 hc2=>?_|(apply GJ.a;exact rfl;intro hg)|(apply GJ.o;exact rfl;intro hg)
     exact Wk.outS Sup.z (.refl _) hk2
end
def zDN (i:Nat) (seen:List AskD):List (List UInt8)→Lk→Option Lk
 | [],lk=>some lk
 | n::ns,lk=>(oneR i seen n lk).bind (zDN i seen ns)
theorem zHI {s:zAd}{n i:Nat}{d:zAh} (hd:s.nodes[i]?=some d) (seen:List AskD) (lk:Lk):zAC s (n+1) (i:Int) seen lk=match zDN i seen [d.reg,d.ereg] lk with
  | none=>.error (150,(i:Int))
  | some lk1=>if d.kind=5 then zFX s n i d seen lk1 else goR (fun k=>zAC s n k seen) (zAc d) lk1:=by
 have e:zDN i seen [d.reg,d.ereg] lk=(oneR i seen d.reg lk).bind (oneR i seen d.ereg):=by
  have e1:zDN i seen [d.ereg]=oneR i seen d.ereg:=funext fun l=>by
   unfold zDN
   cases oneR i seen d.ereg l<;>rfl
  conv=>lhs;unfold zDN
  rw [e1]
 rw [e]
 conv=>lhs;unfold zAC
 rw [Int.toNat_natCast,hd]
 rfl
theorem putLk_in {s:zAd}{lk:Lk} (h:LkIn s lk) {seen:List AskD} (hs:SeenIn s seen) {q:AskD} (hq:q∈seen) (x:Nat):LkIn s (zEM lk x q.record q.field):=fun y r f hy=>by
 unfold zEM at hy
 by_cases hxy:y=x
 ·rw [if_pos hxy] at hy
  obtain ⟨d,h1,h2⟩:=hs q hq
  cases hy
  exact ⟨d,h1,h2⟩
 ·rw [if_neg hxy] at hy
  exact h y r f hy
section
variable {ro:Ro}{K:Value→Ro→Chs→Prop}{s:zAd}{a:zAp}{p bm:Nat}
set_option maxHeartbeats 8000000 in
theorem zHq (ho:SpecOk ro s a) (hc:zAo s=0) (hlen:∀ k:Nat,k<s.nodes.length→(preI (kidsAt s) s.nodes.length (k:Int)).length≤100000):∀ n,KindRC s a ro p bm n:=by
 have hv:=Ahead.of hc
 intro n
 induction n with
 | zero=>intro i h;omega
 | succ n ih =>
   intro i hin hi seen sa sc lk M cM G K hns hsn hli hlm hb hk
   obtain ⟨d,hd⟩:∃ d,s.nodes[i]?=some d:=⟨_,List.getElem?_eq_getElem hi⟩
   have hr1:=ho.nodes
   have hm:=hr1.max
   have hnn:=hr1.le
   unfold maxLen at hm
   obtain ⟨x,hx⟩:∃ x,a.xs[i]?=some x:=⟨_,List.getElem?_eq_getElem (by rw [ho.len];exact hi)⟩
   have hn1:=ho.each i d x hd hx
   have hdr1:=zAj _ _ _ _ _ hd hx
   obtain ⟨hf,hks⟩:=hv i d hd
   have hsm:=zAI hf
   have hnl:=hns.len
   have hnc:=hns.le
   have hnm:=hns.max
   unfold maxLen at hnm
   have hZ:=zHI (n:=n) hd seen lk
   generalize zAC s (n+1) (i:Int) seen lk=Z at hk hZ
   generalize hR0:zDN i seen [d.reg,d.ereg] lk=R0 at hZ
   refine CallOk.intro (args:=[_,_,_]) (rs:=[_]) T_ok Tryz.func92 Tryz.call92 rfl rfl (by kernel_rfl) rfl rfl ?_
   repeat first|exact zE|refine zP ?_|refine zB fun b=>?_|refine zC fun a' c' hc1 hc2=>?_|(apply GJ.a;exact rfl;intro hg)|(apply GJ.o;exact rfl;intro hg)
   rw [Int.toNat_natCast]
   refine OpOk.loadRow rfl rfl (LdN.at hr1 hdr1) rfl ?_
   repeat first|exact zE|refine zP ?_|refine zB fun b=>?_|refine zC fun a' c' hc1 hc2=>?_|(apply GJ.a;exact rfl;intro hg)|(apply GJ.o;exact rfl;intro hg)
   rename_i b9x
   obtain ⟨bN,hbN⟩:∃ z:Nat,z=b:=⟨_,rfl⟩
   subst hbN
   refine OpOk.buildK (ps:=[(0,.tmp 24),(1,.tmp 27)]) [str d.reg,str d.ereg] rfl (by kernel_rfl) ?_
   repeat first|exact zE|refine zP ?_|refine zB fun b=>?_|refine zC fun a' c' hc1 hc2=>?_|(apply GJ.a;exact rfl;intro hg)|(apply GJ.o;exact rfl;intro hg)
   refine LoopOk.at (ι:=Nat × Lk × List (Int × (Nat × Nat × Nat) × Nat) × Nat) Keep.z (fun (t,lk,M,cM)=>[(29,.int .i64 (t:Int))]) (fun (t,lk,M,cM)=>.blk bN 40 (zAl d x)::.blk b9x 58 [.int .i64 0,.int .i64 0]::.blk p 138 (zAf s a++[.map (some bm)])::.obj bm (mapG (Value.int .i64) lkV M cM)::G) (fun (t,lk,M,cM)=>t≤2∧LkIn s lk∧LkM lk M∧R0=zDN i seen ([d.reg,d.ereg].drop t) lk) (fun (t,lk,M,cM)=>2-t) (0,lk,M,cM) ?_ Sub.z Sup.z ?_
   ·exact ⟨by omega,hli,hlm,hR0.symm⟩
   clear hlm hli hR0
   rintro ⟨t,lk,M,cM⟩ ⟨i1,i6,i7,i8⟩
   dsimp only [List.cons_append,List.nil_append] at i1 i6 i7 i8 ⊢
   by_cases ht:t<2
   ·obtain ⟨nm,hnm9,hnv⟩:∃ nm,[d.reg,d.ereg].drop t=nm::[d.reg,d.ereg].drop (t+1)∧([str d.reg,str d.ereg]:List Value)[t]?=some (str nm):=by
     have h01:t=0∨t=1:=by omega
     rcases h01 with rfl|rfl
     ·exact ⟨d.reg,rfl,rfl⟩
     ·exact ⟨d.ereg,rfl,rfl⟩
    rw [hnm9,zDN] at i8
    repeat first|exact zE|refine zP ?_|refine zB fun b=>?_|refine zC fun a' c' hc1 hc2=>?_|(apply GJ.a;exact rfl;intro hg)|(apply GJ.o;exact rfl;intro hg)
    refine OpOk.index1 (k:=t) (n:=2) rfl rfl Tryz.underlying174 Tryz.underlying9 rfl (by kernel_rfl) rfl (by omega) hnv ?_
    repeat first|exact zE|refine zP ?_|refine zB fun b=>?_|refine zC fun a' c' hc1 hc2=>?_|(apply GJ.a;exact rfl;intro hg)|(apply GJ.o;exact rfl;intro hg)
    by_cases hnm:nm=[]
    ·rw [oneR,if_pos hnm,Option.bind_some] at i8
     refine Br.t hnm ?_
     repeat first|exact zE|refine zP ?_|refine zB fun b=>?_|refine zC fun a' c' hc1 hc2=>?_|(apply GJ.a;exact rfl;intro hg)|(apply GJ.o;exact rfl;intro hg)
     refine Wk.id ⟨(t+1,lk,M,cM),⟨rfl,?_⟩,?_,Sub.z,Sup.z⟩
     all_goals try dsimp only
     ·exact ⟨by omega,i6,i7,i8⟩
     ·omega
    rw [oneR,if_neg hnm] at i8
    refine Br.f hnm ?_
    repeat first|exact zE|refine zP ?_|refine zB fun b=>?_|refine zC fun a' c' hc1 hc2=>?_|(apply GJ.a;exact rfl;intro hg)|(apply GJ.o;exact rfl;intro hg)
    refine find_ok (l:=seen) (by exact hns.up) rfl ?_
    cases hfq:zAO seen nm with
    | none =>
      rw [hfq] at i8
      dsimp only [Option.bind_none] at i8
      rw [i8] at hZ
      dsimp only at hZ
      rw [hZ] at hk
      have hk2:=hk M cM (fun lk2 h=>by cases h)
      dsimp only [errR,flV] at hk2
      dsimp only [Option.isSome_none,noAsk]
      repeat first|exact zE|refine zP ?_|refine zB fun b=>?_|refine zC fun a' c' hc1 hc2=>?_|(apply GJ.a;exact rfl;intro hg)|(apply GJ.o;exact rfl;intro hg)
      exact Wk.outS Sup.z (.refl _) hk2
    | some q =>
      rw [hfq] at i8
      dsimp only at i8
      have hq:=List.mem_of_find?_eq_some hfq
      cases hqn:q.number with
      | false =>
        rw [if_neg (by rw [hqn];decide)] at i8
        rw [Option.bind_none] at i8
        rw [i8] at hZ
        dsimp only at hZ
        rw [hZ] at hk
        have hk2:=hk M cM (fun lk2 h=>by cases h)
        dsimp only [errR,flV] at hk2
        dsimp only [Option.isSome_some,askV]
        rw [hqn]
        repeat first|exact zE|refine zP ?_|refine zB fun b=>?_|refine zC fun a' c' hc1 hc2=>?_|(apply GJ.a;exact rfl;intro hg)|(apply GJ.o;exact rfl;intro hg)
        exact Wk.outS Sup.z (.refl _) hk2
      | true =>
        rw [if_pos hqn,Option.bind_some] at i8
        have hin2:=putLk_in i6 hsn hq i
        have hput:=fun c=>LkM.put i7 i q.record q.field c
        obtain ⟨q1,q2,q3,q4⟩:=q
        dsimp only at hqn
        subst hqn
        dsimp only [Option.isSome_some,askV] at i8 hin2 hput ⊢
        repeat first|exact zE|refine zP ?_|refine zB fun b=>?_|refine zC fun a' c' hc1 hc2=>?_|(apply GJ.a;exact rfl;intro hg)|(apply GJ.o;exact rfl;intro hg)
        refine OpOk.mapUpdateG (kt:=3) (et:=70) (kv:=Value.int .i64) (vv:=lkV) (k:=(i:Int)) (v:=(i,q2,q3)) rfl rfl rfl (by kernel_rfl) (KeyEnc.int (by kernel_rfl)) i7.map trivial (fun c2=>?_)
        repeat first|exact zE|refine zP ?_|refine zB fun b=>?_|refine zC fun a' c' hc1 hc2=>?_|(apply GJ.a;exact rfl;intro hg)|(apply GJ.o;exact rfl;intro hg)
        refine Wk.id ⟨(t+1,zEM lk i q2 q3,putG M cM (i:Int) (i,q2,q3),c2),⟨rfl,?_⟩,?_,Sub.z,Sup.z⟩
        all_goals try dsimp only
        ·exact ⟨by omega,hin2,hput cM,i8⟩
        ·omega
   ·obtain rfl:t=2:=by omega
    rw [show zDN i seen ([d.reg,d.ereg].drop 2) lk=some lk from rfl] at i8
    rw [i8] at hZ
    dsimp only at hZ
    by_cases h5:d.kind=5
    ·rw [if_pos h5] at hZ
     repeat first|exact zE|refine zP ?_|refine zB fun b=>?_|refine zC fun a' c' hc1 hc2=>?_|(apply GJ.a;exact rfl;intro hg)|(apply GJ.o;exact rfl;intro hg)
     refine CallOk.sup (own0:=.blk p 138 (zAf s a++[.map (some bm)])::.obj bm (mapG (Value.int .i64) lkV M cM)::.blk bN 40 (zAl d x)::.blk b9x 58 [.int .i64 0,.int .i64 0]::G) Sup.z ?_
     have hRD:Rds ro (.blk bN 40 (zAl d x)::.blk b9x 58 [.int .i64 0,.int .i64 0]::G) sa seen.length sc 4 (zBb seen):=hns.up
     refine rgrec_ok ho hc ih hin hd h5 hRD hsn i6 i7 hb hlen (fun M2 cM2 h2=>?_)
     rw [←hZ] at h2 ⊢
     have hk2:=hk M2 cM2 h2
     generalize errR Z=z at *
     obtain ⟨z1,z2⟩:=z
     dsimp only [flV,List.cons_append] at hk2 ⊢
     repeat first|exact zE|refine zP ?_|refine zB fun b=>?_|refine zC fun a' c' hc1 hc2=>?_|(apply GJ.a;exact rfl;intro hg)|(apply GJ.o;exact rfl;intro hg)
     exact Wk.outS Sup.z (.refl _) hk2
    ·rw [if_neg h5] at hZ
     repeat first|exact zE|refine zP ?_|refine zB fun b=>?_|refine zC fun a' c' hc1 hc2=>?_|(apply GJ.a;exact rfl;intro hg)|(apply GJ.o;exact rfl;intro hg)
     refine zC6 hn1 (by omega) (fun a1 n1 c1 h1 h2 h3=>?_)
     subst h1
     have hkl:(zAc d).length≤1000:=by unfold zAc;split<;>simp<;>omega
     obtain ⟨lk01,hlk01⟩:∃ z,z=lk:=⟨_,rfl⟩
     rw [←hlk01] at hZ
     repeat first|exact zE|refine zP ?_|refine zB fun b=>?_|refine zC fun a' c' hc1 hc2=>?_|(apply GJ.a;exact rfl;intro hg)|(apply GJ.o;exact rfl;intro hg)
     refine LoopOk.at (ι:=Nat × Lk × List (Int × (Nat × Nat × Nat) × Nat) × Nat) Keep.z (fun (j,lk,M,cM)=>[(71,.int .i64 (j:Int))]) (fun (j,lk,M,cM)=>.sl a1 (zAc d).length c1 3 1 (zAs (zAc d))::.blk bN 40 (zAl d x)::.blk b9x 58 [.int .i64 0,.int .i64 0]::.blk p 138 (zAf s a++[.map (some bm)])::.obj bm (mapG (Value.int .i64) lkV M cM)::G) (fun (j,lk,M,cM)=>j≤(zAc d).length∧LkIn s lk∧LkM lk M∧goR (fun k=>zAC s n k seen) (zAc d) lk01=goR (fun k=>zAC s n k seen) ((zAc d).drop j) lk) (fun (j,lk,M,cM)=>(zAc d).length-j) (0,lk,M,cM) ?_ Sub.z Sup.z ?_
     ·exact ⟨Nat.zero_le _,i6,i7,by rw [hlk01];rfl⟩
     clear i6 i7 i8 hlk01
     rintro ⟨j,lk,M,cM⟩ ⟨j1,j2,j3,j4⟩
     dsimp only [List.cons_append,List.nil_append] at j1 j2 j3 j4 ⊢
     by_cases hj:j<(zAc d).length
     ·obtain ⟨y,hy⟩:∃ y,(zAc d)[j]?=some y:=⟨_,List.getElem?_eq_getElem hj⟩
      have hyb:(zAc d)[((j:Nat):Int).toNat]! = y:=by rw [Int.toNat_natCast,List.getElem!_eq_getElem?_getD,hy];rfl
      have hdj:(zAc d).drop j=y::(zAc d).drop (j+1):=by rw [List.drop_eq_getElem_cons hj];congr 1;exact Option.some.inj ((List.getElem?_eq_getElem hj).symm.trans hy)
      rw [hdj,goR] at j4
      obtain ⟨q1,q2⟩:=hks y (List.mem_of_getElem? hy)
      obtain ⟨k,rfl⟩:=Int.eq_ofNat_of_zero_le q1
      repeat first|exact zE|refine zP ?_|refine zB fun b=>?_|refine zC fun a' c' hc1 hc2=>?_|(apply GJ.a;exact rfl;intro hg)|(apply GJ.o;exact rfl;intro hg)
      rw [hyb]
      refine CallOk.sup (own0:=.blk p 138 (zAf s a++[.map (some bm)])::.obj bm (mapG (Value.int .i64) lkV M cM)::.sl a1 (zAc d).length c1 3 1 (zAs (zAc d))::.blk bN 40 (zAl d x)::.blk b9x 58 [.int .i64 0,.int .i64 0]::G) Sup.z ?_
      have hRD:Rds ro (.sl a1 (zAc d).length c1 3 1 (zAs (zAc d))::.blk bN 40 (zAl d x)::.blk b9x 58 [.int .i64 0,.int .i64 0]::G) sa seen.length sc 4 (zBb seen):=hns.up
      refine ih k (by omega) (by omega) seen sa sc lk M cM _ _ hRD hsn j2 j3 (by omega) (fun M2 cM2 h2=>?_)
      dsimp only [List.cons_append,flV]
      have hne:=zBz (s:=s) (n:=n) (a:=(k:Int)) (seen:=seen) (lk:=lk)
      cases hz:zAC s n (k:Int) seen lk with
      | error z =>
        rw [hz] at j4
        dsimp only at j4
        rw [j4] at hZ
        rw [hZ] at hk
        have hz1:=hne z hz
        obtain ⟨z1,z2⟩:=z
        have hk2:=hk M2 cM2 (fun lk2 h=>by cases h)
        dsimp only [errR,flV] at hk2 hz1 ⊢
        repeat first|exact zE|refine zP ?_|refine zB fun b=>?_|refine zC fun a' c' hc1 hc2=>?_|(apply GJ.a;exact rfl;intro hg)|(apply GJ.o;exact rfl;intro hg)
        exact Wk.outS Sup.z (.refl _) hk2
      | ok lk2 =>
        rw [hz] at j4
        dsimp only at j4
        obtain ⟨g1,g2⟩:=h2 lk2 hz
        dsimp only [errR]
        repeat first|exact zE|refine zP ?_|refine zB fun b=>?_|refine zC fun a' c' hc1 hc2=>?_|(apply GJ.a;exact rfl;intro hg)|(apply GJ.o;exact rfl;intro hg)
        refine Wk.id ⟨(j+1,lk2,M2,cM2),⟨rfl,?_⟩,?_,Sub.z,Sup.z⟩
        all_goals try dsimp only
        ·exact ⟨by omega,g2,g1,j4⟩
        ·omega
     ·rw [List.drop_eq_nil_of_le (by omega),goR] at j4
      rw [j4] at hZ
      rw [hZ] at hk
      have hk2:=hk M cM (fun lk2 h=>by cases h;exact ⟨j3,j2⟩)
      dsimp only [errR,flV] at hk2
      repeat first|exact zE|refine zP ?_|refine zB fun b=>?_|refine zC fun a' c' hc1 hc2=>?_|(apply GJ.a;exact rfl;intro hg)|(apply GJ.o;exact rfl;intro hg)
      exact Wk.outS Sup.z (.refl _) hk2
end
theorem zHy {s:zAd} (hv:Ahead s):∀ (n a:Nat),a<n→a<s.nodes.length→∀ i∈preI (kidsAt s) s.nodes.length (a:Int),(preI (kidsAt s) s.nodes.length i).length≤(preI (kidsAt s) s.nodes.length (a:Int)).length
 | 0,a,h,_,_,_=>by omega
 | n+1,a,h,ha,i,hi=>by
   have hi0:=hi
   rw [zAL hv.kidsAt ha] at hi
   rcases List.mem_cons.1 hi with h1|h1
   ·rw [h1];exact Nat.le_refl _
   ·obtain ⟨k,hk,hik⟩:=List.mem_flatMap.1 h1
    obtain ⟨q1,q2⟩:=hv.kidsAt a k hk
    obtain ⟨m,rfl⟩:=Int.eq_ofNat_of_zero_le q1
    have h2:=zHy hv n m (by omega) (by omega) i hik
    have h3:=zFE (f:=preI (kidsAt s) s.nodes.length) hk
    rw [zAL hv.kidsAt ha,List.length_cons]
    omega
theorem pre_all {s:zAd} (hc:zAo s=0) (k:Nat) (hk:k<s.nodes.length):(preI (kidsAt s) s.nodes.length (k:Int)).length≤100000:=by
 have hv:=Ahead.of hc
 obtain ⟨d,h1,h2⟩:=zD1 hc hk
 have hm:=List.mem_of_getElem? h1
 obtain ⟨q1,q2⟩:=zCt hc d hm
 have h3:=pre_len hc hm
 obtain ⟨m,hm0⟩:=Int.eq_ofNat_of_zero_le q1
 rw [hm0] at h2 h3 q2
 have h4:=zHy hv (m+1) m (by omega) (by omega) _ h2
 have h5:s.nodes.length≤2048:=by
  obtain ⟨_,_,_,_,h1,h2,_,_⟩:=zA8 hc
  exact h1
 omega
theorem scope_chk {s:zAd} (h:(zBo s).1=0):zAo s=0:=by
 unfold zBo at h
 split at h
 ·rename_i hc;exact absurd h hc
 ·rename_i hc;exact Decidable.of_not_not hc
section
variable {ro:Ro}{own:Chs}{K:Value→Ro→Chs→Prop}{s:zAd}{a:zAp}
set_option maxHeartbeats 8000000 in
theorem zDt (ho:SpecOk ro s a) (hM:MaxOk ro) (hT:TextIn s)
  (hk1:∀ ro',Le ro ro'→∀ e,zAM s=.error e→K (tup [.pointer none,flV e]) ro' own)
  (hk2:∀ ro',Le ro ro'→∀ p bm M cM lk,zAM s=.ok lk→LkM lk M→LkIn s lk→K (tup [ptr' p,flV (0,0)]) ro' (.blk p 138 (zAf s a++[.map (some bm)])::.obj bm (mapG (Value.int .i64) lkV M cM)::own)) :
  CallOk Tryz.prog 67 #[.agg (zAf s a).toArray] ro own K:=by
 have hcl:(Value.agg (zAf s a).toArray).cells.toList=zAf s a:=rfl
 have hr2:=ho.defs
 have hm2:=hr2.max
 have hle2:=hr2.le
 unfold maxLen at hm2
 have hsz:=@scope_chk s
 have hLR:zAM s=if (zBo s).1≠0 then .error (zBo s) else zCX s s.defs noLk:=rfl
 generalize zAM s=LR at hk1 hk2 hLR
 refine CallOk.intro (args:=[_]) (rs:=[_,_]) T_ok Tryz.func67 Tryz.call67 rfl rfl (by kernel_rfl) rfl rfl ?_
 repeat first|exact zE|refine zP ?_|refine zB fun b=>?_|refine zC fun a' c' hc1 hc2=>?_|(apply GJ.a;exact rfl;intro hg)|(apply GJ.o;exact rfl;intro hg)
 rw [hcl]
 refine zEA ho hM hT (fun ro2 hl2=>?_)
 have hL2:Leq ro ro2:=⟨hl2.1⟩
 generalize zBo s=z at *
 obtain ⟨z1,z2⟩:=z
 dsimp only [flV] at hsz hLR ⊢
 by_cases hz:z1≠0
 ·rw [if_pos hz] at hLR
  have hk3:=hk1 ro2 hl2 _ hLR
  dsimp only [flV] at hk3
  repeat first|exact zE|refine zP ?_|refine zB fun b=>?_|refine zC fun a' c' hc1 hc2=>?_|(apply GJ.a;exact rfl;intro hg)|(apply GJ.o;exact rfl;intro hg)
  exact Wk.outS Sup.z (.refl _) hk3
 rw [if_neg hz] at hLR
 have hc:=hsz (Decidable.of_not_not hz)
 have hv:=Ahead.of hc
 have hdi:=zCt hc
 obtain ⟨hnn,hnd⟩:s.nodes.length≤2048∧s.defs.length≤64:=by
  obtain ⟨_,_,_,_,h1,h2,_,_⟩:=zA8 hc
  exact ⟨h1,h2⟩
 have hpa:=pre_all hc
 clear hsz
 repeat first|exact zE|refine zP ?_|refine zB fun b=>?_|refine zC fun a' c' hc1 hc2=>?_|(apply GJ.a;exact rfl;intro hg)|(apply GJ.o;exact rfl;intro hg)
 refine OpOk.makeMapG (kv:=Value.int .i64) (vv:=lkV) (fun bm=>?_)
 repeat first|exact zE|refine zP ?_|refine zB fun b=>?_|refine zC fun a' c' hc1 hc2=>?_|(apply GJ.a;exact rfl;intro hg)|(apply GJ.o;exact rfl;intro hg)
 rename_i bS bR bF
 obtain ⟨p,hp⟩:∃ z:Nat,z=b:=⟨_,rfl⟩
 subst hp
 rw [show (Value.agg #[.slice a.na s.nodes.length a.nc,.slice a.da s.defs.length a.dc,.map (some bm)]).cells.toList=zAf s a++[.map (some bm)] from rfl]
 refine LoopOk.at (ι:=Nat × Lk × List (Int × (Nat × Nat × Nat) × Nat) × Nat) Keep.z (fun (j,lk,M,cM)=>[(22,.int .i64 (j:Int))]) (fun (j,lk,M,cM)=>.blk p 138 (zAf s a++[.map (some bm)])::.obj bm (mapG (Value.int .i64) lkV M cM)::.blk bF 58 [.int .i64 z1,.int .i64 z2]::.blk bR 58 [.int .i64 0,.int .i64 0]::.blk bS 25 (zAf s a)::own) (fun (j,lk,M,cM)=>j≤s.defs.length∧LkIn s lk∧LkM lk M∧LR=zCX s (s.defs.drop j) lk) (fun (j,lk,M,cM)=>s.defs.length-j) (0,noLk,[],0) ?_ Sub.z Sup.z ?_
 ·exact ⟨Nat.zero_le _,(fun x r f h=>by cases h),LkM.nil,hLR⟩
 clear hLR
 rintro ⟨j,lk,M,cM⟩ ⟨i1,i2,i3,i4⟩
 dsimp only [List.cons_append,List.nil_append] at i1 i2 i3 i4 ⊢
 have ho2:=ho.lift hl2
 by_cases hj:j<s.defs.length
 ·obtain ⟨d,hd⟩:∃ d,s.defs[j]?=some d:=⟨_,List.getElem?_eq_getElem hj⟩
  have hde:s.defs[j]=d:=Option.some.inj ((List.getElem?_eq_getElem hj).symm.trans hd)
  have hdd:=zBv s.defs hj
  rw [hde] at hdd
  have hdj:s.defs.drop j=d::s.defs.drop (j+1):=by rw [List.drop_eq_getElem_cons hj,hde]
  have hmem:=List.mem_of_getElem? hd
  obtain ⟨q1,q2⟩:=hdi d hmem
  obtain ⟨k,hk0⟩:=Int.eq_ofNat_of_zero_le q1
  rw [hdj,zCX] at i4
  have hr4:=ho2.defs
  clear hde hd hdj hmem
  repeat first|exact zE|refine zP ?_|refine zB fun b=>?_|refine zC fun a' c' hc1 hc2=>?_|(apply GJ.a;exact rfl;intro hg)|(apply GJ.o;exact rfl;intro hg)
  rw [Int.toNat_natCast]
  refine OpOk.loadRow rfl rfl (LdN.at hr4 hdd) rfl ?_
  repeat first|exact zE|refine zP ?_|refine zB fun b=>?_|refine zC fun a' c' hc1 hc2=>?_|(apply GJ.a;exact rfl;intro hg)|(apply GJ.o;exact rfl;intro hg)
  obtain ⟨bD,hbD⟩:∃ z:Nat,z=b:=⟨_,rfl⟩
  subst hbD
  rw [hk0] at i4 ⊢
  refine CallOk.sup (own0:=.blk p 138 (zAf s a++[.map (some bm)])::.obj bm (mapG (Value.int .i64) lkV M cM)::.blk bD 44 (defV d)::.blk bF 58 [.int .i64 z1,.int .i64 z2]::.blk bR 58 [.int .i64 0,.int .i64 0]::.blk bS 25 (zAf s a)::own) Sup.z ?_
  refine zHq ho2 hc hpa s.nodes.length k (by omega) (by omega) [] none 0 lk M cM _ _ (Rds.nil _ _ _) (fun q h=>by cases h) i2 i3 (by simp;omega) (fun M2 cM2 h2=>?_)
  dsimp only [List.cons_append,flV]
  have hne:=zBz (s:=s) (n:=s.nodes.length) (a:=(k:Int)) (seen:=[]) (lk:=lk)
  cases hz9:zAC s s.nodes.length (k:Int) [] lk with
  | error y =>
    rw [hz9] at i4
    dsimp only at i4
    have hy1:=hne y hz9
    have hk3:=hk1 ro2 hl2 y i4
    obtain ⟨y1,y2⟩:=y
    dsimp only [errR,flV] at hk3 hy1 ⊢
    repeat first|exact zE|refine zP ?_|refine zB fun b=>?_|refine zC fun a' c' hc1 hc2=>?_|(apply GJ.a;exact rfl;intro hg)|(apply GJ.o;exact rfl;intro hg)
    exact Wk.outS Sup.z (.refl _) hk3
  | ok lk2 =>
    rw [hz9] at i4
    dsimp only at i4
    obtain ⟨g1,g2⟩:=h2 lk2 hz9
    dsimp only [errR]
    repeat first|exact zE|refine zP ?_|refine zB fun b=>?_|refine zC fun a' c' hc1 hc2=>?_|(apply GJ.a;exact rfl;intro hg)|(apply GJ.o;exact rfl;intro hg)
    refine Wk.id ⟨(j+1,lk2,M2,cM2),⟨rfl,?_⟩,?_,Sub.z,Sup.z⟩
    all_goals try dsimp only
    ·exact ⟨by omega,g2,g1,i4⟩
    ·omega
 ·rw [List.drop_eq_nil_of_le (by omega),zCX] at i4
  have hk3:=hk2 ro2 hl2 p bm M cM lk i4 i3 i2
  dsimp only [flV] at hk3
  repeat first|exact zE|refine zP ?_|refine zB fun b=>?_|refine zC fun a' c' hc1 hc2=>?_|(apply GJ.a;exact rfl;intro hg)|(apply GJ.o;exact rfl;intro hg)
  exact Wk.outS Sup.z (.refl _) hk3
end
def derG (name:List UInt8):List zAm→Nat→Int
 | [],_=>-1
 | f::fs,i=>if (f.derive=1∨f.derive=2)∧f.of=name then (i:Int) else derG name fs (i+1)
theorem zHZ {name:List UInt8}:∀ (l:List zAm) (i:Nat),derG name l i=match l.findIdx? (fun f=>decide (f.derive=1∨f.derive=2)&&decide (f.of=name)) with
  | some k=>((i+k:Nat):Int)
  | none=>-1
 | [],i=>rfl
 | f::l,i=>by
   rw [derG,List.findIdx?_cons]
   by_cases h:(f.derive=1∨f.derive=2)∧f.of=name
   ·rw [if_pos h]
    have:(decide (f.derive=1∨f.derive=2)&&decide (f.of=name))=true:=by simp [h.1,h.2]
    rw [if_pos this]
    rfl
   ·rw [if_neg h,zHZ l (i+1)]
    have:¬((decide (f.derive=1∨f.derive=2)&&decide (f.of=name))=true):=by
     rw [Bool.and_eq_true,decide_eq_true_eq,decide_eq_true_eq];exact h
    rw [if_neg this]
    cases l.findIdx? (fun f=>decide (f.derive=1∨f.derive=2)&&decide (f.of=name)) with
    | none=>rfl
    | some k=>show (((i+1+k:Nat):Int))=((i+(k+1):Nat):Int);omega
theorem derOf_eq (d:zAh) (name:List UInt8):derOf d name=derG name d.fields 0:=by
 rw [zHZ]
 unfold derOf
 cases d.fields.findIdx? (fun f=>decide (f.derive=1∨f.derive=2)&&decide (f.of=name)) with
 | none=>rfl
 | some k=>simp
def derAt (d:zAh) (z:Int):Int:=if z<0 then -1 else match d.fields[z.toNat]? with
 | none=>-1
 | some g=>derOf d g.name
section
variable {ro:Ro}{own:Chs}{K:Value→Ro→Chs→Prop}{s:zAd}{a:zAp}
set_option maxHeartbeats 4000000 in
theorem zCq (ho:SpecOk ro s a) (hM:MaxOk ro) (hT:TextIn s) (hk:∀ ro',Le ro ro'→K (flV (errR (zAM s))) ro' own):CallOk Tryz.prog 34 #[.agg (zAf s a).toArray] ro own K:=by
 have hcl:(Value.agg (zAf s a).toArray).cells.toList=zAf s a:=rfl
 refine CallOk.intro (args:=[_]) (rs:=[_]) T_ok Tryz.func34 Tryz.call34 rfl rfl (by kernel_rfl) rfl rfl ?_
 repeat first|exact zE|refine zP ?_|refine zB fun b=>?_|refine zC fun a' c' hc1 hc2=>?_|(apply GJ.a;exact rfl;intro hg)|(apply GJ.o;exact rfl;intro hg)
 rw [hcl]
 refine zDt ho hM hT (fun ro2 hl2 e he=>?_) (fun ro2 hl2 p bm M cM lk hlk _ _=>?_)
 ·have hk2:=hk ro2 hl2
  have hL2:Leq ro ro2:=⟨hl2.1⟩
  rw [he] at hk2
  obtain ⟨e1,e2⟩:=e
  dsimp only [errR,flV,tup] at hk2 ⊢
  repeat first|exact zE|refine zP ?_|refine zB fun b=>?_|refine zC fun a' c' hc1 hc2=>?_|(apply GJ.a;exact rfl;intro hg)|(apply GJ.o;exact rfl;intro hg)
  exact Wk.outS Sup.z (.refl _) hk2
 ·have hk2:=hk ro2 hl2
  have hL2:Leq ro ro2:=⟨hl2.1⟩
  rw [hlk] at hk2
  dsimp only [errR,flV,tup] at hk2 ⊢
  repeat first|exact zE|refine zP ?_|refine zB fun b=>?_|refine zC fun a' c' hc1 hc2=>?_|(apply GJ.a;exact rfl;intro hg)|(apply GJ.o;exact rfl;intro hg)
  exact Wk.outS Sup.z (.refl _) hk2
set_option maxHeartbeats 8000000 in
theorem zEa {d:zAh}{x:zA5}{z:Int} (hn:NodeOk ro d x) (hk:K (.int .i64 (derAt d z)) ro own):CallOk Tryz.prog 43 #[.agg (zAl d x).toArray,.int .i64 z] ro own K:=by
 have hr:=hn.fields
 have hm:=hr.max
 have hle:=hr.le
 unfold maxLen at hm
 have hcl:(Value.agg (zAl d x).toArray).cells.toList=zAl d x:=rfl
 unfold derAt at hk
 refine CallOk.intro (args:=[_,_]) (rs:=[_]) T_ok Tryz.func43 Tryz.call43 rfl rfl (by kernel_rfl) rfl rfl ?_
 by_cases h0:z<0
 ·rw [if_pos h0] at hk
  repeat first|exact zE|refine zP ?_|refine zB fun b=>?_|refine zC fun a' c' hc1 hc2=>?_|(apply GJ.a;exact rfl;intro hg)|(apply GJ.o;exact rfl;intro hg)
  exact Wk.outS Sup.z (.refl _) hk
 rw [if_neg h0] at hk
 obtain ⟨i,rfl⟩:=Int.eq_ofNat_of_zero_le (show 0≤z by omega)
 rw [Int.toNat_natCast] at hk
 by_cases hi:i<d.fields.length
 rotate_left
 ·rw [List.getElem?_eq_none (by omega)] at hk
  dsimp only at hk
  repeat first|exact zE|refine zP ?_|refine zB fun b=>?_|refine zC fun a' c' hc1 hc2=>?_|(apply GJ.a;exact rfl;intro hg)|(apply GJ.o;exact rfl;intro hg)
  exact Wk.outS Sup.z (.refl _) hk
 obtain ⟨g,hg⟩:∃ g,d.fields[i]?=some g:=⟨_,List.getElem?_eq_getElem hi⟩
 rw [hg] at hk
 dsimp only at hk
 have hg0:(zA0 d.fields)[i*5+0]?=some (str g.name):=by rw [zBG hg (by decide)];rfl
 rw [derOf_eq] at hk
 repeat first|exact zE|refine zP ?_|refine zB fun b=>?_|refine zC fun a' c' hc1 hc2=>?_|(apply GJ.a;exact rfl;intro hg)|(apply GJ.o;exact rfl;intro hg)
 rw [hcl]
 obtain ⟨bN,hbN⟩:∃ z:Nat,z=b:=⟨_,rfl⟩
 subst hbN
 refine LoopOk.at (ι:=Nat) Keep.z (fun j=>[(19,.int .i64 (j:Int))]) (fun j=>.blk bN 40 (zAl d x)::own) (fun j=>j≤d.fields.length∧derG g.name d.fields 0=derG g.name (d.fields.drop j) j) (fun j=>d.fields.length-j) 0 ?_ Sub.z Sup.z ?_
 ·exact ⟨Nat.zero_le _,rfl⟩
 rintro j ⟨i1,i2⟩
 dsimp only [List.cons_append,List.nil_append] at i1 i2 ⊢
 by_cases hj:j<d.fields.length
 ·obtain ⟨f,hf⟩:∃ f,d.fields[j]?=some f:=⟨_,List.getElem?_eq_getElem hj⟩
  have hfe:d.fields[j]=f:=Option.some.inj ((List.getElem?_eq_getElem hj).symm.trans hf)
  have hfd:=zAn d.fields hj
  rw [hfe] at hfd
  have hdr:d.fields.drop j=f::d.fields.drop (j+1):=by rw [List.drop_eq_getElem_cons hj,hfe]
  rw [hdr,derG] at i2
  clear hfe hdr hg hf
  repeat first|exact zE|refine zP ?_|refine zB fun b=>?_|refine zC fun a' c' hc1 hc2=>?_|(apply GJ.a;exact rfl;intro hg)|(apply GJ.o;exact rfl;intro hg)
  rw [Int.toNat_natCast]
  refine OpOk.loadRow rfl rfl (LdN.at hr hfd) rfl ?_
  by_cases hd:f.derive=1∨f.derive=2
  rotate_left
  ·rw [if_neg (fun h=>hd h.1)] at i2
   have hd1:f.derive≠1:=fun h=>hd (.inl h)
   have hd2:f.derive≠2:=fun h=>hd (.inr h)
   clear hd
   repeat first|exact zE|refine zP ?_|refine zB fun b=>?_|refine zC fun a' c' hc1 hc2=>?_|(apply GJ.a;exact rfl;intro hg)|(apply GJ.o;exact rfl;intro hg)
   refine Wk.id ⟨j+1,⟨rfl,?_⟩,?_,Sub.z,Sup.z⟩
   all_goals try dsimp only
   ·exact ⟨by omega,i2⟩
   ·omega
  by_cases hof:f.of=g.name
  ·rw [if_pos ⟨hd,hof⟩] at i2
   rw [i2] at hk
   rcases hd with hd1|hd2
   ·have hd2:f.derive≠2:=by omega
    repeat first|exact zE|refine zP ?_|refine zB fun b=>?_|refine zC fun a' c' hc1 hc2=>?_|(apply GJ.a;exact rfl;intro hg)|(apply GJ.o;exact rfl;intro hg)
    rw [Int.toNat_natCast,Nat.add_assoc]
    refine QOk.load rfl rfl (Ld.rs hr hg0) ?_
    repeat first|exact zE|refine zP ?_|refine zB fun b=>?_|refine zC fun a' c' hc1 hc2=>?_|(apply GJ.a;exact rfl;intro hg)|(apply GJ.o;exact rfl;intro hg)
    exact Wk.outS Sup.z (.refl _) hk
   ·have hd1:f.derive≠1:=by omega
    repeat first|exact zE|refine zP ?_|refine zB fun b=>?_|refine zC fun a' c' hc1 hc2=>?_|(apply GJ.a;exact rfl;intro hg)|(apply GJ.o;exact rfl;intro hg)
    rw [Int.toNat_natCast,Nat.add_assoc]
    refine QOk.load rfl rfl (Ld.rs hr hg0) ?_
    repeat first|exact zE|refine zP ?_|refine zB fun b=>?_|refine zC fun a' c' hc1 hc2=>?_|(apply GJ.a;exact rfl;intro hg)|(apply GJ.o;exact rfl;intro hg)
    exact Wk.outS Sup.z (.refl _) hk
  ·rw [if_neg (fun h=>hof h.2)] at i2
   rcases hd with hd1|hd2
   ·have hd2:f.derive≠2:=by omega
    repeat first|exact zE|refine zP ?_|refine zB fun b=>?_|refine zC fun a' c' hc1 hc2=>?_|(apply GJ.a;exact rfl;intro hg)|(apply GJ.o;exact rfl;intro hg)
    rw [Int.toNat_natCast,Nat.add_assoc]
    refine QOk.load rfl rfl (Ld.rs hr hg0) ?_
    repeat first|exact zE|refine zP ?_|refine zB fun b=>?_|refine zC fun a' c' hc1 hc2=>?_|(apply GJ.a;exact rfl;intro hg)|(apply GJ.o;exact rfl;intro hg)
    refine Wk.id ⟨j+1,⟨rfl,?_⟩,?_,Sub.z,Sup.z⟩
    all_goals try dsimp only
    ·exact ⟨by omega,i2⟩
    ·omega
   ·have hd1:f.derive≠1:=by omega
    repeat first|exact zE|refine zP ?_|refine zB fun b=>?_|refine zC fun a' c' hc1 hc2=>?_|(apply GJ.a;exact rfl;intro hg)|(apply GJ.o;exact rfl;intro hg)
    rw [Int.toNat_natCast,Nat.add_assoc]
    refine QOk.load rfl rfl (Ld.rs hr hg0) ?_
    repeat first|exact zE|refine zP ?_|refine zB fun b=>?_|refine zC fun a' c' hc1 hc2=>?_|(apply GJ.a;exact rfl;intro hg)|(apply GJ.o;exact rfl;intro hg)
    refine Wk.id ⟨j+1,⟨rfl,?_⟩,?_,Sub.z,Sup.z⟩
    all_goals try dsimp only
    ·exact ⟨by omega,i2⟩
    ·omega
 ·obtain rfl:j=d.fields.length:=by omega
  rw [List.drop_length,derG] at i2
  rw [i2] at hk
  repeat first|exact zE|refine zP ?_|refine zB fun b=>?_|refine zC fun a' c' hc1 hc2=>?_|(apply GJ.a;exact rfl;intro hg)|(apply GJ.o;exact rfl;intro hg)
  exact Wk.outS Sup.z (.refl _) hk
end
def byR (s:zAd) (i:Nat):Option (Nat × Nat):=match zAM s with
 | .ok lk=>lk i
 | .error _=>none
def byV (i:Nat):Option (Nat × Nat)→Value
 | some (r,f)=>.agg #[.int .i64 (i:Int),.int .i64 (r:Int),.int .i64 (f:Int)]
 | none=>.agg #[.int .i64 0,.int .i64 0,.int .i64 0]
def zAv (lk:Lk) (i:Nat):List (Nat × Nat × Nat):=(List.range i).filterMap (fun x=>(lk x).map (fun p=>(x,p.1,p.2)))
theorem zEU (lk:Lk) (i:Nat):zAv lk (i+1)=zAv lk i++(match lk i with|some p=>[(i,p.1,p.2)]|none=>[]):=by
 unfold zAv
 rw [List.range_succ,List.filterMap_append]
 congr 1
 cases h:lk i with
 | none=>simp [h]
 | some p=>simp [h]
theorem zC5 (lk:Lk) (i:Nat):(zAv lk i).length≤i:=by
 unfold zAv
 have:=List.length_filterMap_le (fun x=>(lk x).map (fun p=>(x,p.1,p.2))) (List.range i)
 rwa [List.length_range] at this
def zAw (l:List (Nat × Nat × Nat)):List Value:=l.flatMap (fun q=>[.int .i64 (q.1:Int),.int .i64 (q.2.1:Int),.int .i64 (q.2.2:Int)])
theorem zD7 (l:List (Nat × Nat × Nat)):(zAw l).length=l.length*3:=by
 induction l with
 | nil=>rfl
 | cons q l ih=>simp [zAw] at ih ⊢;omega
theorem zFj {s:zAd}:∀ {ds:List DefD}{lk:Lk}{e:Int × Int},zCX s ds lk=.error e→e.1≠0
 | [],_,_,h=>by cases h
 | d::ds,lk,e,h=>by
   unfold zCX at h
   cases hx:zAC s s.nodes.length d.type [] lk with
   | error y=>rw [hx] at h;cases h;exact zBz _ hx
   | ok lk1=>rw [hx] at h;exact zFj h
theorem zCd {s:zAd}{e:Int × Int} (h:zAM s=.error e):e.1≠0:=by
 unfold zAM at h
 split at h
 ·rename_i hz;cases h;exact hz
 ·exact zFj h
theorem zBe {s:zAd}{lk:Lk} (h:zAM s=.ok lk):zAo s=0∧s.nodes.length≤2048:=by
 unfold zAM at h
 split at h
 ·cases h
 ·rename_i hz
  have hc:=scope_chk (Decidable.of_not_not hz)
  obtain ⟨_,_,_,_,h1,h2,_,_⟩:=zA8 hc
  exact ⟨hc,h1⟩
section
variable {ro:Ro}{own:Chs}{K:Value→Ro→Chs→Prop}{s:zAd}{a:zAp}
set_option maxHeartbeats 4000000 in
theorem rgby_ok (ho:SpecOk ro s a) (hM:MaxOk ro) (hT:TextIn s) {i:Nat} (hk:∀ ro',Le ro ro'→K (tup [byV i (byR s i),.bool (byR s i).isSome]) ro' own):CallOk Tryz.prog 38 #[.agg (zAf s a).toArray,.int .i64 (i:Int)] ro own K:=by
 have hcl:(Value.agg (zAf s a).toArray).cells.toList=zAf s a:=rfl
 unfold byR at hk
 refine CallOk.intro (args:=[_,_]) (rs:=[_,_]) T_ok Tryz.func38 Tryz.call38 rfl rfl (by kernel_rfl) rfl rfl ?_
 repeat first|exact zE|refine zP ?_|refine zB fun b=>?_|refine zC fun a' c' hc1 hc2=>?_|(apply GJ.a;exact rfl;intro hg)|(apply GJ.o;exact rfl;intro hg)
 rw [hcl]
 refine zDt ho hM hT (fun ro2 hl2 e he=>?_) (fun ro2 hl2 p bm M cM lk hlk hlm hli9=>?_)
 ·have hk2:=hk ro2 hl2
  have hL2:Leq ro ro2:=⟨hl2.1⟩
  have hz:=zCd he
  rw [he] at hk2
  obtain ⟨e1,e2⟩:=e
  dsimp only [flV,tup,byV,Option.isSome_none] at hk2 hz ⊢
  repeat first|exact zE|refine zP ?_|refine zB fun b=>?_|refine zC fun a' c' hc1 hc2=>?_|(apply GJ.a;exact rfl;intro hg)|(apply GJ.o;exact rfl;intro hg)
  exact Wk.outS Sup.z (.refl _) hk2
 ·have hk2:=hk ro2 hl2
  have hL2:Leq ro ro2:=⟨hl2.1⟩
  rw [hlk] at hk2
  dsimp only [flV,tup] at hk2 ⊢
  repeat first|exact zE|refine zP ?_|refine zB fun b=>?_|refine zC fun a' c' hc1 hc2=>?_|(apply GJ.a;exact rfl;intro hg)|(apply GJ.o;exact rfl;intro hg)
  refine OpOk.lookupOkG (kt:=3) (et:=70) (kv:=Value.int .i64) (vv:=lkV) (k:=(i:Int)) (z:=.agg #[.int .i64 0,.int .i64 0,.int .i64 0]) rfl rfl Tryz.underlying136 (KeyEnc.int Tryz.underlying3) hlm.map trivial (by kernel_rfl) ?_
  rw [hlm.is]
  cases hli:lk i with
  | none =>
    rw [hli] at hk2
    dsimp only [byV,Option.isSome_none] at hk2
    simp only [Option.map_none,Option.getD_none,Option.isSome_none]
    repeat first|exact zE|refine zP ?_|refine zB fun b=>?_|refine zC fun a' c' hc1 hc2=>?_|(apply GJ.a;exact rfl;intro hg)|(apply GJ.o;exact rfl;intro hg)
    exact Wk.outS Sup.z (.refl _) hk2
  | some q =>
    obtain ⟨r,f⟩:=q
    rw [hli] at hk2
    dsimp only [byV,Option.isSome_some] at hk2
    simp only [Option.map_some,Option.getD_some,Option.isSome_some,lkV]
    repeat first|exact zE|refine zP ?_|refine zB fun b=>?_|refine zC fun a' c' hc1 hc2=>?_|(apply GJ.a;exact rfl;intro hg)|(apply GJ.o;exact rfl;intro hg)
    exact Wk.outS Sup.z (.refl _) hk2
set_option maxHeartbeats 8000000 in
theorem zCP (ho:SpecOk ro s a) (hM:MaxOk ro) (hT:TextIn s)
  (hk1:∀ ro',Le ro ro'→∀ e,zAM s=.error e→K (tup [.slice none 0 0,flV e]) ro' own)
  (hk2:∀ ro',Le ro ro'→∀ lk,zAM s=.ok lk→∀ la lc,(zAv lk s.nodes.length).length≤lc→lc≤maxLen→K (tup [.slice la (zAv lk s.nodes.length).length lc,flV (0,0)]) ro' (.sl la (zAv lk s.nodes.length).length lc 70 3 (zAw (zAv lk s.nodes.length))::own)) :
  CallOk Tryz.prog 37 #[.agg (zAf s a).toArray] ro own K:=by
 have hcl:(Value.agg (zAf s a).toArray).cells.toList=zAf s a:=rfl
 have hr1:=ho.nodes
 have hm:=hr1.max
 have hnc:=hr1.le
 unfold maxLen at hm
 refine CallOk.intro (args:=[_]) (rs:=[_,_]) T_ok Tryz.func37 Tryz.call37 rfl rfl (by kernel_rfl) rfl rfl ?_
 repeat first|exact zE|refine zP ?_|refine zB fun b=>?_|refine zC fun a' c' hc1 hc2=>?_|(apply GJ.a;exact rfl;intro hg)|(apply GJ.o;exact rfl;intro hg)
 rw [hcl]
 refine zDt ho hM hT (fun ro2 hl2 e he=>?_) (fun ro2 hl2 p bm M cM lk hlk hlm hli9=>?_)
 ·have hk3:=hk1 ro2 hl2 e he
  have hL2:Leq ro ro2:=⟨hl2.1⟩
  have hz:=zCd he
  obtain ⟨e1,e2⟩:=e
  dsimp only [flV,tup] at hk3 hz ⊢
  repeat first|exact zE|refine zP ?_|refine zB fun b=>?_|refine zC fun a' c' hc1 hc2=>?_|(apply GJ.a;exact rfl;intro hg)|(apply GJ.o;exact rfl;intro hg)
  exact Wk.outS Sup.z (.refl _) hk3
 ·have hk3:=hk2 ro2 hl2 lk hlk
  have hL2:Leq ro ro2:=⟨hl2.1⟩
  dsimp only [flV,tup] at hk3 ⊢
  repeat first|exact zE|refine zP ?_|refine zB fun b=>?_|refine zC fun a' c' hc1 hc2=>?_|(apply GJ.a;exact rfl;intro hg)|(apply GJ.o;exact rfl;intro hg)
  rename_i bS bR
  obtain ⟨bF,hbF⟩:∃ z:Nat,z=b:=⟨_,rfl⟩
  subst hbF
  have hll:=zC5 lk
  have h2048:=(zBe hlk).2
  refine LoopOk.at (ι:=Nat × Option Addr × Nat) Keep.z (fun (j,la,lc)=>[(22,.int .i64 (j:Int)),(6,.slice la (zAv lk j).length lc)]) (fun (j,la,lc)=>.sl la (zAv lk j).length lc 70 3 (zAw (zAv lk j))::.blk bF 58 [.int .i64 0,.int .i64 0]::.blk p 138 (zAf s a++[.map (some bm)])::.obj bm (mapG (Value.int .i64) lkV M cM)::.blk bR 58 [.int .i64 0,.int .i64 0]::.blk bS 25 (zAf s a)::own) (fun (j,la,lc)=>j≤s.nodes.length∧(zAv lk j).length≤lc∧lc≤maxLen) (fun (j,la,lc)=>s.nodes.length-j) (0,none,0) ?_ Sub.z Sup.z ?_
  ·exact ⟨Nat.zero_le _,Nat.le_refl _,Nat.zero_le _⟩
  rintro ⟨j,la,lc⟩ ⟨i1,i2,i3⟩
  dsimp only [List.cons_append,List.nil_append] at i1 i2 i3 ⊢
  have i4:=i3
  unfold maxLen at i4
  have hlj:=hll j
  have hs:=zEU lk j
  by_cases hj:j<s.nodes.length
  ·repeat first|exact zE|refine zP ?_|refine zB fun b=>?_|refine zC fun a' c' hc1 hc2=>?_|(apply GJ.a;exact rfl;intro hg)|(apply GJ.o;exact rfl;intro hg)
   refine OpOk.lookupOkG (kt:=3) (et:=70) (kv:=Value.int .i64) (vv:=lkV) (k:=(j:Int)) (z:=.agg #[.int .i64 0,.int .i64 0,.int .i64 0]) rfl rfl Tryz.underlying136 (KeyEnc.int Tryz.underlying3) hlm.map trivial (by kernel_rfl) ?_
   rw [hlm.is]
   cases hli:lk j with
   | none =>
     rw [hli] at hs
     dsimp only at hs
     rw [List.append_nil] at hs
     simp only [Option.map_none,Option.getD_none,Option.isSome_none]
     repeat first|exact zE|refine zP ?_|refine zB fun b=>?_|refine zC fun a' c' hc1 hc2=>?_|(apply GJ.a;exact rfl;intro hg)|(apply GJ.o;exact rfl;intro hg)
     rw [←hs] at i2 ⊢
     refine Wk.id ⟨(j+1,la,lc),⟨rfl,?_⟩,?_,Sub.z,Sup.z⟩
     all_goals try dsimp only
     ·exact ⟨by omega,i2,i3⟩
     ·omega
   | some q =>
     obtain ⟨r,f⟩:=q
     rw [hli] at hs
     dsimp only at hs
     have hnl:(zAv lk j).length+1=(zAv lk (j+1)).length:=by rw [hs,List.length_append,List.length_singleton]
     have hcl2:zAw (zAv lk j)++flat [Value.agg #[.int .i64 (j:Int),.int .i64 (r:Int),.int .i64 (f:Int)]]=zAw (zAv lk (j+1)):=by rw [hs];simp [zAw,flat,Value.cells]
     have h3l:=zD7 (zAv lk j)
     simp only [Option.map_some,Option.getD_some,Option.isSome_some,lkV]
     repeat first|exact zE|refine zP ?_|refine zB fun b=>?_|refine zC fun a' c' hc1 hc2=>?_|(apply GJ.a;exact rfl;intro hg)|(apply GJ.o;exact rfl;intro hg)
     rw [hcl2]
     rw [hnl] at hc1 ⊢
     refine Wk.id ⟨(j+1,a',c'),⟨rfl,?_⟩,?_,Sub.z,Sup.z⟩
     all_goals try dsimp only
     ·exact ⟨by omega,hc1,hc2⟩
     ·omega
  ·obtain rfl:j=s.nodes.length:=by omega
   have hk4:=hk3 la lc i2 i3
   repeat first|exact zE|refine zP ?_|refine zB fun b=>?_|refine zC fun a' c' hc1 hc2=>?_|(apply GJ.a;exact rfl;intro hg)|(apply GJ.o;exact rfl;intro hg)
   exact Wk.outS Sup.z (.refl _) hk4
end
def zAV (d:zAh) (j:Nat):List (Nat × Int × Int):=(List.range j).filterMap (fun i=>match d.fields[i]? with
 | some f=>if f.derive=3 then some (i,zAt d f.of,zAt d f.to) else none
 | none=>none)
theorem zFt {d:zAh}{j:Nat}{f:zAm} (hf:d.fields[j]?=some f):zAV d (j+1)=zAV d j++(if f.derive=3 then [(j,zAt d f.of,zAt d f.to)] else []):=by
 unfold zAV
 rw [List.range_succ,List.filterMap_append]
 congr 1
 by_cases h:f.derive=3
 ·simp [hf,h]
 ·simp [hf,h]
theorem zGr (d:zAh) (j:Nat):(zAV d j).length≤j:=by
 unfold zAV
 have:=List.length_filterMap_le (fun i=>match d.fields[i]? with
  | some f=>if f.derive=3 then some (i,zAt d f.of,zAt d f.to) else none
  | none=>none) (List.range j)
 rwa [List.length_range] at this
def zBw (l:List (Nat × Int × Int)):List Value:=l.flatMap (fun q=>[.int .i64 (q.1:Int),.int .i64 q.2.1,.int .i64 q.2.2])
theorem zGs (l:List (Nat × Int × Int)):(zBw l).length=l.length*3:=by
 induction l with
 | nil=>rfl
 | cons q l ih=>simp [zBw] at ih ⊢;omega
section
variable {ro:Ro}{own:Chs}{K:Value→Ro→Chs→Prop}{s:zAd}{a:zAp}
set_option maxHeartbeats 8000000 in
theorem zEG {d:zAh}{x:zA5} (hn:NodeOk ro d x) (h64:d.fields.length≤64)
  (hk:∀ la lc,(zAV d d.fields.length).length≤lc→lc≤maxLen→K (.slice la (zAV d d.fields.length).length lc) ro (.sl la (zAV d d.fields.length).length lc 81 3 (zBw (zAV d d.fields.length))::own)) :
  CallOk Tryz.prog 42 #[.agg (zAl d x).toArray] ro own K:=by
 have hr:=hn.fields
 have hm:=hr.max
 have hle:=hr.le
 unfold maxLen at hm
 have hcl:(Value.agg (zAl d x).toArray).cells.toList=zAl d x:=rfl
 refine CallOk.intro (args:=[_]) (rs:=[_]) T_ok Tryz.func42 Tryz.call42 rfl rfl (by kernel_rfl) rfl rfl ?_
 repeat first|exact zE|refine zP ?_|refine zB fun b=>?_|refine zC fun a' c' hc1 hc2=>?_|(apply GJ.a;exact rfl;intro hg)|(apply GJ.o;exact rfl;intro hg)
 rw [hcl]
 obtain ⟨bN,hbN⟩:∃ z:Nat,z=b:=⟨_,rfl⟩
 subst hbN
 have hll:=zGr d
 refine LoopOk.at (ι:=Nat × Option Addr × Nat) Keep.z (fun (j,la,lc)=>[(9,.int .i64 (j:Int)),(3,.slice la (zAV d j).length lc)]) (fun (j,la,lc)=>.sl la (zAV d j).length lc 81 3 (zBw (zAV d j))::.blk bN 40 (zAl d x)::own) (fun (j,la,lc)=>j≤d.fields.length∧(zAV d j).length≤lc∧lc≤maxLen) (fun (j,la,lc)=>d.fields.length-j) (0,none,0) ?_ Sub.z Sup.z ?_
 ·exact ⟨Nat.zero_le _,Nat.le_refl _,Nat.zero_le _⟩
 rintro ⟨j,la,lc⟩ ⟨i1,i2,i3⟩
 dsimp only [List.cons_append,List.nil_append] at i1 i2 i3 ⊢
 have i4:=i3
 unfold maxLen at i4
 have hlj:=hll j
 by_cases hj:j<d.fields.length
 ·obtain ⟨f,hf⟩:∃ f,d.fields[j]?=some f:=⟨_,List.getElem?_eq_getElem hj⟩
  have hfe:d.fields[j]=f:=Option.some.inj ((List.getElem?_eq_getElem hj).symm.trans hf)
  have hfd:=zAn d.fields hj
  rw [hfe] at hfd
  have hs:=zFt hf
  clear hfe hf
  repeat first|exact zE|refine zP ?_|refine zB fun b=>?_|refine zC fun a' c' hc1 hc2=>?_|(apply GJ.a;exact rfl;intro hg)|(apply GJ.o;exact rfl;intro hg)
  rw [Int.toNat_natCast]
  refine OpOk.loadRow rfl rfl (LdN.at hr hfd) rfl ?_
  by_cases h3:f.derive=3
  ·rw [if_pos h3] at hs
   have hnl:(zAV d j).length+1=(zAV d (j+1)).length:=by rw [hs,List.length_append,List.length_singleton]
   have h3l:=zGs (zAV d j)
   generalize hz1:zAt d f.of=z1 at hs
   generalize hz2:zAt d f.to=z2 at hs
   have hcl2:zBw (zAV d j)++flat [Value.agg #[.int .i64 (j:Int),.int .i64 z1,.int .i64 z2]]=zBw (zAV d (j+1)):=by rw [hs];simp [zBw,flat,Value.cells]
   repeat first|exact zE|refine zP ?_|refine zB fun b=>?_|refine zC fun a' c' hc1 hc2=>?_|(apply GJ.a;exact rfl;intro hg)|(apply GJ.o;exact rfl;intro hg)
   refine zBY hn ?_
   repeat first|exact zE|refine zP ?_|refine zB fun b=>?_|refine zC fun a' c' hc1 hc2=>?_|(apply GJ.a;exact rfl;intro hg)|(apply GJ.o;exact rfl;intro hg)
   refine zBY hn ?_
   rw [hz1,hz2]
   repeat first|exact zE|refine zP ?_|refine zB fun b=>?_|refine zC fun a' c' hc1 hc2=>?_|(apply GJ.a;exact rfl;intro hg)|(apply GJ.o;exact rfl;intro hg)
   refine QOk.buildK (ps:=[(0,.tmp 18),(1,.tmp 22),(2,.tmp 26)]) [.int .i64 (j:Int),.int .i64 z1,.int .i64 z2] rfl (by kernel_rfl) ?_
   repeat first|exact zE|refine zP ?_|refine zB fun b=>?_|refine zC fun a' c' hc1 hc2=>?_|(apply GJ.a;exact rfl;intro hg)|(apply GJ.o;exact rfl;intro hg)
   rw [hcl2]
   rw [hnl] at hc1 ⊢
   refine Wk.id ⟨(j+1,a',c'),⟨rfl,?_⟩,?_,Sub.z,Sup.z⟩
   all_goals try dsimp only
   ·exact ⟨by omega,hc1,hc2⟩
   ·omega
  ·rw [if_neg h3,List.append_nil] at hs
   repeat first|exact zE|refine zP ?_|refine zB fun b=>?_|refine zC fun a' c' hc1 hc2=>?_|(apply GJ.a;exact rfl;intro hg)|(apply GJ.o;exact rfl;intro hg)
   rw [←hs] at i2 ⊢
   refine Wk.id ⟨(j+1,la,lc),⟨rfl,?_⟩,?_,Sub.z,Sup.z⟩
   all_goals try dsimp only
   ·exact ⟨by omega,i2,i3⟩
   ·omega
 ·obtain rfl:j=d.fields.length:=by omega
  have hk4:=hk la lc i2 i3
  repeat first|exact zE|refine zP ?_|refine zB fun b=>?_|refine zC fun a' c' hc1 hc2=>?_|(apply GJ.a;exact rfl;intro hg)|(apply GJ.o;exact rfl;intro hg)
  exact Wk.outS Sup.z (.refl _) hk4
end
theorem encComap {P:Program}{kt:TypeId}{κ κ':Type}{kv:κ→Value}{ok:κ→Prop} (E:KeyEnc P kt kv ok) (f:κ'→κ) (hf:∀ a b,f a=f b→a=b):KeyEnc P kt (fun k=>kv (f k)) (fun k=>ok (f k)) where
 check k hk w em:=E.check (f k) hk w em
 search w k hk es he:=E.search w (f k) hk es (fun e h=>by
  obtain ⟨j,h1,h2⟩:=he e h
  exact ⟨f j,h1,h2⟩)
 stays k hk w:=E.stays (f k) hk w
 inj a b h:=hf a b (E.inj _ _ h)
def nN (k:Nat):Value:=.int .i64 (k:Int)
def twoN (p:Nat × Nat):Value:=.agg #[.int .i64 (p.1:Int),.int .i64 (p.2:Int)]
def okN (p:Nat × Nat):Prop:=(Lit.int .i64 (p.1:Int)).wf=true∧(Lit.int .i64 (p.2:Int)).wf=true
theorem okN_of {x y:Nat} (hx:x<100000) (hy:y<100000):okN (x,y):=by
 have h:∀ z:Nat,z<100000→(Lit.int .i64 (z:Int)).wf=true:=fun z hz=>by
  show (decide (IntKind.i64.min≤(z:Int))&&decide ((z:Int)≤IntKind.i64.max))=true
  rw [show IntKind.i64.min=-9223372036854775808 by decide,show IntKind.i64.max=9223372036854775807 by decide,decide_eq_true (by omega),decide_eq_true (by omega)]
  rfl
 exact ⟨h x hx,h y hy⟩
theorem zEo:KeyEnc Tryz.prog 78 twoN okN:=encComap (KeyEnc.two (q:=.i64) (e:=3) (deep_law_gate (by kernel_rfl) (by decide +kernel) (by decide +kernel) (by kernel_rfl) (by kernel_rfl)) (by kernel_rfl) (by decide +kernel) (by kernel_rfl) (by kernel_rfl) (by kernel_rfl) (by kernel_rfl)) (fun p:Nat × Nat=>((p.1:Int),(p.2:Int))) (fun a b h=>Prod.ext (Int.ofNat.inj (Prod.mk.inj h).1) (Int.ofNat.inj (Prod.mk.inj h).2))
def cntL (l:List (Nat × Nat × Nat)) (k:Nat × Nat):Nat:=(l.filter (fun q=>decide ((q.2.1,q.2.2)=k))).length
structure AskM (l:List (Nat × Nat × Nat)) (M:List ((Nat × Nat) × Nat × Nat)) (c:Nat):Prop where
 map:MapOk okN M
 born:BornOk M c
 is:∀ k,getG M k=if cntL l k=0 then none else some (cntL l k)
theorem AskM.nil:AskM [] [] 0:=⟨MapOk.nil,BornOk.nil,fun k=>rfl⟩
theorem zIg (l:List (Nat × Nat × Nat)) (q:Nat × Nat × Nat) (k:Nat × Nat):cntL (l++[q]) k=cntL l k+if (q.2.1,q.2.2)=k then 1 else 0:=by
 unfold cntL
 rw [List.filter_append,List.length_append]
 by_cases h:(q.2.1,q.2.2)=k
 ·simp [h]
 ·simp [h]
theorem put_set {κ ν:Type} [DecidableEq κ] {l:List (κ × ν × Nat)} (hn:(l.map (·.1)).Nodup) {j:Nat}{q:κ × ν × Nat} (hj:l[j]?=some q) (c:Nat) (v:ν):l.set j (q.1,v,q.2.2)=putG l c q.1 v:=((Go.E.get_at hn hj).2 c v).symm
theorem AskM.add {l:List (Nat × Nat × Nat)}{M M2:List ((Nat × Nat) × Nat × Nat)}{c c2:Nat} (h:AskM l M c) (q:Nat × Nat × Nat) (hok:okN (q.2.1,q.2.2)) (c0:Nat) (he:M2=putG M c0 (q.2.1,q.2.2) (cntL l (q.2.1,q.2.2)+1)) (hB:BornOk M2 c2):AskM (l++[q]) M2 c2:=by
 refine ⟨he▸h.map.put hok c0 _,hB,fun k=>?_⟩
 rw [he,zBF,zIg]
 by_cases hk:k=(q.2.1,q.2.2)
 ·subst hk;simp
 ·rw [if_neg hk,show (if (q.2.1,q.2.2)=k then 1 else 0)=0 from if_neg (fun e=>hk e.symm),Nat.add_zero];exact h.is k
theorem AskM.entry0 {l:List (Nat × Nat × Nat)}{M:List ((Nat × Nat) × Nat × Nat)}{c:Nat} (h:AskM l M c) (q:Nat × Nat × Nat) (hok:okN (q.2.1,q.2.2)) (hg:getG M (q.2.1,q.2.2)=none):AskM (l++[q]) ((M++[((q.2.1,q.2.2),0,c)]).set M.length ((q.2.1,q.2.2),cntL l (q.2.1,q.2.2)+1,c)) (c+1):=by
 have hall:∀ p∈M,p.1≠(q.2.1,q.2.2):=fun p hp e=>by
  obtain ⟨j,hj⟩:=List.getElem?_of_mem hp
  have:=(Go.E.get_at h.map.nodup hj).1
  rw [e,hg] at this
  cases this
 have hB:=(h.born.snoc (q.2.1,q.2.2) 0).set (j:=M.length) (q:=((q.2.1,q.2.2),0,c)) (by simp) (q.2.1,q.2.2) (cntL l (q.2.1,q.2.2)+1)
 refine h.add q hok c ?_ hB
 rw [(get_none hall).2]
 simp
theorem AskM.entry1 {l:List (Nat × Nat × Nat)}{M:List ((Nat × Nat) × Nat × Nat)}{c:Nat} (h:AskM l M c) (q:Nat × Nat × Nat) (hok:okN (q.2.1,q.2.2)) {j:Nat}{r:(Nat × Nat) × Nat × Nat} (hj:M[j]?=some r) (hr:r.1=(q.2.1,q.2.2)):AskM (l++[q]) (M.set j (r.1,cntL l (q.2.1,q.2.2)+1,r.2.2)) c:=by
 have hB:=h.born.set hj r.1 (cntL l (q.2.1,q.2.2)+1)
 refine h.add q hok c ?_ hB
 rw [put_set h.map.nodup hj c,hr]
theorem none_all {κ ν:Type} [DecidableEq κ] {ok:κ→Prop}{M:List (κ × ν × Nat)} (h:MapOk ok M) {k:κ} (hg:getG M k=none):∀ p∈M,p.1≠k:=fun p hp e=>by
 obtain ⟨j,hj⟩:=List.getElem?_of_mem hp
 have:=(Go.E.get_at h.nodup hj).1
 rw [e,hg] at this
 cases this
theorem zFe {κ ν:Type} [DecidableEq κ] {k:κ}{v:ν}{c:Nat}:∀ {l:List (κ × ν × Nat)},getG l k=none→getG (l++[(k,v,c)]) k=some v
 | [],_=>by simp [getG]
 | p::l,h=>by
   unfold getG at h
   split at h
   ·cases h
   ·rename_i hne
    rw [List.cons_append,getG,if_neg hne]
    exact zFe h
theorem zCe:∀ (l:List (Nat × Nat × Nat)) {i:Nat}{q:Nat × Nat × Nat},l[i]?=some q→((zAw l).drop (i*3)).take 3=[.int .i64 (q.1:Int),.int .i64 (q.2.1:Int),.int .i64 (q.2.2:Int)]
 | [],i,q,h=>by simp at h
 | x::l,0,q,h=>by simp at h;subst h;simp [zAw]
 | x::l,i+1,q,h=>by
   have ih:=zCe l (i:=i) (q:=q) (by simpa using h)
   rw [show (i+1)*3=3+i*3 by omega,←List.drop_drop]
   rw [show (zAw (x::l)).drop 3=zAw l by simp [zAw]]
   exact ih
section
variable {ro:Ro}{own:Chs}{K:Value→Ro→Chs→Prop}{s:zAd}{a:zAp}
set_option maxHeartbeats 8000000 in
theorem zDX (ho:SpecOk ro s a) (hM:MaxOk ro) (hT:TextIn s) (hsm:∀ lk,zAM s=.ok lk→∀ q∈zAv lk s.nodes.length,q.2.1<100000∧q.2.2<100000)
  (hk1:∀ ro',Le ro ro'→∀ e,zAM s=.error e→K (tup [.map none,flV e]) ro' own)
  (hk2:∀ ro',Le ro ro'→∀ lk,zAM s=.ok lk→∀ bA MA cA,AskM (zAv lk s.nodes.length) MA cA→K (tup [.map (some bA),flV (0,0)]) ro' (.obj bA (mapG twoN nN MA cA)::own)) :
  CallOk Tryz.prog 41 #[.agg (zAf s a).toArray] ro own K:=by
 have hcl:(Value.agg (zAf s a).toArray).cells.toList=zAf s a:=rfl
 refine CallOk.intro (args:=[_]) (rs:=[_,_]) T_ok Tryz.func41 Tryz.call41 rfl rfl (by kernel_rfl) rfl rfl ?_
 repeat first|exact zE|refine zP ?_|refine zB fun b=>?_|refine zC fun a' c' hc1 hc2=>?_|(apply GJ.a;exact rfl;intro hg)|(apply GJ.o;exact rfl;intro hg)
 rw [hcl]
 refine zCP ho hM hT (fun ro2 hl2 e he=>?_) (fun ro2 hl2 lk hlk la lc h1 h2=>?_)
 ·have hk3:=hk1 ro2 hl2 e he
  have hL2:Leq ro ro2:=⟨hl2.1⟩
  have hz:=zCd he
  obtain ⟨e1,e2⟩:=e
  dsimp only [flV,tup] at hk3 hz ⊢
  repeat first|exact zE|refine zP ?_|refine zB fun b=>?_|refine zC fun a' c' hc1 hc2=>?_|(apply GJ.a;exact rfl;intro hg)|(apply GJ.o;exact rfl;intro hg)
  exact Wk.outS Sup.z (.refl _) hk3
 ·have hk3:=hk2 ro2 hl2 lk hlk
  have hL2:Leq ro ro2:=⟨hl2.1⟩
  have h2048:=(zBe hlk).2
  have hll:=zC5 lk s.nodes.length
  have hsq:=hsm lk hlk
  clear hsm hk1 hk2
  generalize zAv lk s.nodes.length=L at *
  have hlv:=zD7 L
  unfold maxLen at h2
  dsimp only [flV,tup] at hk3 ⊢
  repeat first|exact zE|refine zP ?_|refine zB fun b=>?_|refine zC fun a' c' hc1 hc2=>?_|(apply GJ.a;exact rfl;intro hg)|(apply GJ.o;exact rfl;intro hg)
  refine OpOk.makeMapG (kv:=twoN) (vv:=nN) (fun bA=>?_)
  repeat first|exact zE|refine zP ?_|refine zB fun b=>?_|refine zC fun a' c' hc1 hc2=>?_|(apply GJ.a;exact rfl;intro hg)|(apply GJ.o;exact rfl;intro hg)
  rename_i bS bR
  obtain ⟨bF,hbF⟩:∃ z:Nat,z=b:=⟨_,rfl⟩
  subst hbF
  refine LoopOk.at (ι:=Nat × List ((Nat × Nat) × Nat × Nat) × Nat) Keep.z (fun (j,M,cM)=>[(21,.int .i64 (j:Int))]) (fun (j,M,cM)=>.obj bA (mapG twoN nN M cM)::.blk bF 58 [.int .i64 0,.int .i64 0]::.sl la L.length lc 70 3 (zAw L)::.blk bR 58 [.int .i64 0,.int .i64 0]::.blk bS 25 (zAf s a)::own) (fun (j,M,cM)=>j≤L.length∧AskM (L.take j) M cM) (fun (j,M,cM)=>L.length-j) (0,[],0) ?_ Sub.z Sup.z ?_
  ·exact ⟨Nat.zero_le _,AskM.nil⟩
  rintro ⟨j,M,cM⟩ ⟨i1,i2⟩
  dsimp only [List.cons_append,List.nil_append] at i1 i2 ⊢
  by_cases hj:j<L.length
  ·obtain ⟨q,hq⟩:∃ q,L[j]?=some q:=⟨_,List.getElem?_eq_getElem hj⟩
   have hdq:=zCe L hq
   have htk:L.take (j+1)=L.take j++[q]:=by rw [List.take_add_one,hq];rfl
   obtain ⟨s1,s2⟩:=hsq q (List.mem_of_getElem? hq)
   have hok:=okN_of s1 s2
   repeat first|exact zE|refine zP ?_|refine zB fun b=>?_|refine zC fun a' c' hc1 hc2=>?_|(apply GJ.a;exact rfl;intro hg)|(apply GJ.o;exact rfl;intro hg)
   rw [Int.toNat_natCast]
   have hrl:Rds ro2 (.obj bA (mapG twoN nN M cM)::.blk bF 58 [.int .i64 0,.int .i64 0]::.sl la L.length lc 70 3 (zAw L)::.blk bR 58 [.int .i64 0,.int .i64 0]::.blk bS 25 (zAf s a)::own) la L.length lc 3 (zAw L):=Rds.hasSl h1 h2 (by omega)
   refine OpOk.loadRow rfl rfl (LdN.atR hrl hdq (by omega)) rfl ?_
   obtain ⟨key,hkey⟩:∃ z:Nat × Nat,z=(q.2.1,q.2.2):=⟨_,rfl⟩
   have hgv:((getG M key).map nN).getD (.int .i64 0)=.int .i64 (cntL (L.take j) key:Int):=by
    rw [i2.is key]
    by_cases h0:cntL (L.take j) key=0
    ·rw [if_pos h0,h0];rfl
    ·rw [if_neg h0];rfl
   have hcb:cntL (L.take j) key≤2048:=by
    have e1:=List.length_filter_le (fun q=>decide ((q.2.1,q.2.2)=key)) (L.take j)
    have e2:=List.length_take_le j L
    unfold cntL
    omega
   have hkv:twoN key=.agg #[.int .i64 (q.2.1:Int),.int .i64 (q.2.2:Int)]:=by rw [hkey];rfl
   have hokk:okN key:=hkey▸hok
   have he0:=i2.entry0 q hok
   have he1:=fun (j1:Nat) (r:(Nat × Nat) × Nat × Nat)=>i2.entry1 q hok (j:=j1) (r:=r)
   rw [←htk,←hkey] at he0
   rw [←htk,←hkey] at he1
   have hbo:=i2.born
   have hmo:=i2.map
   have hbo0:=hbo.snoc key 0
   generalize hcn:cntL (L.take j) key=cn at *
   have hcast:(some (Value.int .i64 ((cn:Int)+1)))=some (nN (cn+1)):=rfl
   repeat (first|exact zE|refine wkN ?_|refine Bs.all ?_|(show QOk _ _ _ _ _ _ _;refine QOk.build rfl rfl Nf.auto ?_)|refine zB (fun b=>?_)|refine zC (fun a' c' hc1 hc2=>?_)|(show GJ _ _ _ _ _ _ _;first|refine GJ.t (by decide) ?_|refine GJ.f (by decide) ?_|refine GJ.ft (by decide) ?_|refine GJ.ff (by decide) ?_)|(show Br _ _ _;first|refine Br.t (by decide) ?_|refine Br.f (by decide) ?_)|(apply GJ.a;exact rfl;intro hg)|(apply GJ.o;exact rfl;intro hg))
   refine CodeOk.drawnK 6 6 NfT.auto rfl (by kernel_rfl) (by rfl) (by kernel_rfl) ?_
   refine Stop.mk ?_
   refine Bs.mk ⟨[.blk b 70 [.int .i64 (q.1:Int),.int .i64 (q.2.1:Int),.int .i64 (q.2.2:Int)]],Sup.z,?_⟩
   repeat (first|exact zE|refine wkU ?_|(show QOk _ _ _ _ _ _ _;refine QOk.build rfl rfl Nf.auto ?_)|(show GJ _ _ _ _ _ _ _;first|with_reducible refine GJ.neF ?_|with_reducible refine GJ.neT ?_)|(show Br _ _ _;with_reducible refine Br.ne ?_)|refine zB (fun b=>?_)|refine zC (fun a' c' hc1 hc2=>?_)|(apply GJ.a;exact rfl;intro hg)|(apply GJ.o;exact rfl;intro hg))
   refine QOk.buildK (ps:=[(0,.tmp 27),(1,.tmp 29)]) [.int .i64 (q.2.1:Int),.int .i64 (q.2.2:Int)] rfl (by kernel_rfl) ?_
   repeat (first|exact zE|refine wkU ?_|(show QOk _ _ _ _ _ _ _;refine QOk.build rfl rfl Nf.auto ?_)|(show GJ _ _ _ _ _ _ _;first|with_reducible refine GJ.neF ?_|with_reducible refine GJ.neT ?_)|(show Br _ _ _;with_reducible refine Br.ne ?_)|refine zB (fun b=>?_)|refine zC (fun a' c' hc1 hc2=>?_)|(apply GJ.a;exact rfl;intro hg)|(apply GJ.o;exact rfl;intro hg))
   have hmo0:getG M key=none→MapOk okN (M++[(key,0,cM)]):=fun hg=>by
    have:=hmo.put hokk cM 0
    rwa [(get_none (none_all hmo hg)).2] at this
   have hgv0:getG M key=none→((getG (M++[(key,0,cM)]) key).map nN).getD (.int .i64 0)=.int .i64 (cn:Int):=fun hg=>by
    rw [hg] at hgv
    rw [zFe hg,←hgv]
    rfl
   have hkv2:=congrArg some hkv.symm
   obtain ⟨bL,hbL⟩:∃ z:Nat,z=b:=⟨_,rfl⟩
   subst hbL
   refine AllOk.keepK (ι:=List ((Nat × Nat) × Nat × Nat) × Nat) (fun _=>[]) (fun w=>.blk bL 70 [.int .i64 (q.1:Int),.int .i64 (q.2.1:Int),.int .i64 (q.2.2:Int)]::.obj bA (mapG twoN nN w.1 w.2)::.blk bF 58 [.int .i64 0,.int .i64 0]::.sl la L.length lc 70 3 (zAw L)::.blk bR 58 [.int .i64 0,.int .i64 0]::.blk bS 25 (zAf s a)::own) (fun w ro'=>ro'=ro2∧AskM (L.take (j+1)) w.1 w.2) ?_ (fun w ro3 _ hw=>?_)
   ·repeat' (first
     | with_reducible exact vFo.nil
     | ((with_reducible refine vFo.cons ?_ ?_);refine vOne.at (by rfl) ?_)
     | ((with_reducible refine vFo.leafK ?_);refine ⟨((M++[(key,0,cM)]).set M.length (key,cn+1,cM),cM+1),⟨rfl,he0 (by assumption)⟩,?_,?_⟩<;>(try dsimp only [List.nil_append])<;>first|exact Sub.z|exact Sup.z)
     | ((with_reducible refine vFo.leafK ?_);refine ⟨(M.set j1 (r.1,cn+1,r.2.2),cM),⟨rfl,he1 j1 r (by assumption) (by assumption)⟩,?_,?_⟩<;>(try dsimp only [List.nil_append])<;>first|exact Sub.z|exact Sup.z)
     | (show Stop (OpOk _ _ _ _ _ _ _);refine Stop.mk ?_)
     | (show OpOk _ _ _ _ _ _ _;first
       | (refine OpOk.lookupG (kt:=78) (et:=3) (kv:=twoN) (vv:=nN) (k:=key) (l:=M) (z:=.int .i64 0) rfl hkv2 (by kernel_rfl) zEo hmo hokk (by kernel_rfl) ?_;rw [hgv])
       | (refine OpOk.lookupG (kt:=78) (et:=3) (kv:=twoN) (vv:=nN) (k:=key) (l:=M++[(key,0,cM)]) (z:=.int .i64 0) rfl hkv2 (by kernel_rfl) zEo (hmo0 (by assumption)) hokk (by kernel_rfl) ?_;rw [hgv0 (by assumption)])
       | refine OpOk.mapEntryG (kt:=78) (et:=3) (kv:=twoN) (vv:=nN) (k:=key) (z0:=0) (l:=M) rfl hkv2 (by kernel_rfl) zEo hmo hokk (by kernel_rfl) (fun hg0=>?_) (fun j1 r hj1 hr1 hg1=>?_)
       | refine OpOk.entryStoreG (kv:=twoN) (vv:=nN) (j:=M.length) (st:=cM) (l:=M++[(key,0,cM)]) (q:=(key,0,cM)) (v:=cn+1) rfl rfl hcast hbo0 (by simp) rfl ?_
       | refine OpOk.entryStoreG (kv:=twoN) (vv:=nN) (l:=M) (v:=cn+1) rfl rfl hcast hbo (by assumption) rfl ?_)
     | (show vOp _ _ _ _ _ _ _ _ _;refine wkA ?_)
     | (show Sup _ _∧_;refine ⟨Sup.z,?_⟩)
     | refine vFo.stop Sup.z ?_)
    all_goals done
   obtain ⟨M2,c2⟩:=w
   obtain ⟨rfl,hA⟩:=hw
   dsimp only [List.nil_append] at hA ⊢
   repeat first|exact zE|refine zP ?_|refine zB fun b=>?_|refine zC fun a' c' hc1 hc2=>?_|(apply GJ.a;exact rfl;intro hg)|(apply GJ.o;exact rfl;intro hg)
   refine Wk.id ⟨(j+1,M2,c2),⟨rfl,?_⟩,?_,Sub.z,Sup.z⟩
   all_goals try dsimp only
   ·exact ⟨by omega,hA⟩
   ·omega
  ·obtain rfl:j=L.length:=by omega
   rw [List.take_length] at i2
   have hk4:=hk3 bA M cM i2
   repeat first|exact zE|refine zP ?_|refine zB fun b=>?_|refine zC fun a' c' hc1 hc2=>?_|(apply GJ.a;exact rfl;intro hg)|(apply GJ.o;exact rfl;intro hg)
   exact Wk.outS Sup.z (.refl _) hk4
end
theorem zCM {s:zAd} (h:(s.nodes.all (fun d=>decide (d.text.length≤300)&&d.fields.all (fun f=>decide (f.name.length≤300)))&&s.defs.all (fun d=>decide (d.name.length≤300)))=true):TextIn s:=by
 rw [Bool.and_eq_true,List.all_eq_true,List.all_eq_true] at h
 refine ⟨fun d hd f hf=>?_,fun d hd=>?_,fun d hd=>?_⟩
 ·have h1:=h.1 d hd
  rw [Bool.and_eq_true,List.all_eq_true] at h1
  have:=of_decide_eq_true (h1.2 f hf)
  omega
 ·have h1:=h.1 d hd
  rw [Bool.and_eq_true] at h1
  have:=of_decide_eq_true h1.1
  omega
 ·have:=of_decide_eq_true (h.2 d hd)
  omega
section
variable {ro:Ro}{own:Chs}{K:Value→Ro→Chs→Prop}
end
set_option maxRecDepth 100000
def zHf:List UInt8:=[109,97,105,110,32,61,32,123,32,110,58,32,117,56,32,61,32,115,105,122,101,40,100,41,59,32,100,58,32,98,121,116,101,115,91,110,93,59,32,99,58,32,117,51,50,98,101,32,61,32,99,114,99,40,110,46,46,100,41,59,32,121,58,32,123,32,107,58,32,115,119,105,116,99,104,32,110,32,123,32,48,58,32,101,109,112,116,121,59,32,125,59,32,125,59,32,125,59]
def spec15A:zAd:=⟨[⟨1,1,false,false,false,0,255,[],[],0,0,[],[],[],[],0,[],0⟩,⟨4,0,false,false,false,0,0,[],[110],1,0,[],[],[],[],0,[],0⟩,⟨1,4,false,false,false,0,4294967295,[],[],0,0,[],[],[],[],0,[],0⟩,⟨12,0,false,false,false,0,0,[],[],0,0,[],[],[],[],0,[],0⟩,⟨9,0,false,false,false,0,0,[],[],0,0,[],[],[],[110],0,[⟨0,3⟩],-1⟩,⟨5,0,false,false,false,0,0,[],[],0,0,[],[],[⟨[107],4,0,[],[]⟩],[],0,[],0⟩,⟨5,0,false,false,false,0,0,[],[],0,0,[],[],[⟨[110],0,1,[100],[]⟩,⟨[100],1,0,[],[]⟩,⟨[99],2,3,[110],[100]⟩,⟨[121],5,0,[],[]⟩],[],0,[],0⟩],[⟨[109,97,105,110],6⟩]⟩
def zHe:List UInt8:=[109,97,105,110,32,61,32,123,32,100,58,32,98,121,116,101,115,91,110,93,59,32,110,58,32,117,56,59,32,125,59]
def zFy:zAd:=⟨[⟨4,0,false,false,false,0,0,[],[110],1,0,[],[],[],[],0,[],0⟩,⟨1,1,false,false,false,0,255,[],[],0,0,[],[],[],[],0,[],0⟩,⟨5,0,false,false,false,0,0,[],[],0,0,[],[],[⟨[100],0,0,[],[]⟩,⟨[110],1,0,[],[]⟩],[],0,[],0⟩],[⟨[109,97,105,110],2⟩]⟩
def zHd:List UInt8:=[109,97,105,110,32,61,32,123,32,110,58,32,117,56,32,61,32,115,105,122,101,40,100,41,59,32,100,58,32,98,121,116,101,115,91,50,42,110,93,59,32,125,59]
def zFx:zAd:=⟨[⟨1,1,false,false,false,0,255,[],[],0,0,[],[],[],[],0,[],0⟩,⟨4,0,false,false,false,0,0,[],[110],2,0,[],[],[],[],0,[],0⟩,⟨5,0,false,false,false,0,0,[],[],0,0,[],[],[⟨[110],0,1,[100],[]⟩,⟨[100],1,0,[],[]⟩],[],0,[],0⟩],[⟨[109,97,105,110],2⟩]⟩
def zHc:List UInt8:=[97,32,61,32,98,121,116,101,115,91,110,93,59,32,109,97,105,110,32,61,32,123,32,110,58,32,117,56,59,32,120,58,32,97,59,32,125,59]
def zFw:zAd:=⟨[⟨4,0,false,false,false,0,0,[],[110],1,0,[],[],[],[],0,[],0⟩,⟨1,1,false,false,false,0,255,[],[],0,0,[],[],[],[],0,[],0⟩,⟨13,0,false,false,false,0,0,[97],[],0,0,[],[],[],[],0,[],0⟩,⟨5,0,false,false,false,0,0,[],[],0,0,[],[],[⟨[110],1,0,[],[]⟩,⟨[120],2,0,[],[]⟩],[],0,[],0⟩],[⟨[97],0⟩,⟨[109,97,105,110],3⟩]⟩
def zHb:List UInt8:=[109,97,105,110,32,61,32,123,32,99,58,32,117,49,54,98,101,32,61,32,99,114,99,40,99,46,46,99,41,59,32,125,59]
def zFv:zAd:=⟨[⟨1,2,false,false,false,0,65535,[],[],0,0,[],[],[],[],0,[],0⟩,⟨5,0,false,false,false,0,0,[],[],0,0,[],[],[⟨[99],0,3,[99],[99]⟩],[],0,[],0⟩],[⟨[109,97,105,110],1⟩]⟩
def zHa:List UInt8:=[109,97,105,110,32,61,32,123,32,110,58,32,117,56,32,61,32,115,105,122,101,40,119,41,59,32,119,58,32,119,105,116,104,105,110,91,110,93,32,115,119,105,116,99,104,32,110,32,123,32,48,58,32,101,109,112,116,121,59,32,125,59,32,125,59]
def zFu:zAd:=⟨[⟨1,1,false,false,false,0,255,[],[],0,0,[],[],[],[],0,[],0⟩,⟨12,0,false,false,false,0,0,[],[],0,0,[],[],[],[],0,[],0⟩,⟨9,0,false,false,false,0,0,[],[],0,0,[],[],[],[110],0,[⟨0,1⟩],-1⟩,⟨8,0,false,false,false,0,0,[],[110],1,0,[2],[],[],[],0,[],0⟩,⟨5,0,false,false,false,0,0,[],[],0,0,[],[],[⟨[110],0,1,[119],[]⟩,⟨[119],3,0,[],[]⟩],[],0,[],0⟩],[⟨[109,97,105,110],4⟩]⟩
theorem read15A:zBT zHf=(spec15A,0,0):=by kernel_rfl
theorem read15B:zBT zHe=(zFy,0,0):=by kernel_rfl
theorem look15B:errR (zAM zFy)=(150,0):=by kernel_rfl
theorem read15C:zBT zHd=(zFx,0,0):=by kernel_rfl
theorem look15C:errR (zAM zFx)=(151,2):=by kernel_rfl
theorem read15D:zBT zHc=(zFw,0,0):=by kernel_rfl
theorem look15D:errR (zAM zFw)=(150,0):=by kernel_rfl
theorem read15E:zBT zHb=(zFv,0,0):=by kernel_rfl
theorem look15E:errR (zAM zFv)=(151,1):=by kernel_rfl
theorem read15F:zBT zHa=(zFu,0,0):=by kernel_rfl
theorem look15F:errR (zAM zFu)=(151,4):=by kernel_rfl
theorem zHC:errR (zAM spec15A)=(0,0):=by kernel_rfl
def lk15:Lk:=match zAM spec15A with|.ok lk=>lk|.error _=>noLk
theorem zD6:zAM spec15A=.ok lk15:=by
 have h:=zHC
 unfold lk15
 cases hx:zAM spec15A with
 | ok lk=>rfl
 | error e =>
   have h2:errR (.error e)=(0,0):=hx▸h
   exact absurd (congrArg Prod.fst h2) (zCd hx)
theorem zF7:zAv lk15 spec15A.nodes.length=[(1,6,0),(4,6,0)]:=by kernel_rfl
def node15:zAh:=match spec15A.nodes[6]? with|some d=>d|none=>⟨0,0,false,false,false,0,0,[],[],0,0,[],[],[],[],0,[],0⟩
theorem zD4:spec15A.nodes[6]?=some node15:=rfl
theorem sums15:zAV node15 node15.fields.length=[(2,0,1)]:=by kernel_rfl
theorem der15A:derAt node15 1=0:=by kernel_rfl
theorem der15B:derAt node15 0=-1:=by kernel_rfl
theorem by15:byR spec15A 1=some (6,0):=by kernel_rfl
theorem root15:zDi spec15A=6:=by kernel_rfl
theorem text15_in:TextIn spec15A∧TextIn zFy∧TextIn zFx∧TextIn zFw∧TextIn zFv∧TextIn zFu:=⟨zCM (by decide),zCM (by decide),zCM (by decide),zCM (by decide),zCM (by decide),zCM (by decide)⟩
theorem ask15 {MA:List ((Nat × Nat) × Nat × Nat)}{cA:Nat} (h:AskM [(1,6,0),(4,6,0)] MA cA):MA.length=1:=by
 have hk:∀ p∈MA,p.1=(6,0):=fun p hp=>by
  obtain ⟨j,hj⟩:=List.getElem?_of_mem hp
  have h1:=(Go.E.get_at h.map.nodup hj).1
  rw [h.is] at h1
  by_cases hp1:p.1=(6,0)
  ·exact hp1
  ·have:cntL [(1,6,0),(4,6,0)] p.1=0:=by
    unfold cntL
    simp
    exact fun e=>hp1 e.symm
   rw [if_pos this] at h1
   cases h1
 have h6:=h.is (6,0)
 have hn:=h.map.nodup
 match MA,hk,h6,hn with
 | [],_,h6,_=>exact absurd h6 (by decide)
 | [x],_,_,_=>rfl
 | x::y::r,hk,_,hn =>
   have h1:=hk x (by simp)
   have h2:=hk y (by simp)
   rw [List.map_cons,List.map_cons,List.nodup_cons] at hn
   exact absurd (by rw [h1,h2];simp) hn.1
theorem zCN {P:Program} (w:World) (d:Nat) {t e:TypeId}{x0 x1 x2 y0 y1 y2:Int} (ht:P.underlying t=some (.array 3 e)) (he:P.underlying e=some (.int .i64)) (hs:(P.info? e).map (·.size)=some 1) :
  (Op.equalIn (d+2) t (.agg #[.int .i64 x0,.int .i64 x1,.int .i64 x2]) (.agg #[.int .i64 y0,.int .i64 y1,.int .i64 y2])).run P w=.ok (decide (x0=y0∧x1=y1∧x2=y2)) w:=by
 have hagg:∀ w,(isAgg e).run P w=.ok false w:=fun w=>by simp [isAgg,run_underlying he]
 have hi:=fun a b (w:World)=>run_equalIn_int (P:=P) w d e .i64 .i64 a b he
 rw [Op.equalIn]
 simp [run_underlying ht,zA7 hs,List.range',part,hagg,hi]
 by_cases h0:x0=y0<;>by_cases h1:x1=y1<;>by_cases h2:x2=y2<;>simp [h0,h1,h2]
theorem qeqlArr3 {P:Program}{ty:TypeId}{env:Env}{ro:Ro}{own:Chs}{K:Value→Prop}{t yt e:TypeId}{x y:Operand}{x0 x1 x2 y0 y1 y2:Int} (hx:ev env x=some (.agg #[.int .i64 x0,.int .i64 x1,.int .i64 x2])) (hy:ev env y=some (.agg #[.int .i64 y0,.int .i64 y1,.int .i64 y2]))
  (ht:P.underlying t=some (.array 3 e)) (he:P.underlying e=some (.int .i64)) (hs:(P.info? e).map (·.size)=some 1) (h2:P.eqGuardType P.depth t=false) (hk:K (.bool (decide (x0=y0∧x1=y1∧x2=y2)))):QOk P (.binOp .eql t x y yt) ty env ro own K:=by
 refine QOk.pu (fun h hs' d pos af g=>.mk fun ρ w hρ _=>?_) hk
 simp only [execOp,hρ _ _ hx,hρ _ _ hy,Sem.run_bind,run_eqGuard_agg w .eql t x y _ _ h2,Result.andThen_ok,run_eql_struct,zCN w 9998 ht he hs,Sem.run_pure]
theorem zDq:∀ (l:List (Nat × Int × Int)) {i:Nat}{q:Nat × Int × Int},l[i]?=some q→((zBw l).drop (i*3)).take 3=[.int .i64 (q.1:Int),.int .i64 q.2.1,.int .i64 q.2.2]
 | [],i,q,h=>by simp at h
 | x::l,0,q,h=>by
   simp at h;subst h
   simp [zBw]
 | x::l,i+1,q,h=>by
   have h1:=zDq l (i:=i) (by simpa using h)
   rw [show (i+1)*3=i*3+3 by omega]
   rw [show zBw (x::l)=[.int .i64 (x.1:Int),.int .i64 x.2.1,.int .i64 x.2.2]++zBw l by simp [zBw]]
   rw [show i*3+3=([.int .i64 (x.1:Int),.int .i64 x.2.1,.int .i64 x.2.2]:List Value).length+i*3 by simp<;>omega,List.drop_append,List.drop_eq_nil_of_le (by simp<;>omega),List.nil_append]
   simpa using h1
section
variable {ro:Ro}{own:Chs}{K:Value→Ro→Chs→Prop}
set_option maxHeartbeats 4000000 in
theorem zCl {t:List UInt8}{sp:zAd}{e:Int × Int} (hS:SpOk ro) (hM:MaxOk ro) (hl:t.length≤100000) (hr:zBT t=(sp,0,0)) (hT:TextIn sp) (he:errR (zAM sp)=e)
  (hk:∀ ro',Le ro ro'→K (.int .i64 e.1) ro' own):CallOk Tryz.prog 66 #[str t] ro own K:=by
 have hcl:∀ a:zAp,(Value.agg (zAf sp a).toArray).cells.toList=zAf sp a:=fun a=>rfl
 refine CallOk.intro (args:=[_]) (rs:=[_]) T_ok Tryz.func66 Tryz.call66 rfl rfl (by kernel_rfl) rfl rfl ?_
 repeat first|exact zE|refine zP ?_|refine zB fun b=>?_|refine zC fun a' c' hc1 hc2=>?_|(apply GJ.a;exact rfl;intro hg)|(apply GJ.o;exact rfl;intro hg)
 refine zGc hS hM hl (fun ro1 a1 hl1 h1=>?_)
 rw [hr] at h1 ⊢
 dsimp only at h1 ⊢
 have hM1:=hM.le hl1
 have hL1:Leq ro ro1:=⟨hl1.1⟩
 repeat first|exact zE|refine zP ?_|refine zB fun b=>?_|refine zC fun a' c' hc1 hc2=>?_|(apply GJ.a;exact rfl;intro hg)|(apply GJ.o;exact rfl;intro hg)
 refine zCq h1 hM1 hT (fun ro2 hl2=>?_)
 have hk2:=hk ro2 (hl1.trans hl2)
 have hL2:Leq ro1 ro2:=⟨hl2.1⟩
 rw [he]
 obtain ⟨e1,e2⟩:=e
 dsimp only [flV] at hk2 ⊢
 repeat first|exact zE|refine zP ?_|refine zB fun b=>?_|refine zC fun a' c' hc1 hc2=>?_|(apply GJ.a;exact rfl;intro hg)|(apply GJ.o;exact rfl;intro hg)
 exact Wk.outS Sup.z (.refl _) hk2
set_option maxHeartbeats 8000000 in
theorem zEd (hS:SpOk ro) (hM:MaxOk ro) (hk:∀ ro',Le ro ro'→K (.bool true) ro' own):CallOk Tryz.prog 32 #[] ro own K:=by
 refine CallOk.intro (args:=[]) (rs:=[_]) T_ok Tryz.func32 Tryz.call32 rfl rfl (by kernel_rfl) rfl rfl ?_
 repeat first|exact zE|refine zP ?_|refine zB fun b=>?_|refine zC fun a' c' hc1 hc2=>?_|(apply GJ.a;exact rfl;intro hg)|(apply GJ.o;exact rfl;intro hg)
 refine zCY (bs:=#[str zHf]) (by kernel_rfl) ?_
 refine zGc hS hM (by decide) (fun ro1 a1 hl1 h1=>?_)
 rw [read15A] at h1 ⊢
 dsimp only at h1 ⊢
 have hS1:=hS.le hl1
 have hM1:=hM.le hl1
 repeat first|exact zE|refine zP ?_|refine zB fun b=>?_|refine zC fun a' c' hc1 hc2=>?_|(apply GJ.a;exact rfl;intro hg)|(apply GJ.o;exact rfl;intro hg)
 refine zCP h1 hM1 text15_in.1 (fun ro2 hl2 e he=>by rw [zD6] at he;cases he) (fun ro2 hl2 lk hlk la lc g1 g2=>?_)
 rw [zD6] at hlk
 cases hlk
 rw [zF7] at g1 ⊢
 dsimp only [tup,flV]
 have hM2:=hM1.le hl2
 have hS2:=hS1.le hl2
 have h2:=h1.lift hl2
 repeat first|exact zE|refine zP ?_|refine zB fun b=>?_|refine zC fun a' c' hc1 hc2=>?_|(apply GJ.a;exact rfl;intro hg)|(apply GJ.o;exact rfl;intro hg)
 refine zDX h2 hM2 text15_in.1 (fun lk h=>by rw [zD6] at h;cases h;rw [zF7];intro q hq;simp at hq;rcases hq with rfl|rfl<;>exact ⟨by decide,by decide⟩) (fun ro3 hl3 e he=>by rw [zD6] at he;cases he) (fun ro3 hl3 lk hlk bA MA cA hA=>?_)
 rw [zD6] at hlk
 cases hlk
 rw [zF7] at hA
 have hMA:=ask15 hA
 dsimp only [tup,flV]
 have hM3:=hM2.le hl3
 have hS3:=hS2.le hl3
 have h3:=h2.lift hl3
 repeat first|exact zE|refine zP ?_|refine zB fun b=>?_|refine zC fun a' c' hc1 hc2=>?_|(apply GJ.a;exact rfl;intro hg)|(apply GJ.o;exact rfl;intro hg)
 refine OpOk.lenG (kt:=78) (et:=3) (kv:=twoN) (vv:=nN) (l:=MA) rfl (by kernel_rfl) ?_
 rw [hMA]
 repeat first|exact zE|refine zP ?_|refine zB fun b=>?_|refine zC fun a' c' hc1 hc2=>?_|(apply GJ.a;exact rfl;intro hg)|(apply GJ.o;exact rfl;intro hg)
 refine zCq h3 hM3 text15_in.1 (fun ro4 hl4=>?_)
 rw [zHC]
 dsimp only [flV]
 have hM4:=hM3.le hl4
 have hS4:=hS3.le hl4
 have h4:=h3.lift hl4
 repeat first|exact zE|refine zP ?_|refine zB fun b=>?_|refine zC fun a' c' hc1 hc2=>?_|(apply GJ.a;exact rfl;intro hg)|(apply GJ.o;exact rfl;intro hg)
 refine OpOk.neqStruct (q:=true) rfl rfl rfl (by rfl) (by kernel_rfl) (by kernel_rfl) (by kernel_rfl) ?_
 obtain ⟨x6,hx6⟩:∃ y,a1.xs[6]?=some y:=⟨_,List.getElem?_eq_getElem (by rw [h4.len];decide)⟩
 have hnd:=h4.nodes
 have hd6:=zAj _ _ _ _ _ zD4 hx6
 have hn6:=h4.each 6 node15 x6 zD4 hx6
 have hrt:zDi spec15A=6:=root15
 have hnl:spec15A.nodes.length=7:=rfl
 repeat first|exact zE|refine zP ?_|refine zB fun b=>?_|refine zC fun a' c' hc1 hc2=>?_|(apply GJ.a;exact rfl;intro hg)|(apply GJ.o;exact rfl;intro hg)
 rename_i bS bE bG
 refine AllOk.at (ι:=Nat) (fun n=>[(0,.bool false),(1,ptr' bS),(3,.slice la 2 lc),(7,ptr' n)]) (fun n=>.blk n 40 (zAl node15 x6)::.sl la 2 lc 70 3 (zAw [(1,6,0),(4,6,0)])::.blk bS 25 (zAf spec15A a1)::own) (fun _=>True) ?_ (fun n _=>?_)
 ·repeat' (first|with_reducible exact vFo.nil|((with_reducible refine vFo.cons ?_ ?_);refine vOne.at (by rfl) ?_)|((with_reducible refine vFo.leaf ?_);exact ⟨rfl,_,Sub.z,Sup.z,trivial⟩)|(show Stop (OpOk _ _ _ _ _ _ _);refine Stop.mk ?_)|(show Stop (CallOk _ _ _ _ _ _);refine Stop.mk ?_)|(show CallOk _ _ _ _ _ _;refine zF2 h4 ?_)|(show OpOk _ _ _ _ _ _ _;first|refine zB (fun b=>?_)|refine OpOk.loadRow rfl rfl (LdN.at hnd hd6) rfl ?_|refine OpOk.idx rfl rfl rfl (by omega) AOk.auto ?_|refine OpOk.storeRow rfl rfl rfl rfl (by rfl) rfl ?_)|refine vFo.stop Sup.z ?_)
 dsimp only
 repeat (first|exact zE|refine wkN ?_|refine Bs.all ?_|(show QOk _ _ _ _ _ _ _;refine QOk.build rfl rfl Nf.auto ?_)|refine zB (fun b=>?_)|refine zC (fun a' c' hc1 hc2=>?_)|(show GJ _ _ _ _ _ _ _;first|refine GJ.t (by decide) ?_|refine GJ.f (by decide) ?_|refine GJ.ft (by decide) ?_|refine GJ.ff (by decide) ?_)|(show Br _ _ _;first|refine Br.t (by decide) ?_|refine Br.f (by decide) ?_)|(apply GJ.a;exact rfl;intro hg)|(apply GJ.o;exact rfl;intro hg))
 refine CodeOk.drawnK 12 5 NfT.auto rfl (by kernel_rfl) (by rfl) (by kernel_rfl) ?_
 refine Stop.mk ?_
 refine Bs.mk ⟨[.sl la 2 lc 70 3 (zAw [(1,6,0),(4,6,0)]),.blk bS 25 (zAf spec15A a1)],Sup.z,?_⟩
 repeat (first|exact zE|refine wkU ?_|(show QOk _ _ _ _ _ _ _;refine QOk.build rfl rfl Nf.auto ?_)|(show GJ _ _ _ _ _ _ _;first|with_reducible refine GJ.neF ?_|with_reducible refine GJ.neT ?_)|(show Br _ _ _;with_reducible refine Br.ne ?_)|refine zB (fun b=>?_)|refine zC (fun a' c' hc1 hc2=>?_)|(apply GJ.a;exact rfl;intro hg)|(apply GJ.o;exact rfl;intro hg))
 rw [show Int.toNat 0=0 from rfl,Nat.add_assoc]
 have hrl:Rds ro4 [.sl la 2 lc 70 3 (zAw [(1,6,0),(4,6,0)]),.blk bS 25 (zAf spec15A a1)] la 2 lc 3 (zAw [(1,6,0),(4,6,0)]):=Rds.hasSl g1 g2 rfl
 refine QOk.load rfl rfl (Ld.atR hrl (k:=0*3+0) (v:=.int .i64 1) (by rfl) rfl) ?_
 repeat (first|exact zE|refine wkU ?_|(show QOk _ _ _ _ _ _ _;refine QOk.build rfl rfl Nf.auto ?_)|(show GJ _ _ _ _ _ _ _;first|with_reducible refine GJ.neF ?_|with_reducible refine GJ.neT ?_)|(show Br _ _ _;with_reducible refine Br.ne ?_)|refine zB (fun b=>?_)|refine zC (fun a' c' hc1 hc2=>?_)|(apply GJ.a;exact rfl;intro hg)|(apply GJ.o;exact rfl;intro hg))
 refine AllOk.keepK (ι:=Nat) (fun w=>[(8,ptr' w),(9,.bool true)]) (fun w=>.blk w 70 [.int .i64 1,.int .i64 6,.int .i64 0]::.blk n 40 (zAl node15 x6)::.sl la 2 lc 70 3 (zAw [(1,6,0),(4,6,0)])::.blk bS 25 (zAf spec15A a1)::own) (fun w ro'=>Le ro4 ro') ?_ (fun w ro5 _ hl5=>?_)
 ·repeat' (first
   | with_reducible exact vFo.nil
   | ((with_reducible refine vFo.cons ?_ ?_);refine vOne.at (by rfl) ?_)
   | exact vFo.leafK ⟨_,by assumption,Sub.z,Sup.z⟩
   | (show Stop (OpOk _ _ _ _ _ _ _);refine Stop.mk ?_)
   | (show Stop (CallOk _ _ _ _ _ _);refine Stop.mk ?_)
   | (show CallOk _ _ _ _ _ _;refine rgby_ok h4 hM4 text15_in.1 (i:=1) (fun ro5 hl5=>?_);rw [by15];dsimp only [byV,tup,Option.isSome_some])
   | (show OpOk _ _ _ _ _ _ _;first|refine zB (fun b=>?_)|refine OpOk.storeRow rfl rfl rfl rfl (by rfl) rfl ?_)
   | (show vOp _ _ _ _ _ _ _ _ _;refine wkA ?_)
   | (show Sup _ _∧_;refine ⟨Sup.z,?_⟩)
   | refine vFo.stop Sup.z ?_)
  all_goals done
 have h5:=h4.lift hl5
 have hS5:=hS4.le hl5
 have hM5:=hM4.le hl5
 dsimp only [List.cons_append,List.nil_append]
 repeat first|exact zE|refine zP ?_|refine zB fun b=>?_|refine zC fun a' c' hc1 hc2=>?_|(apply GJ.a;exact rfl;intro hg)|(apply GJ.o;exact rfl;intro hg)
 rw [show Int.toNat 0=0 from rfl]
 have hrl2:Rds ro5 (.blk w 70 [.int .i64 1,.int .i64 6,.int .i64 0]::.blk n 40 (zAl node15 x6)::.sl la 2 lc 70 3 (zAw [(1,6,0),(4,6,0)])::.blk bS 25 (zAf spec15A a1)::own) la 2 lc 3 (zAw [(1,6,0),(4,6,0)]):=Rds.hasSl g1 g2 rfl
 have hn65:=h5.each 6 node15 x6 zD4 hx6
 refine QOk.loadRow rfl rfl (LdN.atR hrl2 (zCe _ (i:=0) (q:=(1,6,0)) rfl) rfl) rfl ?_
 repeat first|exact zE|refine zP ?_|refine zB fun b=>?_|refine zC fun a' c' hc1 hc2=>?_|(apply GJ.a;exact rfl;intro hg)|(apply GJ.o;exact rfl;intro hg)
 refine QOk.eqlStruct (q:=true) rfl rfl rfl (by rfl) (by kernel_rfl) (by kernel_rfl) (by kernel_rfl) ?_
 repeat first|exact zE|refine zP ?_|refine zB fun b=>?_|refine zC fun a' c' hc1 hc2=>?_|(apply GJ.a;exact rfl;intro hg)|(apply GJ.o;exact rfl;intro hg)
 refine zEG hn65 (by decide) (fun sa sc k1 k2=>?_)
 rw [sums15] at k1 ⊢
 repeat first|exact zE|refine zP ?_|refine zB fun b=>?_|refine zC fun a' c' hc1 hc2=>?_|(apply GJ.a;exact rfl;intro hg)|(apply GJ.o;exact rfl;intro hg)
 refine QOk.buildK (ps:=[(0,.const (.int .i64 2)),(1,.const (.int .i64 0)),(2,.const (.int .i64 1))]) [.int .i64 2,.int .i64 0,.int .i64 1] rfl (by kernel_rfl) ?_
 repeat first|exact zE|refine zP ?_|refine zB fun b=>?_|refine zC fun a' c' hc1 hc2=>?_|(apply GJ.a;exact rfl;intro hg)|(apply GJ.o;exact rfl;intro hg)
 refine zEG hn65 (by decide) (fun sb sd k3 k4=>?_)
 rw [sums15] at k3 ⊢
 rw [show ([(2,0,1)]:List (Nat × Int × Int)).length=1 from rfl] at k3 ⊢
 repeat first|exact zE|refine zP ?_|refine zB fun b=>?_|refine zC fun a' c' hc1 hc2=>?_|(apply GJ.a;exact rfl;intro hg)|(apply GJ.o;exact rfl;intro hg)
 rw [show Int.toNat 0=0 from rfl]
 have hsm:Rds ro5 (.sl sb 1 sd 81 3 (zBw [(2,0,1)])::.sl sa 1 sc 81 3 (zBw [(2,0,1)])::.blk w 70 [.int .i64 1,.int .i64 6,.int .i64 0]::.blk n 40 (zAl node15 x6)::.sl la 2 lc 70 3 (zAw [(1,6,0),(4,6,0)])::.blk bS 25 (zAf spec15A a1)::own) sb 1 sd 3 (zBw [(2,0,1)]):=Rds.hasSl k3 k4 rfl
 refine QOk.loadRow rfl rfl (LdN.atR hsm (zDq [(2,0,1)] (i:=0) (q:=(2,0,1)) rfl) rfl) rfl ?_
 repeat first|exact zE|refine zP ?_|refine zB fun b=>?_|refine zC fun a' c' hc1 hc2=>?_|(apply GJ.a;exact rfl;intro hg)|(apply GJ.o;exact rfl;intro hg)
 refine qeqlArr3 (e:=3) rfl rfl Tryz.underlying81 Tryz.underlying3 (by kernel_rfl) (by kernel_rfl) ?_
 repeat first|exact zE|refine zP ?_|refine zB fun b=>?_|refine zC fun a' c' hc1 hc2=>?_|(apply GJ.a;exact rfl;intro hg)|(apply GJ.o;exact rfl;intro hg)
 refine zEa hn65 ?_
 rw [der15A]
 repeat first|exact zE|refine zP ?_|refine zB fun b=>?_|refine zC fun a' c' hc1 hc2=>?_|(apply GJ.a;exact rfl;intro hg)|(apply GJ.o;exact rfl;intro hg)
 refine zEa hn65 ?_
 rw [der15B]
 repeat first|exact zE|refine zP ?_|refine zB fun b=>?_|refine zC fun a' c' hc1 hc2=>?_|(apply GJ.a;exact rfl;intro hg)|(apply GJ.o;exact rfl;intro hg)
 refine zCY (bs:=#[str zHe]) (by kernel_rfl) ?_
 refine zCl hS5 hM5 (by decide) read15B text15_in.2.1 look15B (fun ro6 hl6=>?_)
 have hS6:=hS5.le hl6
 have hM6:=hM5.le hl6
 repeat first|exact zE|refine zP ?_|refine zB fun b=>?_|refine zC fun a' c' hc1 hc2=>?_|(apply GJ.a;exact rfl;intro hg)|(apply GJ.o;exact rfl;intro hg)
 refine zCY (bs:=#[str zHd]) (by kernel_rfl) ?_
 refine zCl hS6 hM6 (by decide) read15C text15_in.2.2.1 look15C (fun ro7 hl7=>?_)
 have hS7:=hS6.le hl7
 have hM7:=hM6.le hl7
 repeat first|exact zE|refine zP ?_|refine zB fun b=>?_|refine zC fun a' c' hc1 hc2=>?_|(apply GJ.a;exact rfl;intro hg)|(apply GJ.o;exact rfl;intro hg)
 refine zCY (bs:=#[str zHc]) (by kernel_rfl) ?_
 refine zCl hS7 hM7 (by decide) read15D text15_in.2.2.2.1 look15D (fun ro8 hl8=>?_)
 have hS8:=hS7.le hl8
 have hM8:=hM7.le hl8
 repeat first|exact zE|refine zP ?_|refine zB fun b=>?_|refine zC fun a' c' hc1 hc2=>?_|(apply GJ.a;exact rfl;intro hg)|(apply GJ.o;exact rfl;intro hg)
 refine zCY (bs:=#[str zHb]) (by kernel_rfl) ?_
 refine zCl hS8 hM8 (by decide) read15E text15_in.2.2.2.2.1 look15E (fun ro9 hl9=>?_)
 have hS9:=hS8.le hl9
 have hM9:=hM8.le hl9
 repeat first|exact zE|refine zP ?_|refine zB fun b=>?_|refine zC fun a' c' hc1 hc2=>?_|(apply GJ.a;exact rfl;intro hg)|(apply GJ.o;exact rfl;intro hg)
 refine zCY (bs:=#[str zHa]) (by kernel_rfl) ?_
 refine zCl hS9 hM9 (by decide) read15F text15_in.2.2.2.2.2 look15F (fun ro10 hl10=>?_)
 have hS10:=hS9.le hl10
 have hM10:=hM9.le hl10
 repeat first|exact zE|refine zP ?_|refine zB fun b=>?_|refine zC fun a' c' hc1 hc2=>?_|(apply GJ.a;exact rfl;intro hg)|(apply GJ.o;exact rfl;intro hg)
 exact Wk.outS Sup.z (.refl _) (hk _ (((((((((hl1.trans hl2).trans hl3).trans hl4).trans hl5).trans hl6).trans hl7).trans hl8).trans hl9).trans hl10))
end
def nmOf (d:zAh):List UInt8:=d.reg++d.ereg
theorem zGI {d:zAh} (h:zB1 d=0):zEN d=0∧(d.kind≠9→d.reg=[]):=by
 unfold zB1 at h
 split at h
 ·cases h
 split at h
 ·cases h
 split at h
 ·cases h
 split at h
 ·cases h
 split at h
 ·cases h
 rename_i h5
 split at h
 ·cases h
 split at h
 ·cases h
 refine ⟨h,fun hk=>Classical.byContradiction fun hr=>h5 (.inr ⟨hk,.inl hr⟩)⟩
theorem zEw {d:zAh} (h:zB1 d=0):d.reg=[]∨d.ereg=[]:=by
 obtain ⟨hp,hr⟩:=zGI h
 by_cases hk:d.kind=9
 ·right
  unfold zEN at hp
  split at hp
  ·cases hp
  split at hp
  ·cases hp
  split at hp
  ·cases hp
  split at hp
  ·cases hp
  split at hp
  ·cases hp
  split at hp
  ·cases hp
  rename_i h6
  exact Classical.byContradiction fun he=>h6 (.inl ⟨by omega,.inl he⟩)
 ·exact .inl (hr hk)
theorem zE8 {d:zAh} (h:zB1 d=0) {a:Nat}{seen:List AskD}{lk:Lk}:(oneR a seen d.reg lk).bind (oneR a seen d.ereg)=oneR a seen (nmOf d) lk:=by
 unfold nmOf
 have h0:∀ l,oneR a seen [] l=some l:=fun l=>by unfold oneR;rw [if_pos rfl]
 rcases zEw h with e|e
 ·rw [e,h0];rfl
 ·rw [e,List.append_nil]
  cases oneR a seen d.reg lk with
  | none=>rfl
  | some l=>exact h0 l
theorem zCj {seen:List AskD}{nm:List UInt8}{q:AskD} (h:zAO seen nm=some q):q∈seen∧q.name=nm:=by
 unfold zAO at h
 exact ⟨List.mem_of_find?_eq_some h,by simpa using List.find?_some h⟩
theorem zCk {seen own:List AskD}{nm:List UInt8}:zAO (seen++own) nm=(zAO seen nm).or (zAO own nm):=by
 unfold zAO
 rw [List.find?_append]
abbrev preS (s:zAd) (k:Int):List Int:=preI (kidsAt s) s.nodes.length k
def SeenAt (s:zAd) (seen:List AskD) (a:Int):Prop:=∀ q∈seen,∃ d f,s.nodes[q.record]?=some d∧d.kind=5∧d.fields[q.field]?=some f∧f.name=q.name∧q.number=(zBN s f.type&&decide (f.derive≠3))∧∃ (j:Nat) (g:zAm),q.field<j∧d.fields[j]?=some g∧a∈preS s g.type
theorem SeenAt.kid {s:zAd} (hv:Ahead s) {seen:List AskD}{a k:Int} (h:SeenAt s seen a) (hk:k∈kidsAt s a.toNat):SeenAt s seen k:=by
 intro q hq
 obtain ⟨d,f,h1,h2,h3,h4,h5,j,g,h6,h7,h8⟩:=h q hq
 refine ⟨d,f,h1,h2,h3,h4,h5,j,g,h6,h7,?_⟩
 obtain ⟨hf,hks⟩:=hv _ d h1
 have hg:g.type∈zAc d:=by rw [zAz hf h2];exact List.mem_map.2 ⟨g,List.mem_of_getElem? h7,rfl⟩
 obtain ⟨g1,g2⟩:=hks _ hg
 have hl:=(List.getElem?_eq_some_iff.1 h1).1
 obtain ⟨z,hz⟩:=Int.eq_ofNat_of_zero_le g1
 unfold preS at h8 ⊢
 rw [hz] at h8 ⊢
 exact zCQ hv (z+1) z (by omega) (by omega) a h8 k hk
def GoodL (s:zAd) (i r f:Nat) (nm:List UInt8):Prop:=∃ d g,s.nodes[r]?=some d∧d.kind=5∧d.fields[f]?=some g∧g.name=nm∧zBN s g.type=true∧g.derive≠3∧∃ (j:Nat) (h:zAm),f<j∧d.fields[j]?=some h∧(i:Int)∈preS s h.type
structure LinkP (s:zAd) (seen:List AskD) (R:List Int) (i r f:Nat) (nm:List UInt8):Prop where
 good:GoodL s i r f nm
 out:∀ q,zAO seen nm=some q→r=q.record∧f=q.field
 inn:zAO seen nm=none→(r:Int)∈R
def PostL (s:zAd) (seen:List AskD) (S R:List Int) (lk lk2:Lk):Prop:=∀ i:Nat,((i:Int)∉S∧lk2 i=lk i)∨((i:Int)∈S∧∃ d,s.nodes[i]?=some d∧((nmOf d=[]∧lk2 i=lk i)∨(nmOf d≠[]∧∃ r f,lk2 i=some (r,f)∧LinkP s seen R i r f (nmOf d))))
theorem PostL.nil {s:zAd}{seen:List AskD}{R:List Int}{lk:Lk}:PostL s seen [] R lk lk:=fun i=>.inl ⟨by simp,rfl⟩
theorem PostL.seq {s:zAd}{seen:List AskD}{S1 S2 R:List Int}{lk lk1 lk2:Lk} (h1:PostL s seen S1 R lk lk1) (h2:PostL s seen S2 R lk1 lk2):PostL s seen (S1++S2) R lk lk2:=by
 intro i
 rcases h2 i with ⟨a1,a2⟩|⟨a1,d,a2,⟨a3,a4⟩|⟨a3,r,f,a4⟩⟩
 ·rcases h1 i with ⟨b1,b2⟩|⟨b1,e,b2,⟨b3,b4⟩|⟨b3,r,f,b4⟩⟩
  ·exact .inl ⟨by simp [a1,b1],by rw [a2,b2]⟩
  ·exact .inr ⟨by simp [b1],e,b2,.inl ⟨b3,by rw [a2,b4]⟩⟩
  ·exact .inr ⟨by simp [b1],e,b2,.inr ⟨b3,r,f,by rw [a2];exact b4⟩⟩
 ·rcases h1 i with ⟨b1,b2⟩|⟨b1,e,b2,⟨b3,b4⟩|⟨b3,r,f,b4⟩⟩
  ·exact .inr ⟨by simp [a1],d,a2,.inl ⟨a3,by rw [a4,b2]⟩⟩
  ·exact .inr ⟨by simp [a1],d,a2,.inl ⟨a3,by rw [a4,b4]⟩⟩
  ·rw [a2] at b2;cases b2;exact absurd a3 b3
 ·exact .inr ⟨by simp [a1],d,a2,.inr ⟨a3,r,f,a4⟩⟩
theorem PostL.mono {s:zAd}{seen own:List AskD}{S R R':List Int}{lk lk2:Lk} (h:PostL s (seen++own) S R lk lk2) (hR:∀ x∈R,x∈R') (ho:∀ q∈own,(q.record:Int)∈R'):PostL s seen S R' lk lk2:=by
 intro i
 rcases h i with a|⟨a1,d,a2,a3|⟨a3,r,f,a4,a5⟩⟩
 ·exact .inl a
 ·exact .inr ⟨a1,d,a2,.inl a3⟩
 ·refine .inr ⟨a1,d,a2,.inr ⟨a3,r,f,a4,a5.good,fun q hq=>a5.out q ?_,fun hn=>?_⟩⟩
  ·rw [zCk,hq];rfl
  ·cases ho2:zAO own (nmOf d) with
   | none=>exact hR _ (a5.inn (by rw [zCk,hn,ho2];rfl))
   | some q =>
     have:=a5.out q (by rw [zCk,hn,ho2];rfl)
     rw [this.1]
     exact ho q (zCj ho2).1
theorem zGi {s:zAd}{seen:List AskD}{R:List Int}{K:Int→Lk→Except (Int × Int) Lk}:∀ {ks:List Int}{lk lk2:Lk},(∀ k∈ks,∀ l l2,K k l=.ok l2→PostL s seen (preS s k) R l l2)→goR K ks lk=.ok lk2→PostL s seen (ks.flatMap (preS s)) R lk lk2
 | [],lk,lk2,_,h=>by cases h;exact .nil
 | k::ks,lk,lk2,hK,h=>by
   unfold goR at h
   cases hx:K k lk with
   | error e=>rw [hx] at h;cases h
   | ok lk1 =>
     rw [hx] at h
     rw [List.flatMap_cons]
     exact (hK k (by simp) _ _ hx).seq (zGi (fun k hk=>hK k (List.mem_cons_of_mem _ hk)) h)
theorem zDu {s:zAd}{a:Nat}{d:zAh}{seen:List AskD}{R:List Int}{K:Int→List AskD→Lk→Except (Int × Int) Lk} (hd:s.nodes[a]?=some d) (h5:d.kind=5) (hf:zB1 d=0) (haR:(a:Int)∈R) (hs:∀ f∈d.fields,SeenAt s seen f.type∧f.type∈preS s f.type)
  (hK:∀ f∈d.fields,∀ sn l l2,SeenAt s sn f.type→K f.type sn l=.ok l2→PostL s sn (preS s f.type) (preS s f.type) l l2) (hR:∀ f∈d.fields,∀ x∈preS s f.type,x∈R):∀ {fs:List zAm}{i:Nat}{own:List AskD}{lk lk2:Lk},d.fields.drop i=fs→(∀ q∈own,q.record=a∧q.field<i∧∃ f,d.fields[q.field]?=some f∧f.name=q.name∧q.number=(zBN s f.type&&decide (f.derive≠3)))→recR s K a i fs (seen++own) lk=.ok lk2→PostL s seen (fs.flatMap (fun f=>preS s f.type)) R lk lk2
 | [],i,own,lk,lk2,_,_,h=>by cases h;exact .nil
 | f::fs,i,own,lk,lk2,hdr,ho,h=>by
   have hfi:d.fields[i]?=some f:=by rw [←List.head?_drop,hdr];rfl
   have hfm:=List.mem_of_getElem? hfi
   unfold recR at h
   cases hx:K f.type (seen++own) lk with
   | error e=>rw [hx] at h;cases h
   | ok lk1 =>
     rw [hx] at h
     rw [List.flatMap_cons]
     have hsn:SeenAt s (seen++own) f.type:=by
      intro q hq
      rcases List.mem_append.1 hq with hq|hq
      ·exact (hs f hfm).1 q hq
      ·obtain ⟨q1,q2,g,q3,q4,q5⟩:=ho q hq
       exact ⟨d,g,by rw [q1];exact hd,h5,q3,q4,q5,i,f,q2,hfi,(hs f hfm).2⟩
     refine ((hK f hfm _ _ _ hsn hx).mono (hR f hfm) (fun q hq=>by rw [(ho q hq).1];exact haR)).seq ?_
     refine zDu hd h5 hf haR hs hK hR (i:=i+1) (own:=own++[⟨f.name,a,i,zBN s f.type&&decide (f.derive≠3)⟩]) (by rw [←List.drop_drop,hdr];rfl) (fun q hq=>?_) (by rw [←List.append_assoc];exact h)
     rcases List.mem_append.1 hq with hq|hq
     ·obtain ⟨q1,q2,g⟩:=ho q hq
      exact ⟨q1,by omega,g⟩
     ·rw [List.mem_singleton] at hq
      subst hq
      exact ⟨rfl,Nat.lt_succ_self i,f,hfi,rfl,rfl⟩
theorem zGd {s:zAd}{seen:List AskD}{a:Nat}{d:zAh} (hd:s.nodes[a]?=some d) (hsn:SeenAt s seen a) {R:List Int}{lk lk1:Lk} (h:oneR a seen (nmOf d) lk=some lk1):PostL s seen [(a:Int)] R lk lk1:=by
 unfold oneR at h
 by_cases hn:nmOf d=[]
 ·rw [if_pos hn] at h
  cases h
  intro i
  by_cases hi:i=a
  ·subst hi;exact .inr ⟨by simp,d,hd,.inl ⟨hn,rfl⟩⟩
  ·exact .inl ⟨by simp;omega,rfl⟩
 ·rw [if_neg hn] at h
  cases hq:zAO seen (nmOf d) with
  | none=>rw [hq] at h;cases h
  | some q =>
    rw [hq] at h
    dsimp only at h
    by_cases hnm:q.number=true
    ·rw [if_pos hnm] at h
     cases h
     intro i
     by_cases hi:i=a
     ·subst hi
      refine .inr ⟨by simp,d,hd,.inr ⟨hn,q.record,q.field,by simp [zEM],?_,fun q2 h2=>?_,fun h2=>?_⟩⟩
      ·obtain ⟨m1,m2⟩:=zCj hq
       obtain ⟨e,f,h1,h2,h3,h4,h5,j,g,h6,h7,h8⟩:=hsn q m1
       rw [hnm] at h5
       have h5:=h5.symm
       rw [Bool.and_eq_true,decide_eq_true_eq] at h5
       exact ⟨e,f,h1,h2,h3,by rw [h4,m2],h5.1,h5.2,j,g,h6,h7,h8⟩
      ·rw [hq] at h2;cases h2;exact ⟨rfl,rfl⟩
      ·rw [hq] at h2;cases h2
     ·exact .inl ⟨by simp;omega,by simp [zEM,hi]⟩
    ·rw [if_neg hnm] at h;cases h
theorem zCs {s:zAd} (hv:Ahead s):∀ (n i:Nat) (seen:List AskD) (lk lk2:Lk),i<n→i<s.nodes.length→SeenAt s seen i→zAC s n i seen lk=.ok lk2→PostL s seen (preS s i) (preS s i) lk lk2
 | 0,i,_,_,_,h,_,_,_=>by omega
 | n+1,i,seen,lk,lk2,hin,hi,hsn,h=>by
   obtain ⟨d,hd⟩:∃ d,s.nodes[i]?=some d:=⟨_,List.getElem?_eq_getElem hi⟩
   obtain ⟨hf,hks⟩:=hv i d hd
   have hkd:kidsAt s i=zAc d:=by unfold kidsAt;rw [hd]
   have hpre:preS s i=(i:Int)::(zAc d).flatMap (preS s):=by
    have:=zAL hv.kidsAt hi (N:=s.nodes.length)
    rw [hkd] at this
    exact this
   unfold zAC at h
   rw [Int.toNat_natCast,hd] at h
   dsimp only at h
   rw [zE8 hf] at h
   cases ho:oneR i seen (nmOf d) lk with
   | none=>rw [ho] at h;cases h
   | some lk1 =>
     rw [ho] at h
     dsimp only at h
     have h1:=zGd hd hsn (R:=preS s i) ho
     have hsub:∀ k∈zAc d,∀ x∈preS s k,x∈preS s i:=fun k hk x hx=>by
      rw [hpre];exact List.mem_cons_of_mem _ (List.mem_flatMap.2 ⟨k,hk,hx⟩)
     have hkid:∀ k∈zAc d,SeenAt s seen k:=fun k hk=>hsn.kid hv (by rw [Int.toNat_natCast,hkd];exact hk)
     have hself:∀ k∈zAc d,k∈preS s k:=fun k hk=>by
      obtain ⟨q1,q2⟩:=hks k hk
      obtain ⟨y,rfl⟩:=Int.eq_ofNat_of_zero_le q1
      unfold preS
      rw [zAL hv.kidsAt (by omega)]
      exact List.mem_cons_self ..
     have hrun:∀ k∈zAc d,∀ sn l l2,SeenAt s sn k→zAC s n k sn l=.ok l2→PostL s sn (preS s k) (preS s k) l l2:=fun k hk sn l l2 hsk hr=>by
      obtain ⟨q1,q2⟩:=hks k hk
      obtain ⟨y,rfl⟩:=Int.eq_ofNat_of_zero_le q1
      exact zCs hv n y sn l l2 (by omega) (by omega) hsk hr
     rw [hpre] at h1 hsub ⊢
     by_cases h5:d.kind=5
     ·rw [if_pos h5] at h
      have hkr:=zAz hf h5
      have hfm:∀ f∈d.fields,f.type∈zAc d:=fun f hf=>by rw [hkr];exact List.mem_map.2 ⟨f,hf,rfl⟩
      cases hr:recR s (zAC s n) i 0 d.fields seen lk1 with
      | error e=>rw [hr] at h;cases h
      | ok lk3 =>
        rw [hr] at h
        dsimp only at h
        by_cases ha:zBK s lk3 d=true
        ·rw [if_pos ha] at h
         cases h
         have h2:=zDu (own:=[]) hd h5 hf (List.mem_cons_self ..) (fun f hf=>⟨hkid _ (hfm f hf),hself _ (hfm f hf)⟩) (fun f hf=>hrun _ (hfm f hf)) (fun f hf=>hsub _ (hfm f hf)) (i:=0) rfl (fun q hq=>by cases hq) (by rw [List.append_nil];exact hr)
         have h3:=h1.seq h2
         have:(zAc d).flatMap (preS s)=d.fields.flatMap (fun f=>preS s f.type):=by rw [hkr,List.flatMap_map]
         rw [this] at h3 ⊢
         exact h3
        ·rw [if_neg ha] at h;cases h
     ·rw [if_neg h5] at h
      refine h1.seq (zGi (fun k hk l l2 hr=>?_) h)
      exact PostL.mono (own:=[]) (by rw [List.append_nil];exact hrun k hk seen l l2 (hkid k hk) hr) (hsub k hk) (fun q hq=>by cases hq)
theorem zEj {s:zAd} (hv:Ahead s):∀ {ds:List DefD}{lk lk2:Lk},(∀ d∈ds,0≤d.type∧d.type<(s.nodes.length:Int))→zCX s ds lk=.ok lk2→PostL s [] (ds.flatMap (fun d=>preS s d.type)) (rngI s.nodes.length) lk lk2
 | [],lk,lk2,_,h=>by cases h;exact .nil
 | x::ds,lk,lk2,hm,h=>by
   unfold zCX at h
   cases hx:zAC s s.nodes.length x.type [] lk with
   | error e=>rw [hx] at h;cases h
   | ok lk1 =>
     rw [hx] at h
     rw [List.flatMap_cons]
     refine PostL.seq ?_ (zEj hv (fun d hd=>hm d (List.mem_cons_of_mem _ hd)) h)
     obtain ⟨q1,q2⟩:=hm x (by simp)
     obtain ⟨y,hy⟩:=Int.eq_ofNat_of_zero_le q1
     rw [hy] at hx q2 ⊢
     refine PostL.mono (own:=[]) (by rw [List.append_nil];exact zCs hv s.nodes.length y [] lk lk1 (by omega) (by omega) (fun q hq=>by cases hq) hx) (fun k hk=>?_) (fun q hq=>by cases hq)
     have:=zDy hv (y+1) y (by omega) (by omega) k hk
     exact mem_rngI.2 ⟨this.1,by omega⟩
theorem zGA {s:zAd}{lk:Lk} (h:zAM s=.ok lk) {i:Nat}{d:zAh} (hd:s.nodes[i]?=some d):(nmOf d=[]∧lk i=none)∨(nmOf d≠[]∧∃ r f,lk i=some (r,f)∧GoodL s i r f (nmOf d)):=by
 have hc:=(zBe h).1
 unfold zAM at h
 by_cases hs:(zBo s).1≠0
 ·rw [if_pos hs] at h;cases h
 rw [if_neg hs] at h
 have hv:=Ahead.of hc
 have hi:=(List.getElem?_eq_some_iff.1 hd).1
 obtain ⟨o,o',_,h2,_⟩:=zA8 hc
 have hp:=zEj hv (fun e he=>zBt h2 e.type (List.mem_map.2 ⟨e,he,rfl⟩)) h i
 obtain ⟨e,he,hm⟩:=zD1 hc hi
 have hin:(i:Int)∈s.defs.flatMap (fun d=>preS s d.type):=List.mem_flatMap.2 ⟨e,List.mem_of_getElem? he,hm⟩
 rcases hp with ⟨a1,_⟩|⟨_,d',a2,⟨a3,a4⟩|⟨a3,r,f,a4,a5⟩⟩
 ·exact absurd hin a1
 ·rw [hd] at a2;cases a2;exact .inl ⟨a3,a4⟩
 ·rw [hd] at a2;cases a2;exact .inr ⟨a3,r,f,a4,a5.good⟩
end Go.Proofs.YtnapjcnfgdkmcaaGreatDoor
end
