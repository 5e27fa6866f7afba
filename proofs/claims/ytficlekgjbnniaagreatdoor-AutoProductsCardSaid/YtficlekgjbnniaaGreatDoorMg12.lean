/- Texts of a walk, one behind the other. -/
import Derived.ChangeKeysEq
import Derived.Tactics
import Derived.Tactics2
import Derived.Laws.Pointers
import Derived.RegionTactic
import Derived.RegionCalls
import Derived.ChangeAlike
import Derived.Test.YtficlekgjbnniaaGreatDoorMg3
import Derived.Test.YtficlekgjbnniaaGreatDoorMg7
import Derived.Test.YtficlekgjbnniaaGreatDoorMg8
import Derived.Test.YtficlekgjbnniaaGreatDoorMg9
import Derived.Test.YtficlekgjbnniaaGreatDoorMg11
set_option linter.unusedVariables false
set_option linter.unusedSimpArgs false
set_option linter.unusedSectionVars false
set_option maxRecDepth 10000
section
namespace Go.E
open Go
theorem AllOk.keep {P:Program}{T:TT}{all:List Oper}{B:Chs}{fo:Fo}{env:Env}{ro:Ro}{own:Chs}{k:Kt}{ι:Type} (f:ι→Env) (O:ι→Chs) (I:ι→Prop)
  (h:vFo P T all B (fun env' ro' own'=>ro'=ro∧∃ i,Sub (f i++env) env'∧Sup own' (O i)∧I i) fo env ro own) (hk:∀ i,I i→k (f i++env) ro (O i)):AllOk (fun Φ=>vFo P T all B Φ fo env ro own) k ro :=
 AllOk.at (fun i=>f i++env) O I h hk
theorem LoopOk.drop {ws:List Nat}{A:Kt→Kt}{env:Env}{ro:Ro}{own:Chs}{ι:Type}{env0:Env} (ds:List Nat) (hk:Keep (ds++ws) env env0) (f:ι→Env) (O:ι→Chs) (I:ι→Ro→Prop) (μ:ι→Nat) (i0:ι) (hI:I i0 ro) (hs:Sub (f i0) env) (ho:Sup own (O i0))
  (round:∀ i ro',Le ro ro'→I i ro'→A (Wk fun env ro own=>∃ j,I j ro∧μ j<μ i∧Sub (f j++env0) env∧Sup own (O j)) (f i++env0) ro' (O i)):LoopOk ws A env ro own :=
 .intro (fun i=>f i++env0) O I μ (.id ⟨i0,hI,hs.append (Sub.of fun p hp=>(hk.spec p hp).2),ho⟩) round
theorem LoopOk.drop0 {ws:List Nat}{A:Kt→Kt}{env:Env}{ro:Ro}{own:Chs}{ι:Type}{env0:Env} (ds:List Nat) (hk:Keep (ds++ws) env env0) (f:ι→Env) (O:ι→Chs) (I:ι→Prop) (μ:ι→Nat) (i0:ι) (hI:I i0) (hs:Sub (f i0) env) (ho:Sup own (O i0))
  (round:∀ i,I i→A (Wk fun env ro' own=>∃ j,(ro'=ro∧I j)∧μ j<μ i∧Sub (f j++env0) env∧Sup own (O j)) (f i++env0) ro (O i)):LoopOk ws A env ro own :=
 LoopOk.drop ds hk f O (fun i r=>r=ro∧I i) μ i0 ⟨rfl,hI⟩ hs ho (fun i ro' _ h=>by obtain ⟨rfl,h⟩:=h;exact round i h)
end Go.E
namespace Go.Proofs.YtficlekgjbnniaaGreatDoor
open Go Go.E
def pairV (p:Int × Int):Value:=.agg #[.int .i64 p.1,.int .i64 p.2]
def okP (p:Int × Int):Prop:=(Lit.int .i64 p.1).wf=true∧(Lit.int .i64 p.2).wf=true
theorem okP_of {x y:Int} (hx:-1≤x∧x≤1024) (hy:-1≤y∧y≤1024):okP (x,y):=by
 have h:∀ z:Int,-1≤z∧z≤1024→(Lit.int .i64 z).wf=true:=fun z hz=>by
  show (decide (IntKind.i64.min≤z)&&decide (z≤IntKind.i64.max))=true
  rw [show IntKind.i64.min=-9223372036854775808 by decide,show IntKind.i64.max=9223372036854775807 by decide,decide_eq_true (by omega),decide_eq_true (by omega)]
  rfl
 exact ⟨h x hx,h y hy⟩
def pfA : Field := ⟨ "a", 3, 0, false, "", "guipure/auto", 0⟩
def pfB : Field := ⟨ "b", 3, 1, false, "", "guipure/auto", 8⟩
theorem pair_enc:KeyEnc Tryz.prog 82 pairV okP:=KeyEnc.pair (q:=.i64) (e:=3) (f1:=pfA) (f2:=pfB) (deep_law_gate (by kernel_rfl) (by decide +kernel) (by decide +kernel) (by kernel_rfl) (by kernel_rfl)) (by kernel_rfl) (by decide +kernel) (by kernel_rfl) (by kernel_rfl) rfl rfl rfl rfl (by kernel_rfl) (by kernel_rfl) (by kernel_rfl)
def prsV (l:List (Int × Int)):List Value:=l.flatMap fun p=>[.int .i64 p.1,.int .i64 p.2]
theorem prsV_len (l:List (Int × Int)):(prsV l).length=l.length*2:=by
 unfold prsV
 induction l with
 | nil=>rfl
 | cons x l ih =>
   rw [List.flatMap_cons,List.length_append,ih]
   simp only [List.length_cons,List.length_nil]
   omega
theorem prsV_snoc (l:List (Int × Int)) (p:Int × Int):prsV l++[.int .i64 p.1,.int .i64 p.2]=prsV (l++[p]):=by
 unfold prsV;rw [List.flatMap_append];simp
theorem prsV_at:∀ {l:List (Int × Int)}{i:Nat}{p:Int × Int},l[i]?=some p→((prsV l).drop (i*2)).take 2=[.int .i64 p.1,.int .i64 p.2]
 | [],i,p,h=>by simp at h
 | x::l,0,p,h=>by
   simp at h;subst h;rfl
 | x::l,i+1,p,h=>by
   have:=prsV_at (l:=l) (i:=i) (p:=p) (by simpa using h)
   rw [show (i+1)*2=i*2+2 by omega]
   exact this
theorem step_bd {w:Nat}{d:DfaA} (ho:DfaOk w d) (hn:d.next.length≤1024) (s:Int) {c:Nat} (hc:c<256):-1≤stepA d s c∧stepA d s c≤1024:=by
 rcases step_to ho s hc with h|⟨u,h,hu⟩
 ·omega
 ·omega
theorem ProdI.step {a b:DfaA}{how:Nat}{first:List Nat}{list:List (Int × Int)}{next:List (List Int)}{acc:List Bool}{p:Int × Int}{q:List (Int × Int) × List Int} (hI:ProdI a b how first list next acc) (hp:list[next.length]?=some p) (hq:prowP a b how p first list []=some q) :
  ProdI a b how first q.1 (next++[q.2]) (acc++[accP how (endsA a p.1) (endsA b p.2)]):=by
 have hpl:=(List.getElem?_eq_some_iff.1 hp).1
 obtain ⟨⟨e,he⟩,h2,h3,h4,h5⟩:=prow_ok first [] list [] q hq rfl rfl hI.le hI.nodup (fun k c z h=>by simp at h)
 have hup:∀ {p:Int × Int}{c:Nat}{z:Int},EntP a b how list p c z→EntP a b how q.1 p c z:=fun {p c z} hh=>by
  rcases hh with h1|⟨n,h1,h2,h3⟩
  ·exact .inl h1
  ·exact .inr ⟨n,h1,by rw [he,List.getElem?_append_left (List.getElem?_eq_some_iff.1 h2).1];exact h2,h3⟩
 have hold:∀ {i:Nat}{x:Int × Int},i<list.length→q.1[i]?=some x→list[i]?=some x:=fun {i x} hi hx=>by rwa [he,List.getElem?_append_left hi] at hx
 refine ⟨by rw [he,List.getElem?_append_left (List.getElem?_eq_some_iff.1 hI.zero).1];exact hI.zero,h3,h4,by rw [he];simp;omega,by simp [hI.alen],fun i x y hx hy=>?_,fun i x y hx hy=>?_⟩
 ·rcases snoc_get hx with ⟨r1,r2⟩|⟨r1,r2⟩
  ·obtain ⟨s1,s2⟩:=hI.row i x y r2 (hold (by omega) hy)
   exact ⟨s1,fun k c z t1 t2=>hup (s2 k c z t1 t2)⟩
  ·subst r2
   have:=hold (by omega) hy
   rw [r1,hp] at this
   cases this
   exact ⟨h2,h5⟩
 ·rcases snoc_get hx with ⟨r1,r2⟩|⟨r1,r2⟩
  ·exact hI.acc i x y r2 (hold (by have:=hI.alen;omega) hy)
  ·subst r2
   have:=hold (by have:=hI.alen;omega) hy
   rw [r1,hI.alen,hp] at this
   cases this
   rfl
section
variable {ro:Ro}{own r:Chs}{K:Value→Ro→Chs→Prop}{g:Chunk→Chs}
theorem aprodX_ok {q1 q2:Nat}{how:Int} (hh:how<1∨3<how) (hk:K (.tuple #[.pointer none,.int .i64 1]) ro own):CallOk Tryz.prog 25 #[ptr' q1,ptr' q2,.int .i64 how] ro own K:=by
 refine CallOk.intro (args:=[_,_,_]) (rs:=[_,_]) T_ok Tryz.func25 Tryz.call25 rfl rfl (by kernel_rfl) rfl rfl ?_
 rcases hh with hh|hh
 ·repeat first|exact zE|refine zP ?_|refine zB fun b=>?_|refine zC fun a' c' hc1 hc2=>?_|(apply GJ.a;exact rfl;intro hg)|(apply GJ.o;exact rfl;intro hg)
  exact Wk.id hk
 ·repeat first|exact zE|refine zP ?_|refine zB fun b=>?_|refine zC fun a' c' hc1 hc2=>?_|(apply GJ.a;exact rfl;intro hg)|(apply GJ.o;exact rfl;intro hg)
  exact Wk.id hk
set_option maxHeartbeats 16000000 in
theorem aprod_ok {q1 q2:Nat}{A B:DfaA}{how:Nat} (h1:DAt ro q1 A) (h2:DAt ro q2 B) (l1:LeastA A) (l2:LeastA B) (hh:how=1∨how=2∨how=3)
  (hk0:∀ ro',Le ro ro'→prodA A B how=none→K (.tuple #[.pointer none,.int .i64 80]) ro' own)
  (hk1:∀ ro' p P,Le ro ro'→prodA A B how=some P→DAt ro' p (leastA P)→K (.tuple #[ptr' p,.int .i64 0]) ro' own):CallOk Tryz.prog 25 #[ptr' q1,ptr' q2,.int .i64 (how:Int)] ro own K:=by
 obtain ⟨w1,hw1,o1,s1,_,_⟩:=l1.ok
 obtain ⟨w2,hw2,o2,s2,_,_⟩:=l2.ok
 have hp1:=l1.pos
 have hp2:=l2.pos
 have hn1:=l1.le
 have hn2:=l2.le
 have hmade:=fun P (h:prodA A B how=some P)=>(prod_made h).1
 unfold prodA at hk0 hk1 hmade
 obtain ⟨seen,hJ⟩:=joint_all A B
 obtain ⟨Z,hZ⟩:∃ Z,Z=prodL A B how (jointA A B).2 1025 [(0,0)] [] []:=⟨_,rfl⟩
 rw [←hZ] at hk0 hk1 hmade
 refine CallOk.intro (args:=[_,_,_]) (rs:=[_,_]) T_ok Tryz.func25 Tryz.call25 rfl rfl (by kernel_rfl) rfl rfl ?_
 repeat first|exact zE|refine zP ?_|refine zB fun b=>?_|refine zC fun a' c' hc1 hc2=>?_|(apply GJ.a;exact rfl;intro hg)|(apply GJ.o;exact rfl;intro hg)
 refine dlen_ok h1 ?_
 repeat first|exact zE|refine zP ?_|refine zB fun b=>?_|refine zC fun a' c' hc1 hc2=>?_|(apply GJ.a;exact rfl;intro hg)|(apply GJ.o;exact rfl;intro hg)
 refine dlen_ok h2 ?_
 repeat first|exact zE|refine zP ?_|refine zB fun b=>?_|refine zC fun a' c' hc1 hc2=>?_|(apply GJ.a;exact rfl;intro hg)|(apply GJ.o;exact rfl;intro hg)
 obtain ⟨bP,hbP⟩:∃ z:Nat,z=b:=⟨_,rfl⟩
 subst hbP
 refine CallOk.sup (own0:=.blk bP 68 (autV (List.replicate 256 0) (.slice none 0 0) (.slice none 0 0))::own) Sup.z ?_
 refine ajoint_ok h1 h2 o1 o2 hw1 hw2 (fun ro1 af cf hl1 hrf=>?_)
 obtain ⟨cls,hcls⟩:∃ C,C=(jointA A B).1:=⟨_,rfl⟩
 obtain ⟨first,hfirst⟩:∃ C,C=(jointA A B).2:=⟨_,rfl⟩
 rw [←hcls] at hJ hk1 hmade ⊢
 rw [←hfirst] at hJ hZ hrf ⊢
 clear hcls hfirst
 have hcl:cls.length=256:=hJ.olen
 have hcv:=clsV_len cls
 repeat first|exact zE|refine zP ?_|refine zB fun b=>?_|refine zC fun a' c' hc1 hc2=>?_|(apply GJ.a;exact rfl;intro hg)|(apply GJ.o;exact rfl;intro hg)
 refine OpOk.storeRow rfl rfl rfl (by rw [hcv];exact hcl) (by simp) (clsV_one cls) ?_
 repeat first|exact zE|refine zP ?_|refine zB fun b=>?_|refine zC fun a' c' hc1 hc2=>?_|(apply GJ.a;exact rfl;intro hg)|(apply GJ.o;exact rfl;intro hg)
 refine OpOk.loadRow rfl rfl LdN.hasBlk (by rw [hcv];exact hcl) ?_
 repeat first|exact zE|refine zP ?_|refine zB fun b=>?_|refine zC fun a' c' hc1 hc2=>?_|(apply GJ.a;exact rfl;intro hg)|(apply GJ.o;exact rfl;intro hg)
 have hl6:(clsV cls).length=256:=by rw [hcv];exact hcl
 have hsp:Go.E.splice (autV (List.replicate 256 0) (.slice none 0 0) (.slice none 0 0)) (0+0) (clsV cls)=autV cls (.slice none 0 0) (.slice none 0 0):=by
  have e1:(clsV (List.replicate 256 0)).length=256:=by rw [clsV_len,List.length_replicate]
  unfold Go.E.splice autV
  rw [Nat.add_zero,List.take_zero,List.nil_append,Nat.zero_add,hl6,List.drop_append,e1,Nat.sub_self,List.drop_zero,List.drop_eq_nil_of_le (by omega),List.nil_append]
 refine OpOk.storePart rfl rfl rfl hl6 (clsV_one cls) (by rw [autV_len (by simp)];omega) (cs':=autV cls (.slice none 0 0) (.slice none 0 0)) (by rw [hsp];exact Nf.self _) ?_
 clear hsp
 repeat first|exact zE|refine zP ?_|refine zB fun b=>?_|refine zC fun a' c' hc1 hc2=>?_|(apply GJ.a;exact rfl;intro hg)|(apply GJ.o;exact rfl;intro hg)
 refine OpOk.makeMapG (kv:=pairV) (vv:=nV) (fun bM=>?_)
 repeat first|exact zE|refine zP ?_|refine zB fun b=>?_|refine zC fun a' c' hc1 hc2=>?_|(apply GJ.a;exact rfl;intro hg)|(apply GJ.o;exact rfl;intro hg)
 have hok0:okP (0,0):=okP_of (by decide) (by decide)
 refine OpOk.insertG (OpOk.mapUpdateG (kt:=82) (et:=3) (kv:=pairV) (vv:=nV) (k:=(0,0)) (v:=0) rfl rfl rfl (by kernel_rfl) pair_enc MapOk.nil hok0 (fun c1=>?_))
 have hM0:NumM okP [((0:Int),(0:Int))] (putG [] 0 (0,0) 0):=(NumM.nil (κ:=Int × Int)).push hok0 rfl 0
 generalize putG ([]:List ((Int × Int) × Nat × Nat)) 0 (0,0) 0=M0 at *
 have hI0:ProdI A B how first [(0,0)] [] []:=⟨rfl,by decide,by simp,by decide,rfl,fun i r p h=>by simp at h,fun i x p h=>by simp at h⟩
 have hfl:=hJ.flen
 have hf256:∀ c∈first,c<256:=fun c hc=>by
  obtain ⟨j,hj,e⟩:=List.getElem_of_mem hc
  exact (hJ.first' j c (by rw [List.getElem?_eq_getElem hj,e])).1
 have hfm:=hrf.max
 have hfle:=hrf.le
 unfold maxLen at hfm
 have hfn:first.length≤256:=by
  have h1:first.Nodup:=by
   rw [List.Nodup,List.pairwise_iff_getElem]
   intro i j hi0 hj hij e2
   have hi:=List.getElem?_eq_getElem hi0
   have hj':=List.getElem?_eq_getElem hj
   have q1:=(hJ.first' i _ hi).2.2
   have q2:=(hJ.first' j _ hj').2.2
   rw [e2,q2] at q1
   have:=Option.some.inj q1
   omega
  have h2:first.length≤(List.range 256).length:=nodup_le h1 (fun x hx=>List.mem_range.2 (hf256 x hx))
  rwa [List.length_range] at h2
 repeat first|exact zE|refine zP ?_|refine zB fun b=>?_|refine zC fun a' c' hc1 hc2=>?_|(apply GJ.a;exact rfl;intro hg)|(apply GJ.o;exact rfl;intro hg)
 refine LoopOk.drop (List.range' 23 31) (ι:=(List (Int × Int) × Option Addr × Nat) × (List (List Int) × List Value × Option Addr × Nat) × (List Bool × Option Addr × Nat) × List ((Int × Int) × Nat × Nat) × Nat) Keep.z (fun ((list,ao,co),(nx,H,an,cn),(acc,aa,ca),M,cM)=>[(13,.int .i64 (nx.length:Int)),(11,.slice ao list.length co)])
  (fun ((list,ao,co),(nx,H,an,cn),(acc,aa,ca),M,cM)=>.sl ao list.length co 82 2 (prsV list)::.obj bM (mapG pairV nV M cM)::.blk bP 68 (autV cls (.slice an nx.length cn) (.slice aa acc.length ca))::.sl an nx.length cn 59 1 H::.sl aa acc.length ca 4 1 (boolsV acc)::own)
  (fun ((list,ao,co),(nx,H,an,cn),(acc,aa,ca),M,cM) ro2=>ProdI A B how first list nx acc∧prodL A B how first (1025-nx.length) list nx acc=Z∧NumM okP list M∧RowsH ro2 nx H∧(list.length≤co∧co≤maxLen)∧(nx.length≤cn∧cn≤maxLen)∧(acc.length≤ca∧ca≤maxLen))
  (fun ((list,ao,co),(nx,H,an,cn),(acc,aa,ca),M,cM)=>1025-nx.length) (([(0,0)],some ⟨b,0,none⟩,1),([],[],none,0),([],none,0),M0,c1) ?_ Sub.z Sup.z ?_
 ·exact ⟨hI0,hZ.symm,hM0,RowsH.nil _,⟨Nat.le_refl _,by unfold maxLen;decide⟩,⟨Nat.le_refl _,Nat.zero_le _⟩,⟨Nat.le_refl _,Nat.zero_le _⟩⟩
 clear hI0 hM0 hZ M0
 rintro ⟨⟨list,ao,co⟩,⟨nx,H,an,cn⟩,⟨acc,aa,ca⟩,M,cM⟩ ro2 hl2 ⟨i1,i2,i3,i4,⟨i5,i6⟩,⟨i7,i8⟩,⟨i9,i10⟩⟩
 dsimp only [List.cons_append,List.nil_append] at i1 i2 i3 i4 i5 i6 i7 i8 i9 i10 ⊢
 have hll:=i1.le
 have hnl:=i1.nle
 have hacl:=i1.alen
 have hHl:=i4.len
 have hpl:=prsV_len list
 obtain ⟨F,hF⟩:∃ F,1025-nx.length=F+1:=⟨1024-nx.length,by omega⟩
 rw [hF,prodL] at i2
 by_cases hlt:nx.length<list.length
 ·obtain ⟨p,hp⟩:∃ p,list[nx.length]?=some p:=⟨_,List.getElem?_eq_getElem hlt⟩
  have hpat:=prsV_at hp
  rw [hp] at i2
  dsimp only at i2
  obtain ⟨R,hR⟩:∃ R,R=prowP A B how p first list []:=⟨_,rfl⟩
  rw [←hR] at i2
  repeat first|exact zE|refine zP ?_|refine zB fun b=>?_|refine zC fun a' c' hc1 hc2=>?_|(apply GJ.a;exact rfl;intro hg)|(apply GJ.o;exact rfl;intro hg)
  rw [Int.toNat_natCast]
  refine OpOk.loadRow rfl rfl (LdN.slRow hpat) rfl ?_
  repeat first|exact zE|refine zP ?_|refine zB fun b=>?_|refine zC fun a' c' hc1 hc2=>?_|(apply GJ.a;exact rfl;intro hg)|(apply GJ.o;exact rfl;intro hg)
  rename_i bQ
  obtain ⟨bR,hbR⟩:∃ z:Nat,z=b:=⟨_,rfl⟩
  subst hbR
  rw [Int.toNat_natCast,intV_zero]
  obtain ⟨N,hN⟩:∃ N,N=list.length:=⟨_,rfl⟩
  refine LoopOk.drop0 [55,56,57,54,60,61,62,63,64,65,66] (ι:=Nat × (List (Int × Int) × Option Addr × Nat) × List Int × List ((Int × Int) × Nat × Nat) × Nat) Keep.z (fun (k,(list,ao,co),row,M,cM)=>[(69,.int .i64 (k:Int)),(11,.slice ao list.length co)])
   (fun (k,(list,ao,co),row,M,cM)=>.sl (some ⟨bR,0,none⟩) first.length first.length 3 1 (intV (row++List.replicate (first.length-k) 0))::.blk bQ 82 [.int .i64 p.1,.int .i64 p.2]::.sl ao list.length co 82 2 (prsV list)::.obj bM (mapG pairV nV M cM)::.blk bP 68 (autV cls (.slice an nx.length cn) (.slice aa acc.length ca))::.sl an nx.length cn 59 1 H::.sl aa acc.length ca 4 1 (boolsV acc)::own)
   (fun (k,(list,ao,co),row,M,cM)=>k≤first.length∧row.length=k∧prowP A B how p (first.drop k) list row=R∧NumM okP list M∧list.length≤1024∧(list.length≤co∧co≤maxLen)) (fun (k,(list,ao,co),row,M,cM)=>first.length-k) (0,(list,ao,co),[],M,cM) ?_ Sub.z Sup.z ?_
  ·exact ⟨Nat.zero_le _,rfl,by rw [List.drop_zero];exact hR.symm,i3,hll,⟨i5,i6⟩⟩
  clear i3 i5 i6 hpl
  rintro ⟨k,⟨list2,ao2,co2⟩,row,M2,cM2⟩ ⟨c1,c2,c3,c4,c5,⟨c6,c7⟩⟩
  dsimp only [List.cons_append,List.nil_append] at c1 c2 c3 c4 c5 c6 c7 ⊢
  have hpl:=prsV_len list2
  have hrl:(intV (row++List.replicate (first.length-k) 0)).length=first.length:=by rw [intV_len,List.length_append,List.length_replicate];omega
  by_cases hkl:k<first.length
  ·obtain ⟨c,hc⟩:∃ c,first[k]?=some c:=⟨_,List.getElem?_eq_getElem hkl⟩
   have hc6:=hf256 c (List.mem_of_getElem? hc)
   have hbc:=bang hc
   have hdr:first.drop k=c::first.drop (k+1):=by
    obtain ⟨h,e⟩:=List.getElem?_eq_some_iff.1 hc
    rw [List.drop_eq_getElem_cons h,e]
   rw [hdr,prowP] at c3
   have hb1:=step_bd o1 hn1 p.1 hc6
   have hb2:=step_bd o2 hn2 p.2 hc6
   repeat first|exact zE|refine zP ?_|refine zB fun b=>?_|refine zC fun a' c' hc1 hc2=>?_|(apply GJ.a;exact rfl;intro hg)|(apply GJ.o;exact rfl;intro hg)
   rw [hbc]
   have hA:=h1.le (hl1.trans hl2)
   have hB:=h2.le (hl1.trans hl2)
   have hstA:∀ {ro':Ro}{own':Chs}{K':Value→Ro→Chs→Prop},DAt ro' q1 A→K' (.int .i64 (stepA A p.1 c)) ro' own'→CallOk Tryz.prog 22 #[ptr' q1,.int .i64 p.1,.int .u8 (c:Int)] ro' own' K':=fun h k=>dstep_ok h o1 hc6 k
   have hstB:∀ {ro':Ro}{own':Chs}{K':Value→Ro→Chs→Prop},DAt ro' q2 B→K' (.int .i64 (stepA B p.2 c)) ro' own'→CallOk Tryz.prog 22 #[ptr' q2,.int .i64 p.2,.int .u8 (c:Int)] ro' own' K':=fun h k=>dstep_ok h o2 hc6 k
   generalize stepA A p.1 c=z1 at *
   generalize stepA B p.2 c=z2 at *
   refine AllOk.keep (ι:=Nat) (fun b=>[(18,.pointer (some ⟨b,0,none⟩))]) (fun b=>.blk b 82 [.int .i64 z1,.int .i64 z2]::.sl (some ⟨bR,0,none⟩) first.length first.length 3 1 (intV (row++List.replicate (first.length-k) 0))::.blk bQ 82 [.int .i64 p.1,.int .i64 p.2]::.sl ao2 list2.length co2 82 2 (prsV list2)::.obj bM (mapG pairV nV M2 cM2)::.blk bP 68 (autV cls (.slice an nx.length cn) (.slice aa acc.length ca))::.sl an nx.length cn 59 1 H::.sl aa acc.length ca 4 1 (boolsV acc)::own) (fun _=>True) ?_ (fun bZ _=>?_)
   ·repeat' (first|with_reducible exact vFo.nil|((with_reducible refine vFo.cons ?_ ?_);refine vOne.at (by rfl) ?_)|((with_reducible refine vFo.leaf ?_);exact ⟨rfl,_,Sub.z,Sup.z,trivial⟩)|(show Stop (OpOk _ _ _ _ _ _ _);refine Stop.mk ?_)|(show Stop (CallOk _ _ _ _ _ _);refine Stop.mk ?_)|(show CallOk _ _ _ _ _ _;first|refine hstA hA ?_|refine hstB hB ?_)|(show OpOk _ _ _ _ _ _ _;first|refine zB (fun b=>?_)|refine OpOk.buildK (ps:=[(0,.tmp 78),(1,.tmp 83)]) [.int .i64 z1,.int .i64 z2] rfl (by kernel_rfl) ?_|refine OpOk.storeRow (cs:=[.int .i64 0,.int .i64 0]) rfl rfl rfl rfl rfl rfl ?_)|refine vFo.stop Sup.z ?_)
   dsimp only [List.cons_append,List.nil_append]
   have hok:okP (z1,z2):=okP_of hb1 hb2
   have hat:=c4.at' (z1,z2)
   rw [idx_beq] at hat
   have hset:∀ v:Int,((row++[-1])++List.replicate (first.length-(k+1)) 0).set k v=(row++[v])++List.replicate (first.length-(k+1)) 0:=fun v=>by
    rw [List.append_assoc,List.set_append_right _ _ (by omega),c2,Nat.sub_self,List.append_assoc]
    rfl
   have hrl2:(intV ((row++[-1])++List.replicate (first.length-(k+1)) 0)).length=first.length:=by rw [intV_len,List.length_append,List.length_append,List.length_replicate];simp only [List.length_cons,List.length_nil];omega
   have hps:prsV list2++flat [Value.agg #[.int .i64 z1,.int .i64 z2]]=prsV (list2++[(z1,z2)]):=prsV_snoc list2 (z1,z2)
   have hpn:list2.length+1=(list2++[(z1,z2)]).length:=by simp
   repeat first|exact zE|refine zP ?_|refine zB fun b=>?_|refine zC fun a' c' hc1 hc2=>?_|(apply GJ.a;exact rfl;intro hg)|(apply GJ.o;exact rfl;intro hg)
   refine OpOk.storeSlAt' (k:=k) rfl rfl rfl rfl (by rw [Int.toNat_natCast]) (by omega) ?_
   rw [intV_set,snoc_set c2 hkl]
   clear hstA hstB hpl
   have hpl:=prsV_len list2
   by_cases hz1:z1=-1
   ·by_cases hz2:z2=-1
    ·have hsk:skipP how (z1,z2)=true:=by unfold skipP;simp [hz1,hz2]
     rcases hh with rfl|rfl|rfl
     ·rw [if_pos hsk] at c3
      repeat first|exact zE|refine zP ?_|refine zB fun b=>?_|refine zC fun a' c' hc1 hc2=>?_|(apply GJ.a;exact rfl;intro hg)|(apply GJ.o;exact rfl;intro hg)
      refine Wk.id ⟨(k+1,(list2,ao2,co2),row++[-1],M2,cM2),⟨rfl,?_⟩,?_,Sub.z,Sup.z⟩
      all_goals try dsimp only
      ·exact ⟨by omega,by simp [c2],c3,c4,c5,⟨c6,c7⟩⟩
      ·omega
     ·rw [if_pos hsk] at c3
      repeat first|exact zE|refine zP ?_|refine zB fun b=>?_|refine zC fun a' c' hc1 hc2=>?_|(apply GJ.a;exact rfl;intro hg)|(apply GJ.o;exact rfl;intro hg)
      refine Wk.id ⟨(k+1,(list2,ao2,co2),row++[-1],M2,cM2),⟨rfl,?_⟩,?_,Sub.z,Sup.z⟩
      all_goals try dsimp only
      ·exact ⟨by omega,by simp [c2],c3,c4,c5,⟨c6,c7⟩⟩
      ·omega
     ·rw [if_pos hsk] at c3
      repeat first|exact zE|refine zP ?_|refine zB fun b=>?_|refine zC fun a' c' hc1 hc2=>?_|(apply GJ.a;exact rfl;intro hg)|(apply GJ.o;exact rfl;intro hg)
      refine Wk.id ⟨(k+1,(list2,ao2,co2),row++[-1],M2,cM2),⟨rfl,?_⟩,?_,Sub.z,Sup.z⟩
      all_goals try dsimp only
      ·exact ⟨by omega,by simp [c2],c3,c4,c5,⟨c6,c7⟩⟩
      ·omega
    ·rcases hh with rfl|rfl|rfl
     ·have hsk:skipP 1 (z1,z2)=true:=by unfold skipP;simp [hz1,hz2]
      rw [if_pos hsk] at c3
      repeat first|exact zE|refine zP ?_|refine zB fun b=>?_|refine zC fun a' c' hc1 hc2=>?_|(apply GJ.a;exact rfl;intro hg)|(apply GJ.o;exact rfl;intro hg)
      refine Wk.id ⟨(k+1,(list2,ao2,co2),row++[-1],M2,cM2),⟨rfl,?_⟩,?_,Sub.z,Sup.z⟩
      all_goals try dsimp only
      ·exact ⟨by omega,by simp [c2],c3,c4,c5,⟨c6,c7⟩⟩
      ·omega
     ·have hsk:¬skipP 2 (z1,z2)=true:=by unfold skipP;simp [hz1,hz2]
      rw [if_neg hsk] at c3
      repeat first|exact zE|refine zP ?_|refine zB fun b=>?_|refine zC fun a' c' hc1 hc2=>?_|(apply GJ.a;exact rfl;intro hg)|(apply GJ.o;exact rfl;intro hg)
      refine OpOk.lookupOkG (kt:=82) (et:=3) (kv:=pairV) (vv:=nV) (k:=(z1,z2)) (z:=.int .i64 0) rfl rfl (by kernel_rfl) pair_enc c4.map hok (by kernel_rfl) ?_
      rw [hat]
      cases hidx:list2.idxOf? (z1,z2) with
      | some n =>
        rw [hidx] at c3
        dsimp only at c3
        simp only [Option.map_some,Option.getD_some,Option.isSome_some,nV]
        repeat first|exact zE|refine zP ?_|refine zB fun b=>?_|refine zC fun a' c' hc1 hc2=>?_|(apply GJ.a;exact rfl;intro hg)|(apply GJ.o;exact rfl;intro hg)
        refine OpOk.storeSlAt' (k:=k) rfl rfl rfl rfl (by rw [Int.toNat_natCast]) (by rw [hrl2];omega) ?_
        rw [intV_set,hset]
        repeat first|exact zE|refine zP ?_|refine zB fun b=>?_|refine zC fun a' c' hc1 hc2=>?_|(apply GJ.a;exact rfl;intro hg)|(apply GJ.o;exact rfl;intro hg)
        refine Wk.id ⟨(k+1,(list2,ao2,co2),row++[(n:Int)],M2,cM2),⟨rfl,?_⟩,?_,Sub.z,Sup.z⟩
        all_goals try dsimp only
        ·exact ⟨by omega,by simp [c2],c3,c4,c5,⟨c6,c7⟩⟩
        ·omega
      | none =>
        rw [hidx] at c3
        dsimp only at c3
        simp only [Option.map_none,Option.getD_none,Option.isSome_none]
        by_cases h1024:list2.length=1024
        ·rw [if_pos h1024] at c3
         rw [←c3] at i2
         dsimp only at i2
         rw [←i2] at hk0
         repeat first|exact zE|refine zP ?_|refine zB fun b=>?_|refine zC fun a' c' hc1 hc2=>?_|(apply GJ.a;exact rfl;intro hg)|(apply GJ.o;exact rfl;intro hg)
         exact Wk.outS Sup.z (.refl _) (hk0 ro2 (hl1.trans hl2) rfl)
        ·rw [if_neg h1024] at c3
         have hpu:=c4.push hok (by rw [idx_beq];exact hidx) cM2
         repeat first|exact zE|refine zP ?_|refine zB fun b=>?_|refine zC fun a' c' hc1 hc2=>?_|(apply GJ.a;exact rfl;intro hg)|(apply GJ.o;exact rfl;intro hg)
         refine OpOk.mapUpdateG (kt:=82) (et:=3) (kv:=pairV) (vv:=nV) (k:=(z1,z2)) (v:=list2.length) rfl rfl rfl (by kernel_rfl) pair_enc c4.map hok (fun cM3=>?_)
         generalize putG M2 cM2 (z1,z2) list2.length=M3 at *
         repeat first|exact zE|refine zP ?_|refine zB fun b=>?_|refine zC fun a' c' hc1 hc2=>?_|(apply GJ.a;exact rfl;intro hg)|(apply GJ.o;exact rfl;intro hg)
         rw [hps]
         rw [hpn] at hc1 ⊢
         repeat first|exact zE|refine zP ?_|refine zB fun b=>?_|refine zC fun a' c' hc1 hc2=>?_|(apply GJ.a;exact rfl;intro hg)|(apply GJ.o;exact rfl;intro hg)
         refine OpOk.storeSlAt' (k:=k) rfl rfl rfl rfl (by rw [Int.toNat_natCast]) (by rw [hrl2];omega) ?_
         rw [intV_set,hset]
         repeat first|exact zE|refine zP ?_|refine zB fun b=>?_|refine zC fun a' c' hc1 hc2=>?_|(apply GJ.a;exact rfl;intro hg)|(apply GJ.o;exact rfl;intro hg)
         refine Wk.id ⟨(k+1,(list2++[(z1,z2)],a',c'),row++[(list2.length:Int)],M3,cM3),⟨rfl,?_⟩,?_,Sub.z,Sup.z⟩
         all_goals try dsimp only
         ·exact ⟨by omega,by simp [c2],c3,hpu,by rw [←hpn];omega,⟨hc1,hc2⟩⟩
         ·omega
     ·have hsk:skipP 3 (z1,z2)=true:=by unfold skipP;simp [hz1,hz2]
      rw [if_pos hsk] at c3
      repeat first|exact zE|refine zP ?_|refine zB fun b=>?_|refine zC fun a' c' hc1 hc2=>?_|(apply GJ.a;exact rfl;intro hg)|(apply GJ.o;exact rfl;intro hg)
      refine Wk.id ⟨(k+1,(list2,ao2,co2),row++[-1],M2,cM2),⟨rfl,?_⟩,?_,Sub.z,Sup.z⟩
      all_goals try dsimp only
      ·exact ⟨by omega,by simp [c2],c3,c4,c5,⟨c6,c7⟩⟩
      ·omega
   ·by_cases hz2:z2=-1
    ·rcases hh with rfl|rfl|rfl
     ·have hsk:skipP 1 (z1,z2)=true:=by unfold skipP;simp [hz1,hz2]
      rw [if_pos hsk] at c3
      repeat first|exact zE|refine zP ?_|refine zB fun b=>?_|refine zC fun a' c' hc1 hc2=>?_|(apply GJ.a;exact rfl;intro hg)|(apply GJ.o;exact rfl;intro hg)
      refine Wk.id ⟨(k+1,(list2,ao2,co2),row++[-1],M2,cM2),⟨rfl,?_⟩,?_,Sub.z,Sup.z⟩
      all_goals try dsimp only
      ·exact ⟨by omega,by simp [c2],c3,c4,c5,⟨c6,c7⟩⟩
      ·omega
     ·have hsk:¬skipP 2 (z1,z2)=true:=by unfold skipP;simp [hz1,hz2]
      rw [if_neg hsk] at c3
      repeat first|exact zE|refine zP ?_|refine zB fun b=>?_|refine zC fun a' c' hc1 hc2=>?_|(apply GJ.a;exact rfl;intro hg)|(apply GJ.o;exact rfl;intro hg)
      refine OpOk.lookupOkG (kt:=82) (et:=3) (kv:=pairV) (vv:=nV) (k:=(z1,z2)) (z:=.int .i64 0) rfl rfl (by kernel_rfl) pair_enc c4.map hok (by kernel_rfl) ?_
      rw [hat]
      cases hidx:list2.idxOf? (z1,z2) with
      | some n =>
        rw [hidx] at c3
        dsimp only at c3
        simp only [Option.map_some,Option.getD_some,Option.isSome_some,nV]
        repeat first|exact zE|refine zP ?_|refine zB fun b=>?_|refine zC fun a' c' hc1 hc2=>?_|(apply GJ.a;exact rfl;intro hg)|(apply GJ.o;exact rfl;intro hg)
        refine OpOk.storeSlAt' (k:=k) rfl rfl rfl rfl (by rw [Int.toNat_natCast]) (by rw [hrl2];omega) ?_
        rw [intV_set,hset]
        repeat first|exact zE|refine zP ?_|refine zB fun b=>?_|refine zC fun a' c' hc1 hc2=>?_|(apply GJ.a;exact rfl;intro hg)|(apply GJ.o;exact rfl;intro hg)
        refine Wk.id ⟨(k+1,(list2,ao2,co2),row++[(n:Int)],M2,cM2),⟨rfl,?_⟩,?_,Sub.z,Sup.z⟩
        all_goals try dsimp only
        ·exact ⟨by omega,by simp [c2],c3,c4,c5,⟨c6,c7⟩⟩
        ·omega
      | none =>
        rw [hidx] at c3
        dsimp only at c3
        simp only [Option.map_none,Option.getD_none,Option.isSome_none]
        by_cases h1024:list2.length=1024
        ·rw [if_pos h1024] at c3
         rw [←c3] at i2
         dsimp only at i2
         rw [←i2] at hk0
         repeat first|exact zE|refine zP ?_|refine zB fun b=>?_|refine zC fun a' c' hc1 hc2=>?_|(apply GJ.a;exact rfl;intro hg)|(apply GJ.o;exact rfl;intro hg)
         exact Wk.outS Sup.z (.refl _) (hk0 ro2 (hl1.trans hl2) rfl)
        ·rw [if_neg h1024] at c3
         have hpu:=c4.push hok (by rw [idx_beq];exact hidx) cM2
         repeat first|exact zE|refine zP ?_|refine zB fun b=>?_|refine zC fun a' c' hc1 hc2=>?_|(apply GJ.a;exact rfl;intro hg)|(apply GJ.o;exact rfl;intro hg)
         refine OpOk.mapUpdateG (kt:=82) (et:=3) (kv:=pairV) (vv:=nV) (k:=(z1,z2)) (v:=list2.length) rfl rfl rfl (by kernel_rfl) pair_enc c4.map hok (fun cM3=>?_)
         generalize putG M2 cM2 (z1,z2) list2.length=M3 at *
         repeat first|exact zE|refine zP ?_|refine zB fun b=>?_|refine zC fun a' c' hc1 hc2=>?_|(apply GJ.a;exact rfl;intro hg)|(apply GJ.o;exact rfl;intro hg)
         rw [hps]
         rw [hpn] at hc1 ⊢
         repeat first|exact zE|refine zP ?_|refine zB fun b=>?_|refine zC fun a' c' hc1 hc2=>?_|(apply GJ.a;exact rfl;intro hg)|(apply GJ.o;exact rfl;intro hg)
         refine OpOk.storeSlAt' (k:=k) rfl rfl rfl rfl (by rw [Int.toNat_natCast]) (by rw [hrl2];omega) ?_
         rw [intV_set,hset]
         repeat first|exact zE|refine zP ?_|refine zB fun b=>?_|refine zC fun a' c' hc1 hc2=>?_|(apply GJ.a;exact rfl;intro hg)|(apply GJ.o;exact rfl;intro hg)
         refine Wk.id ⟨(k+1,(list2++[(z1,z2)],a',c'),row++[(list2.length:Int)],M3,cM3),⟨rfl,?_⟩,?_,Sub.z,Sup.z⟩
         all_goals try dsimp only
         ·exact ⟨by omega,by simp [c2],c3,hpu,by rw [←hpn];omega,⟨hc1,hc2⟩⟩
         ·omega
     ·have hsk:¬skipP 3 (z1,z2)=true:=by unfold skipP;simp [hz1,hz2]
      rw [if_neg hsk] at c3
      repeat first|exact zE|refine zP ?_|refine zB fun b=>?_|refine zC fun a' c' hc1 hc2=>?_|(apply GJ.a;exact rfl;intro hg)|(apply GJ.o;exact rfl;intro hg)
      refine OpOk.lookupOkG (kt:=82) (et:=3) (kv:=pairV) (vv:=nV) (k:=(z1,z2)) (z:=.int .i64 0) rfl rfl (by kernel_rfl) pair_enc c4.map hok (by kernel_rfl) ?_
      rw [hat]
      cases hidx:list2.idxOf? (z1,z2) with
      | some n =>
        rw [hidx] at c3
        dsimp only at c3
        simp only [Option.map_some,Option.getD_some,Option.isSome_some,nV]
        repeat first|exact zE|refine zP ?_|refine zB fun b=>?_|refine zC fun a' c' hc1 hc2=>?_|(apply GJ.a;exact rfl;intro hg)|(apply GJ.o;exact rfl;intro hg)
        refine OpOk.storeSlAt' (k:=k) rfl rfl rfl rfl (by rw [Int.toNat_natCast]) (by rw [hrl2];omega) ?_
        rw [intV_set,hset]
        repeat first|exact zE|refine zP ?_|refine zB fun b=>?_|refine zC fun a' c' hc1 hc2=>?_|(apply GJ.a;exact rfl;intro hg)|(apply GJ.o;exact rfl;intro hg)
        refine Wk.id ⟨(k+1,(list2,ao2,co2),row++[(n:Int)],M2,cM2),⟨rfl,?_⟩,?_,Sub.z,Sup.z⟩
        all_goals try dsimp only
        ·exact ⟨by omega,by simp [c2],c3,c4,c5,⟨c6,c7⟩⟩
        ·omega
      | none =>
        rw [hidx] at c3
        dsimp only at c3
        simp only [Option.map_none,Option.getD_none,Option.isSome_none]
        by_cases h1024:list2.length=1024
        ·rw [if_pos h1024] at c3
         rw [←c3] at i2
         dsimp only at i2
         rw [←i2] at hk0
         repeat first|exact zE|refine zP ?_|refine zB fun b=>?_|refine zC fun a' c' hc1 hc2=>?_|(apply GJ.a;exact rfl;intro hg)|(apply GJ.o;exact rfl;intro hg)
         exact Wk.outS Sup.z (.refl _) (hk0 ro2 (hl1.trans hl2) rfl)
        ·rw [if_neg h1024] at c3
         have hpu:=c4.push hok (by rw [idx_beq];exact hidx) cM2
         repeat first|exact zE|refine zP ?_|refine zB fun b=>?_|refine zC fun a' c' hc1 hc2=>?_|(apply GJ.a;exact rfl;intro hg)|(apply GJ.o;exact rfl;intro hg)
         refine OpOk.mapUpdateG (kt:=82) (et:=3) (kv:=pairV) (vv:=nV) (k:=(z1,z2)) (v:=list2.length) rfl rfl rfl (by kernel_rfl) pair_enc c4.map hok (fun cM3=>?_)
         generalize putG M2 cM2 (z1,z2) list2.length=M3 at *
         repeat first|exact zE|refine zP ?_|refine zB fun b=>?_|refine zC fun a' c' hc1 hc2=>?_|(apply GJ.a;exact rfl;intro hg)|(apply GJ.o;exact rfl;intro hg)
         rw [hps]
         rw [hpn] at hc1 ⊢
         repeat first|exact zE|refine zP ?_|refine zB fun b=>?_|refine zC fun a' c' hc1 hc2=>?_|(apply GJ.a;exact rfl;intro hg)|(apply GJ.o;exact rfl;intro hg)
         refine OpOk.storeSlAt' (k:=k) rfl rfl rfl rfl (by rw [Int.toNat_natCast]) (by rw [hrl2];omega) ?_
         rw [intV_set,hset]
         repeat first|exact zE|refine zP ?_|refine zB fun b=>?_|refine zC fun a' c' hc1 hc2=>?_|(apply GJ.a;exact rfl;intro hg)|(apply GJ.o;exact rfl;intro hg)
         refine Wk.id ⟨(k+1,(list2++[(z1,z2)],a',c'),row++[(list2.length:Int)],M3,cM3),⟨rfl,?_⟩,?_,Sub.z,Sup.z⟩
         all_goals try dsimp only
         ·exact ⟨by omega,by simp [c2],c3,hpu,by rw [←hpn];omega,⟨hc1,hc2⟩⟩
         ·omega
    ·have hsk:¬skipP how (z1,z2)=true:=by unfold skipP;simp [hz1,hz2]
     rcases hh with rfl|rfl|rfl
     ·rw [if_neg hsk] at c3
      repeat first|exact zE|refine zP ?_|refine zB fun b=>?_|refine zC fun a' c' hc1 hc2=>?_|(apply GJ.a;exact rfl;intro hg)|(apply GJ.o;exact rfl;intro hg)
      refine OpOk.lookupOkG (kt:=82) (et:=3) (kv:=pairV) (vv:=nV) (k:=(z1,z2)) (z:=.int .i64 0) rfl rfl (by kernel_rfl) pair_enc c4.map hok (by kernel_rfl) ?_
      rw [hat]
      cases hidx:list2.idxOf? (z1,z2) with
      | some n =>
        rw [hidx] at c3
        dsimp only at c3
        simp only [Option.map_some,Option.getD_some,Option.isSome_some,nV]
        repeat first|exact zE|refine zP ?_|refine zB fun b=>?_|refine zC fun a' c' hc1 hc2=>?_|(apply GJ.a;exact rfl;intro hg)|(apply GJ.o;exact rfl;intro hg)
        refine OpOk.storeSlAt' (k:=k) rfl rfl rfl rfl (by rw [Int.toNat_natCast]) (by rw [hrl2];omega) ?_
        rw [intV_set,hset]
        repeat first|exact zE|refine zP ?_|refine zB fun b=>?_|refine zC fun a' c' hc1 hc2=>?_|(apply GJ.a;exact rfl;intro hg)|(apply GJ.o;exact rfl;intro hg)
        refine Wk.id ⟨(k+1,(list2,ao2,co2),row++[(n:Int)],M2,cM2),⟨rfl,?_⟩,?_,Sub.z,Sup.z⟩
        all_goals try dsimp only
        ·exact ⟨by omega,by simp [c2],c3,c4,c5,⟨c6,c7⟩⟩
        ·omega
      | none =>
        rw [hidx] at c3
        dsimp only at c3
        simp only [Option.map_none,Option.getD_none,Option.isSome_none]
        by_cases h1024:list2.length=1024
        ·rw [if_pos h1024] at c3
         rw [←c3] at i2
         dsimp only at i2
         rw [←i2] at hk0
         repeat first|exact zE|refine zP ?_|refine zB fun b=>?_|refine zC fun a' c' hc1 hc2=>?_|(apply GJ.a;exact rfl;intro hg)|(apply GJ.o;exact rfl;intro hg)
         exact Wk.outS Sup.z (.refl _) (hk0 ro2 (hl1.trans hl2) rfl)
        ·rw [if_neg h1024] at c3
         have hpu:=c4.push hok (by rw [idx_beq];exact hidx) cM2
         repeat first|exact zE|refine zP ?_|refine zB fun b=>?_|refine zC fun a' c' hc1 hc2=>?_|(apply GJ.a;exact rfl;intro hg)|(apply GJ.o;exact rfl;intro hg)
         refine OpOk.mapUpdateG (kt:=82) (et:=3) (kv:=pairV) (vv:=nV) (k:=(z1,z2)) (v:=list2.length) rfl rfl rfl (by kernel_rfl) pair_enc c4.map hok (fun cM3=>?_)
         generalize putG M2 cM2 (z1,z2) list2.length=M3 at *
         repeat first|exact zE|refine zP ?_|refine zB fun b=>?_|refine zC fun a' c' hc1 hc2=>?_|(apply GJ.a;exact rfl;intro hg)|(apply GJ.o;exact rfl;intro hg)
         rw [hps]
         rw [hpn] at hc1 ⊢
         repeat first|exact zE|refine zP ?_|refine zB fun b=>?_|refine zC fun a' c' hc1 hc2=>?_|(apply GJ.a;exact rfl;intro hg)|(apply GJ.o;exact rfl;intro hg)
         refine OpOk.storeSlAt' (k:=k) rfl rfl rfl rfl (by rw [Int.toNat_natCast]) (by rw [hrl2];omega) ?_
         rw [intV_set,hset]
         repeat first|exact zE|refine zP ?_|refine zB fun b=>?_|refine zC fun a' c' hc1 hc2=>?_|(apply GJ.a;exact rfl;intro hg)|(apply GJ.o;exact rfl;intro hg)
         refine Wk.id ⟨(k+1,(list2++[(z1,z2)],a',c'),row++[(list2.length:Int)],M3,cM3),⟨rfl,?_⟩,?_,Sub.z,Sup.z⟩
         all_goals try dsimp only
         ·exact ⟨by omega,by simp [c2],c3,hpu,by rw [←hpn];omega,⟨hc1,hc2⟩⟩
         ·omega
     ·rw [if_neg hsk] at c3
      repeat first|exact zE|refine zP ?_|refine zB fun b=>?_|refine zC fun a' c' hc1 hc2=>?_|(apply GJ.a;exact rfl;intro hg)|(apply GJ.o;exact rfl;intro hg)
      refine OpOk.lookupOkG (kt:=82) (et:=3) (kv:=pairV) (vv:=nV) (k:=(z1,z2)) (z:=.int .i64 0) rfl rfl (by kernel_rfl) pair_enc c4.map hok (by kernel_rfl) ?_
      rw [hat]
      cases hidx:list2.idxOf? (z1,z2) with
      | some n =>
        rw [hidx] at c3
        dsimp only at c3
        simp only [Option.map_some,Option.getD_some,Option.isSome_some,nV]
        repeat first|exact zE|refine zP ?_|refine zB fun b=>?_|refine zC fun a' c' hc1 hc2=>?_|(apply GJ.a;exact rfl;intro hg)|(apply GJ.o;exact rfl;intro hg)
        refine OpOk.storeSlAt' (k:=k) rfl rfl rfl rfl (by rw [Int.toNat_natCast]) (by rw [hrl2];omega) ?_
        rw [intV_set,hset]
        repeat first|exact zE|refine zP ?_|refine zB fun b=>?_|refine zC fun a' c' hc1 hc2=>?_|(apply GJ.a;exact rfl;intro hg)|(apply GJ.o;exact rfl;intro hg)
        refine Wk.id ⟨(k+1,(list2,ao2,co2),row++[(n:Int)],M2,cM2),⟨rfl,?_⟩,?_,Sub.z,Sup.z⟩
        all_goals try dsimp only
        ·exact ⟨by omega,by simp [c2],c3,c4,c5,⟨c6,c7⟩⟩
        ·omega
      | none =>
        rw [hidx] at c3
        dsimp only at c3
        simp only [Option.map_none,Option.getD_none,Option.isSome_none]
        by_cases h1024:list2.length=1024
        ·rw [if_pos h1024] at c3
         rw [←c3] at i2
         dsimp only at i2
         rw [←i2] at hk0
         repeat first|exact zE|refine zP ?_|refine zB fun b=>?_|refine zC fun a' c' hc1 hc2=>?_|(apply GJ.a;exact rfl;intro hg)|(apply GJ.o;exact rfl;intro hg)
         exact Wk.outS Sup.z (.refl _) (hk0 ro2 (hl1.trans hl2) rfl)
        ·rw [if_neg h1024] at c3
         have hpu:=c4.push hok (by rw [idx_beq];exact hidx) cM2
         repeat first|exact zE|refine zP ?_|refine zB fun b=>?_|refine zC fun a' c' hc1 hc2=>?_|(apply GJ.a;exact rfl;intro hg)|(apply GJ.o;exact rfl;intro hg)
         refine OpOk.mapUpdateG (kt:=82) (et:=3) (kv:=pairV) (vv:=nV) (k:=(z1,z2)) (v:=list2.length) rfl rfl rfl (by kernel_rfl) pair_enc c4.map hok (fun cM3=>?_)
         generalize putG M2 cM2 (z1,z2) list2.length=M3 at *
         repeat first|exact zE|refine zP ?_|refine zB fun b=>?_|refine zC fun a' c' hc1 hc2=>?_|(apply GJ.a;exact rfl;intro hg)|(apply GJ.o;exact rfl;intro hg)
         rw [hps]
         rw [hpn] at hc1 ⊢
         repeat first|exact zE|refine zP ?_|refine zB fun b=>?_|refine zC fun a' c' hc1 hc2=>?_|(apply GJ.a;exact rfl;intro hg)|(apply GJ.o;exact rfl;intro hg)
         refine OpOk.storeSlAt' (k:=k) rfl rfl rfl rfl (by rw [Int.toNat_natCast]) (by rw [hrl2];omega) ?_
         rw [intV_set,hset]
         repeat first|exact zE|refine zP ?_|refine zB fun b=>?_|refine zC fun a' c' hc1 hc2=>?_|(apply GJ.a;exact rfl;intro hg)|(apply GJ.o;exact rfl;intro hg)
         refine Wk.id ⟨(k+1,(list2++[(z1,z2)],a',c'),row++[(list2.length:Int)],M3,cM3),⟨rfl,?_⟩,?_,Sub.z,Sup.z⟩
         all_goals try dsimp only
         ·exact ⟨by omega,by simp [c2],c3,hpu,by rw [←hpn];omega,⟨hc1,hc2⟩⟩
         ·omega
     ·rw [if_neg hsk] at c3
      repeat first|exact zE|refine zP ?_|refine zB fun b=>?_|refine zC fun a' c' hc1 hc2=>?_|(apply GJ.a;exact rfl;intro hg)|(apply GJ.o;exact rfl;intro hg)
      refine OpOk.lookupOkG (kt:=82) (et:=3) (kv:=pairV) (vv:=nV) (k:=(z1,z2)) (z:=.int .i64 0) rfl rfl (by kernel_rfl) pair_enc c4.map hok (by kernel_rfl) ?_
      rw [hat]
      cases hidx:list2.idxOf? (z1,z2) with
      | some n =>
        rw [hidx] at c3
        dsimp only at c3
        simp only [Option.map_some,Option.getD_some,Option.isSome_some,nV]
        repeat first|exact zE|refine zP ?_|refine zB fun b=>?_|refine zC fun a' c' hc1 hc2=>?_|(apply GJ.a;exact rfl;intro hg)|(apply GJ.o;exact rfl;intro hg)
        refine OpOk.storeSlAt' (k:=k) rfl rfl rfl rfl (by rw [Int.toNat_natCast]) (by rw [hrl2];omega) ?_
        rw [intV_set,hset]
        repeat first|exact zE|refine zP ?_|refine zB fun b=>?_|refine zC fun a' c' hc1 hc2=>?_|(apply GJ.a;exact rfl;intro hg)|(apply GJ.o;exact rfl;intro hg)
        refine Wk.id ⟨(k+1,(list2,ao2,co2),row++[(n:Int)],M2,cM2),⟨rfl,?_⟩,?_,Sub.z,Sup.z⟩
        all_goals try dsimp only
        ·exact ⟨by omega,by simp [c2],c3,c4,c5,⟨c6,c7⟩⟩
        ·omega
      | none =>
        rw [hidx] at c3
        dsimp only at c3
        simp only [Option.map_none,Option.getD_none,Option.isSome_none]
        by_cases h1024:list2.length=1024
        ·rw [if_pos h1024] at c3
         rw [←c3] at i2
         dsimp only at i2
         rw [←i2] at hk0
         repeat first|exact zE|refine zP ?_|refine zB fun b=>?_|refine zC fun a' c' hc1 hc2=>?_|(apply GJ.a;exact rfl;intro hg)|(apply GJ.o;exact rfl;intro hg)
         exact Wk.outS Sup.z (.refl _) (hk0 ro2 (hl1.trans hl2) rfl)
        ·rw [if_neg h1024] at c3
         have hpu:=c4.push hok (by rw [idx_beq];exact hidx) cM2
         repeat first|exact zE|refine zP ?_|refine zB fun b=>?_|refine zC fun a' c' hc1 hc2=>?_|(apply GJ.a;exact rfl;intro hg)|(apply GJ.o;exact rfl;intro hg)
         refine OpOk.mapUpdateG (kt:=82) (et:=3) (kv:=pairV) (vv:=nV) (k:=(z1,z2)) (v:=list2.length) rfl rfl rfl (by kernel_rfl) pair_enc c4.map hok (fun cM3=>?_)
         generalize putG M2 cM2 (z1,z2) list2.length=M3 at *
         repeat first|exact zE|refine zP ?_|refine zB fun b=>?_|refine zC fun a' c' hc1 hc2=>?_|(apply GJ.a;exact rfl;intro hg)|(apply GJ.o;exact rfl;intro hg)
         rw [hps]
         rw [hpn] at hc1 ⊢
         repeat first|exact zE|refine zP ?_|refine zB fun b=>?_|refine zC fun a' c' hc1 hc2=>?_|(apply GJ.a;exact rfl;intro hg)|(apply GJ.o;exact rfl;intro hg)
         refine OpOk.storeSlAt' (k:=k) rfl rfl rfl rfl (by rw [Int.toNat_natCast]) (by rw [hrl2];omega) ?_
         rw [intV_set,hset]
         repeat first|exact zE|refine zP ?_|refine zB fun b=>?_|refine zC fun a' c' hc1 hc2=>?_|(apply GJ.a;exact rfl;intro hg)|(apply GJ.o;exact rfl;intro hg)
         refine Wk.id ⟨(k+1,(list2++[(z1,z2)],a',c'),row++[(list2.length:Int)],M3,cM3),⟨rfl,?_⟩,?_,Sub.z,Sup.z⟩
         all_goals try dsimp only
         ·exact ⟨by omega,by simp [c2],c3,hpu,by rw [←hpn];omega,⟨hc1,hc2⟩⟩
         ·omega
  ·obtain rfl:k=first.length:=by omega
   rw [List.drop_length,prowP] at c3
   rw [Nat.sub_self,List.replicate_zero,List.append_nil]
   rw [Nat.sub_self,List.replicate_zero,List.append_nil] at hrl
   rw [←c3] at i2 hR
   dsimp only at i2
   have hst:=i1.step hp hR.symm
   dsimp only at hst
   have hA:=h1.le (hl1.trans hl2)
   have hB:=h2.le (hl1.trans hl2)
   have hnnI:(nx.length:Int)+1=((nx++[row]).length:Int):=by simp
   have hnn:nx.length+1=(nx++[row]).length:=by simp
   repeat first|exact zE|refine zP ?_|refine zB fun b=>?_|refine zC fun a' c' hc1 hc2=>?_|(apply GJ.a;exact rfl;intro hg)|(apply GJ.o;exact rfl;intro hg)
   refine dends_ok hA ?_
   repeat first|exact zE|refine zP ?_|refine zB fun b=>?_|refine zC fun a' c' hc1 hc2=>?_|(apply GJ.a;exact rfl;intro hg)|(apply GJ.o;exact rfl;intro hg)
   refine dends_ok hB ?_
   generalize endsA A p.1=x at *
   generalize endsA B p.2=y at *
   have hac:boolsV acc++[.bool (decide ((how:Int)=1)&&x&&y||decide ((how:Int)=2)&&(x||y)||decide ((how:Int)=3)&&x&&!y)]=boolsV (acc++[accP how x y]):=by
    rw [show (decide ((how:Int)=1)&&x&&y||decide ((how:Int)=2)&&(x||y)||decide ((how:Int)=3)&&x&&!y)=accP how x y by rcases hh with rfl|rfl|rfl<;>cases x<;>cases y<;>rfl]
    simp [boolsV]
   generalize accP how x y=xy at *
   have han:acc.length+1=(acc++[xy]).length:=by simp
   have hpl2:=prsV_len list2
   repeat first|exact zE|refine zP ?_|refine zB fun b=>?_|refine zC fun a' c' hc1 hc2=>?_|(apply GJ.a;exact rfl;intro hg)|(apply GJ.o;exact rfl;intro hg)
   rename_i aN cN hN1 hN2
   rw [hac,hnnI,hnn,han]
   rw [hnn] at hN1
   rw [han] at hc1
   repeat first|exact zE|refine zP ?_|refine zB fun b=>?_|refine zC fun a' c' hc1 hc2=>?_|(apply GJ.a;exact rfl;intro hg)|(apply GJ.o;exact rfl;intro hg)
   refine Wk.freeze (c:=.sl (some ⟨bR,0,none⟩) _ _ _ _ _) Take.auto (fun ro3 hl3 hc3=>?_)
   have hrR:Rs ro3 (some ⟨bR,0,none⟩) row.length first.length 1 (row.map (Value.int .i64)):=by rw [c2];exact Rs.last hc3
   have hRH:=(i4.le hl3).snoc hrR
   rw [c2] at hRH
   refine Wk.id ⟨((list2,ao2,co2),(nx++[row],H++[.slice (some ⟨bR,0,none⟩) first.length first.length],aN,cN),(acc++[xy],a',c'),M2,cM2),?_,?_,Sub.z,Sup.z⟩
   all_goals try dsimp only
   ·refine ⟨hst,?_,c4,hRH,⟨c6,c7⟩,⟨hN1,hN2⟩,⟨hc1,hc2⟩⟩
    rw [show 1025-(nx++[row]).length=F by simp;omega]
    exact i2
   ·simp;omega
 ·rw [List.getElem?_eq_none (by omega)] at i2
  dsimp only at i2
  subst i2
  dsimp only at hk1 hmade
  have hm:=hmade _ rfl
  obtain ⟨w,hw,ho,hs⟩:=hm.ok
  repeat first|exact zE|refine zP ?_|refine zB fun b=>?_|refine zC fun a' c' hc1 hc2=>?_|(apply GJ.a;exact rfl;intro hg)|(apply GJ.o;exact rfl;intro hg)
  refine freezeC (l:=[.blk bP 68 (autV cls (.slice an nx.length cn) (.slice aa acc.length ca)),.sl an nx.length cn 59 1 H,.sl aa acc.length ca 4 1 (boolsV acc)]) (own':=.sl ao list.length co 82 2 (prsV list)::.obj bM (mapG pairV nV M cM)::own) ?_ (fun ro3 hl3 hc3=>?_)
  ·exact (List.perm_append_comm (l₁:=[_,_]) (l₂:=[_,_,_])).append_right _
  have hDt:DAt ro3 bP ⟨cls,nx,acc⟩:=⟨⟨an,cn,aa,ca,H,hc3 _ (List.mem_cons_self ..),hcl,by rw [←hHl];exact Rs.last (by rw [hHl];exact hc3 _ (List.mem_cons_of_mem _ (List.mem_cons_self ..))),fun i row hi=>(i4.le hl3).row i row hi,Rs.last (hc3 _ (List.mem_cons_of_mem _ (List.mem_cons_of_mem _ (List.mem_cons_self ..))))⟩⟩
  refine dleast_ok hDt ho hs hw hm.pos hm.le (fun ro4 p4 hl4 hp4=>?_)
  repeat first|exact zE|refine zP ?_|refine zB fun b=>?_|refine zC fun a' c' hc1 hc2=>?_|(apply GJ.a;exact rfl;intro hg)|(apply GJ.o;exact rfl;intro hg)
  exact Wk.outS Sup.z (.refl _) (hk1 ro4 p4 _ (((hl1.trans hl2).trans hl3).trans hl4) rfl hp4)
end
def clsU (P:List SetD) (i:Nat):List Nat:=(List.range 256).map fun c=>((P.take i).findIdx? fun p=>p.has c).getD 0
theorem clsU_zero (P:List SetD):clsU P 0=List.replicate 256 0:=by
 apply List.ext_getElem?
 intro c
 unfold clsU
 rw [List.getElem?_map,List.getElem?_replicate]
 by_cases h:c<256
 ·rw [List.getElem?_range h,if_pos h];rfl
 ·rw [List.getElem?_eq_none (by simp;omega),if_neg h];rfl
theorem clsU_all (P:List SetD):clsU P P.length=clsG P:=by unfold clsU clsG;rw [List.take_length]
theorem clsU_len (P:List SetD) (i:Nat):(clsU P i).length=256:=by simp [clsU]
theorem clsU_get (P:List SetD) (i:Nat) {c:Nat} (h:c<256):(clsU P i)[c]?=some (((P.take i).findIdx? fun p=>p.has c).getD 0):=by
 unfold clsU;rw [List.getElem?_map,List.getElem?_range h];rfl
structure ClsP (P:List SetD) (i:Nat) (pre:List Nat) (C:List Nat):Prop where
 len:C.length=256
 at':∀ c,c<256→C[c]?=some (if c∈pre then i else ((P.take i).findIdx? fun p=>p.has c).getD 0)
theorem ClsP.start (P:List SetD) (i:Nat):ClsP P i [] (clsU P i):=⟨clsU_len P i,fun c hc=>by rw [clsU_get P i hc,if_neg (by simp)]⟩
theorem ClsP.step {P:List SetD}{i:Nat}{pre C:List Nat} (h:ClsP P i pre C) {x:Nat} (hx:x<256):ClsP P i (pre++[x]) (C.set x i):=by
 refine ⟨by rw [List.length_set,h.len],fun c hc=>?_⟩
 by_cases e:c=x
 ·subst e;rw [List.getElem?_set_self (by rw [h.len];exact hc),if_pos (by simp)]
 ·rw [List.getElem?_set_ne (fun h=>e h.symm),h.at' c hc]
  congr 1
  by_cases hm:c∈pre
  ·rw [if_pos hm,if_pos (by simp [hm])]
  ·rw [if_neg hm,if_neg (by simp [hm,e])]
theorem ClsP.fin {P l:List SetD} (hcut:Cuts P l) {i:Nat}{p:SetD} (hp:P[i]?=some p) {C:List Nat} (h:ClsP P i (bytesD p) C):C=clsU P (i+1):=by
 apply List.ext_getElem?
 intro c
 by_cases hc:c<256
 ·rw [h.at' c hc,clsU_get P _ hc,List.take_add_one,hp,Option.toList_some,List.findIdx?_append,List.findIdx?_cons]
  congr 1
  have hmem:c∈bytesD p↔p.has c=true:=by unfold bytesD;rw [List.mem_filter,List.mem_range];exact ⟨fun h=>h.2,fun h=>⟨hc,h⟩⟩
  have hi:=(List.getElem?_eq_some_iff.1 hp).1
  by_cases hh:p.has c=true
  ·have hnone:(P.take i).findIdx? (fun p=>p.has c)=none:=by
    rw [List.findIdx?_eq_none_iff]
    intro q hq
    obtain ⟨j,hj,e⟩:=List.getElem_of_mem hq
    rw [List.length_take] at hj
    have hjq:P[j]?=some q:=by rw [List.getElem_take] at e;rw [List.getElem?_eq_getElem (by omega),e]
    have:=(hcut.at (show j<i by omega) hjq hp).2 c hc
    cases e2:q.has c with
    | false=>rfl
    | true=>exact absurd ⟨e2,hh⟩ this
   rw [if_pos (hmem.2 hh),hnone,hh]
   simp;omega
  ·rw [if_neg (fun h=>hh (hmem.1 h)),Bool.eq_false_iff.2 hh]
   cases (P.take i).findIdx? fun p=>p.has c<;>rfl
 ·rw [List.getElem?_eq_none (by rw [h.len];omega),List.getElem?_eq_none (by rw [clsU_len];omega)]
theorem ints_inj {a b:List Nat} (h:intsN a=intsN b):a=b:=by
 unfold intsN at h
 exact List.map_inj_right (fun x y e=>Int.ofNat.inj e) |>.1 h
theorem ints_idx (sets:List (List Nat)) (t:List Nat):(sets.map intsN).idxOf? (intsN t)=sets.idxOf? t:=by
 unfold List.idxOf?
 rw [List.findIdx?_map]
 congr 1
 funext x
 show (intsN x == intsN t)=(x == t)
 rw [Bool.eq_iff_iff,beq_iff_eq,beq_iff_eq]
 exact ⟨ints_inj,fun e=>by rw [e]⟩
def SetN (n:Nat) (t:List Nat):Prop:=t.Pairwise (· < ·)∧∀ x∈t,x<n
theorem SetN.len {n:Nat}{t:List Nat} (h:SetN n t):t.length≤n:=sorted_len t 0 n h.1 (fun x hx=>⟨Nat.zero_le _,h.2 x hx⟩)
theorem SetN.adm {n:Nat}{t:List Nat} (h:SetN n t) (hn:n≤4096):AdmK (intsN t):=fun z hz=>by
 obtain ⟨x,hx,rfl⟩:=List.mem_map.1 hz
 have:=h.2 x hx
 exact ⟨Int.natCast_nonneg _,by show (x:Int)<_;omega⟩
theorem step_set (rows:RowsN) (list:List Int) (c:Nat):SetN rows.length (stepN rows list c):=⟨reach_sorted _ _,fun x hx=>reach_lt hx⟩
theorem start_set (rows:RowsN):SetN rows.length (startN rows):=⟨start_sorted rows,fun x hx=>start_lt hx⟩
structure SetsH (ro:Ro) (sets:List (List Nat)) (H:List Value):Prop where
 len:H.length=sets.length
 row:∀ (i:Nat) (t:List Nat),sets[i]?=some t→∃ (ar:Option Addr) (cr:Nat),H[i]?=some (.slice ar t.length cr)∧Rs ro ar t.length cr 1 (natsV t)
theorem SetsH.nil (ro:Ro):SetsH ro [] []:=⟨rfl,fun i row h=>by simp at h⟩
theorem SetsH.le {ro ro':Ro}{sets:List (List Nat)}{H:List Value} (h:SetsH ro sets H) (hl:Le ro ro'):SetsH ro' sets H:=⟨h.len,fun i row hr=>by
 obtain ⟨ar,cr,h1,h2⟩:=h.row i row hr
 exact ⟨ar,cr,h1,Rs.up h2⟩⟩
theorem SetsH.snoc {ro:Ro}{sets:List (List Nat)}{H:List Value} (h:SetsH ro sets H) {t:List Nat}{ar:Option Addr}{cr:Nat} (hr:Rs ro ar t.length cr 1 (natsV t)):SetsH ro (sets++[t]) (H++[.slice ar t.length cr]):=⟨by simp [h.len],fun i x hx=>by
 rcases snoc_get hx with ⟨h1,h2⟩|⟨h1,h2⟩
 ·obtain ⟨a,c,p1,p2⟩:=h.row i x h2
  exact ⟨a,c,snoc_old p1,p2⟩
 ·subst h1;subst h2
  exact ⟨ar,cr,by rw [←h.len];exact snoc_new _ _,hr⟩⟩
theorem firstC_of {p:SetD}{c:Nat} (hc:c<256) (h1:p.has c=true) (h2:∀ j,j<c→p.has j=false):firstC p=c:=by
 refine firstC_is ?_
 unfold SetD.firstIs
 rw [beq_iff_eq,List.find?_range_eq_some]
 exact ⟨h1,List.mem_range.2 hc,fun j hj=>by simpa using h2 j hj⟩
section
variable {ro:Ro}{own r:Chs}{K:Value→Ro→Chs→Prop}{g:Chunk→Chs}
theorem rowsJ_snoc (R:List RowJ) (y:RowJ) (r:Chs):(rowJ y::(R.map rowJ++r)).Perm ((R++[y]).map rowJ++r):=by
 rw [List.map_append,List.append_assoc]
 exact List.perm_middle.symm
set_option maxHeartbeats 16000000 in
theorem dmake0_ok {a:NfaD}{v:List Value} (hv:AutoOk ro a v) (hK:AutoK a) (ht:TabOk ro) (hsl:(setsN a.rows).length≤1000)
  (hk1:(makeA a).1≠0→K (.tuple #[.pointer none,.int .i64 ((makeA a).1:Int)]) ro own)
  (hk2:(makeA a).1=0→∀ (p:Nat) (an:Option Addr) (cn:Nat) (aa:Option Addr) (ca:Nat) (R:List RowJ),R.map (·.2)=(makeA a).2.next →
   K (.tuple #[ptr' p,.int .i64 0]) ro (.blk p 68 (autV (makeA a).2.cls (.slice an R.length cn) (.slice aa (makeA a).2.acc.length ca))::.sl an R.length cn 59 1 (R.map hdrJ)::.sl aa (makeA a).2.acc.length ca 4 1 (boolsV (makeA a).2.acc)::(R.map rowJ++own))) :
  CallOk Tryz.prog 38 #[.agg v.toArray] ro own K:=by
 have hv0:=hv
 obtain ⟨ad,cp,hs,rfl,hrs,hrw⟩:=hv
 have hle:=hK.ok.le
 have hmr:=hrs.max
 have hncr:=hrs.le
 unfold maxLen at hmr
 obtain ⟨P,hP⟩:∃ P,P=piecesG a:=⟨_,rfl⟩
 have hcut:Cuts P (setsN a.rows):=by rw [hP];exact splitD_cuts hK.sets
 have hpl:=hcut.len
 unfold makeA at hk1 hk2
 rw [←hP] at hk1 hk2
 refine CallOk.introM (args:=[_]) (rs:=[_,_]) T_ok Tryz.func38 Tryz.call38 rfl rfl (by kernel_rfl) rfl ?_
 repeat first|exact zE|refine zP ?_|refine zB fun b=>?_|refine zC fun a' c' hc1 hc2=>?_|(apply GJ.a;exact rfl;intro hg)|(apply GJ.o;exact rfl;intro hg)
 refine nlen_ok hv0 ?_
 by_cases h0:a.rows.length=0
 ·have hn:a.rows=[]:=List.eq_nil_of_length_eq_zero h0
  rw [if_pos hn] at hk1
  repeat first|exact zE|refine zP ?_|refine zB fun b=>?_|refine zC fun a' c' hc1 hc2=>?_|(apply GJ.a;exact rfl;intro hg)|(apply GJ.o;exact rfl;intro hg)
  exact Wk.own own Sup.z (Wk.id (hk1 (by decide)))
 ·rw [if_neg (fun e=>h0 (by rw [e];rfl))] at hk1 hk2
  obtain ⟨C0,hC0⟩:∃ C:List Nat,C=List.replicate 256 0:=⟨_,rfl⟩
  repeat first|exact zE|refine zP ?_|refine zB fun b=>?_|refine zC fun a' c' hc1 hc2=>?_|(apply GJ.a;exact rfl;intro hg)|(apply GJ.o;exact rfl;intro hg)
  obtain ⟨b4,hb4⟩:∃ z:Nat,z=b:=⟨_,rfl⟩
  subst hb4
  rename_i bA
  obtain ⟨bO,hbO⟩:∃ z:Nat,z=b:=⟨_,rfl⟩
  subst hbO
  refine nsets_ok hv0 hK (fun aS cS z1 z2=>?_)
  repeat first|exact zE|refine zP ?_|refine zB fun b=>?_|refine zC fun a' c' hc1 hc2=>?_|(apply GJ.a;exact rfl;intro hg)|(apply GJ.o;exact rfl;intro hg)
  refine split_ok ht hK.sets hsl (Rds.hasSl z1 z2 (setsV_len _)) (fun ap cq p1 p2=>?_)
  have hcls:=clsU_all P
  rw [show splitD (setsN a.rows)=P from hP.symm] at p1 ⊢
  have hps:=fun i (p:SetD) (h:P[i]?=some p)=>setsV_drop P i p h
  have hpvl:=setsV_len P
  have p3:=p2
  unfold maxLen at p3
  obtain ⟨AV,hAV⟩:∃ A:List Value,A=[Value.slice ad a.rows.length cp,.int .i64 a.last]:=⟨_,rfl⟩
  repeat first|exact zE|refine zP ?_|refine zB fun b=>?_|refine zC fun a' c' hc1 hc2=>?_|(apply GJ.a;exact rfl;intro hg)|(apply GJ.o;exact rfl;intro hg)
  refine LoopOk.auto (ι:=Nat) Keep.z (fun i=>[(30,.int .i64 (i:Int))])
   (fun i=>.sl ap P.length cq 40 4 (setsV P)::.blk b4 29 [.pointer (some ⟨bO,0,none⟩)]::.blk bO 68 (autV (clsU P i) (.slice none 0 0) (.slice none 0 0))::.blk bA 71 [.slice ad a.rows.length cp,.int .i64 a.last]::own)
   (fun i ro2=>i≤P.length) (fun i=>P.length-i) 0 ?_ Sub.z (by rw [clsU_zero];exact Sup.z) ?_
  ·exact Nat.zero_le _
  rintro i ro2 hl2 i1
  dsimp only [List.cons_append,List.nil_append] at i1 ⊢
  have hUl:=clsU_len P i
  by_cases hi:i<P.length
  ·obtain ⟨p,hp⟩:∃ p,P[i]?=some p:=⟨_,List.getElem?_eq_getElem hi⟩
   have hpe:=hcut.each p (List.mem_of_getElem? hp)
   have hdr:=hps i p hp
   have hstart:=ClsP.start P i
   have hfin:=fun C (h:ClsP P i (bytesD p) C)=>ClsP.fin hcut hp h
   obtain ⟨w1,w2,w3,w4⟩:=p
   repeat first|exact zE|refine zP ?_|refine zB fun b=>?_|refine zC fun a' c' hc1 hc2=>?_|(apply GJ.a;exact rfl;intro hg)|(apply GJ.o;exact rfl;intro hg)
   rw [Int.toNat_natCast]
   refine OpOk.loadRow rfl rfl (LdN.slRow hdr) rfl ?_
   repeat first|exact zE|refine zP ?_|refine zB fun b=>?_|refine zC fun a' c' hc1 hc2=>?_|(apply GJ.a;exact rfl;intro hg)|(apply GJ.o;exact rfl;intro hg)
   rename_i b6
   refine CodeOk.rangeFuncR (T:=T) (α:=Nat) (ps:=[_]) (bs:=[_]) (encs:=fun c=>[.int .u8 (c:Int)]) rfl Tryz.call60 (each_iter (s:=⟨w1,w2,w3,w4⟩) hpe.1) (fun _=>rfl) rfl (ι:=List Nat × List Nat) (κ:=Empty)
    (fun (pre,C)=>.blk b6 3 [.int .i64 (i:Int)]::.sl ap P.length cq 40 4 (setsV P)::.blk b4 29 [.pointer (some ⟨bO,0,none⟩)]::.blk bO 68 (autV C (.slice none 0 0) (.slice none 0 0))::.blk bA 71 [.slice ad a.rows.length cp,.int .i64 a.last]::own)
    (fun pre (q,C)=>q=pre∧ClsP P i pre C) (fun e=>e.elim) (fun _ e=>e.elim) (fun x=>[(8,.int .u8 (x:Int)),(6,.pointer (some ⟨b6,0,none⟩)),(4,.pointer (some ⟨b4,0,none⟩))]) ([],clsU P i) ⟨rfl,hstart⟩ Sup.z ?_ ?_ ?_ (fun _ e=>e.elim)
   ·intro x own' ro' hl
    repeat (first|exact zE|refine wkT ?_|refine zB (fun b=>?_)|refine zC (fun a' c' hc1 hc2=>?_)|(apply GJ.a;exact rfl;intro hg)|(apply GJ.o;exact rfl;intro hg))
    exact ⟨(by repeat (first|exact trivial|refine Sub.cons rfl ?_)),Sup.all _⟩
   ·rintro pre x rest ⟨q,C⟩ ro' hl hx ⟨rfl,h1⟩
    have hx6:x<256:=bytesD_lt (s:=⟨w1,w2,w3,w4⟩) (by rw [hx];simp)
    have hCl:=h1.len
    have hst:=h1.step hx6
    dsimp only
    refine CodeRR.block ?_
    refine CodeRR.drawn NfT.auto rfl (by kernel_rfl) (by rfl) (by rfl) (by kernel_rfl) ?_
    repeat (first|exact zE|refine wkT ?_|refine zB (fun b=>?_)|refine zC (fun a' c' hc1 hc2=>?_)|(apply GJ.a;exact rfl;intro hg)|(apply GJ.o;exact rfl;intro hg))
    refine OpOk.storeAt rfl rfl rfl rfl (by rw [autV_len hCl];simp;omega) ?_
    rw [show (i:Int) % 256=(i:Int) by omega,show 0+0+((x:Nat):Int).toNat*1=x by simp,aut_set (by omega)]
    repeat (first|exact zE|refine wkT ?_|refine zB (fun b=>?_)|refine zC (fun a' c' hc1 hc2=>?_)|(apply GJ.a;exact rfl;intro hg)|(apply GJ.o;exact rfl;intro hg))
    exact Wk.id ⟨(q++[x],C.set x i),⟨rfl,hst⟩,Sup.z⟩
   ·rintro ⟨q,C⟩ ro' hl ⟨rfl,h1⟩
    have:=hfin C h1
    subst this
    dsimp only
    repeat first|exact zE|refine zP ?_|refine zB fun b=>?_|refine zC fun a' c' hc1 hc2=>?_|(apply GJ.a;exact rfl;intro hg)|(apply GJ.o;exact rfl;intro hg)
    refine Wk.id ⟨i+1,?_,?_,Sub.z,Sup.z⟩
    all_goals try dsimp only
    ·omega
    ·omega
  ·obtain rfl:i=P.length:=by omega
   rw [hcls]
   repeat first|exact zE|refine zP ?_|refine zB fun b=>?_|refine zC fun a' c' hc1 hc2=>?_|(apply GJ.a;exact rfl;intro hg)|(apply GJ.o;exact rfl;intro hg)
   have hv2:=hv0.le hl2
   refine nstart_ok hv2 hK.ok (fun aT cT y1 y2=>?_)
   have hss:=start_set a.rows
   obtain ⟨T0,hT0⟩:∃ T0,T0=startN a.rows:=⟨_,rfl⟩
   rw [←hT0] at hss y1 hk1 hk2 ⊢
   have hTl:=hss.len
   have hTa:=hss.adm (by omega)
   have hTk:=ints_nats T0
   have hnat:(intsN T0).map (Value.int .i64)=natsV T0:=hTk
   have hil:=ints_len T0
   repeat first|exact zE|refine zP ?_|refine zB fun b=>?_|refine zC fun a' c' hc1 hc2=>?_|(apply GJ.a;exact rfl;intro hg)|(apply GJ.o;exact rfl;intro hg)
   refine OpOk.makeMapG (kv:=str) (vv:=nV) (fun bM=>?_)
   repeat first|exact zE|refine zP ?_|refine zB fun b=>?_|refine zC fun a' c' hc1 hc2=>?_|(apply GJ.a;exact rfl;intro hg)|(apply GJ.o;exact rfl;intro hg)
   refine OpOk.load rfl rfl (Ld.slAt' (k:=0) rfl rfl) ?_
   repeat first|exact zE|refine zP ?_|refine zB fun b=>?_|refine zC fun a' c' hc1 hc2=>?_|(apply GJ.a;exact rfl;intro hg)|(apply GJ.o;exact rfl;intro hg)
   refine CallOk.freeze (c:=.sl aT _ _ _ _ _) Take.auto (fun ro3 hl3 hc3=>?_)
   have hrT:Rs ro3 aT T0.length cT 1 (natsV T0):=Rs.last hc3
   refine key_ok (l:=intsN T0) (by rw [hnat];exact hrT.rds) hil (by omega) hTa ?_
   repeat first|exact zE|refine zP ?_|refine zB fun b=>?_|refine zC fun a' c' hc1 hc2=>?_|(apply GJ.a;exact rfl;intro hg)|(apply GJ.o;exact rfl;intro hg)
   refine OpOk.insertG (OpOk.mapUpdateG (kt:=9) (et:=3) (kv:=str) (vv:=nV) (k:=keyT (intsN T0)) (v:=0) rfl rfl rfl (by kernel_rfl) (KeyEnc.text (by kernel_rfl)) MapOk.nil (by rw [keyT_len,hil];unfold maxLen;omega) (fun c1=>?_))
   have hM0:=(KeyM.nil 4096).push (by decide) hTa (by omega) rfl 0
   have hT1:[].idxOf? (intsN T0)=none:=rfl
   obtain ⟨Zo,hZo⟩:∃ Z,Z=subG a P 1025 [T0] [] []:=⟨_,rfl⟩
   rw [←hZo] at hk1 hk2
   have hH0:SetsH ro3 [T0] [.slice aT T0.length cT]:=(SetsH.nil ro3).snoc hrT
   obtain ⟨bS,hbS⟩:∃ z:Nat,z=b:=⟨_,rfl⟩
   subst hbS
   obtain ⟨CP,hCP⟩:∃ C,C=clsG P:=⟨_,rfl⟩
   have hCPl:CP.length=256:=by rw [hCP,cls_len]
   repeat first|exact zE|refine zP ?_|refine zB fun b=>?_|refine zC fun a' c' hc1 hc2=>?_|(apply GJ.a;exact rfl;intro hg)|(apply GJ.o;exact rfl;intro hg)
   refine LoopOk.auto (ι:=(List (List Nat) × Option Addr × Nat × List Value) × (List RowJ × Option Addr × Nat) × (List Bool × Option Addr × Nat) × List (List UInt8 × Nat × Nat) × Nat) Keep.z (fun ((sets,aH,cH,HS),(R,an,cn),(acc,aa,ca),M,cM)=>[(11,.int .i64 (R.length:Int)),(9,.slice aH sets.length cH)])
    (fun ((sets,aH,cH,HS),(R,an,cn),(acc,aa,ca),M,cM)=>.sl aH sets.length cH 59 1 HS::.obj bM (mapG str nV M cM)::.sl ap P.length cq 40 4 (setsV P)::.blk b4 29 [.pointer (some ⟨bO,0,none⟩)]::.blk bO 68 (autV (CP) (.slice an R.length cn) (.slice aa acc.length ca))::.blk bA 71 [.slice ad a.rows.length cp,.int .i64 a.last]::.sl an R.length cn 59 1 (R.map hdrJ)::.sl aa acc.length ca 4 1 (boolsV acc)::(R.map rowJ++own))
    (fun ((sets,aH,cH,HS),(R,an,cn),(acc,aa,ca),M,cM) ro2=>SetsH ro2 sets HS∧(∀ t∈sets,SetN a.rows.length t)∧sets.length≤1024∧KeyM 4096 (sets.map intsN) M∧(R.length≤sets.length∧acc.length=R.length)∧subG a P (1025-R.length) sets (R.map (·.2)) acc=Zo∧(sets.length≤cH∧cH≤maxLen)∧(R.length≤cn∧cn≤maxLen)∧(acc.length≤ca∧ca≤maxLen))
    (fun ((sets,aH,cH,HS),(R,an,cn),(acc,aa,ca),M,cM)=>1025-R.length) (([T0],some ⟨bS,0,none⟩,1,[.slice aT T0.length cT]),([],none,0),([],none,0),_,_) ?_ Sub.z (by rw [hCP];exact Sup.z) ?_
   ·exact ⟨hH0,(fun t ht=>by rw [List.mem_singleton] at ht;rw [ht];exact hss),(by simp),hM0,⟨Nat.zero_le _,rfl⟩,hZo.symm,⟨Nat.le_refl _,by unfold maxLen;decide⟩,⟨Nat.le_refl _,Nat.zero_le _⟩,⟨Nat.le_refl _,Nat.zero_le _⟩⟩
   clear hM0 hH0 hT1
   rintro ⟨⟨sets,aH,cH,HS⟩,⟨R,an,cn⟩,⟨acc,aa,ca⟩,M,cM⟩ ro4 hl4 ⟨j1,j2,j3,j4,⟨j5,j6⟩,j7,⟨j8,j9⟩,⟨j10,j11⟩,⟨j12,j13⟩⟩
   dsimp only [List.cons_append,List.nil_append] at j1 j2 j3 j4 j5 j6 j7 j8 j9 j10 j11 j12 j13 ⊢
   have hHl:=j1.len
   have hRh:(R.map hdrJ).length=R.length:=List.length_map _
   have hRm:(R.map (·.2)).length=R.length:=List.length_map _
   obtain ⟨F,hF⟩:∃ F,1025-R.length=F+1:=⟨1024-R.length,by omega⟩
   by_cases hlt:R.length<sets.length
   ·obtain ⟨cur,hcur⟩:∃ cur,sets[R.length]?=some cur:=⟨_,List.getElem?_eq_getElem hlt⟩
    rw [hF,subG,hRm,hcur] at j7
    dsimp only at j7
    obtain ⟨Ro,hRo⟩:∃ Z,Z=rowG a.rows cur P sets []:=⟨_,rfl⟩
    rw [←hRo] at j7
    repeat first|exact zE|refine zP ?_|refine zB fun b=>?_|refine zC fun a' c' hc1 hc2=>?_|(apply GJ.a;exact rfl;intro hg)|(apply GJ.o;exact rfl;intro hg)
    rw [Int.toNat_natCast,intV_zero]
    obtain ⟨bR,hbR⟩:∃ z:Nat,z=b:=⟨_,rfl⟩
    subst hbR
    refine LoopOk.auto (ι:=Nat × (List (List Nat) × Option Addr × Nat × List Value) × List Int × List (List UInt8 × Nat × Nat) × Nat) Keep.z (fun (i,(sets,aH,cH,HS),row,M,cM)=>[(66,.int .i64 (i:Int)),(9,.slice aH sets.length cH)])
     (fun (i,(sets,aH,cH,HS),row,M,cM)=>.sl (some ⟨bR,0,none⟩) P.length P.length 3 1 (intV (row++List.replicate (P.length-i) 0))::.sl aH sets.length cH 59 1 HS::.obj bM (mapG str nV M cM)::.sl ap P.length cq 40 4 (setsV P)::.blk b4 29 [.pointer (some ⟨bO,0,none⟩)]::.blk bO 68 (autV CP (.slice an R.length cn) (.slice aa acc.length ca))::.blk bA 71 [.slice ad a.rows.length cp,.int .i64 a.last]::.sl an R.length cn 59 1 (R.map hdrJ)::.sl aa acc.length ca 4 1 (boolsV acc)::(R.map rowJ++own))
     (fun (i,(sets2,aH,cH,HS),row,M,cM) ro5=>i≤P.length∧row.length=i∧SetsH ro5 sets2 HS∧(∀ t∈sets2,SetN a.rows.length t)∧sets2.length≤1024∧KeyM 4096 (sets2.map intsN) M∧(R.length<sets2.length∧sets2[R.length]?=some cur)∧rowG a.rows cur (P.drop i) sets2 row=Ro∧(sets2.length≤cH∧cH≤maxLen))
     (fun (i,(sets,aH,cH,HS),row,M,cM)=>P.length-i) (0,(sets,aH,cH,HS),[],M,cM) ?_ Sub.z Sup.z ?_
    ·exact ⟨Nat.zero_le _,rfl,j1,j2,j3,j4,⟨hlt,hcur⟩,hRo.symm,⟨j8,j9⟩⟩
    clear j1 j2 j3 j4 j8 j9 hcur hlt hHl
    rintro ⟨i,⟨sets2,aH2,cH2,HS2⟩,row,M2,cM2⟩ ro5 hl5 ⟨i1,i2,i3,i4,i5,i6,⟨i7,i8⟩,i9,⟨i10,i11⟩⟩
    dsimp only [List.cons_append,List.nil_append] at i1 i2 i3 i4 i5 i6 i7 i8 i9 i10 i11 ⊢
    have hHl:=i3.len
    obtain ⟨ac,cc,hc1h,hc2h⟩:=i3.row R.length cur i8
    have hcs:=i4 cur (List.mem_of_getElem? i8)
    have hcurl:=hcs.len
    have hbl:=intV_len (row++List.replicate (P.length-i) 0)
    rw [show (row++List.replicate (P.length-i) (0:Int)).length=P.length by simp;omega] at hbl
    have hv5:=((hv2.le hl3).le hl4).le hl5
    by_cases hi:i<P.length
    ·obtain ⟨p,hp⟩:∃ p,P[i]?=some p:=⟨_,List.getElem?_eq_getElem hi⟩
     have hpe:=hcut.each p (List.mem_of_getElem? hp)
     have hdr:=hps i p hp
     have hstl:=fun c=>step_len (rows:=a.rows) (c:=c) hcs.1
     have hsts:=fun c=>step_set a.rows (intsN cur) c
     have hed:=hK.edges
     have hss:∀ v:Int,(intV (row++List.replicate (P.length-i) 0)).set i (.int .i64 v)=intV ((row++[v])++List.replicate (P.length-(i+1)) 0):=fun v=>by rw [intV_set,snoc_set i2 hi]
     rw [dropN_cons hp,rowG] at i9
     have hfc:=fun c=>firstC_of (p:=p) (c:=c)
     have ht5:=(((ht.le hl2).le hl3).le hl4).le hl5
     obtain ⟨w1,w2,w3,w4⟩:=p
     repeat first|exact zE|refine zP ?_|refine zB fun b=>?_|refine zC fun a' c' hc1 hc2=>?_|(apply GJ.a;exact rfl;intro hg)|(apply GJ.o;exact rfl;intro hg)
     rw [Int.toNat_natCast]
     refine OpOk.loadRow rfl rfl (LdN.slRow hdr) rfl ?_
     repeat first|exact zE|refine zP ?_|refine zB fun b=>?_|refine zC fun a' c' hc1 hc2=>?_|(apply GJ.a;exact rfl;intro hg)|(apply GJ.o;exact rfl;intro hg)
     refine first_ok (s:=⟨w1,w2,w3,w4⟩) ht5 hpe.1 (fun e=>absurd e hpe.2) (fun c f1 f2 f3=>?_)
     rw [hfc c f1 f2 f3] at i9
     have hstc:=hstl c
     have htoS:=hsts c
     repeat first|exact zE|refine zP ?_|refine zB fun b=>?_|refine zC fun a' c' hc1 hc2=>?_|(apply GJ.a;exact rfl;intro hg)|(apply GJ.o;exact rfl;intro hg)
     refine QOk.load rfl rfl (Ld.slAt' (k:=R.length) (by rw [Int.toNat_natCast]) hc1h) ?_
     repeat first|exact zE|refine zP ?_|refine zB fun b=>?_|refine zC fun a' c' hc1 hc2=>?_|(apply GJ.a;exact rfl;intro hg)|(apply GJ.o;exact rfl;intro hg)
     refine nstep_ok (list:=intsN cur) (c:=c) hv5 hK (by rw [ints_nats];exact hc2h.rds) (ints_len _) f1 (by omega) (fun a5 c5 u1 u2=>?_)
     generalize stepN a.rows (intsN cur) c=to at *
     have htol:=htoS.len
     have htoa:=htoS.adm (by omega)
     have htn:(intsN to).map (Value.int .i64)=natsV to:=ints_nats to
     have htil:=ints_len to
     by_cases h0:to=[]
     ·rw [if_pos h0] at i9
      subst h0
      repeat first|exact zE|refine zP ?_|refine zB fun b=>?_|refine zC fun a' c' hc1 hc2=>?_|(apply GJ.a;exact rfl;intro hg)|(apply GJ.o;exact rfl;intro hg)
      refine OpOk.storeSlAt' (k:=i) rfl rfl rfl rfl (by rw [Int.toNat_natCast]) (by omega) ?_
      rw [hss]
      repeat first|exact zE|refine zP ?_|refine zB fun b=>?_|refine zC fun a' c' hc1 hc2=>?_|(apply GJ.a;exact rfl;intro hg)|(apply GJ.o;exact rfl;intro hg)
      repeat first|exact zE|refine zP ?_|refine zB fun b=>?_|refine zC fun a' c' hc1 hc2=>?_|(apply GJ.a;exact rfl;intro hg)|(apply GJ.o;exact rfl;intro hg)
      refine Wk.id ⟨(i+1,(sets2,aH2,cH2,HS2),row++[-1],M2,cM2),?_,?_,Sub.z,Sup.z⟩
      all_goals try dsimp only
      ·exact ⟨by omega,by simp [i2],i3,i4,i5,i6,⟨i7,i8⟩,i9,⟨i10,i11⟩⟩
      ·omega
     ·rw [if_neg h0] at i9
      have htp:0<to.length:=List.length_pos_iff.2 h0
      have hgk:=i6.at' _ htoa
      rw [ints_idx] at hgk
      have hkt:(keyT (intsN to)).length≤maxLen:=by rw [keyT_len,htil];unfold maxLen;omega
      have hMl:=i6.len
      rw [List.length_map] at hMl
      have hpush:=fun h=>i6.push (by decide) htoa (by omega) h cM2
      rw [ints_idx,List.length_map,show sets2.map intsN++[intsN to]=(sets2++[to]).map intsN by simp] at hpush
      repeat first|exact zE|refine zP ?_|refine zB fun b=>?_|refine zC fun a' c' hc1 hc2=>?_|(apply GJ.a;exact rfl;intro hg)|(apply GJ.o;exact rfl;intro hg)
      refine CallOk.freeze (c:=.sl a5 _ _ _ _ _) Take.auto (fun ro6 hl6 hc6=>?_)
      have hrT6:Rs ro6 a5 to.length c5 1 (natsV to):=Rs.last hc6
      refine key_ok (l:=intsN to) (by rw [htn];exact hrT6.rds) htil (by omega) htoa ?_
      repeat first|exact zE|refine zP ?_|refine zB fun b=>?_|refine zC fun a' c' hc1 hc2=>?_|(apply GJ.a;exact rfl;intro hg)|(apply GJ.o;exact rfl;intro hg)
      refine OpOk.lookupOkG (kt:=9) (et:=3) (kv:=str) (vv:=nV) (k:=keyT (intsN to)) (z:=.int .i64 0) rfl rfl (by kernel_rfl) (KeyEnc.text (by kernel_rfl)) i6.map hkt (by kernel_rfl) ?_
      rw [hgk]
      cases hidx:sets2.idxOf? to with
      | some u =>
        rw [hidx] at i9
        dsimp only at i9
        simp only [Option.map_some,Option.getD_some,Option.isSome_some,nV]
        repeat first|exact zE|refine zP ?_|refine zB fun b=>?_|refine zC fun a' c' hc1 hc2=>?_|(apply GJ.a;exact rfl;intro hg)|(apply GJ.o;exact rfl;intro hg)
        refine OpOk.storeSlAt' (k:=i) rfl rfl rfl rfl (by rw [Int.toNat_natCast]) (by omega) ?_
        rw [hss]
        repeat first|exact zE|refine zP ?_|refine zB fun b=>?_|refine zC fun a' c' hc1 hc2=>?_|(apply GJ.a;exact rfl;intro hg)|(apply GJ.o;exact rfl;intro hg)
        repeat first|exact zE|refine zP ?_|refine zB fun b=>?_|refine zC fun a' c' hc1 hc2=>?_|(apply GJ.a;exact rfl;intro hg)|(apply GJ.o;exact rfl;intro hg)
        refine Wk.id ⟨(i+1,(sets2,aH2,cH2,HS2),row++[(u:Int)],M2,cM2),?_,?_,Sub.z,Sup.z⟩
        all_goals try dsimp only
        ·exact ⟨by omega,by simp [i2],i3.le hl6,i4,i5,i6,⟨i7,i8⟩,i9,⟨i10,i11⟩⟩
        ·omega
      | none =>
        rw [hidx] at i9
        dsimp only at i9
        have hpush:=hpush hidx
        simp only [Option.map_none,Option.getD_none,Option.isSome_none]
        by_cases hmx:sets2.length=1024
        ·rw [if_pos hmx] at i9
         rw [←i9] at j7
         dsimp only at j7
         rw [←j7] at hk1
         dsimp only at hk1
         repeat first|exact zE|refine zP ?_|refine zB fun b=>?_|refine zC fun a' c' hc1 hc2=>?_|(apply GJ.a;exact rfl;intro hg)|(apply GJ.o;exact rfl;intro hg)
         exact Wk.own own (by repeat (first|exact Sup.app _ (Sup.all _)|refine Sup.drop _ ?_)) (Wk.id (hk1 (by decide)))
        ·rw [if_neg hmx] at i9
         have e1:sets2.length+1=(sets2++[to]).length:=by simp
         repeat first|exact zE|refine zP ?_|refine zB fun b=>?_|refine zC fun a' c' hc1 hc2=>?_|(apply GJ.a;exact rfl;intro hg)|(apply GJ.o;exact rfl;intro hg)
         refine key_ok (l:=intsN to) (by rw [htn];exact hrT6.rds) htil (by omega) htoa ?_
         repeat first|exact zE|refine zP ?_|refine zB fun b=>?_|refine zC fun a' c' hc1 hc2=>?_|(apply GJ.a;exact rfl;intro hg)|(apply GJ.o;exact rfl;intro hg)
         refine OpOk.mapUpdateG (kt:=9) (et:=3) (kv:=str) (vv:=nV) (k:=keyT (intsN to)) (v:=sets2.length) rfl rfl rfl (by kernel_rfl) (KeyEnc.text (by kernel_rfl)) i6.map hkt (fun c2=>?_)
         generalize putG M2 cM2 (keyT (intsN to)) sets2.length=M3 at *
         repeat first|exact zE|refine zP ?_|refine zB fun b=>?_|refine zC fun a' c' hc1 hc2=>?_|(apply GJ.a;exact rfl;intro hg)|(apply GJ.o;exact rfl;intro hg)
         rw [e1]
         rw [e1] at hc1
         refine OpOk.storeSlAt' (k:=i) rfl rfl rfl rfl (by rw [Int.toNat_natCast]) (by omega) ?_
         rw [hss]
         repeat first|exact zE|refine zP ?_|refine zB fun b=>?_|refine zC fun a' c' hc1 hc2=>?_|(apply GJ.a;exact rfl;intro hg)|(apply GJ.o;exact rfl;intro hg)
         repeat first|exact zE|refine zP ?_|refine zB fun b=>?_|refine zC fun a' c' hc1 hc2=>?_|(apply GJ.a;exact rfl;intro hg)|(apply GJ.o;exact rfl;intro hg)
         refine Wk.id ⟨(i+1,(sets2++[to],a',c',HS2++[.slice a5 to.length c5]),row++[(sets2.length:Int)],M3,c2),?_,?_,Sub.z,Sup.z⟩
         all_goals try dsimp only
         ·refine ⟨by omega,by simp [i2],(i3.le hl6).snoc hrT6,fun t ht=>?_,by simp;omega,hpush,⟨by simp;omega,snoc_old i8⟩,i9,⟨hc1,hc2⟩⟩
          rcases List.mem_append.1 ht with ht|ht
          ·exact i4 t ht
          ·rw [List.mem_singleton] at ht;rw [ht];exact htoS
         ·omega
    ·obtain rfl:i=P.length:=by omega
     rw [List.drop_length,rowG] at i9
     rw [Nat.sub_self,List.replicate_zero,List.append_nil]
     rw [←i9] at j7
     dsimp only at j7
     obtain ⟨eb,heb⟩:∃ z,z=endsN a (intsN cur):=⟨_,rfl⟩
     rw [←heb] at j7
     repeat (first|exact zE|refine wkT ?_|refine zB (fun b=>?_)|refine zC (fun a' c' hc1 hc2=>?_)|(apply GJ.a;exact rfl;intro hg)|(apply GJ.o;exact rfl;intro hg))
     refine Bs.mk ⟨[.blk b4 29 [.pointer (some ⟨bO,0,none⟩)],.blk bO 68 (autV CP (.slice an R.length cn) (.slice aa acc.length ca))],Sup.z,?_⟩
     repeat (first|exact zE|refine wkU ?_|(show QOk _ _ _ _ _ _ _;refine QOk.build rfl rfl Nf.auto ?_)|(show GJ _ _ _ _ _ _ _;first|with_reducible refine GJ.neF ?_|with_reducible refine GJ.neT ?_)|(show Br _ _ _;with_reducible refine Br.ne ?_)|refine zB (fun b=>?_)|refine zC (fun a' c' hc1 hc2=>?_)|(apply GJ.a;exact rfl;intro hg)|(apply GJ.o;exact rfl;intro hg))
     obtain ⟨aN,haN⟩:∃ z,z=a':=⟨_,rfl⟩
     subst haN
     obtain ⟨cN,hcN⟩:∃ z,z=c':=⟨_,rfl⟩
     subst hcN
     have hq1:=hc1
     have hq2:=hc2
     repeat (first|exact zE|refine wkT ?_|refine zB (fun b=>?_)|refine zC (fun a' c' hc1 hc2=>?_)|(apply GJ.a;exact rfl;intro hg)|(apply GJ.o;exact rfl;intro hg))
     refine Bs.mk ⟨[.sl aH2 sets2.length cH2 59 1 HS2,.blk b4 29 [.pointer (some ⟨bO,0,none⟩)],.blk bO 68 (autV CP (.slice aN (R.length+1) cN) (.slice aa acc.length ca)),.blk bA 71 [.slice ad a.rows.length cp,.int .i64 a.last]],Sup.z,?_⟩
     repeat (first|exact zE|refine wkU ?_|(show QOk _ _ _ _ _ _ _;refine QOk.build rfl rfl Nf.auto ?_)|(show GJ _ _ _ _ _ _ _;first|with_reducible refine GJ.neF ?_|with_reducible refine GJ.neT ?_)|(show Br _ _ _;with_reducible refine Br.ne ?_)|refine zB (fun b=>?_)|refine zC (fun a' c' hc1 hc2=>?_)|(apply GJ.a;exact rfl;intro hg)|(apply GJ.o;exact rfl;intro hg))
     refine QOk.load rfl rfl (Ld.slAt' (k:=R.length) (by rw [Int.toNat_natCast]) hc1h) ?_
     repeat (first|exact zE|refine wkU ?_|(show QOk _ _ _ _ _ _ _;refine QOk.build rfl rfl Nf.auto ?_)|(show GJ _ _ _ _ _ _ _;first|with_reducible refine GJ.neF ?_|with_reducible refine GJ.neT ?_)|(show Br _ _ _;with_reducible refine Br.ne ?_)|refine zB (fun b=>?_)|refine zC (fun a' c' hc1 hc2=>?_)|(apply GJ.a;exact rfl;intro hg)|(apply GJ.o;exact rfl;intro hg))
     refine nends_ok (list:=intsN cur) hv5 hK.ok (by rw [ints_nats];exact hc2h.rds) (ints_len _) ?_
     rw [←heb]
     repeat (first|exact zE|refine wkU ?_|(show QOk _ _ _ _ _ _ _;refine QOk.build rfl rfl Nf.auto ?_)|(show GJ _ _ _ _ _ _ _;first|with_reducible refine GJ.neF ?_|with_reducible refine GJ.neT ?_)|(show Br _ _ _;with_reducible refine Br.ne ?_)|refine zB (fun b=>?_)|refine zC (fun a' c' hc1 hc2=>?_)|(apply GJ.a;exact rfl;intro hg)|(apply GJ.o;exact rfl;intro hg))
     obtain ⟨y,hy⟩:∃ y:RowJ,y=((some ⟨bR,0,none⟩,P.length),row):=⟨_,rfl⟩
     have hyr:rowJ y=.sl (some ⟨bR,0,none⟩) P.length P.length 3 1 (intV row):=by rw [hy];unfold rowJ;rw [i2]
     have hyh:R.map hdrJ++[.slice (some ⟨bR,0,none⟩) P.length P.length]=(R++[y]).map hdrJ:=by rw [List.map_append,hy];simp [hdrJ,i2]
     have hym:(R++[y]).map (·.2)=R.map (·.2)++[row]:=by rw [List.map_append,hy];rfl
     have e1:R.length+1=(R++[y]).length:=by simp
     have e1I:(R.length:Int)+1=((R++[y]).length:Int):=by simp
     have e2:acc.length+1=(acc++[eb]).length:=by simp
     have e3:boolsV acc++[.bool eb]=boolsV (acc++[eb]):=by simp [boolsV]
     rw [hyh,e1I,e1,e2,e3]
     rw [e1] at hq1
     rw [e2] at hc1
     repeat first|exact zE|refine zP ?_|refine zB fun b=>?_|refine zC fun a' c' hc1 hc2=>?_|(apply GJ.a;exact rfl;intro hg)|(apply GJ.o;exact rfl;intro hg)
     refine Wk.id ⟨((sets2,aH2,cH2,HS2),(R++[y],aN,cN),(acc++[eb],a',c'),M2,cM2),?_,?_,Sub.z,Sup.cons Take.auto (Sup.cons Take.auto (Sup.cons Take.auto (Sup.cons Take.auto (Sup.cons Take.auto (Sup.cons Take.auto (Sup.cons Take.auto (Sup.cons Take.auto (by rw [←hyr];exact Sup.ofPerm (rowsJ_snoc R y own)))))))))⟩
     all_goals try dsimp only
     ·refine ⟨i3,i4,i5,i6,⟨by simp;omega,by simp [j6]⟩,?_,⟨i10,i11⟩,⟨hq1,hq2⟩,⟨hc1,hc2⟩⟩
      rw [hym,show 1025-(R++[y]).length=F by simp;omega]
      exact j7
     ·simp;omega
   ·rw [hF,subG,hRm,List.getElem?_eq_none (by omega)] at j7
    dsimp only at j7
    rw [←j7] at hk1 hk2
    dsimp only at hk1 hk2
    repeat first|exact zE|refine zP ?_|refine zB fun b=>?_|refine zC fun a' c' hc1 hc2=>?_|(apply GJ.a;exact rfl;intro hg)|(apply GJ.o;exact rfl;intro hg)
    rw [←hCP] at hk2
    exact Wk.own (.blk bO 68 (autV CP (.slice an R.length cn) (.slice aa acc.length ca))::.sl an R.length cn 59 1 (R.map hdrJ)::.sl aa acc.length ca 4 1 (boolsV acc)::(R.map rowJ++own)) Sup.z (Wk.id (hk2 rfl bO an cn aa ca R rfl))
end
end Go.Proofs.YtficlekgjbnniaaGreatDoor
end
section
namespace Go.E
open Go
section
variable {P:Program}{T:TT} [hT:TTab P T] {ty:TypeId}{env:Env}{ro:Ro}{own:Chs}{K:Value→Ro→Chs→Prop}
theorem nthV_of:∀ {l:List Value}{i:Nat}{v:Value},l[i]?=some v→nthV l i=some v
 | v::_,0,_,h=>by simpa [nthV] using h
 | _::r,n+1,_,h=>by rw [nthV];exact nthV_of (l:=r) (by simpa using h)
 | [],_,_,h=>by simp at h
theorem run_items_same {d:Nat}{e:TypeId}{C:List Nat}{ti:TI} (ht:T.get e=some ti) (hr:ti.u.row=false) (he:P.underlying e=some (.int .u8)) (w:World):∀ is:List Nat,(∀ i∈is,i<C.length) →
  (Op.eqItems (d+1) e 1 (C.map fun (k:Nat)=>Value.int .u8 (k:Int)).toArray (C.map fun (k:Nat)=>Value.int .u8 (k:Int)).toArray is).run P w=.ok true w
 | [],_=>by simp [Op.eqItems]
 | i::is,h=>by
   have hi:=h i (by simp)
   have hv:nthV (C.map fun (k:Nat)=>Value.int .u8 (k:Int)) (i*1)=some (.int .u8 (C[i]:Int)):=by
    rw [Nat.mul_one]
    exact nthV_of (by simp [hi])
   have hp:=run_part1 (P:=P) (T:=T) ht hr hv w
   simp only [Op.eqItems,Sem.run_bind,hp,Result.andThen_ok,run_equalIn_int (P:=P) w d e .u8 .u8 _ _ he]
   simpa using run_items_same ht hr he w is (fun j hj=>h j (by simp [hj]))
theorem QOk.eqlArrSame {K:Value→Prop}{t yt e:TypeId}{x y:Operand}{C:List Nat}{n:Nat}{ti:TI} (hx:ev env x=some (.agg (C.map fun (k:Nat)=>Value.int .u8 (k:Int)).toArray)) (hy:ev env y=some (.agg (C.map fun (k:Nat)=>Value.int .u8 (k:Int)).toArray))
  (ht:P.underlying t=some (.array n e)) (he:P.underlying e=some (.int .u8)) (hs:(P.info? e).map (·.size)=some 1) (hg:T.get e=some ti) (hr:ti.u.row=false) (hn:C.length=n) (h2:P.eqGuardType P.depth t=false) (hk:K (.bool true)):QOk P (.binOp .eql t x y yt) ty env ro own K:=by
 refine QOk.pu (fun h hs' d pos af g=>.mk fun ρ w hρ _=>?_) hk
 obtain ⟨i,hi,hi2⟩:=Option.map_eq_some_iff.1 hs
 have hc:P.cellsOf e=1:=by simp [Program.cellsOf,hi,hi2]
 have he2:=run_equalIn_array (w:=w) 9999 (C.map fun (k:Nat)=>Value.int .u8 (k:Int)).toArray (C.map fun (k:Nat)=>Value.int .u8 (k:Int)).toArray ht hi
 rw [hc,run_items_same (d:=9998) hg hr he w (List.range n) (fun i hi=>by rw [hn];exact List.mem_range.1 hi)] at he2
 simp only [execOp,hρ _ _ hx,hρ _ _ hy,Sem.run_bind,run_eqGuard_agg w .eql t x y _ _ h2,Result.andThen_ok,run_eql_struct,he2,Sem.run_pure]
end
end Go.E
namespace Go.Proofs.YtficlekgjbnniaaGreatDoor
open Go Go.E
section
variable {ro:Ro}{own r:Chs}{K:Value→Ro→Chs→Prop}{g:Chunk→Chs}
theorem equalB_ok {a1 a2:Option Addr}{n c1 c2:Nat}{l:List Bool} (h1:Rs ro a1 n c1 1 (l.map Value.bool)) (h2:Rs ro a2 n c2 1 (l.map Value.bool)) (hk:K (.bool true) ro own) :
  CallOk Tryz.prog 43 #[.slice a1 n c1,.slice a2 n c2] ro own K:=by
 have hl:l.length=n:=by have:=h1.n1;simpa using this
 have m1:=h1.max
 have m2:=h1.le
 unfold maxLen at m1
 refine CallOk.intro (args:=[_,_]) (rs:=[_]) T_ok Tryz.func43 Tryz.call43 rfl rfl (by kernel_rfl) rfl rfl ?_
 repeat first|exact zE|refine zP ?_|refine zB fun b=>?_|refine zC fun a' c' hc1 hc2=>?_|(apply GJ.a;exact rfl;intro hg)|(apply GJ.o;exact rfl;intro hg)
 refine LoopOk.at (ι:=Nat) Keep.z (fun i=>[(13,.int .i64 (i:Int))]) (fun i=>own) (fun i=>i≤n) (fun i=>n-i) 0 ?_ Sub.z Sup.z ?_
 ·exact Nat.zero_le _
 rintro i i1
 dsimp only [List.cons_append,List.nil_append] at i1 ⊢
 by_cases hi:i<n
 ·repeat first|exact zE|refine zP ?_|refine zB fun b=>?_|refine zC fun a' c' hc1 hc2=>?_|(apply GJ.a;exact rfl;intro hg)|(apply GJ.o;exact rfl;intro hg)
  refine Br.f (fun h=>h rfl) ?_
  repeat first|exact zE|refine zP ?_|refine zB fun b=>?_|refine zC fun a' c' hc1 hc2=>?_|(apply GJ.a;exact rfl;intro hg)|(apply GJ.o;exact rfl;intro hg)
  refine Wk.id ⟨i+1,⟨rfl,?_⟩,?_,Sub.z,Sup.z⟩
  all_goals try dsimp only
  ·omega
  ·omega
 ·repeat first|exact zE|refine zP ?_|refine zB fun b=>?_|refine zC fun a' c' hc1 hc2=>?_|(apply GJ.a;exact rfl;intro hg)|(apply GJ.o;exact rfl;intro hg)
  exact Wk.id hk
theorem same1_ok {a1 a2:Option Addr}{c1 c2:Nat}{l:List Int} (h1:Rs ro a1 l.length c1 1 (l.map (Value.int .i64))) (h2:Rs ro a2 l.length c2 1 (l.map (Value.int .i64))) (hk:K (.bool true) ro own) :
  CallOk Tryz.prog 45 #[.slice a1 l.length c1,.slice a2 l.length c2] ro own K:=by
 refine CallOk.intro (args:=[_,_]) (rs:=[_]) T_ok Tryz.func45 Tryz.call45 rfl rfl (by kernel_rfl) rfl rfl ?_
 repeat first|exact zE|refine zP ?_|refine zB fun b=>?_|refine zC fun a' c' hc1 hc2=>?_|(apply GJ.a;exact rfl;intro hg)|(apply GJ.o;exact rfl;intro hg)
 refine equalI_ok (l:=l) (m:=l) h1.rds h2.rds rfl rfl (fun q hq=>?_)
 obtain rfl:q=true:=hq.2 rfl
 repeat first|exact zE|refine zP ?_|refine zB fun b=>?_|refine zC fun a' c' hc1 hc2=>?_|(apply GJ.a;exact rfl;intro hg)|(apply GJ.o;exact rfl;intro hg)
 exact Wk.id hk
theorem equalR_ok {a1 a2:Option Addr}{n c1 c2:Nat}{rows:List (List Int)}{H1 H2:List Value} (h1:Rs ro a1 n c1 1 H1) (h2:Rs ro a2 n c2 1 H2) (r1:RowsH ro rows H1) (r2:RowsH ro rows H2) (hk:K (.bool true) ro own) :
  CallOk Tryz.prog 44 #[.slice a1 n c1,.slice a2 n c2,.func (.func 45) #[] #[]] ro own K:=by
 have hl:=r1.len
 have hn1:=h1.n1
 have m1:=h1.max
 have m2:=h1.le
 unfold maxLen at m1
 refine CallOk.intro (args:=[_,_,_]) (rs:=[_]) T_ok Tryz.func44 Tryz.call44 rfl rfl (by kernel_rfl) rfl rfl ?_
 repeat first|exact zE|refine zP ?_|refine zB fun b=>?_|refine zC fun a' c' hc1 hc2=>?_|(apply GJ.a;exact rfl;intro hg)|(apply GJ.o;exact rfl;intro hg)
 refine LoopOk.at (ι:=Nat) Keep.z (fun i=>[(17,.int .i64 (i:Int))]) (fun i=>own) (fun i=>i≤n) (fun i=>n-i) 0 ?_ Sub.z Sup.z ?_
 ·exact Nat.zero_le _
 rintro i i1
 dsimp only [List.cons_append,List.nil_append] at i1 ⊢
 by_cases hi:i<n
 ·obtain ⟨row,hrow⟩:∃ row,rows[i]?=some row:=⟨_,List.getElem?_eq_getElem (by omega)⟩
  obtain ⟨b1,d1,e1,f1⟩:=r1.row i row hrow
  obtain ⟨b2,d2,e2,f2⟩:=r2.row i row hrow
  repeat first|exact zE|refine zP ?_|refine zB fun b=>?_|refine zC fun a' c' hc1 hc2=>?_|(apply GJ.a;exact rfl;intro hg)|(apply GJ.o;exact rfl;intro hg)
  refine OpOk.load rfl rfl (Go.E.Ld.rs h1 (by rw [Int.toNat_natCast];exact e1)) ?_
  repeat first|exact zE|refine zP ?_|refine zB fun b=>?_|refine zC fun a' c' hc1 hc2=>?_|(apply GJ.a;exact rfl;intro hg)|(apply GJ.o;exact rfl;intro hg)
  refine OpOk.load rfl rfl (Go.E.Ld.rs h2 (by rw [Int.toNat_natCast];exact e2)) ?_
  repeat first|exact zE|refine zP ?_|refine zB fun b=>?_|refine zC fun a' c' hc1 hc2=>?_|(apply GJ.a;exact rfl;intro hg)|(apply GJ.o;exact rfl;intro hg)
  refine same1_ok f1 f2 ?_
  repeat first|exact zE|refine zP ?_|refine zB fun b=>?_|refine zC fun a' c' hc1 hc2=>?_|(apply GJ.a;exact rfl;intro hg)|(apply GJ.o;exact rfl;intro hg)
  repeat first|exact zE|refine zP ?_|refine zB fun b=>?_|refine zC fun a' c' hc1 hc2=>?_|(apply GJ.a;exact rfl;intro hg)|(apply GJ.o;exact rfl;intro hg)
  refine Wk.id ⟨i+1,⟨rfl,?_⟩,?_,Sub.z,Sup.z⟩
  all_goals try dsimp only
  ·omega
  ·omega
 ·repeat first|exact zE|refine zP ?_|refine zB fun b=>?_|refine zC fun a' c' hc1 hc2=>?_|(apply GJ.a;exact rfl;intro hg)|(apply GJ.o;exact rfl;intro hg)
  exact Wk.id hk
theorem dsame_ok {p q:Nat}{d:DfaA} (h1:DAt ro p d) (h2:DAt ro q d) (hk:K (.bool true) ro own):CallOk Tryz.prog 27 #[ptr' p,ptr' q] ro own K:=by
 obtain ⟨an,cn,aa,ca,hs,hd⟩:=h1.rd
 obtain ⟨an2,cn2,aa2,ca2,hs2,hd2⟩:=h2.rd
 have hN:=hd.ldN
 have hA:=hd.ldA
 have hN2:=hd2.ldN
 have hA2:=hd2.ldA
 have hl6:(clsV d.cls).length=256:=by rw [clsV_len,hd.c256]
 have hlc:∀ own',LdN ro own' p (0+0) (clsV d.cls):=fun own'=>by
  have:=LdN.part 0 256 (LdN.lastBlk (own:=own') hd.row)
  rwa [List.drop_zero,show (autV d.cls (.slice an d.next.length cn) (.slice aa d.acc.length ca)).take 256=clsV d.cls by unfold autV;rw [List.take_append_of_le_length (by rw [clsV_len,hd.c256];exact Nat.le_refl _),List.take_of_length_le (by rw [clsV_len,hd.c256];exact Nat.le_refl _)]] at this
 have hlc2:∀ own',LdN ro own' q (0+0) (clsV d.cls):=fun own'=>by
  have:=LdN.part 0 256 (LdN.lastBlk (own:=own') hd2.row)
  rwa [List.drop_zero,show (autV d.cls (.slice an2 d.next.length cn2) (.slice aa2 d.acc.length ca2)).take 256=clsV d.cls by unfold autV;rw [List.take_append_of_le_length (by rw [clsV_len,hd.c256];exact Nat.le_refl _),List.take_of_length_le (by rw [clsV_len,hd.c256];exact Nat.le_refl _)]] at this
 refine CallOk.intro (args:=[_,_]) (rs:=[_]) T_ok Tryz.func27 Tryz.call27 rfl rfl (by kernel_rfl) rfl rfl ?_
 repeat first|exact zE|refine zP ?_|refine zB fun b=>?_|refine zC fun a' c' hc1 hc2=>?_|(apply GJ.a;exact rfl;intro hg)|(apply GJ.o;exact rfl;intro hg)
 refine QOk.loadRow rfl rfl (hlc _) hl6 ?_
 repeat first|exact zE|refine zP ?_|refine zB fun b=>?_|refine zC fun a' c' hc1 hc2=>?_|(apply GJ.a;exact rfl;intro hg)|(apply GJ.o;exact rfl;intro hg)
 refine QOk.loadRow rfl rfl (hlc2 _) hl6 ?_
 repeat first|exact zE|refine zP ?_|refine zB fun b=>?_|refine zC fun a' c' hc1 hc2=>?_|(apply GJ.a;exact rfl;intro hg)|(apply GJ.o;exact rfl;intro hg)
 refine QOk.eqlArrSame (e:=5) (C:=d.cls) rfl rfl (by kernel_rfl) (by kernel_rfl) (by kernel_rfl) rfl rfl hd.c256 (by kernel_rfl) ?_
 repeat first|exact zE|refine zP ?_|refine zB fun b=>?_|refine zC fun a' c' hc1 hc2=>?_|(apply GJ.a;exact rfl;intro hg)|(apply GJ.o;exact rfl;intro hg)
 refine equalB_ok hd.ra hd2.ra ?_
 repeat first|exact zE|refine zP ?_|refine zB fun b=>?_|refine zC fun a' c' hc1 hc2=>?_|(apply GJ.a;exact rfl;intro hg)|(apply GJ.o;exact rfl;intro hg)
 refine equalR_ok hd.rs hd2.rs ⟨hd.rs.n1,hd.rows⟩ ⟨hd2.rs.n1,hd2.rows⟩ ?_
 repeat first|exact zE|refine zP ?_|refine zB fun b=>?_|refine zC fun a' c' hc1 hc2=>?_|(apply GJ.a;exact rfl;intro hg)|(apply GJ.o;exact rfl;intro hg)
 exact Wk.id hk
theorem dmake_ok {a:NfaD}{v:List Value} (hv:AutoOk ro a v) (hK:AutoK a) (ht:TabOk ro) (hsl:(setsN a.rows).length≤1000)
  (hk1:(makeA a).1≠0→∀ ro',Le ro ro'→K (.tuple #[.pointer none,.int .i64 ((makeA a).1:Int)]) ro' own)
  (hk2:(makeA a).1=0→∀ ro' p,Le ro ro'→DAt ro' p (makeA a).2→K (.tuple #[ptr' p,.int .i64 0]) ro' own) :
  CallOk Tryz.prog 38 #[.agg v.toArray] ro own K :=
 CallOk.lastly (Q:=fun v l=>((makeA a).1≠0∧v=.tuple #[.pointer none,.int .i64 ((makeA a).1:Int)])∨((makeA a).1=0∧∃ (p:Nat) (an:Option Addr) (cn:Nat) (aa:Option Addr) (ca:Nat) (R:List RowJ),R.map (·.2)=(makeA a).2.next∧v=.tuple #[ptr' p,.int .i64 0] ∧
   l=(.blk p 68 (autV (makeA a).2.cls (.slice an R.length cn) (.slice aa (makeA a).2.acc.length ca))::.sl an R.length cn 59 1 (R.map hdrJ)::.sl aa (makeA a).2.acc.length ca 4 1 (boolsV (makeA a).2.acc)::R.map rowJ)))
  (dmake0_ok hv hK ht hsl (fun h=>⟨rfl,[],rfl,.inl ⟨h,rfl⟩⟩) (fun h p an cn aa ca R hR=>⟨rfl,_,by simp,.inr ⟨h,p,an,cn,aa,ca,R,hR,rfl,rfl⟩⟩))
  (fun ro' v l hl hc hq=>by
   rcases hq with ⟨h,rfl⟩|⟨h,p,an,cn,aa,ca,R,hR,rfl,rfl⟩
   ·exact hk1 h ro' hl
   ·have hm:=(made_a2 hK.ok.to hK.sets h).1
    obtain ⟨w,_,ho,_⟩:=hm.ok
    have hRl:R.length=(makeA a).2.next.length:=by rw [←hR,List.length_map]
    refine hk2 h ro' p hl ⟨⟨an,cn,aa,ca,R.map hdrJ,?_,ho.cls,?_,fun i row hi=>?_,Rs.last (hc _ (List.mem_cons_of_mem _ (List.mem_cons_of_mem _ (List.mem_cons_self ..))))⟩⟩
    ·rw [←hRl];exact hc _ (List.mem_cons_self ..)
    ·rw [←hRl];exact Rs.last (hc _ (List.mem_cons_of_mem _ (List.mem_cons_self ..)))
    ·rw [←hR,List.getElem?_map] at hi
     obtain ⟨x,hx,rfl⟩:=Option.map_eq_some_iff.1 hi
     refine ⟨x.1.1,x.1.2,by rw [List.getElem?_map,hx];rfl,?_⟩
     exact Rs.last (t:=3) (hc (rowJ x) (List.mem_cons_of_mem _ (List.mem_cons_of_mem _ (List.mem_cons_of_mem _ (List.mem_map_of_mem (List.mem_of_getElem? hx)))))))
end
def lstE (n:RgD):Nat:=if (makeN n).1≠0 then (makeN n).1 else (makeA (makeN n).2).1
def lstD (n:RgD):DfaA:=leastA (makeA (makeN n).2).2
def OfP (ro:Ro) (n:RgD) (P:Value):Prop:=(lstE n≠0∧P=.pointer none)∨(lstE n=0∧∃ p,P=ptr' p∧DAt ro p (lstD n))
theorem make_check {n:RgD} (h:(makeN n).1=0):(checkD n 512).1=0:=by
 unfold makeN at h
 split at h
 ·rename_i h1;exact absurd h h1
 ·rename_i h1;exact Decidable.of_not_not h1
theorem make_size {n:RgD} (h:(makeN n).1=0):wrongD n=0∧(setsN (makeN n).2.rows).length≤1000:=by
 obtain ⟨h1,h2,_⟩:=check_zero n 512 (make_check h)
 have:=sets_len n
 exact ⟨h1,by omega⟩
section
variable {ro:Ro}{own r:Chs}{K:Value→Ro→Chs→Prop}{g:Chunk→Chs}
theorem dof_ok {n:RgD}{v:List Value} (ht:TabOk ro) (hv:RgOk ro n v) (hk:∀ ro' P,Le ro ro'→OfP ro' n P→K (.tuple #[P,.int .i64 (lstE n:Int)]) ro' own) :
  CallOk Tryz.prog 16 #[.agg v.toArray] ro own K:=by
 have hin:=rg_ins hv
 obtain ⟨a1,c1,hvc⟩:=hv.cells
 have hv0:=hv
 subst hvc
 have hK:=make_k hin
 refine CallOk.intro (args:=[_]) (rs:=[_,_]) T_ok Tryz.func16 Tryz.call16 rfl rfl (by kernel_rfl) rfl rfl ?_
 repeat first|exact zE|refine zP ?_|refine zB fun b=>?_|refine zC fun a' c' hc1 hc2=>?_|(apply GJ.a;exact rfl;intro hg)|(apply GJ.o;exact rfl;intro hg)
 refine nmake_ok hv0 (fun ro2 v2 hl2 hA=>?_)
 have hA0:=hA
 have hE:lstE n=if (makeN n).1≠0 then (makeN n).1 else (makeA (makeN n).2).1:=rfl
 have hD:lstD n=leastA (makeA (makeN n).2).2:=rfl
 by_cases h1:(makeN n).1=0
 ·obtain ⟨hw,hsl⟩:=make_size h1
  rw [if_neg (by rw [h1];decide)] at hE
  rw [h1]
  obtain ⟨ad,cp,hs,rfl,hrs,hrw⟩:=hA
  repeat first|exact zE|refine zP ?_|refine zB fun b=>?_|refine zC fun a' c' hc1 hc2=>?_|(apply GJ.a;exact rfl;intro hg)|(apply GJ.o;exact rfl;intro hg)
  refine dmake_ok hA0 hK (ht.le hl2) hsl (fun h2 ro3 hl3=>?_) (fun h2 ro3 p hl3 hp=>?_)
  ·rw [←hE] at h2 ⊢
   repeat first|exact zE|refine zP ?_|refine zB fun b=>?_|refine zC fun a' c' hc1 hc2=>?_|(apply GJ.a;exact rfl;intro hg)|(apply GJ.o;exact rfl;intro hg)
   exact Wk.outS Sup.z (.refl _) (hk ro3 _ (hl2.trans hl3) (.inl ⟨h2,rfl⟩))
  ·have hm:=(made_a2 hK.ok.to hK.sets h2).1
   obtain ⟨w,hw6,ho,hs⟩:=hm.ok
   repeat first|exact zE|refine zP ?_|refine zB fun b=>?_|refine zC fun a' c' hc1 hc2=>?_|(apply GJ.a;exact rfl;intro hg)|(apply GJ.o;exact rfl;intro hg)
   refine dleast_ok hp ho hs hw6 hm.pos hm.le (fun ro4 p4 hl4 hp4=>?_)
   rw [←hD] at hp4
   repeat first|exact zE|refine zP ?_|refine zB fun b=>?_|refine zC fun a' c' hc1 hc2=>?_|(apply GJ.a;exact rfl;intro hg)|(apply GJ.o;exact rfl;intro hg)
   have h0:lstE n=0:=hE.trans h2
   have:=hk ro4 (ptr' p4) ((hl2.trans hl3).trans hl4) (.inr ⟨h0,p4,rfl,hp4⟩)
   rw [h0] at this
   exact Wk.outS Sup.z (.refl _) this
 ·rw [if_pos h1] at hE
  have h2:lstE n≠0:=by rw [hE];exact h1
  obtain ⟨ad,cp,hs,rfl,hrs,hrw⟩:=hA
  rw [←hE]
  repeat first|exact zE|refine zP ?_|refine zB fun b=>?_|refine zC fun a' c' hc1 hc2=>?_|(apply GJ.a;exact rfl;intro hg)|(apply GJ.o;exact rfl;intro hg)
  exact Wk.outS Sup.z (.refl _) (hk ro2 _ hl2 (.inl ⟨h2,rfl⟩))
end
structure Fw9C (n:RgD):Prop where
 run:∀ {ro:Ro}{r:Chs}{K:Value→Ro→Chs→Prop}{p:Nat}{v:List Value}{M:Int},RgOk ro n v→0≤M→M≤100000→K (.bool (fewX 4 5 n M).1) ro (.blk p 3 [.int .i64 (fewX 4 5 n M).2]::r) →
  CallOk Tryz.prog 31 #[.agg v.toArray,ptr' p] ro (.blk p 3 [.int .i64 M]::r) K
set_option maxHeartbeats 16000000 in
theorem fw9C:∀ n,Fw9C n:=RgD.ind fun k z l x y ih=>⟨fun {ro r K p v M} hv hM hM2 hk=>by
 rw [RgOk] at hv
 obtain ⟨ad,cp,cs,rfl,hs,hrs,hks⟩:=hv
 have hle:=hrs.le
 have hmx:=hrs.max
 unfold maxLen at hmx
 rw [fewX] at hk
 dsimp only at hk
 by_cases h0:M-1<0
 ·rw [if_pos (.inl (.inl h0))] at hk
  refine CallOk.intro (args:=[_,_]) (rs:=[_]) T_ok Tryz.func31 Tryz.call31 rfl rfl (by kernel_rfl) rfl rfl ?_
  repeat first|exact zE|refine zP ?_|refine zB fun b=>?_|refine zC fun a' c' hc1 hc2=>?_|(apply GJ.a;exact rfl;intro hg)|(apply GJ.o;exact rfl;intro hg)
  exact Wk.outS Sup.z (.refl _) hk
 by_cases h100:30<l.length
 ·rw [if_pos (.inl (.inr h100))] at hk
  refine CallOk.intro (args:=[_,_]) (rs:=[_]) T_ok Tryz.func31 Tryz.call31 rfl rfl (by kernel_rfl) rfl rfl ?_
  repeat first|exact zE|refine zP ?_|refine zB fun b=>?_|refine zC fun a' c' hc1 hc2=>?_|(apply GJ.a;exact rfl;intro hg)|(apply GJ.o;exact rfl;intro hg)
  exact Wk.outS Sup.z (.refl _) hk
 by_cases hk5:k=5∧(4<x∨5<y)
 ·rw [if_pos (.inr hk5)] at hk
  obtain ⟨rfl,hk6⟩:=hk5
  by_cases hx6:4<x
  ·refine CallOk.intro (args:=[_,_]) (rs:=[_]) T_ok Tryz.func31 Tryz.call31 rfl rfl (by kernel_rfl) rfl rfl ?_
   repeat first|exact zE|refine zP ?_|refine zB fun b=>?_|refine zC fun a' c' hc1 hc2=>?_|(apply GJ.a;exact rfl;intro hg)|(apply GJ.o;exact rfl;intro hg)
   exact Wk.outS Sup.z (.refl _) hk
  ·have hy8:5<y:=hk6.resolve_left hx6
   refine CallOk.intro (args:=[_,_]) (rs:=[_]) T_ok Tryz.func31 Tryz.call31 rfl rfl (by kernel_rfl) rfl rfl ?_
   repeat first|exact zE|refine zP ?_|refine zB fun b=>?_|refine zC fun a' c' hc1 hc2=>?_|(apply GJ.a;exact rfl;intro hg)|(apply GJ.o;exact rfl;intro hg)
   exact Wk.outS Sup.z (.refl _) hk
 rw [if_neg (fun z=>z.elim (fun u=>u.elim h0 h100) hk5)] at hk
 refine CallOk.intro (args:=[_,_]) (rs:=[_]) T_ok Tryz.func31 Tryz.call31 rfl rfl (by kernel_rfl) rfl rfl ?_
 repeat first|exact zE|refine zP ?_|refine zB fun b=>?_|refine zC fun a' c' hc1 hc2=>?_|(apply GJ.a;exact rfl;intro hg)|(apply GJ.o;exact rfl;intro hg)
 refine LoopOk.at (ι:=Nat × Int) Keep.z (fun (i,Mi)=>[(40,.int .i64 (i:Int))]) (fun (i,Mi)=>.blk p 3 [.int .i64 Mi]::r) (fun (i,Mi)=>i≤l.length∧0≤Mi∧Mi≤M-1∧fewY 4 5 l (M-1)=fewY 4 5 (l.drop i) Mi) (fun (i,Mi)=>l.length-i) (0,M-1) ?_ Sub.z Sup.z ?_
 ·exact ⟨Nat.zero_le _,by omega,Int.le_refl _,by simp⟩
 rintro ⟨i,Mi⟩ ⟨i1,i2,i3,i4⟩
 dsimp only [List.cons_append,List.nil_append] at i1 i2 i3 i4 ⊢
 by_cases hi:i<l.length
 ·obtain ⟨kd,hkd⟩:∃ kd,l[i]?=some kd:=⟨_,List.getElem?_eq_getElem hi⟩
  have hvv:=hks.get hkd
  obtain ⟨ak,ck,hvk⟩:=hvv.cells
  rw [hvk] at hvv
  have hdr:l.drop i=kd::l.drop (i+1):=by
   rw [List.drop_eq_getElem_cons hi]
   congr 1
   rw [List.getElem?_eq_getElem hi] at hkd
   exact Option.some.inj hkd
  rw [hdr,fewY] at i4
  dsimp only at i4
  have hleft:=fewX_left (mn:=4) (mx:=5) kd Mi
  repeat first|exact zE|refine zP ?_|refine zB fun b=>?_|refine zC fun a' c' hc1 hc2=>?_|(apply GJ.a;exact rfl;intro hg)|(apply GJ.o;exact rfl;intro hg)
  rw [Int.toNat_natCast]
  refine OpOk.loadRow rfl rfl (LdN.at hrs hvk) rfl ?_
  repeat first|exact zE|refine zP ?_|refine zB fun b=>?_|refine zC fun a' c' hc1 hc2=>?_|(apply GJ.a;exact rfl;intro hg)|(apply GJ.o;exact rfl;intro hg)
  refine CallOk.sup (own0:=.blk p 3 [.int .i64 Mi]::r) Sup.z ?_
  refine (ih kd (List.mem_of_getElem? hkd)).run hvv i2 (by omega) ?_
  generalize fewX 4 5 kd Mi=R at i4 hleft ⊢
  obtain ⟨R1,R2⟩:=R
  dsimp only at i4 hleft ⊢
  cases R1 with
  | true =>
    rw [if_pos rfl] at i4
    obtain ⟨h5,h6⟩:=hleft rfl
    repeat first|exact zE|refine zP ?_|refine zB fun b=>?_|refine zC fun a' c' hc1 hc2=>?_|(apply GJ.a;exact rfl;intro hg)|(apply GJ.o;exact rfl;intro hg)
    refine Wk.id ⟨(i+1,R2),⟨rfl,?_⟩,?_,Sub.z,Sup.z⟩
    all_goals try dsimp only
    ·exact ⟨by omega,h5,by omega,i4⟩
    ·omega
  | false =>
    rw [if_neg (by decide)] at i4
    rw [i4] at hk
    repeat first|exact zE|refine zP ?_|refine zB fun b=>?_|refine zC fun a' c' hc1 hc2=>?_|(apply GJ.a;exact rfl;intro hg)|(apply GJ.o;exact rfl;intro hg)
    exact Wk.outS Sup.z (.refl _) hk
 ·obtain rfl:i=l.length:=by omega
  rw [List.drop_length,fewY] at i4
  dsimp only at i4
  rw [i4] at hk
  repeat first|exact zE|refine zP ?_|refine zB fun b=>?_|refine zC fun a' c' hc1 hc2=>?_|(apply GJ.a;exact rfl;intro hg)|(apply GJ.o;exact rfl;intro hg)
  exact Wk.outS Sup.z (.refl _) hk⟩
theorem lst_least {n:RgD}{v:List Value}{ro:Ro} (hv:RgOk ro n v) (h:lstE n=0):LeastA (lstD n)∧MadeA (makeA (makeN n).2).2:=by
 have hK:=make_k (rg_ins hv)
 unfold lstE at h
 have h1:(makeN n).1=0:=by
  refine Decidable.byContradiction fun hn=>?_
  rw [if_pos hn] at h
  exact hn h
 rw [h1,if_neg (by decide)] at h
 have hm:=(made_a2 hK.ok.to hK.sets h).1
 exact ⟨hm.least.1,hm⟩
def mdX (n:RgD):Prop:=(fewX 4 5 n 14).1=true∧lstE n=0∧(lstD n).next.length≤100
section
variable {ro:Ro}{own r:Chs}{K:Value→Ro→Chs→Prop}{g:Chunk→Chs}
theorem amade_ok {n:RgD}{v:List Value} (ht:TabOk ro) (hv:RgOk ro n v)
  (hk0:∀ ro',Le ro ro'→¬mdX n→K (.pointer none) ro' own)
  (hk1:∀ ro' p,Le ro ro'→mdX n→DAt ro' p (lstD n)→LeastA (lstD n)→K (ptr' p) ro' own) :
  CallOk Tryz.prog 10 #[.agg v.toArray] ro own K:=by
 obtain ⟨a1,c1,hvc⟩:=hv.cells
 have hv0:=hv
 subst hvc
 refine CallOk.intro (args:=[_]) (rs:=[_]) T_ok Tryz.func10 Tryz.call10 rfl rfl (by kernel_rfl) rfl rfl ?_
 repeat first|exact zE|refine zP ?_|refine zB fun b=>?_|refine zC fun a' c' hc1 hc2=>?_|(apply GJ.a;exact rfl;intro hg)|(apply GJ.o;exact rfl;intro hg)
 refine (fw9C n).run hv0 (by decide) (by decide) ?_
 by_cases hf:(fewX 4 5 n 14).1=true
 ·rw [hf]
  repeat first|exact zE|refine zP ?_|refine zB fun b=>?_|refine zC fun a' c' hc1 hc2=>?_|(apply GJ.a;exact rfl;intro hg)|(apply GJ.o;exact rfl;intro hg)
  refine dof_ok ht hv0 (fun ro2 P hl2 hP=>?_)
  by_cases he:lstE n=0
  ·rw [he]
   obtain ⟨_,p,rfl,hp⟩:=hP.resolve_left (fun h=>h.1 he)
   have hL:=(lst_least hv0 he).1
   repeat first|exact zE|refine zP ?_|refine zB fun b=>?_|refine zC fun a' c' hc1 hc2=>?_|(apply GJ.a;exact rfl;intro hg)|(apply GJ.o;exact rfl;intro hg)
   refine dlen_ok hp ?_
   by_cases h100:(lstD n).next.length≤100
   ·repeat first|exact zE|refine zP ?_|refine zB fun b=>?_|refine zC fun a' c' hc1 hc2=>?_|(apply GJ.a;exact rfl;intro hg)|(apply GJ.o;exact rfl;intro hg)
    exact Wk.outS Sup.z (.refl _) (hk1 ro2 p hl2 ⟨hf,he,h100⟩ hp hL)
   ·repeat first|exact zE|refine zP ?_|refine zB fun b=>?_|refine zC fun a' c' hc1 hc2=>?_|(apply GJ.a;exact rfl;intro hg)|(apply GJ.o;exact rfl;intro hg)
    exact Wk.outS Sup.z (.refl _) (hk0 ro2 hl2 (fun h=>h100 h.2.2))
  ·obtain ⟨_,rfl⟩:=hP.resolve_right (fun h=>he h.1)
   repeat first|exact zE|refine zP ?_|refine zB fun b=>?_|refine zC fun a' c' hc1 hc2=>?_|(apply GJ.a;exact rfl;intro hg)|(apply GJ.o;exact rfl;intro hg)
   exact Wk.outS Sup.z (.refl _) (hk0 ro2 hl2 (fun h=>he h.2.1))
 ·rw [Bool.not_eq_true] at hf
  rw [hf]
  repeat first|exact zE|refine zP ?_|refine zB fun b=>?_|refine zC fun a' c' hc1 hc2=>?_|(apply GJ.a;exact rfl;intro hg)|(apply GJ.o;exact rfl;intro hg)
  exact Wk.outS Sup.z (.refl _) (hk0 ro (Le.refl _) (fun h=>Bool.noConfusion (hf.symm.trans h.1)))
theorem aof_ok {t:List UInt8} (ht:TabOk ro) (hl:t.length≤1000000) (he:lstE (parseD t).1=0) (hk:∀ ro' p,Le ro ro'→DAt ro' p (autT t)→LeastA (autT t)→K (ptr' p) ro' own):CallOk Tryz.prog 29 #[str t] ro own K:=by
 refine CallOk.intro (args:=[_]) (rs:=[_]) T_ok Tryz.func29 Tryz.call29 rfl rfl (by kernel_rfl) rfl rfl ?_
 repeat first|exact zE|refine zP ?_|refine zB fun b=>?_|refine zC fun a' c' hc1 hc2=>?_|(apply GJ.a;exact rfl;intro hg)|(apply GJ.o;exact rfl;intro hg)
 refine rparse_ok hl (fun ro2 v hl2 hv=>?_)
 have hv0:=hv
 obtain ⟨a1,c1,hvc⟩:=hv.cells
 subst hvc
 have hA:autT t=lstD (parseD t).1:=rfl
 rw [hA] at hk
 generalize parseD t=PT at *
 obtain ⟨n,f⟩:=PT
 dsimp only at *
 have hL:=(lst_least hv0 he).1
 repeat first|exact zE|refine zP ?_|refine zB fun b=>?_|refine zC fun a' c' hc1 hc2=>?_|(apply GJ.a;exact rfl;intro hg)|(apply GJ.o;exact rfl;intro hg)
 refine dof_ok (ht.le hl2) hv0 (fun ro3 P hl3 hP=>?_)
 rw [he]
 obtain ⟨_,p,rfl,hp⟩:=hP.resolve_left (fun h=>h.1 he)
 repeat first|exact zE|refine zP ?_|refine zB fun b=>?_|refine zC fun a' c' hc1 hc2=>?_|(apply GJ.a;exact rfl;intro hg)|(apply GJ.o;exact rfl;intro hg)
 exact Wk.outS Sup.z (.refl _) (hk ro3 p (hl2.trans hl3) hp hL)
theorem awithin_ok {q1 q2:Nat}{A B:DfaA} (h1:DAt ro q1 A) (h2:DAt ro q2 B) (l1:LeastA A) (l2:LeastA B)
  (hk0:∀ ro',Le ro ro'→prodA A B 3=none→K (.tuple #[.slice none 0 0,.bool false,.int .i64 80]) ro' own)
  (hk1:∀ ro' P,Le ro ro'→prodA A B 3=some P→shortA (leastA P)=none→K (.tuple #[.slice none 0 0,.bool true,.int .i64 0]) ro' own)
  (hk2:∀ ro' P a c s,Le ro ro'→prodA A B 3=some P→shortA (leastA P)=some s→s.length≤1024→Rs ro' a s.length c 1 (s.map u8)→K (.tuple #[.slice a s.length c,.bool false,.int .i64 0]) ro' own):CallOk Tryz.prog 23 #[ptr' q1,ptr' q2] ro own K:=by
 refine CallOk.intro (args:=[_,_]) (rs:=[_,_,_]) T_ok Tryz.func23 Tryz.call23 rfl rfl (by kernel_rfl) rfl rfl ?_
 repeat first|exact zE|refine zP ?_|refine zB fun b=>?_|refine zC fun a' c' hc1 hc2=>?_|(apply GJ.a;exact rfl;intro hg)|(apply GJ.o;exact rfl;intro hg)
 refine aprod_ok (how:=3) h1 h2 l1 l2 (.inr (.inr rfl)) (fun ro2 hl2 hn=>?_) (fun ro2 p P hl2 hP hp=>?_)
 ·repeat first|exact zE|refine zP ?_|refine zB fun b=>?_|refine zC fun a' c' hc1 hc2=>?_|(apply GJ.a;exact rfl;intro hg)|(apply GJ.o;exact rfl;intro hg)
  exact Wk.id (hk0 ro2 hl2 hn)
 ·have hL:=(prod_least hP).1
  repeat first|exact zE|refine zP ?_|refine zB fun b=>?_|refine zC fun a' c' hc1 hc2=>?_|(apply GJ.a;exact rfl;intro hg)|(apply GJ.o;exact rfl;intro hg)
  refine ashort_ok hp hL (fun hs=>?_) (fun ro3 a c s hl3 hs h4 hr=>?_)
  ·repeat first|exact zE|refine zP ?_|refine zB fun b=>?_|refine zC fun a' c' hc1 hc2=>?_|(apply GJ.a;exact rfl;intro hg)|(apply GJ.o;exact rfl;intro hg)
   exact Wk.id (hk1 ro2 P hl2 hP hs)
  ·repeat first|exact zE|refine zP ?_|refine zB fun b=>?_|refine zC fun a' c' hc1 hc2=>?_|(apply GJ.a;exact rfl;intro hg)|(apply GJ.o;exact rfl;intro hg)
   exact Wk.id (hk2 ro3 P a c s (hl2.trans hl3) hP hs h4 hr)
theorem aapart_ok {q1 q2:Nat}{A B:DfaA} (h1:DAt ro q1 A) (h2:DAt ro q2 B) (l1:LeastA A) (l2:LeastA B)
  (hk0:∀ ro',Le ro ro'→prodA A B 1=none→K (.tuple #[.bool false,.int .i64 80]) ro' own)
  (hk1:∀ ro' P,Le ro ro'→prodA A B 1=some P→K (.tuple #[.bool (shortA (leastA P)).isNone,.int .i64 0]) ro' own):CallOk Tryz.prog 17 #[ptr' q1,ptr' q2] ro own K:=by
 refine CallOk.intro (args:=[_,_]) (rs:=[_,_]) T_ok Tryz.func17 Tryz.call17 rfl rfl (by kernel_rfl) rfl rfl ?_
 repeat first|exact zE|refine zP ?_|refine zB fun b=>?_|refine zC fun a' c' hc1 hc2=>?_|(apply GJ.a;exact rfl;intro hg)|(apply GJ.o;exact rfl;intro hg)
 refine aprod_ok (how:=1) h1 h2 l1 l2 (.inl rfl) (fun ro2 hl2 hn=>?_) (fun ro2 p P hl2 hP hp=>?_)
 ·repeat first|exact zE|refine zP ?_|refine zB fun b=>?_|refine zC fun a' c' hc1 hc2=>?_|(apply GJ.a;exact rfl;intro hg)|(apply GJ.o;exact rfl;intro hg)
  exact Wk.id (hk0 ro2 hl2 hn)
 ·have hL:=(prod_least hP).1
  repeat first|exact zE|refine zP ?_|refine zB fun b=>?_|refine zC fun a' c' hc1 hc2=>?_|(apply GJ.a;exact rfl;intro hg)|(apply GJ.o;exact rfl;intro hg)
  refine aempty_ok hp hL (fun ro3 hl3=>?_)
  repeat first|exact zE|refine zP ?_|refine zB fun b=>?_|refine zC fun a' c' hc1 hc2=>?_|(apply GJ.a;exact rfl;intro hg)|(apply GJ.o;exact rfl;intro hg)
  exact Wk.id (hk1 ro3 P (hl2.trans hl3) hP)
end
theorem mk_1:(makeN (parseD t1).1).1=0:=by kernel_rfl
theorem mka_1:(makeA (makeN (parseD t1).1).2).1=0:=by kernel_rfl
theorem le_1:lstE (parseD t1).1=0:=by
 unfold lstE
 rw [mk_1,if_neg (by decide)]
 exact mka_1
theorem mk_2:(makeN (parseD t2).1).1=0:=by kernel_rfl
theorem mka_2:(makeA (makeN (parseD t2).1).2).1=0:=by kernel_rfl
theorem le_2:lstE (parseD t2).1=0:=by
 unfold lstE
 rw [mk_2,if_neg (by decide)]
 exact mka_2
theorem mk_3:(makeN (parseD t3).1).1=0:=by kernel_rfl
theorem mka_3:(makeA (makeN (parseD t3).1).2).1=0:=by kernel_rfl
theorem le_3:lstE (parseD t3).1=0:=by
 unfold lstE
 rw [mk_3,if_neg (by decide)]
 exact mka_3
theorem mk_4:(makeN (parseD t4).1).1=0:=by kernel_rfl
theorem mka_4:(makeA (makeN (parseD t4).1).2).1=0:=by kernel_rfl
theorem le_4:lstE (parseD t4).1=0:=by
 unfold lstE
 rw [mk_4,if_neg (by decide)]
 exact mka_4
theorem mk_5:(makeN (parseD t5).1).1=0:=by kernel_rfl
theorem mka_5:(makeA (makeN (parseD t5).1).2).1=0:=by kernel_rfl
theorem le_5:lstE (parseD t5).1=0:=by
 unfold lstE
 rw [mk_5,if_neg (by decide)]
 exact mka_5
theorem mk_6:(makeN (parseD t6).1).1=0:=by kernel_rfl
theorem mka_6:(makeA (makeN (parseD t6).1).2).1=0:=by kernel_rfl
theorem le_6:lstE (parseD t6).1=0:=by
 unfold lstE
 rw [mk_6,if_neg (by decide)]
 exact mka_6
theorem first_c2:(firstA c2).len=3:=by kernel_rfl
section
variable {ro:Ro}{own r:Chs}{K:Value→Ro→Chs→Prop}{g:Chunk→Chs}
theorem map_some {α β:Type}{o:Option α}{f:α→β}{y:β} (h:o.map f=some y):∃ x,o=some x∧f x=y:=by
 cases o with
 | none=>cases h
 | some x=>exact ⟨x,rfl,Option.some.inj h⟩
set_option maxHeartbeats 4000000 in
theorem adecides_ok (ht:TabOk ro) (hk:∀ ro',Le ro ro'→K (.bool true) ro' own):CallOk Tryz.prog 9 #[] ro own K:=by
 obtain ⟨P2,hP2,hS2⟩:=map_some au_2
 obtain ⟨P3,hP3,hS3⟩:=map_some au_3
 obtain ⟨P4,hP4,hS4⟩:=map_some au_4
 refine CallOk.intro (args:=[]) (rs:=[_]) T_ok Tryz.func9 Tryz.call9 rfl rfl (by kernel_rfl) rfl rfl ?_
 repeat first|exact zE|refine zP ?_|refine zB fun b=>?_|refine zC fun a' c' hc1 hc2=>?_|(apply GJ.a;exact rfl;intro hg)|(apply GJ.o;exact rfl;intro hg)
 refine aof_ok (t:=t1) ht (by decide) le_1 (fun r1 p1 hl1 hp1 hL1=>?_)
 rw [aut_1] at hp1 hL1
 have ht1:=ht.le hl1
 repeat first|exact zE|refine zP ?_|refine zB fun b=>?_|refine zC fun a' c' hc1 hc2=>?_|(apply GJ.a;exact rfl;intro hg)|(apply GJ.o;exact rfl;intro hg)
 refine aof_ok (t:=t2) ht1 (by decide) le_2 (fun r2 p2 hl2 hp2 hL2=>?_)
 rw [aut_2] at hp2 hL2
 have ht2:=ht1.le hl2
 have hp1:=hp1.le hl2
 repeat first|exact zE|refine zP ?_|refine zB fun b=>?_|refine zC fun a' c' hc1 hc2=>?_|(apply GJ.a;exact rfl;intro hg)|(apply GJ.o;exact rfl;intro hg)
 refine ashort_ok hp1 hL1 (fun h=>by rw [au_1] at h;cases h) (fun r3 a3 n3 s3 hl3 h3 h34 hr3=>?_)
 rw [au_1] at h3
 cases h3
 have ht3:=ht2.le hl3
 have hp1:=hp1.le hl3
 have hp2:=hp2.le hl3
 repeat first|exact zE|refine zP ?_|refine zB fun b=>?_|refine zC fun a' c' hc1 hc2=>?_|(apply GJ.a;exact rfl;intro hg)|(apply GJ.o;exact rfl;intro hg)
 refine awithin_ok hp1 hp2 hL1 hL2 (fun r4 hl4 h=>by rw [hP2] at h;cases h) (fun r4 P hl4 h hs=>?_) (fun r4 P a c s hl4 h hs=>by rw [hP2] at h;cases h;rw [hS2] at hs;cases hs)
 have ht4:=ht3.le hl4
 have hp1:=hp1.le hl4
 have hp2:=hp2.le hl4
 clear h hs P
 repeat first|exact zE|refine zP ?_|refine zB fun b=>?_|refine zC fun a' c' hc1 hc2=>?_|(apply GJ.a;exact rfl;intro hg)|(apply GJ.o;exact rfl;intro hg)
 refine awithin_ok hp2 hp1 hL2 hL1 (fun r5 hl5 h=>by rw [hP3] at h;cases h) (fun r5 P hl5 h hs=>by rw [hP3] at h;cases h;rw [hS3] at hs;cases hs) (fun r5 P a5 n5 s5 hl5 h hs h54 hr5=>?_)
 rw [hP3] at h
 cases h
 rw [hS3] at hs
 cases hs
 have ht5:=ht4.le hl5
 have hp1:=hp1.le hl5
 have hp2:=hp2.le hl5
 repeat first|exact zE|refine zP ?_|refine zB fun b=>?_|refine zC fun a' c' hc1 hc2=>?_|(apply GJ.a;exact rfl;intro hg)|(apply GJ.o;exact rfl;intro hg)
 refine aof_ok (t:=t3) ht5 (by decide) le_3 (fun r6 p6 hl6 hp6 hL6=>?_)
 rw [aut_3] at hp6 hL6
 have ht6:=ht5.le hl6
 have hp1:=hp1.le hl6
 have hp2:=hp2.le hl6
 repeat first|exact zE|refine zP ?_|refine zB fun b=>?_|refine zC fun a' c' hc1 hc2=>?_|(apply GJ.a;exact rfl;intro hg)|(apply GJ.o;exact rfl;intro hg)
 refine aapart_ok hp1 hp6 hL1 hL6 (fun r7 hl7 h=>by rw [hP4] at h;cases h) (fun r7 P hl7 h=>?_)
 rw [hP4] at h
 cases h
 rw [hS4]
 have ht7:=ht6.le hl7
 have hp1:=hp1.le hl7
 have hp2:=hp2.le hl7
 have hr3:Rs r4 _ _ _ _ _:=Rs.up hr3
 have hr3:Rs r5 _ _ _ _ _:=Rs.up hr3
 have hr3:Rs r6 _ _ _ _ _:=Rs.up hr3
 have hr3:Rs r7 _ _ _ _ _:=Rs.up hr3
 have hr5:Rs r6 _ _ _ _ _:=Rs.up hr5
 have hr5:Rs r7 _ _ _ _ _:=Rs.up hr5
 repeat first|exact zE|refine zP ?_|refine zB fun b=>?_|refine zC fun a' c' hc1 hc2=>?_|(apply GJ.a;exact rfl;intro hg)|(apply GJ.o;exact rfl;intro hg)
 refine apref_ok hp1 hL1 ?_
 rw [au_5]
 repeat first|exact zE|refine zP ?_|refine zB fun b=>?_|refine zC fun a' c' hc1 hc2=>?_|(apply GJ.a;exact rfl;intro hg)|(apply GJ.o;exact rfl;intro hg)
 refine aof_ok (t:=t4) ht7 (by decide) le_4 (fun r8 p8 hl8 hp8 hL8=>?_)
 rw [aut_4] at hp8 hL8
 have ht8:=ht7.le hl8
 have hp1:=hp1.le hl8
 have hp2:=hp2.le hl8
 repeat first|exact zE|refine zP ?_|refine zB fun b=>?_|refine zC fun a' c' hc1 hc2=>?_|(apply GJ.a;exact rfl;intro hg)|(apply GJ.o;exact rfl;intro hg)
 refine apref_ok hp8 hL8 ?_
 rw [au_6]
 repeat first|exact zE|refine zP ?_|refine zB fun b=>?_|refine zC fun a' c' hc1 hc2=>?_|(apply GJ.a;exact rfl;intro hg)|(apply GJ.o;exact rfl;intro hg)
 refine afirst_ok hp2 hL2 ?_
 repeat first|exact zE|refine zP ?_|refine zB fun b=>?_|refine zC fun a' c' hc1 hc2=>?_|(apply GJ.a;exact rfl;intro hg)|(apply GJ.o;exact rfl;intro hg)
 refine len_ok (firstA_ok c2).in' ?_
 rw [first_c2]
 repeat first|exact zE|refine zP ?_|refine zB fun b=>?_|refine zC fun a' c' hc1 hc2=>?_|(apply GJ.a;exact rfl;intro hg)|(apply GJ.o;exact rfl;intro hg)
 refine anull_ok hp1 ?_
 rw [au_7]
 repeat first|exact zE|refine zP ?_|refine zB fun b=>?_|refine zC fun a' c' hc1 hc2=>?_|(apply GJ.a;exact rfl;intro hg)|(apply GJ.o;exact rfl;intro hg)
 refine aof_ok (t:=t5) ht8 (by decide) le_5 (fun r9 p9 hl9 hp9 hL9=>?_)
 rw [aut_5] at hp9 hL9
 have ht9:=ht8.le hl9
 have hp1:=hp1.le hl9
 repeat first|exact zE|refine zP ?_|refine zB fun b=>?_|refine zC fun a' c' hc1 hc2=>?_|(apply GJ.a;exact rfl;intro hg)|(apply GJ.o;exact rfl;intro hg)
 refine aempty_ok hp9 hL9 (fun rA hlA=>?_)
 rw [au_8]
 have ht9:=ht9.le hlA
 have hp1:=hp1.le hlA
 repeat first|exact zE|refine zP ?_|refine zB fun b=>?_|refine zC fun a' c' hc1 hc2=>?_|(apply GJ.a;exact rfl;intro hg)|(apply GJ.o;exact rfl;intro hg)
 refine aof_ok (t:=t6) ht9 (by decide) le_6 (fun rB pB hlB hpB hLB=>?_)
 rw [aut_6] at hpB hLB
 have hp1:=hp1.le hlB
 repeat first|exact zE|refine zP ?_|refine zB fun b=>?_|refine zC fun a' c' hc1 hc2=>?_|(apply GJ.a;exact rfl;intro hg)|(apply GJ.o;exact rfl;intro hg)
 refine along_ok hpB hLB ?_
 rw [au_9]
 repeat first|exact zE|refine zP ?_|refine zB fun b=>?_|refine zC fun a' c' hc1 hc2=>?_|(apply GJ.a;exact rfl;intro hg)|(apply GJ.o;exact rfl;intro hg)
 refine along_ok hp1 hL1 ?_
 rw [au_10]
 repeat first|exact zE|refine zP ?_|refine zB fun b=>?_|refine zC fun a' c' hc1 hc2=>?_|(apply GJ.a;exact rfl;intro hg)|(apply GJ.o;exact rfl;intro hg)
 exact Wk.outS Sup.z (.refl _) (hk rB ((((((((((hl1.trans hl2).trans hl3).trans hl4).trans hl5).trans hl6).trans hl7).trans hl8).trans hl9).trans hlA).trans hlB))
end
end Go.Proofs.YtficlekgjbnniaaGreatDoor
end
