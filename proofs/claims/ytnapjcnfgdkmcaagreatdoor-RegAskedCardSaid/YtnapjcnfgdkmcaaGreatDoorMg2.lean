/- Texts of a walk, one behind the other. -/
import Derived.OpenShut
import Derived.ShutString
import Derived.ChangeOld
import Derived.Below
import Derived.Deep.Matrix
import Derived.Laws.LoneSync
import Derived.Defers
import Derived.KernelRfl
import Derived.Laws.StructEq
import Derived.Laws.Cover3
import Derived.MapKept
import Derived.Lib.Builder
import Derived.Lib.UnsafeStr
import Derived.Lib.AppendStr
import Derived.Test.YtnapjcnfgdkmcaaGreatDoorMg1
set_option linter.unusedVariables false
set_option linter.unusedSimpArgs false
set_option linter.unusedSectionVars false
set_option maxRecDepth 10000
section
namespace Go.E
open Go
section
variable {P:Program}{T:TT}{Q:Exit→Act→World→Prop}{n:Fr}{σ:World}{env:Env}{h:Heap}{ro:Ro}{own:Chs}
theorem Wk.sound {k:Kt}{K:Act→World→Prop}{env:Env}{ro ro0:Ro}{own:Chs} (hw:Wk k env ro own) (hl:Le ro0 ro) (hk:∀ env' ro' own' h',Le ro0 ro'→Le ro ro'→k env' ro' own'→Sat ro' own' h'→N n σ K env' h') {h:Heap} (hs:Sat ro own h):N n σ K env h:=by
 obtain ⟨env',ro',own',h1,h2,h3,h4⟩:=hw.get h hs
 exact N.sub2 h1 (hk env' ro' own' h (hl.trans h2) h2 h4 h3)
theorem Mk.later {f:Bool}{A B:List Deferred}{r1 r2 r3:Ro} (h:Mk f A B r1 r2) (hl:Le r2 r3):Mk f A B r1 r3:=⟨h.no,by
 obtain ⟨ms,e,hn,h1⟩:=h.yes
 exact ⟨ms,e,hn,fun b hb=>⟨(h1 b hb).1,hl.le _ _ (h1 b hb).2⟩⟩⟩
theorem zCo (hT:TOk P T):∀ {c:Code}{k:Exit→Kt}{env:Env}{ro:Ro}{own:Chs},V P T c k env ro own→CodeOk P c k env ro own
 | .skip,k,env,ro,own,hv=>⟨fun n σ Q hok hk h hs=>C.skip (hk .normal env ro own n.D h (Le.refl _) hv hs (Mk.refl _ _ _ _))⟩
 | .region id ops draw,k,env,ro,own,hv=>by
   cases draw with
   | true=>exact Stop.run hv
   | false =>
     refine ⟨fun n σ Q hok hk h hs=>?_⟩
     obtain ⟨l⟩:=ops
     exact C.region (zBs hT hok hv (fun env' ro' own' h' _ hl hk' hs'=>hk .normal env' ro' own' n.D h' hl hk' hs' (Mk.refl _ _ _ _)) hs)
 | .seq a b,k,env,ro,own,hv=>by
   refine ⟨fun n σ Q hok hk h hs=>?_⟩
   simp only [okS,Bool.and_eq_true] at hok
   have hb:∀ env' ro' own' D h',Le ro ro'→V P T b k env' ro' own'→Sat ro' own' h'→Mk (rf a) n.D D ro ro'→N ⟨n.size,D⟩ σ (b.wp P Q) env' h':=fun env' ro' own' D h' hl hv' hs' hm =>
    N.wp ((zCo hT hv').run ⟨n.size,D⟩ σ Q hok.2 (fun e env2 ro2 own2 D2 h2 hl2 hk2 hs2 hm2=>hk e env2 ro2 own2 D2 h2 (hl.trans hl2) hk2 hs2 (Mk.trans hm hm2 hl hl2)) h' hs')
   have ha:∀ J:Kt,V P T a (fun e=>match e with|.normal=>J|e=>k e) env ro own→(∀ env' ro' own' D h',Le ro ro'→J env' ro' own'→Sat ro' own' h'→Mk (rf a) n.D D ro ro'→N ⟨n.size,D⟩ σ (b.wp P Q) env' h')→C P Q n σ (.seq a b) env h:=fun J hv' hJ =>
    C.seq ((zCo hT hv').run n σ _ hok.1 (fun e env2 ro2 own2 D2 h2 hl2 hk2 hs2 hm2=>by
     have hm3:Mk (rf (.seq a b)) n.D D2 ro ro2:=hm2.weak (fun e=>by simp only [rf,Bool.or_eq_false_iff] at e;exact e.1)
     cases e<;>first|exact N.then_normal (hJ env2 ro2 own2 D2 h2 hl2 hk2 hs2 hm2)|exact hk _ env2 ro2 own2 D2 h2 hl2 hk2 hs2 hm3) h hs)
   replace hv:vSeq a (V P T a) (V P T b) k env ro own:=hv
   unfold vSeq at hv
   cases hj:joins a<;>simp only [hj] at hv
   rotate_left
   ·rcases hv.run with h1|⟨E,O,I,h1,h2⟩
    ·exact ha _ h1 hb
    ·exact ha _ h1 (fun env' ro' own' D h' hl hw hs' hm=>hw.sound hl (fun env2 ro2 own2 h2' hl2 hl3 ⟨i,hI,hsub,hsup⟩ hs2=>N.sub2 hsub.to2 (hb _ ro2 _ D h2' hl2 (h2 i ro2 hl2 hI) (hs2.sup hsup) (hm.later hl3))) hs')
   ·exact ha _ hv hb
 | .cond c a b,k,env,ro,own,hv=>by
   refine ⟨fun n σ Q hok hk h hs=>?_⟩
   simp only [okS,Bool.and_eq_true] at hok
   replace hv:vCond c (V P T a) (V P T b) k env ro own:=hv
   unfold vCond at hv
   split at hv
   ·rename_i v hx
    obtain ⟨h1,h2⟩:=hv.run
    exact C.cond hx (fun e=>(zCo hT (h1 e)).run n σ Q hok.1 (fun e env2 ro2 own2 D2 h2 hl2 hk2 hs2 hm2=>hk e env2 ro2 own2 D2 h2 hl2 hk2 hs2 (hm2.weak (fun e=>by simp only [rf,Bool.or_eq_false_iff] at e;exact e.1))) h hs)
     (fun e=>(zCo hT (h2 e)).run n σ Q hok.2 (fun e env2 ro2 own2 D2 h2 hl2 hk2 hs2 hm2=>hk e env2 ro2 own2 D2 h2 hl2 hk2 hs2 (hm2.weak (fun e=>by simp only [rf,Bool.or_eq_false_iff] at e;exact e.2))) h hs)
   ·exact hv.elim
 | .block id a,k,env,ro,own,hv=>by
   refine ⟨fun n σ Q hok hk h hs=>?_⟩
   replace hv:zGX id (V P T a) k env ro own:=hv
   unfold zGX at hv
   refine C.block ((zCo hT hv).run n σ _ hok (fun e env2 ro2 own2 D2 h2 hl2 hk2 hs2 hm2=>?_) h hs)
   have hm3:Mk (rf (.block id a)) n.D D2 ro ro2:=hm2
   cases e with
   | exit j =>
     cases hj:Nat.beq j id with
     | true =>
       have:=Nat.eq_of_beq_eq_true hj
       subst this
       simp only [hj,cond_true] at hk2
       exact N.block_same (hk _ env2 ro2 own2 D2 h2 hl2 hk2 hs2 hm3)
     | false =>
       simp only [hj,cond_false] at hk2
       exact N.block_other hj (hk _ env2 ro2 own2 D2 h2 hl2 hk2 hs2 hm3)
   | _=>exact hk _ env2 ro2 own2 D2 h2 hl2 hk2 hs2 hm3
 | .loop a,k,env,ro,own,hv=>by
   refine ⟨fun n σ Q hok hk h hs=>?_⟩
   replace hv:vLoop a (V P T a) k env ro own:=hv
   unfold vLoop at hv
   obtain ⟨E,O,I,μ,init,round⟩:=hv.run
   obtain ⟨env0,ro0,own0,he,hl0,hs0,i0,hI0,hsub0,hsup0⟩:=init.get h hs
   refine C.sub2 he (C.loop (n:=fun p=>(⟨n.size,p.2⟩:Fr)) (f:=fun p=>E p.1) (fun p h'=>∃ ro',Le ro ro'∧I p.1 ro'∧Sat ro' (O p.1) h'∧Mk (rf a) n.D p.2 ro ro') (fun p=>μ p.1) (i0,n.D) ⟨ro0,hl0,hI0,hs0.sup hsup0,Mk.refl _ _ _ _⟩ hsub0 ?_)
   rintro ⟨i,D⟩ h' ⟨ro',hl,hI,hs',hm⟩
   refine (zCo hT (round i ro' hl hI)).run ⟨n.size,D⟩ σ _ hok (fun e env2 ro2 own2 D2 h2 hl2 hk2 hs2 hm2=>?_) h' hs'
   have hm3:Mk (rf a) n.D D2 ro ro2:=(Mk.trans hm hm2 hl hl2).weak (fun e=>by simp [e])
   have hm4:Mk (rf (.loop a)) n.D D2 ro ro2:=hm3
   cases e with
   | normal =>
     exact N.then_normal (Wk.sound hk2 hl2 (fun env3 ro3 own3 h3 hl3 hl4 ⟨j,hI3,hμ,hsub,hsup⟩ hs3=>N.round (n:=fun p=>(⟨n.size,p.2⟩:Fr)) (j,D2) ⟨ro3,hl.trans hl3,hI3,hs3.sup hsup,hm3.later hl4⟩ hμ hsub) hs2)
   | _=>exact hk _ env2 ro2 own2 D2 h2 (hl.trans hl2) hk2 hs2 hm4
 | .exit id,k,env,ro,own,hv=>⟨fun n σ Q hok hk h hs=>C.exit (hk _ env ro own n.D h (Le.refl _) hv hs (Mk.refl _ _ _ _))⟩
 | .ret,k,env,ro,own,hv=>⟨fun n σ Q hok hk h hs=>C.ret (hk _ env ro own n.D h (Le.refl _) hv hs (Mk.refl _ _ _ _))⟩
 | .label _,k,env,ro,own,hv=>⟨fun n σ Q hok hk h hs=>C.label (hk _ env ro own n.D h (Le.refl _) hv hs (Mk.refl _ _ _ _))⟩
 | .rangeFunc f p x y,k,env,ro,own,hv=>Stop.run hv
 | .scope x,k,env,ro,own,hv=>Stop.run hv
 | .goto x,k,env,ro,own,hv=>Stop.run hv
 | .refuse x,k,env,ro,own,hv=>Stop.run hv
theorem zGx {t:Nat}{r:List ResultVar}{vs:List Value} (h:zEB env (.tmp t::r)=some vs):∃ v vs',vs=v::vs'∧look env t=some v∧zEB env r=some vs':=by
 unfold zEB at h
 split at h
 ·cases h;exact ⟨_,_,rfl,by assumption,by assumption⟩
 ·cases h
def fewC (_:List ResultVar):Bool:=true
theorem tup_eq (vs:List Value):(if h:vs.toArray.size=1 then vs.toArray[0] else .tuple vs.toArray)=tup vs:=by
 match vs with
 | []=>rfl
 | [v]=>rfl
 | v::u::r=>simp [tup]
theorem RV.of:∀ {rs:List ResultVar}{vs:List Value},zEB env rs=some vs→RV P env h rs vs
 | [],vs,hv=>by simp [zEB] at hv;subst hv;exact .nil
 | .tmp t::r,vs,hv=>by
   obtain ⟨v,vs',rfl,h1,h2⟩:=zGx hv
   exact .tmp h1 (RV.of h2)
 | .cell _ _::r,vs,hv=>by simp [zEB] at hv
def zDY (tmps:Array Value):ResultVar→Sem Value
 | .tmp t=>pure (tmps.getD t undef)
 | .cell x t=>do loadVar t (←asAddr (tmps.getD x undef))
theorem RV.run {rs:List ResultVar}{vs:List Value}{h:Heap}{a:Act}{w:World} (hv:RV P env h rs vs) (hf:Fits n env a) (hw:w.heap=h) :
  (rs.mapM (zDY a.tmps)).run P w=.ok vs w:=by
 induction hv with
 | nil=>simp
 | @tmp t v r vs hv hr ih =>
   have e:(zDY a.tmps (.tmp t)).run P w=.ok v w:=by have:=hf.get t v hv;simp [zDY,Array.getD_eq_getD_getElem?,this]
   rw [List.mapM_cons]
   simp only [Sem.run_bind,e,Result.andThen_ok,ih,Sem.run_pure]
 | @cell t ty b o v r vs hx hv hr ih =>
   have e:(zDY a.tmps (.cell t ty)).run P w=.ok v w:=by have:=hf.get t _ hx;simp [zDY,Array.getD_eq_getD_getElem?,this,asAddr,hv w hw,Result.andThen]
   rw [List.mapM_cons]
   simp only [Sem.run_bind,e,Result.andThen_ok,ih,Sem.run_pure]
theorem N.retCells {fn:Func}{Φ:Value→Heap→Prop}{rs:List ResultVar}{vs:List Value} (hD:n.D=[]) (hr:fn.results=rs.toArray) (hv:RV P env h rs vs) (hΦ:Φ (tup vs) h):N n σ (bodyPost P fn (Ret σ Φ) .ret) env h :=
 fun a w hf hw=>⟨hf.defers.trans hD,tup vs,by
  have:=hv.run hf hw.heap
  have e:results fn a.tmps=(do let vs ←fn.results.mapM (zDY a.tmps);pure (if h:vs.size=1 then vs[0] else .tuple vs)):=rfl
  rw [e,hr,List.mapM_toArray]
  simp only [bind_map_left,Sem.run_bind,this,Result.andThen_ok,Sem.run_pure,tup_eq],tup vs,rfl,hw.heap▸hw,hw.heap▸hΦ⟩
def okF (n:Nat) (c:Code):Bool:=okS n c&&!rf c
theorem okF_ok {n:Nat}{c:Code} (h:okF n c=true):okS n c=true:=by unfold okF at h;simp only [Bool.and_eq_true] at h;exact h.1
theorem okF_rf {n:Nat}{c:Code} (h:okF n c=true):rf c=false:=by unfold okF at h;simp at h;exact h.2
theorem CallOk.intro {f:FuncId}{fn:Func}{c:Code}{args:List Value}{rs:List ResultVar}{Φ:Value→Ro→Chs→Prop} (hT:TOk P T) (hf:P.funcs[f]?=some fn) (he:∀ args w,(callFunc f args).run P w=.ok (.enter f args) w) (hb:fn.body=some c) (hr:fn.results=rs.toArray)
  (hn:okF fn.ntmps c=true) (hw:fewC rs=true) (hl:Nat.ble args.length fn.ntmps=true) (k:V P T c (retK P rs Φ) (zDI 0 args) ro own):CallOk P f args.toArray ro own Φ :=
 CallOk.body he fun h hs=>Meets.intro hf hb rfl hl fun σ=>(zCo hT k).run ⟨fn.ntmps,[]⟩ σ _ (okF_ok hn) (fun e env' ro' own' D h' hl hk hs' hm=>by
  have hD:D=[]:=hm.no (okF_rf hn)
  subst hD
  cases e with
  | ret =>
    simp only [retK] at hk
    split at hk
    ·rename_i vs hv
     obtain ⟨e1,ro2,own2,h1,h2,h3,h4⟩:=hk.run.get h' hs'
     exact N.retCells rfl hr (RV.of hv) ⟨ro2,own2,hl.trans h2,h3,h4⟩
    ·obtain ⟨vs,hv,hwk⟩:=hk.run.run
     obtain ⟨e1,ro2,own2,h1,h2,h3,h4⟩:=hwk.get h' hs'
     exact N.retCells rfl hr (hv h' hs') ⟨ro2,own2,hl.trans h2,h3,h4⟩
  | normal =>
    simp only [retK] at hk
    split at hk
    ·obtain ⟨e1,ro2,own2,h1,h2,h3,h4⟩:=hk.run.get h' hs'
     exact N.end0 rfl hr ⟨ro2,own2,hl.trans h2,h3,h4⟩
    ·exact hk.elim
  | _=>exact hk.elim) h hs
end
end Go.E
namespace Go.E
open Go
class TTab (P:Program) (T:outParam TT):Prop where
 ok:TOk P T
def zB6 (T:TT) (t:TypeId):Option (TypeId × Nat):=match T.get t with
 | some ⟨.slice e,_,_⟩=>match T.get e with
   | some ⟨_,s,zs⟩=>bif Nat.blt 0 s&&Nat.beq zs.length s then some (e,s) else none
   | none=>none
 | _=>none
def elemA (T:TT) (t:TypeId):Option (Nat × Nat):=match T.get t with
 | some ⟨.arr n e,_,_⟩=>match T.get e with
   | some ⟨_,s,_⟩=>some (n,s)
   | none=>none
 | _=>none
def oneT (T:TT) (t:TypeId):Bool:=match T.get t with
 | some ⟨u,1,_⟩=>!u.row
 | _=>false
def zIl (T:TT) (t:TypeId):Bool:=match T.get t with
 | some ⟨_,1,_⟩=>true
 | _=>false
def rowT (T:TT) (t:TypeId):Option Nat:=match T.get t with
 | some ⟨u,s,_⟩=>bif u.row then some s else none
 | none=>none
def zeroT (T:TT) (t:TypeId):Option (List Value):=match T.get t with
 | some ⟨_,_,z⟩=>some z
 | none=>none
def zero1 (T:TT) (t:TypeId):Option (TypeId × Value):=match T.get t with
 | some ⟨.slice e,_,_⟩=>match T.get e with
   | some ⟨_,1,[z]⟩=>bif z.oneCell' then some (e,z) else none
   | _=>none
 | _=>none
theorem zAP {T:TT}{t e s:Nat} (h:zB6 T t=some (e,s)):∃ z1 z2 te,T.get t=some ⟨.slice e,z1,z2⟩∧T.get e=some te∧te.size=s∧te.zero.length=s∧0<s:=by
 unfold zB6 at h
 split at h
 ·split at h
  ·rename_i u s' zs he
   cases hb:(Nat.blt 0 s'&&Nat.beq zs.length s') with
   | false=>simp [hb] at h
   | true =>
     simp only [hb,cond_true,Option.some.injEq,Prod.mk.injEq] at h
     obtain ⟨rfl,rfl⟩:=h
     simp only [Bool.and_eq_true] at hb
     exact ⟨_,_,_,by assumption,he,rfl,Nat.eq_of_beq_eq_true hb.2,Nat.lt_of_lt_of_le Nat.zero_lt_one (by simpa [Nat.blt] using hb.1)⟩
  ·cases h
 ·cases h
theorem zEh {T:TT}{t n s:Nat} (h:elemA T t=some (n,s)):∃ e z1 z2 te,T.get t=some ⟨.arr n e,z1,z2⟩∧T.get e=some te∧te.size=s:=by
 unfold elemA at h
 split at h
 ·split at h
  ·cases h;exact ⟨_,_,_,_,by assumption,by assumption,rfl⟩
  ·cases h
 ·cases h
theorem zGN {T:TT}{t:Nat} (h:zIl T t=true):∃ ti,T.get t=some ti∧ti.size=1:=by
 unfold zIl at h
 split at h
 ·exact ⟨_,by assumption,rfl⟩
 ·cases h
theorem zD2 {T:TT}{t:Nat} (h:oneT T t=true):∃ ti,T.get t=some ti∧ti.size=1∧ti.u.row=false:=by
 unfold oneT at h
 split at h
 ·exact ⟨_,by assumption,rfl,by simpa using h⟩
 ·cases h
theorem zCC {T:TT}{t s:Nat} (h:rowT T t=some s):∃ ti,T.get t=some ti∧ti.size=s∧ti.u.row=true:=by
 unfold rowT at h
 split at h
 ·rename_i u s' z ht
  cases hr:u.row<;>simp [hr] at h
  subst h;exact ⟨_,ht,rfl,hr⟩
 ·cases h
theorem zGo {T:TT}{t:Nat}{z:List Value} (h:zeroT T t=some z):∃ ti,T.get t=some ti∧ti.zero=z:=by
 unfold zeroT at h
 split at h
 ·cases h;exact ⟨_,by assumption,rfl⟩
 ·cases h
theorem zGp {T:TT}{t e:Nat}{z:Value} (h:zero1 T t=some (e,z)):∃ z1 z2 u,T.get t=some ⟨.slice e,z1,z2⟩∧T.get e=some ⟨u,1,[z]⟩∧z.oneCell'=true:=by
 unfold zero1 at h
 split at h
 ·split at h
  ·rename_i z' he
   cases hz:z'.oneCell'<;>simp [hz] at h
   obtain ⟨rfl,rfl⟩:=h
   exact ⟨_,_,_,by assumption,he,hz⟩
  ·cases h
 ·cases h
class inductive Suf:Chs→Chs→Prop where
 | refl (l:Chs):Suf l l
 | cons (c:Chunk) {l o:Chs} (h:Suf l o):Suf (c::l) o
instance Suf.step (c:Chunk) (l o:Chs) [h:Suf l o]:Suf (c::l) o:=.cons c h
instance Suf.here (l:Chs):Suf l l:=.refl l
theorem Sat.suf {ro:Ro}{own own':Chs}{h:Heap} (hs:Sat ro own h) (hp:Suf own own'):Sat ro own' h:=by
 induction hp with
 | refl l=>exact hs
 | cons c h ih=>exact ih hs.drop
theorem Sat.leq {ro ro':Ro}{own:Chs}{h:Heap} (hs:Sat ro' own h) (hl:Leq ro ro'):Sat ro own h :=
 ⟨fun b o hb=>hs.last b o (hl.le b o hb),hs.parts,hs.nd,fun c hc b hb=>by
  cases hr:ro b with
  | none=>rfl
  | some o=>have:=hl.le b o hr;rw [hs.ap c hc b hb] at this;cases this⟩
def ab:Option Addr→Nat
 | some a=>a.block|none=>0
def ao:Option Addr→Nat
 | some a=>a.off|none=>0
structure Rds (ro:Ro) (own:Chs) (a:Option Addr) (n c s:Nat) (cs:List Value):Prop where
 run:∀ h,Sat ro own h→Rd h (.slice a n c) n cs
 len:cs.length=n*s
 le:n≤c
 max:c≤maxLen
theorem Rds.up {ro ro':Ro}{own own':Chs}{a:Option Addr}{n c s:Nat}{cs:List Value} (hr:Rds ro own a n c s cs) [hl:Leq ro ro'] [hp:Suf own' own]:Rds ro' own' a n c s cs :=
 ⟨fun h hs=>hr.run h ((hs.leq hl).suf hp),hr.len,hr.le,hr.max⟩
theorem Rds.nil (ro:Ro) (own:Chs) (s:Nat):Rds ro own none 0 0 s []:=⟨fun h _=>Rd.nil h,by simp,Nat.le_refl _,Nat.zero_le _⟩
theorem Chunk.own {h:Heap}{a:Option Addr}{n c s:Nat}{t:TypeId}{cs:List Value} (hc:(Chunk.sl a n c t s cs).holds (hm h)):Own h 0 t s (.slice a n c) n cs:=by
 obtain ⟨h1,h2,h3,h4⟩:=hc
 refine ⟨h1,?_⟩
 rcases h4 with ⟨rfl,rfl,rfl⟩|⟨b,sp,rfl,h5,h6⟩
 ·exact .inl ⟨rfl,rfl⟩
 ·exact .inr ⟨b,c,(cs++sp).toArray,rfl,Nat.zero_le _,h5,h2,h3,by simpa using h6,by simp [←h1]⟩
theorem Chunk.ofOwn {h:Heap}{base:Nat}{v:Value}{n s:Nat}{t:TypeId}{cs:List Value} (ho:Own h base t s v n cs):∃ a c,v=.slice a n c∧(Chunk.sl a n c t s cs).holds (hm h):=by
 rcases ho.2 with ⟨rfl,rfl⟩|⟨g,cap,cur,rfl,hb,hg,h1,h2,h3,h4⟩
 ·exact ⟨none,0,rfl,ho.1,Nat.le_refl _,Nat.zero_le _,.inl ⟨rfl,rfl,rfl⟩⟩
 ·refine ⟨_,cap,rfl,ho.1,h1,h2,.inr ⟨g,cur.toList.drop (n*s),rfl,?_,?_⟩⟩
  ·unfold RowR hm
   rw [←h4,List.take_append_drop]
   simpa using hg
  ·rw [ho.1,List.length_drop,Array.length_toList,h3]
   have:=Nat.mul_le_mul_right s h1
   omega
def Ld (ro:Ro) (own:Chs) (b o:Nat) (v:Value):Prop:=∀ h,Sat ro own h→zB7 h b o=some v
theorem Rd.cell {h:Heap}{a:Option Addr}{n c:Nat}{cs:List Value}{k:Nat}{v:Value} (hr:Rd h (.slice a n c) n cs) (hv:cs[k]?=some v):zB7 h (ab a) (ao a+k)=some v:=by
 rcases hr with ⟨_,rfl,_⟩|⟨_,b,o,cap,hv',_,_,_,hc⟩
 ·simp at hv
 ·cases hv';exact hc k v hv
theorem Ld.rds {ro ro':Ro}{own own':Chs}{a:Option Addr}{n c s:Nat}{cs:List Value}{k:Nat}{v:Value} (hr:Rds ro own a n c s cs) [hl:Leq ro ro'] [hp:Suf own' own] (hv:cs[k]?=some v):Ld ro' own' (ab a) (ao a+k) v:=fun h hs =>
 (hr.run h ((hs.leq hl).suf hp)).cell hv
def LdN (ro:Ro) (own:Chs) (b o:Nat) (cs:List Value):Prop:=∀ h,Sat ro own h→Cells h b o cs
theorem LdN.part {ro:Ro}{own:Chs}{b o:Nat}{cs:List Value} (k z:Nat) (hc:LdN ro own b o cs):LdN ro own b (o+k) ((cs.drop k).take z):=fun h hs j v hv=>by
 rw [List.getElem?_take] at hv
 split at hv
 ·rw [List.getElem?_drop] at hv
  have:=hc h hs (k+j) v hv
  rwa [←Nat.add_assoc] at this
 ·cases hv
theorem LdN.rds {ro ro':Ro}{own own':Chs}{a:Option Addr}{n c s:Nat}{cs:List Value}{k z:Nat} (hr:Rds ro own a n c s cs) [hl:Leq ro ro'] [hp:Suf own' own]:LdN ro' own' (ab a) (ao a+k) ((cs.drop k).take z):=fun h hs j v hv=>by
 rw [List.getElem?_take] at hv
 split at hv
 ·rw [List.getElem?_drop] at hv
  have:=(hr.run h ((hs.leq hl).suf hp)).cell hv
  rwa [←Nat.add_assoc] at this
 ·cases hv
def AOk (ro:Ro) (own:Chs) (a:Option Addr) (n:Nat):Prop:=∀ h,Sat ro own h→0<n→∃ b o,a=some ⟨b,o,none⟩
theorem AOk.of {h:Heap}{a:Option Addr}{n c:Nat}{cs:List Value} (hr:Rd h (.slice a n c) n cs) (hn:0<n):∃ b o,a=some ⟨b,o,none⟩:=by
 obtain ⟨b,o,_,hv,_⟩:=hr.posn hn
 cases hv;exact ⟨b,o,rfl⟩
theorem AOk.rds {ro ro':Ro}{own own':Chs}{a:Option Addr}{n c s:Nat}{cs:List Value} (hr:Rds ro own a n c s cs) [hl:Leq ro ro'] [hp:Suf own' own]:AOk ro' own' a n:=fun h hs hn=>AOk.of (hr.run h ((hs.leq hl).suf hp)) hn
inductive Repl:Chs→Chunk→Chunk→Chs→Prop where
 | hit (c c':Chunk) (r:Chs):Repl (c::r) c c' (c'::r)
 | miss (x:Chunk) {r:Chs}{c c':Chunk}{r':Chs} (h:Repl r c c' r'):Repl (x::r) c c' (x::r')
theorem Repl.perm {l:Chs}{c c':Chunk}{l':Chs} (h:Repl l c c' l'):∃ r,l.Perm (c::r)∧l'.Perm (c'::r):=by
 induction h with
 | hit c c' r=>exact ⟨r,.refl _,.refl _⟩
 | miss x h ih =>
   obtain ⟨r,h1,h2⟩:=ih
   exact ⟨x::r,(h1.cons x).trans (.swap _ _ _),(h2.cons x).trans (.swap _ _ _)⟩
inductive SetR:List Value→Nat→Value→List Value→Prop where
 | hit (x:Value) (r:List Value) (v:Value):SetR (x::r) 0 v (v::r)
 | miss (x:Value) {r:List Value}{k:Nat}{v:Value}{r':List Value} (h:SetR r k v r'):SetR (x::r) (k+1) v (x::r')
theorem SetR.spec {l:List Value}{k:Nat}{v:Value}{l':List Value} (h:SetR l k v l'):l'=l.set k v∧k<l.length:=by
 induction h with
 | hit x r v=>simp
 | miss x h ih=>obtain ⟨rfl,h2⟩:=ih;simp [h2]
class HasBlk (l:Chs) (b:Nat) (t:outParam TypeId) (cs:outParam (List Value)) (f:outParam (Chunk→Chs)):Prop where
 repl:∀ x,Repl l (.blk b t cs) x (f x)
instance HasBlk.miss (y:Chunk) (l:Chs) (b:Nat) (t:TypeId) (cs:List Value) (f:Chunk→Chs) [h:HasBlk l b t cs f]:HasBlk (y::l) b t cs (fun x=>y::f x):=⟨fun x=>.miss y (h.repl x)⟩
instance HasBlk.hit (b:Nat) (t:TypeId) (cs:List Value) (r:Chs):HasBlk (.blk b t cs::r) b t cs (fun x=>x::r):=⟨fun x=>.hit _ x r⟩
class HasSl (l:Chs) (a:Option Addr) (n c:outParam Nat) (t:outParam TypeId) (s:outParam Nat) (cs:outParam (List Value)) (f:outParam (Chunk→Chs)):Prop where
 repl:∀ x,Repl l (.sl a n c t s cs) x (f x)
instance HasSl.miss (y:Chunk) (l:Chs) (a:Option Addr) (n c:Nat) (t:TypeId) (s:Nat) (cs:List Value) (f:Chunk→Chs) [h:HasSl l a n c t s cs f]:HasSl (y::l) a n c t s cs (fun x=>y::f x):=⟨fun x=>.miss y (h.repl x)⟩
instance HasSl.hit (a:Option Addr) (n c:Nat) (t:TypeId) (s:Nat) (cs:List Value) (r:Chs):HasSl (.sl a n c t s cs::r) a n c t s cs (fun x=>x::r):=⟨fun x=>.hit _ x r⟩
theorem Repl.get {ro:Ro}{own own':Chs}{c x:Chunk}{h:Heap} (hr:Repl own c x own') (hs:Sat ro own h):c.holds (hm h):=by
 obtain ⟨r,p1,_⟩:=hr.perm
 exact (hs.perm p1).cons.1
theorem LdN.hasBlk {ro:Ro}{own:Chs}{b:Nat}{t:TypeId}{cs:List Value}{f:Chunk→Chs} [hb:HasBlk own b t cs f]:LdN ro own b 0 cs:=fun h hs=>Row.cells (h:=h) (t:=t) ((hb.repl (.obj 0 default)).get hs)
theorem Ld.hasBlk {ro:Ro}{own:Chs}{b o:Nat}{t:TypeId}{cs:List Value}{f:Chunk→Chs}{v:Value} [hb:HasBlk own b t cs f] (hv:nthV cs o=some v):Ld ro own b o v:=fun h hs=>Row.cell (h:=h) (t:=t) ((hb.repl (.obj 0 default)).get hs) (zCa hv)
theorem Ld.hasSl {ro:Ro}{own:Chs}{a:Option Addr}{n c s:Nat}{t:TypeId}{cs:List Value}{f:Chunk→Chs}{k:Nat}{v:Value} [hb:HasSl own a n c t s cs f] (hv:cs[k]?=some v):Ld ro own (ab a) (ao a+k) v:=fun h hs =>
 (Chunk.own ((hb.repl (.obj 0 default)).get hs)).rd.cell hv
theorem AOk.hasSl {ro:Ro}{own:Chs}{a:Option Addr}{n c s:Nat}{t:TypeId}{cs:List Value}{f:Chunk→Chs} [hb:HasSl own a n c t s cs f]:AOk ro own a n:=fun h hs hn=>AOk.of (Chunk.own ((hb.repl (.obj 0 default)).get hs)).rd hn
theorem zEf {α:Type} [Inhabited α] {f:α→Value}{l:List α}{k:Nat} (hk:k<l.length):(l.map f)[k]?=some (f l[k]!):=by
 rw [List.getElem?_map,List.getElem?_eq_getElem hk,List.getElem!_eq_getElem?_getD,List.getElem?_eq_getElem hk];rfl
theorem Rds.hasSl {ro:Ro}{own:Chs}{a:Option Addr}{n c s:Nat}{t:TypeId}{cs:List Value}{f:Chunk→Chs} [hb:HasSl own a n c t s cs f] (hl:n≤c) (hm:c≤maxLen) (hn:cs.length=n*s):Rds ro own a n c s cs :=
 ⟨fun h hs=>(Chunk.own ((hb.repl (.obj 0 default)).get hs)).rd,hn,hl,hm⟩
section
variable {P:Program}{T:TT} [hT:TTab P T] {ty:TypeId}{env:Env}{ro:Ro}{own:Chs}{K:Value→Ro→Chs→Prop}
theorem OpOk.pu {op:Op}{v:Value} (hp:∀ h,Sat ro own h→∀ d pos af g,Pu P ⟨d,op,ty,pos,af,g⟩ env h v) (hk:K v ro own):OpOk P op ty env ro own K :=
 ⟨fun h hs d pos af g=>⟨fun ρ w hρ hw=>⟨v,w,.inl ((hp h hs d pos af g).run ρ w hρ hw),Hp.self w,ro,own,Le.refl _,by rw [hw];exact hs,hk⟩⟩⟩
theorem Eff.mono {o:Oper}{h:Heap}{Φ Ψ:Value→Heap→Prop} (he:Eff P o env h Φ) (hi:∀ v h',Φ v h'→Ψ v h'):Eff P o env h Ψ :=
 ⟨fun ρ w hρ hw=>by obtain ⟨v,w',h1,h2,h3⟩:=he.run ρ w hρ hw;exact ⟨v,w',h1,h2,hi _ _ h3⟩⟩
theorem c1sz {t:TypeId} (h:zIl T t=true):(P.info? t).map (·.size)=some 1:=by
 obtain ⟨ti,h1,h2⟩:=zGN h
 rw [hT.ok.sz h1,h2]
theorem rsz {t z:Nat} (h:rowT T t=some z):(P.info? t).map (·.size)=some z:=by
 obtain ⟨ti,h1,h2,_⟩:=zCC h
 rw [hT.ok.sz h1,h2]
theorem OpOk.load {t:TypeId}{x:Operand}{b o:Nat}{v:Value} (hx:ev env x=some (.pointer (some ⟨b,o,none⟩))) (ht:oneT T t=true) (hl:Ld ro own b o v) (hk:K v ro own) :
  OpOk P (.load t x) ty env ro own K:=by
 have h00:=zD2 ht
 clear ht
 obtain ⟨ti,ht,_,hr⟩:=h00
 obtain ⟨du,h1,h2⟩:=hT.ok.row ht
 exact OpOk.pu (fun h hs d pos af g=>Pu.load hx h1 (h2.trans hr) (hl h hs)) hk
theorem OpOk.loadRow {t:TypeId}{x:Operand}{b o:Nat}{cs:List Value}{z:Nat} (hx:ev env x=some (.pointer (some ⟨b,o,none⟩))) (ht:rowT T t=some z) (hl:LdN ro own b o cs) (hn:cs.length=z) (hk:K (.agg cs.toArray) ro own) :
  OpOk P (.load t x) ty env ro own K:=by
 have h00:=zCC ht
 clear ht
 obtain ⟨ti,ht,rfl,hr⟩:=h00
 obtain ⟨du,h1,h2⟩:=hT.ok.row ht
 exact OpOk.pu (fun h hs d pos af g=>Pu.loadRow hx h1 (h2.trans hr) ((hT.ok.sz ht).trans (by rw [hn])) (hl h hs)) hk
theorem OpOk.idx {t e:TypeId}{x ix:Operand}{a:Option Addr}{n c:Nat}{k:IntKind}{i:Int}{s:Nat} (hx:ev env x=some (.slice a n c)) (hi:ev env ix=some (.int k i)) (ht:zB6 T t=some (e,s))
  (hb:0≤i∧i<n) (ha:AOk ro own a n) (hk:K (.pointer (some ⟨ab a,ao a+i.toNat*s,none⟩)) ro own):OpOk P (.indexAddr t x ix) ty env ro own K:=by
 have h00:=zAP ht
 clear ht
 obtain ⟨z1,z2,te,ht,he,rfl,_,_⟩:=h00
 exact OpOk.pu (fun h hs d pos af g=>by
  obtain ⟨b,o,rfl⟩:=ha h hs (by omega)
  exact Pu.idx hx hi (hT.ok.slice ht) (hT.ok.sz he) hb) hk
theorem OpOk.idx1 {t e:TypeId}{x ix:Operand}{a:Option Addr}{n c:Nat}{k:IntKind}{i:Int} (hx:ev env x=some (.slice a n c)) (hi:ev env ix=some (.int k i)) (ht:zB6 T t=some (e,1))
  (hb:0≤i∧i<n) (ha:AOk ro own a n) (hk:K (.pointer (some ⟨ab a,ao a+i.toNat,none⟩)) ro own):OpOk P (.indexAddr t x ix) ty env ro own K :=
 OpOk.idx hx hi ht hb ha (by simpa using hk)
theorem OpOk.idxA {t:TypeId}{x ix:Operand}{b o n:Nat}{k:IntKind}{i:Int}{s:Nat} (hx:ev env x=some (.pointer (some ⟨b,o,none⟩))) (hi:ev env ix=some (.int k i)) (hm:elemA T t=some (n,s))
  (hb:0≤i∧i<n) (hk:K (.pointer (some ⟨b,o+i.toNat*s,none⟩)) ro own):OpOk P (.indexAddr t x ix) ty env ro own K:=by
 have h00:=zEh hm
 clear hm
 obtain ⟨e,z3,z4,te,hm,he,rfl⟩:=h00
 exact OpOk.pu (fun h hs d pos af g=>.mk fun ρ w hρ _=>by
  simp [execOp,hρ _ _ hx,hρ _ _ hi,Instr.indexAt,asIntOf,run_underlying (hT.ok.arr hm),zA7 (hT.ok.sz he),hb.1,hb.2,Addr.add_mid,Instr.sureAddr]) hk
theorem OpOk.store {t:TypeId}{x y:Operand}{b o:Nat}{v:Value}{t0:TypeId}{cs cs':List Value}{f:Chunk→Chs} (hx:ev env x=some (.pointer (some ⟨b,o,none⟩))) (hy:ev env y=some v) (ht:zIl T t=true) (h1:v.oneCell'=true)
  [hb:HasBlk own b t0 cs f] (hs:SetR cs o v cs') (hk:K undef ro (f (.blk b t0 cs'))):OpOk P (.store t x y) ty env ro own K :=
 ⟨fun h hsat d pos af g=>by
  obtain ⟨rfl,hlt⟩:=hs.spec
  obtain ⟨r,p1,p2⟩:=(hb.repl (.blk b t0 (cs.set o v))).perm
  have hsat:=hsat.perm p1
  refine (Eff.store0 hx hy (c1sz ht) h1 hsat.cons.1 hlt).mono ?_
  rintro _ h' ⟨rfl,g1,g2,g3⟩
  exact ⟨ro,_,Le.refl _,(hsat.put (c':=.blk b t0 (cs.set o v)) (fun k _ hk=>g3 k (by simpa [Chunk.fp] using hk)) g2 (fun k hk=>.inl hk) (by simp [Chunk.fp])).perm p2.symm,hk⟩⟩
theorem OpOk.storeRow {t:TypeId}{x y:Operand}{b:Nat}{vs:List Value}{t0:TypeId}{cs:List Value}{f:Chunk→Chs}{z:Nat} (hx:ev env x=some (.pointer (some ⟨b,0,none⟩))) (hy:ev env y=some (.agg vs.toArray)) [hb:HasBlk own b t0 cs f] (ht:rowT T t=some z) (hz:vs.length=z) (hc:cs.length=z) (h1:vs.all (fun u=>u.oneCell')=true)
  (hk:K undef ro (f (.blk b t0 vs))):OpOk P (.store t x y) ty env ro own K :=
 ⟨fun h hsat d pos af g=>by
  obtain ⟨r,p1,p2⟩:=(hb.repl (.blk b t0 vs)).perm
  have hsat:=hsat.perm p1
  refine (Eff.storeN0 hx hy ((rsz ht).trans (by simp [Value.cells,hz])) (by simpa [Value.cells] using List.all_eq_true.1 h1) hsat.cons.1 (by simp [Value.cells];omega)).mono ?_
  rintro _ h' ⟨rfl,g1,g2,g3⟩
  have e:zAW cs 0 (Value.agg vs.toArray).cells.toList=vs:=by
   have:cs.drop vs.length=[]:=List.drop_eq_nil_of_le (by omega)
   simp [zAW,Value.cells,this]
  rw [e] at g2
  exact ⟨ro,_,Le.refl _,(hsat.put (c':=.blk b t0 vs) (fun k _ hk=>g3 k (by simpa [Chunk.fp] using hk)) g2 (fun k hk=>.inl hk) (by simp [Chunk.fp])).perm p2.symm,hk⟩⟩
theorem OpOk.storeSl {t:TypeId}{x y:Operand}{a:Option Addr}{k:Nat}{v:Value}{n c s:Nat}{t0:TypeId}{cs:List Value}{f:Chunk→Chs} (hx:ev env x=some (.pointer (some ⟨ab a,ao a+k,none⟩))) (hy:ev env y=some v) (ht:zIl T t=true) (h1:v.oneCell'=true)
  [hb:HasSl own a n c t0 s cs f] (hlt:k<cs.length) (hk:K undef ro (f (.sl a n c t0 s (cs.set k v)))):OpOk P (.store t x y) ty env ro own K :=
 ⟨fun h hsat d pos af g=>by
  obtain ⟨r,p1,p2⟩:=(hb.repl (.sl a n c t0 s (cs.set k v))).perm
  have hsat:=hsat.perm p1
  obtain ⟨c1,c2,c3,c4⟩:=hsat.cons.1
  rcases c4 with ⟨rfl,rfl,rfl⟩|⟨b,sp,rfl,c5,c6⟩
  ·simp at c1;subst c1;simp at hlt
  ·simp only [ab,ao,Nat.zero_add] at hx
   refine (Eff.store0 hx hy (c1sz ht) h1 c5 (by simp;omega)).mono ?_
   rintro _ h' ⟨rfl,g1,g2,g3⟩
   refine ⟨ro,_,Le.refl _,(hsat.put (c':=.sl (some ⟨b,0,none⟩) n c t0 s (cs.set k v)) (fun k _ hk=>g3 k (by simpa [Chunk.fp] using hk)) ⟨by simpa using c1,c2,c3,.inr ⟨b,sp,rfl,?_,by simpa using c6⟩⟩ (fun k hk=>.inl hk) (by simp [Chunk.fp])).perm p2.symm,hk⟩
   rw [←List.set_append_left _ _ hlt];exact g2⟩
theorem OpOk.box {t:TypeId}{x:Operand}{v:Value} (hx:ev env x=some v) (hk:∀ b,K (.pointer (some ⟨b,0,none⟩)) ro (.blk b t v.cells.toList::own)):OpOk P (.box t x) ty env ro own K :=
 ⟨fun h hs d pos af g=>(Eff.box hx).mono (by
  rintro _ h' ⟨rfl,n1,n2,n3⟩
  exact ⟨ro,_,Le.refl _,hs.new (c':=.blk h.size t v.cells.toList) n3 (by simpa [Chunk.holds,RowR,hm] using n2) (by simp [Chunk.fp]) (by simp [Chunk.fp]),hk h.size⟩)⟩
theorem OpOk.alloc {t:TypeId}{z:List Value} (ht:zeroT T t=some z) (hk:∀ b,K (.pointer (some ⟨b,0,none⟩)) ro (.blk b t z::own)):OpOk P (.alloc t) ty env ro own K:=by
 have h00:=zGo ht
 clear ht
 obtain ⟨ti,ht,rfl⟩:=h00
 obtain ⟨d,j,z,hi⟩:=tiOf.all (hT.ok.get ht)
 exact ⟨fun h hs d pos af g=>(Eff.alloc (z:=z) (fun w=>by simp [zeroValue,typeInfo,hi.info,hi.zero])).mono (by
  rintro _ h' ⟨rfl,n1,n2,n3⟩
  exact ⟨ro,_,Le.refl _,hs.new (c':=.blk h.size t ti.zero) n3 (by simpa [Chunk.holds,RowR,hm,hi.cells] using n2) (by simp [Chunk.fp]) (by simp [Chunk.fp]),hk h.size⟩)⟩
inductive RL (P:Program) (T:TT) (env:Env) (ro:Ro) (own:Chs):List ResultVar→List Value→Prop where
 | nil:RL P T env ro own [] []
 | tmp {t:Nat}{v:Value}{r:List ResultVar}{vs:List Value} (hv:look env t=some v) (hr:RL P T env ro own r vs):RL P T env ro own (.tmp t::r) (v::vs)
 | one {t ty b o:Nat}{v:Value}{r:List ResultVar}{vs:List Value} (hx:look env t=some (.pointer (some ⟨b,o,none⟩))) (ht:oneT T ty=true) (hl:Ld ro own b o v) (hr:RL P T env ro own r vs):RL P T env ro own (.cell t ty::r) (v::vs)
 | row {t ty b o z:Nat}{cs:List Value}{r:List ResultVar}{vs:List Value} (hx:look env t=some (.pointer (some ⟨b,o,none⟩))) (ht:rowT T ty=some z) (hl:LdN ro own b o cs) (hn:cs.length=z) (hr:RL P T env ro own r vs):RL P T env ro own (.cell t ty::r) (.agg cs.toArray::vs)
theorem RL.rv {rs:List ResultVar}{vs:List Value} (hv:RL P T env ro own rs vs) {h:Heap} (hs:Sat ro own h):RV P env h rs vs:=by
 induction hv with
 | nil=>exact .nil
 | tmp hv hr ih=>exact .tmp hv ih
 | one hx ht hl hr ih =>
   obtain ⟨ti,ht,_,hr⟩:=zD2 ht
   obtain ⟨du,h1,h2⟩:=hT.ok.row ht
   exact .cell hx (fun w hw=>by subst hw;exact zBX h1 (h2.trans hr) (hl _ hs)) ih
 | row hx ht hl hn hr ih =>
   obtain ⟨ti,ht1,rfl,hr⟩:=zCC ht
   obtain ⟨du,h1,h2⟩:=hT.ok.row ht1
   exact .cell hx (fun w hw=>by subst hw;exact run_loadVar_mid w _ _ _ _ du (hl _ hs).range h1 (h2.trans hr) ((hT.ok.sz ht1).trans (by rw [hn]))) ih
theorem RetOk.of {rs:List ResultVar}{Φ:Value→Ro→Chs→Prop}{vs:List Value} (hv:RL P T env ro own rs vs) (hk:Wk (fun _ ro own=>Φ (tup vs) ro own) [] ro own):RetOk P rs Φ env ro own:=⟨vs,fun h hs=>hv.rv hs,hk⟩
end
class BP (c:Bool) (p:outParam Prop):Prop where
 iff:c=true↔p
instance (priority:=low) BP.var (c:Bool):BP c (c=true):=⟨Iff.rfl⟩
instance BP.dec (p:Prop) [h:Decidable p]:BP (@decide p h) p:=⟨decide_eq_true_iff⟩
instance BP.not (c:Bool) (p:Prop) [h:BP c p]:BP (!c) (¬p):=⟨by rw [←h.iff];simp⟩
instance BP.and (c d:Bool) (p q:Prop) [h:BP c p] [h2:BP d q]:BP (c&&d) (p∧q):=⟨by rw [←h.iff,←h2.iff];simp⟩
instance BP.or (c d:Bool) (p q:Prop) [h:BP c p] [h2:BP d q]:BP (c||d) (p∨q):=⟨by rw [←h.iff,←h2.iff];simp⟩
instance BP.tt:BP true True:=⟨by simp⟩
instance BP.ff:BP false False:=⟨by simp⟩
theorem Br.cases {c:Bool}{p A B:Prop} [h:BP c p] (k1:p→A) (k2:¬p→B):Br c A B:=⟨fun e=>k1 (h.iff.1 e),fun e=>k2 (fun hp=>by rw [h.iff.2 hp] at e;cases e)⟩
theorem Br.t {c:Bool}{p A B:Prop} [h:BP c p] (hp:p) (k:A):Br c A B:=Br.cases (fun _=>k) (fun hn=>absurd hp hn)
theorem Br.f {c:Bool}{p A B:Prop} [h:BP c p] (hp:¬p) (k:B):Br c A B:=Br.cases (fun hn=>absurd hn hp) (fun _=>k)
theorem Br.nt {A B:Prop} (k:B):Br (!true) A B:=⟨fun e=>(by cases e),fun _=>k⟩
theorem Br.nf {A B:Prop} (k:A):Br (!false) A B:=⟨fun _=>k,fun e=>by cases e⟩
theorem Br.tt {A B:Prop} (k:A):Br true A B:=⟨fun _=>k,fun e=>by cases e⟩
theorem Br.ff {A B:Prop} (k:B):Br false A B:=⟨fun e=>(by cases e),fun _=>k⟩
section
variable {c chk:Bool}{p A B:Prop}{S R:Bool→Prop} [h:BP c p]
theorem GJ.a (q:Bool) (hc:chk=true) (seg:p→S q) (rest:R (c&&q)):GJ c true chk A B S R:=.join q hc (fun e=>seg (h.iff.1 e)) rest
theorem GJ.o (q:Bool) (hc:chk=true) (seg:¬p→S q) (rest:R (c||q)):GJ c false chk A B S R:=.join q hc (fun e=>seg (fun hp=>by rw [h.iff.2 hp] at e;cases e)) rest
theorem GJ.t (hp:p) (k:A):GJ c true chk A B S R:=.split (fun _=>k) (fun e=>by rw [h.iff.2 hp] at e;cases e)
theorem GJ.f (hp:¬p) (k:B):GJ c true chk A B S R:=.split (fun e=>absurd (h.iff.1 e) hp) (fun _=>k)
theorem GJ.ft (hp:p) (k:B):GJ c false chk A B S R:=.split (fun e=>by rw [h.iff.2 hp] at e;cases e) (fun _=>k)
theorem GJ.ff (hp:¬p) (k:A):GJ c false chk A B S R:=.split (fun _=>k) (fun e=>absurd (h.iff.1 e) hp)
end
section
variable {chk:Bool}{A B:Prop}{S R:Bool→Prop}
theorem GJ.l1 (k:A):GJ true true chk A B S R:=.split (fun _=>k) (fun e=>by cases e)
theorem GJ.l2 (k:B):GJ false true chk A B S R:=.split (fun e=>by cases e) (fun _=>k)
theorem GJ.l3 (k:B):GJ true false chk A B S R:=.split (fun e=>by cases e) (fun _=>k)
theorem GJ.l4 (k:A):GJ false false chk A B S R:=.split (fun _=>k) (fun e=>by cases e)
theorem GJ.n1 (k:A):GJ (!false) true chk A B S R:=.split (fun _=>k) (fun e=>by cases e)
theorem GJ.n2 (k:B):GJ (!true) true chk A B S R:=.split (fun e=>by cases e) (fun _=>k)
theorem GJ.n3 (k:B):GJ (!false) false chk A B S R:=.split (fun e=>by cases e) (fun _=>k)
theorem GJ.n4 (k:A):GJ (!true) false chk A B S R:=.split (fun _=>k) (fun e=>by cases e)
end
end Go.E
namespace Go.E
open Go
section
variable {P:Program}{T:TT} [hT:TTab P T] {ty:TypeId}{env:Env}{ro:Ro}{own:Chs}{K:Value→Ro→Chs→Prop}
theorem zFA {h h':Heap}{e n s:Nat}{cs:List Value} (hn:zIv (.cells cs.toArray e) h h') (hl:cs.length=n*s) (hmx:n≤maxLen):(Chunk.sl (some ⟨h.size,0,none⟩) n n e s cs).holds (hm h') :=
 ⟨hl,Nat.le_refl _,hmx,.inr ⟨h.size,[],rfl,by simpa [RowR,E.hm] using hn.2.1,by simpa using hl⟩⟩
theorem OpOk.buildSlice {t e n:Nat}{ps:List (Nat × Operand)}{vs:List Value}{s:Nat} (hv:evs env (ps.map (·.2))=some vs) (hp:ps.map (·.1)=List.range n) (ht:zB6 T t=some (e,s))
  (hn:Nat.ble (n*s) 1048576=true) (h1:vs.all (fun v=>Nat.beq v.cells.size s)=true) (hk:∀ b,K (.slice (some ⟨b,0,none⟩) n n) ro (.sl (some ⟨b,0,none⟩) n n e s (flat vs)::own)) :
  OpOk P (.buildSlice t n ps.toArray) ty env ro own K:=by
 have h00:=zAP ht
 clear ht
 obtain ⟨z1,z2,te,ht,he,rfl,hzs,hpos'⟩:=h00
 obtain ⟨du,j,z,hi⟩:=tiOf.all (hT.ok.get he)
 have hn':n*te.size≤1048576:=by simpa using hn
 have h1':∀ v∈vs,v.cells.size=te.size:=fun v hv=>by have:=List.all_eq_true.1 h1 v hv;simpa using this
 have hle:n≤n*te.size:=Nat.le_mul_of_pos_right n hpos'
 have hlen:vs.length=n:=by
  have h3:(ps.map (·.1)).length=n:=by rw [hp];simp
  have h4:∀ (xs:List Operand) (us:List Value),evs env xs=some us→us.length=xs.length:=by
   intro xs
   induction xs with
   | nil=>intro us h;simp [evs] at h;subst h;rfl
   | cons x r ih =>
     intro us h
     unfold evs at h
     split at h
     ·rename_i h5 h6;cases h;simp [ih _ h6]
     ·cases h
  have:=h4 _ _ hv
  simp at this h3;omega
 exact ⟨fun h hs d pos af g=>(Eff.buildSlice hv hp (hT.ok.slice ht) hi.info hi.zero hi.size.symm hpos' hn' h1').mono (by
  rintro _ h' ⟨rfl,hnew⟩
  refine ⟨ro,_,Le.refl _,hs.new (c':=.sl (some ⟨h.size,0,none⟩) n n e te.size (flat vs)) hnew.2.2 (zFA hnew ?_ ?_) (by simp [Chunk.fp]) (by simp [Chunk.fp]),hk h.size⟩
  ·rw [zDD te.size vs h1',hlen]
  ·unfold maxLen;omega)⟩
theorem OpOk.buildSlice1 {t e n:Nat}{ps:List (Nat × Operand)}{vs:List Value} (hv:evs env (ps.map (·.2))=some vs) (hp:ps.map (·.1)=List.range n) (ht:zB6 T t=some (e,1))
  (hn:Nat.ble n 1048576=true) (h1:vs.all (fun v=>v.oneCell')=true) (hk:∀ b,K (.slice (some ⟨b,0,none⟩) n n) ro (.sl (some ⟨b,0,none⟩) n n e 1 vs::own)) :
  OpOk P (.buildSlice t n ps.toArray) ty env ro own K:=by
 have h1':∀ v∈vs,v.oneCell'=true:=List.all_eq_true.1 h1
 refine OpOk.buildSlice hv hp ht (by simpa using hn) (List.all_eq_true.2 fun v hv=>by rw [zCS (h1' v hv)];rfl) (fun b=>?_)
 rw [zCJ _ h1']
 exact hk b
theorem OpOk.make1 {t e:TypeId}{x y:Operand}{n m:Int}{k k':IntKind}{z:Value} (hx:ev env x=some (.int k n)) (hy:ev env y=some (.int k' m)) (ht:zero1 T t=some (e,z)) (hn:0≤n∧n≤m∧m≤134217728)
  (hk:∀ b,K (.slice (some ⟨b,0,none⟩) n.toNat m.toNat) ro (.sl (some ⟨b,0,none⟩) n.toNat m.toNat e 1 (List.replicate n.toNat z)::own)):OpOk P (.makeSlice t x y) ty env ro own K:=by
 have h00:=zGp ht
 clear ht
 obtain ⟨z1,z2,u,ht,he,hz1⟩:=h00
 obtain ⟨du,j,z',hi⟩:=tiOf.all (hT.ok.get he)
 have hzz:z'.cells=#[z]:=Array.ext' hi.cells.symm
 exact ⟨fun h hs d pos af g=>.mk fun ρ w hρ hw=>by
  subst hw
  have hsz:j.size=1:=hi.size.symm
  have hbytes:(j.bytes:Int)*m≤140737488355328:=by
   have h1:(j.bytes:Int)≤1048576:=by have:=hi.bytes;omega
   calc (j.bytes:Int)*m≤1048576*134217728:=Int.mul_le_mul h1 hn.2.2 (by omega) (by omega)
    _≤140737488355328:=by decide
  have hr:=run_make (P:=P) w t e j z' (hT.ok.slice ht) hi.info hi.zero k k' n m hn.1 hn.2.1 (by omega) (by omega)
  have e1:(madeCells z'.cells (m.toNat*j.size))=(List.replicate m.toNat z).toArray:=by
   rw [hsz,hzz,Nat.mul_one]
   apply Array.ext'
   rw [toList_madeCells_one]
  rw [e1] at hr
  have hnm:n.toNat≤m.toNat:=by omega
  refine ⟨_,{ w with heap:=w.heap.push (.cells (List.replicate m.toNat z).toArray e) },.inl ?_,⟨rfl,rfl,rfl,rfl⟩,ro,_,Le.refl _,
   hs.new (c':=.sl (some ⟨w.heap.size,0,none⟩) n.toNat m.toNat e 1 (List.replicate n.toNat z)) (zBd w _).2.2 ⟨by simp,hnm,by unfold maxLen;omega,.inr ⟨w.heap.size,List.replicate (m.toNat-n.toNat) z,rfl,?_,by rw [List.length_replicate,List.length_replicate];omega⟩⟩ (by simp [Chunk.fp]) (by simp [Chunk.fp]),hk w.heap.size⟩
  ·simp only [execOp,hρ _ _ hx,hρ _ _ hy,Sem.run_bind]
   rw [hr]
   simp
  ·unfold RowR hm
   rw [List.replicate_append_replicate,show n.toNat+(m.toNat-n.toNat)=m.toNat by omega]
   simp⟩
theorem zCZ {x y:Operand}{t e:TypeId}{te:TI}{z1:Nat}{z2:List Value}{v:Value}{a2:Option Addr}{n m c2:Nat}{cs ys:List Value} (hx:ev env x=some v) (hy:ev env y=some (.slice a2 m c2)) (ht:T.get t=some ⟨.slice e,z1,z2⟩) (he:T.get e=some te)
  (hzs:te.zero.length=te.size) (hpos:0<te.size) {h:Heap} (ho:Own h 0 e te.size v n cs) (hr:Rd h (.slice a2 m c2) m ys) (hl:ys.length=m*te.size) (h1:∀ u∈ys,u.oneCell'=true) (hle:n+m≤134217728) {d:Option Nat}{pos:String}{af:Array Edge}{g:Option (Nat × Bool)} :
  Eff P ⟨d,.call ⟨.builtin .append,#[x,y],#[t,t]⟩,ty,pos,af,g⟩ env h (fun v' h'=>Appended 0 e te.size v (n+m) (cs++ys) h v' h'):=by
 obtain ⟨du,j,z,hi⟩:=tiOf.all (hT.ok.get he)
 exact Eff.appendOwn hx hy (hT.ok.slice ht) hi.info hi.zero hi.size.symm hi.bytes (by have:=hi.cells;rw [←hzs,this];simp) hpos ho hr hl h1 hle (Nat.zero_le _)
theorem Appended.sat {e s n m c:Nat}{a:Option Addr}{cs ys:List Value}{h h':Heap}{v':Value}{r:Chs} (hs:Sat ro (.sl a n c e s cs::r) h) (ha:Appended 0 e s (.slice a n c) (n+m) (cs++ys) h v' h') :
  ∃ a' c',v'=.slice a' (n+m) c'∧Sat ro (.sl a' (n+m) c' e s (cs++ys)::r) h':=by
 obtain ⟨ho,h2,h3,h4,h5⟩:=ha
 obtain ⟨a',c',rfl,hc⟩:=Chunk.ofOwn ho
 have hob:∀ b,(Value.slice a n c).ownBlock=some b→b∈(Chunk.sl a n c e s cs).fp:=by
  intro b hb
  rcases hs.cons.1.2.2.2 with ⟨rfl,_⟩|⟨b',sp,rfl,_⟩
  ·simp [Value.ownBlock] at hb
  ·simp [Value.ownBlock] at hb;subst hb;simp [Chunk.fp]
 refine ⟨a',c',rfl,hs.put (fun b hb hn=>h3 b hb (fun e=>hn (hob b e))) hc (fun b hb=>?_) ?_⟩
 ·rcases hc.2.2.2 with ⟨rfl,_⟩|⟨b',sp,rfl,_⟩
  ·simp [Chunk.fp] at hb
  ·simp [Chunk.fp] at hb
   subst hb
   rcases h5 b rfl with h6|h6
   ·exact .inl (hob b h6)
   ·exact .inr h6
 ·rcases hc.2.2.2 with ⟨rfl,_⟩|⟨b',sp,rfl,_⟩<;>simp [Chunk.fp]
theorem OpOk.append {x y:Operand}{t t2 e:TypeId}{s:Nat}{a a2:Option Addr}{n c m c2:Nat}{cs ys:List Value}{f:Chunk→Chs} (hx:ev env x=some (.slice a n c)) (hy:ev env y=some (.slice a2 m c2)) (ht:zB6 T t=some (e,s)) (h2:Nat.beq t2 t=true)
  [hb:HasSl own a n c e s cs f] (hr:Rds ro own a2 m c2 s ys) (h1:∀ u∈ys,u.oneCell'=true) (hle:n+m≤134217728)
  (hk:∀ a' c',n+m≤c'→c'≤maxLen→K (.slice a' (n+m) c') ro (f (.sl a' (n+m) c' e s (cs++ys)))):OpOk P (.call ⟨.builtin .append,#[x,y],#[t,t2]⟩) ty env ro own K:=by
 have:=Nat.eq_of_beq_eq_true h2
 subst this
 have h00:=zAP ht
 clear ht
 obtain ⟨z1,z2,te,ht,he,rfl,hzs,hpos'⟩:=h00
 exact ⟨fun h hs d pos af g=>(zCZ hx hy ht he hzs hpos' (Chunk.own ((hb.repl (.obj 0 default)).get hs)) (hr.run h hs) hr.len h1 hle).mono (by
  intro v' h' ha
  obtain ⟨r,p1,p2⟩:=(hb.repl (.obj 0 default)).perm
  obtain ⟨a',c',rfl,hs'⟩:=ha.sat (hs.perm p1)
  obtain ⟨r2,p3,p4⟩:=(hb.repl (.sl a' (n+m) c' e te.size (cs++ys))).perm
  have hrr:r.Perm r2:=(List.perm_cons _).1 (p1.symm.trans p3)
  exact ⟨ro,_,Le.refl _,hs'.perm ((hrr.cons _).trans p4.symm),hk a' c' hs'.cons.1.2.1 hs'.cons.1.2.2.1⟩)⟩
theorem OpOk.appendE {x y:Operand}{t t2 e:TypeId}{s:Nat}{a a2:Option Addr}{c m c2:Nat}{ys:List Value}{f:Chunk→Chs} (hx:ev env x=some (.slice a 0 c)) (hy:ev env y=some (.slice a2 m c2)) (ht:zB6 T t=some (e,s)) (h2:Nat.beq t2 t=true)
  [hb:HasSl own a 0 c e s [] f] (hr:Rds ro own a2 m c2 s ys) (h1:∀ u∈ys,u.oneCell'=true) (hle:m≤134217728)
  (hk:∀ a' c',m≤c'→c'≤maxLen→K (.slice a' m c') ro (f (.sl a' m c' e s ys))):OpOk P (.call ⟨.builtin .append,#[x,y],#[t,t2]⟩) ty env ro own K :=
 OpOk.append hx hy ht h2 hr h1 (by omega) (fun a' c' h3 h4=>by have:=hk a' c' (by omega) h4;simpa using this)
theorem zH3 (k:IntKind) (l:List Int):∀ u∈l.map (Value.int k),u.oneCell'=true:=fun u hu=>by obtain ⟨c,_,rfl⟩:=List.mem_map.1 hu;rfl
theorem OpOk.append1 {x y:Operand}{t t2 e:TypeId}{s:Nat}{a a2:Option Addr}{n c m c2:Nat}{e2:TypeId}{cs ys:List Value}{own':Chs}{f:Chunk→Chs} (hx:ev env x=some (.slice a n c)) (hy:ev env y=some (.slice a2 m c2)) (ht:zB6 T t=some (e,s)) (h2:Nat.beq t2 t=true)
  (hown:own=.sl a2 m c2 e2 s ys::own') [hb:HasSl own' a n c e s cs f] (h1:ys.all (fun u=>u.oneCell')=true) (hle:n+m≤134217728)
  (hk:∀ a' c',n+m≤c'→c'≤maxLen→K (.slice a' (n+m) c') ro (f (.sl a' (n+m) c' e s (cs++ys)))):OpOk P (.call ⟨.builtin .append,#[x,y],#[t,t2]⟩) ty env ro own K:=by
 have:=Nat.eq_of_beq_eq_true h2
 subst this
 subst hown
 have h00:=zAP ht
 clear ht
 obtain ⟨z1,z2,te,ht,he,rfl,hzs,hpos'⟩:=h00
 exact ⟨fun h hs d pos af g=>(zCZ hx hy ht he hzs hpos' (Chunk.own ((hb.repl (.obj 0 default)).get hs.drop)) (Chunk.own hs.cons.1).rd hs.cons.1.1 (List.all_eq_true.1 h1) hle).mono (by
  intro v' h' ha
  obtain ⟨r,p1,p2⟩:=(hb.repl (.obj 0 default)).perm
  obtain ⟨a',c',rfl,hs'⟩:=ha.sat (hs.drop.perm p1)
  obtain ⟨r2,p3,p4⟩:=(hb.repl (.sl a' (n+m) c' e te.size (cs++ys))).perm
  have hrr:r.Perm r2:=(List.perm_cons _).1 (p1.symm.trans p3)
  exact ⟨ro,_,Le.refl _,hs'.perm ((hrr.cons _).trans p4.symm),hk a' c' hs'.cons.1.2.1 hs'.cons.1.2.2.1⟩)⟩
end
end Go.E
namespace Go.E
open Go
section
variable {P:Program}{ops:Array Oper}{Q:Exit→Act→World→Prop}{S:World→Prop}{B:Array Bool→Bool}
def wpU (P:Program) (ops:Array Oper) (Q:Exit→Act→World→Prop) (S:World→Prop) (B:Array Bool→Bool):Nat→Array Bool→Act→World→Prop
 | 0,ls,a,w=>Region.ready .any ops ls=[]∧Q .normal a w
 | k+1,ls,a,w=>(Region.ready .any ops ls=[]→Q .normal a w) ∧
   ∀ i∈Region.ready .any ops ls,wpOp P ops Q i (fun a' w'=>(B (ls.setIfInBounds i true)=false→S w')∧wpU P ops Q S B k (ls.setIfInBounds i true) a' w') a w
theorem wpU.any:∀ (k:Nat) (ls:Array Bool) (a:Act) (w:World),wpU P ops Q S B k ls a w→wpAny P .any ops Q k ls a w
 | 0,_,_,_,h=>h
 | k+1,_,_,_,h=>⟨h.1,fun i hi=>wpOp_mono (fun a' w' h'=>wpU.any k _ a' w' h'.2) (h.2 i hi)⟩
theorem wpU.next {S':World→Prop}{B':Array Bool→Bool} (hm:∀ ls i,B ls=true→B (ls.setIfInBounds i true)=true):∀ (k:Nat) (ls:Array Bool) (a:Act) (w:World),B ls=true→wpU P ops Q S' B' k ls a w→wpU P ops Q S B k ls a w
 | 0,_,_,_,_,h=>h
 | k+1,ls,_,_,hb,h=>⟨h.1,fun i hi=>wpOp_mono (fun a' w' h'=>⟨fun e=>(by rw [hm ls i hb] at e;cases e),wpU.next hm k _ a' w' (hm ls i hb) h'.2⟩) (h.2 i hi)⟩
theorem wpU.narrow {S':World→Prop} (hS:∀ w,S' w→S w):∀ (k:Nat) (ls:Array Bool) (a:Act) (w:World),wpU P ops Q S' B k ls a w→wpU P ops Q S B k ls a w
 | 0,_,_,_,h=>h
 | k+1,ls,_,_,h=>⟨h.1,fun i hi=>wpOp_mono (fun a' w' h'=>⟨fun e=>hS _ (h'.1 e),wpU.narrow hS k _ a' w' h'.2⟩) (h.2 i hi)⟩
def Closed (ops:Array Oper) (ls:Array Bool):Prop:=∀ (j:Nat) (o:Oper),ops[j]?=some o→ls.getD j false=true→∀ e∈o.after,Region.binds .any e=true→ls.getD e.on false=true
theorem Closed.set {ls:Array Bool}{j:Nat} (h:Closed ops ls) (hj:j∈Region.ready .any ops ls):Closed ops (ls.setIfInBounds j true):=fun k o hk hd e he hb=>by
 by_cases ek:j=k
 ·subst ek
  obtain ⟨_,o',ho',hall⟩:=mem_ready.1 hj
  rw [hk] at ho';cases ho'
  exact getD_set_true (hall e he hb)
 ·rw [getD_set_ne false ek] at hd
  exact getD_set_true (h k o hk hd e he hb)
theorem zEK {ls:Array Bool}{i:Nat} (h:i∈Region.ready .any ops ls):ls.getD i false=false:=by
 have h1:=(mem_ready.1 h).1
 rcases Nat.lt_or_ge i ls.size with h'|h'
 ·simp [h'] at h1 ⊢;exact h1
 ·simp [Array.getElem?_eq_none h'] at h1
theorem wpU.first {i:Nat}{oi:Oper}{v:Value} (hi:ops[i]?=some oi) (hsel:∀ (j:Nat) (o:Oper) cs b,ops[j]?=some o→o.op≠.select cs b) (hQ:∀ c a w,Q (.panic c) (a.put oi.dst v) w→Q (.panic c) a w)
  (hB:∀ (ls:Array Bool) (j:Nat),Closed ops ls→j∈Region.ready .any ops ls→B ls=false→B (ls.setIfInBounds j true)=true→ls.getD i false=true)
  (hB2:∀ (ls:Array Bool) (i j:Nat),B (ls.setIfInBounds i true)=false→B ((ls.setIfInBounds i true).setIfInBounds j true)=true→B (ls.setIfInBounds j true)=true):∀ (k:Nat) (ls:Array Bool) (a:Act) (w:World),B ls=false→Closed ops ls →
   (∀ j oj,ops[j]?=some oj→j≠i→ls.getD j true=false→(∀ e∈oj.after,Region.binds .any e=true→e.on≠i)→oi.apart ops oj=true) →
   i∈Region.ready .any ops ls→YieldsIf P ops S oi v a→S w→wpU P ops Q S B k (ls.setIfInBounds i true) (a.put oi.dst v) w→wpU P ops Q S B (k+1) ls a w:=by
 intro k
 induction k with
 | zero =>
   intro ls a w _ _ _ hr hy hS H
   refine ⟨fun e=>(by rw [e] at hr;cases hr),fun j hj=>?_⟩
   by_cases e:j=i
   ·subst e;exact hy.wpOp hi hS ⟨fun _=>hS,H⟩
   ·have:=ready_mono hj e
    rw [H.1] at this;cases this
 | succ k ih =>
   intro ls a w hBl hcl hap hr hy hS H
   refine ⟨fun e=>(by rw [e] at hr;cases hr),fun j hj=>?_⟩
   by_cases e:j=i
   ·subst e;exact hy.wpOp hi hS ⟨fun _=>hS,H⟩
   ·have hjr:=H.2 j (ready_mono hj e)
    have waits:∀ m om,m∈Region.ready .any ops ls→ops[m]?=some om→∀ x∈om.after,Region.binds .any x=true→x.on≠i:=by
     intro m om hm hom x hx hb hxi
     obtain ⟨_,o2,ho2,hall⟩:=mem_ready.1 hm
     rw [hom] at ho2;cases ho2
     have h1:=hall x hx hb
     have hiu:=(mem_ready.1 hr).1
     rw [hxi] at h1
     rcases Nat.lt_or_ge i ls.size with h'|h'
     ·simp [h'] at hiu h1;rw [hiu] at h1;cases h1
     ·simp [Array.getElem?_eq_none h'] at h1
    obtain ⟨hju,oj,hoj,_⟩:=mem_ready.1 hj
    have hno:=waits j oj hj hoj
    have hiu:=zEK hr
    have hBi:B (ls.setIfInBounds i true)=false:=by
     cases hb:B (ls.setIfInBounds i true) with
     | false=>rfl
     | true=>have:=hB ls i hcl hr hBl hb;rw [hiu] at this;cases this
    have hBj:B (ls.setIfInBounds j true)=false:=by
     cases hb:B (ls.setIfInBounds j true) with
     | false=>rfl
     | true=>have:=hB ls j hcl hj hBl hb;rw [hiu] at this;cases this
    have hBij:B ((ls.setIfInBounds i true).setIfInBounds j true)=false:=by
     cases hb:B ((ls.setIfInBounds i true).setIfInBounds j true) with
     | false=>rfl
     | true=>have:=hB2 ls i j hBi hb;rw [hBj] at this;cases this
    have hput:=wpOp_putIf hoj (hap j oj hoj e hju hno) (fun cs b=>hsel i oi cs b hi) (fun cs b=>hsel j oj cs b hoj) hQ hy hjr
    refine wpOp_mono (fun a' w' h3=>?_) hput
    have hS':=h3.2.1 hBij
    refine ⟨fun _=>hS',ih _ a' w' hBj (hcl.set hj) (fun m om hom hmi hmu hmn=>?_) (ready_mono hr (Ne.symm e)) h3.1 hS' ?_⟩
    ·refine hap m om hom hmi ?_ hmn
     by_cases ejm:j=m
     ·subst ejm;exact hju
     ·rwa [getD_set_ne true ejm] at hmu
    ·rw [Array.setIfInBounds_comm _ _ e];exact h3.2.2
end
def waits (ops:Array Oper) (e i:Nat):Bool:=match ops[e]? with
 | some o=>o.after.any fun x=>Region.binds .any x&&x.on == i
 | none=>false
def waitsT (ops:Array Oper):Nat→Nat→Nat→Bool
 | 0,_,_=>false
 | k+1,e,i=>waits ops e i||(match ops[e]? with
   | some o=>o.after.any fun x=>Region.binds .any x&&waitsT ops k x.on i
   | none=>false)
theorem waitsT.done {ops:Array Oper}{ls:Array Bool} (hc:Closed ops ls):∀ {k m i:Nat},waitsT ops k m i=true→(∀ o,ops[m]?=some o→∀ e∈o.after,Region.binds .any e=true→ls.getD e.on false=true)→ls.getD i false=true
 | 0,_,_,h,_=>by cases h
 | k+1,m,i,h,hm=>by
   unfold waitsT at h
   rw [Bool.or_eq_true] at h
   rcases h with h|h
   ·unfold waits at h
    split at h
    ·rename_i o ho
     simp only [Array.any_eq_true',Bool.and_eq_true,beq_iff_eq] at h
     obtain ⟨x,hx,hb,rfl⟩:=h
     exact hm o ho x hx hb
    ·cases h
   ·split at h
    ·rename_i o ho
     simp only [Array.any_eq_true',Bool.and_eq_true] at h
     obtain ⟨x,hx,hb,h2⟩:=h
     exact waitsT.done hc h2 (fun o2 ho2=>hc x.on o2 ho2 (hm o ho x hx hb))
    ·cases h
inductive Fo where
 | leaf|nil|cons (i:Nat) (sub sib:Fo)
def Fo.heads:Fo→List Nat
 | .cons i _ sib=>i::sib.heads
 | _=>[]
inductive Tk where
 | look (i:Nat)|last (i:Nat)|keep (i:Nat)|rest (fo:Fo)
def foOk (ops:Array Oper):Fo→Nat→Array Bool→Bool
 | .leaf,_,ls=>(Region.ready .any ops ls).isEmpty
 | .nil,_,_=>true
 | .cons i sub sib,k,ls=>(match k with
   | 0=>false
   | k+1=>(match sub with
     | .leaf=>true
     | .nil=>false
     | .cons i2 _ b2=>Region.ready .any ops (ls.setIfInBounds i true) == i2::b2.heads)&&foOk ops sub k (ls.setIfInBounds i true))&&foOk ops sib k ls
def zBa:List Tk→Option Nat
 | []=>none
 | .last i::_=>some i
 | _::r=>zBa r
def phB (ph:Option Nat) (ls:Array Bool):Bool:=match ph with
 | some e=>ls.getD e false
 | none=>false
def zBS (ops:Array Oper):List Tk→Array Bool→Bool
 | [],ls=>(Region.ready .any ops ls).isEmpty
 | .look i::r,ls=>!phB (zBa r) ls&&(Region.free .any ops ls i&&(Region.ready .any ops ls).contains i&&(match zBa r with|some e=>waitsT ops 9 e i|none=>true))&&zBS ops r (ls.setIfInBounds i true)
 | .last i::r,ls=>!ls.getD i false&&(Region.ready .any ops ls == [i])&&(ls.setIfInBounds i true).getD i false&&zBS ops r (ls.setIfInBounds i true)
 | .keep i::r,ls=>!phB (zBa r) ls&&!phB (zBa r) (ls.setIfInBounds i true)&&(Region.ready .any ops ls == [i])&&zBS ops r (ls.setIfInBounds i true)
 | .rest fo::r,ls=>(match fo with|.cons i _ b=>Region.ready .any ops ls == i::b.heads|_=>false)&&(match zBa r with|none=>true|some _=>false)&&foOk ops fo (r.length+1) ls
structure QOk (P:Program) (op:Op) (ty:TypeId) (env:Env) (ro:Ro) (own:Chs) (K:Value→Prop):Prop where
 run:∃ v,(∀ h,Sat ro own h→∀ d pos af g,Pu P ⟨d,op,ty,pos,af,g⟩ env h v)∧K v
def vQ (P:Program) (T:TT) (op:Op) (ty:TypeId) (d:Option Nat) (B:Chs) (k:Kt) (env:Env) (ro:Ro) (own:Chs):Prop:=match zG3 T op env with
 | .ok v=>setK d v k env ro own
 | .req p v=>Stop (p∧setK d v k env ro own)
 | .no=>Stop (QOk P op ty env ro B (fun v=>setK d v k env ro own))
def zHM:List Tk→Bool
 | .keep _::_=>true
 | .rest _::_=>true
 | .look _::r=>zHM r
 | _=>false
structure Bs (own:Chs) (F:Chs→Prop):Prop where
 run:∃ b,Sup own b∧F b
structure Bk (own B:Chs) (F:Chs→Prop):Prop where
 run:∃ b,Sup own b∧Sup b B∧F b
theorem Bk.all {own B:Chs}{F:Chs→Prop} (hs:Sup own B) (h:F own):Bk own B F:=⟨own,Sup.all _,hs,h⟩
theorem Bk.same {own B:Chs}{F:Chs→Prop} (hs:Sup own B) (h:F B):Bk own B F:=⟨B,hs,Sup.all _,h⟩
def nextB (r:List Tk) (F:Chs→Kt→Kt) (k:Kt):Kt:=fun env ro own=>match zHM r with
 | true=>Stop (Bs own (fun b=>F b k env ro own))
 | false=>F own k env ro own
theorem nextB.spec {r:List Tk}{F:Chs→Kt→Kt}{k:Kt}{env:Env}{ro:Ro}{own:Chs} (h:nextB r F k env ro own):∃ b,(∀ ro' g,Sat ro' own g→Sat ro' b g)∧F b k env ro own:=by
 unfold nextB at h
 split at h
 ·obtain ⟨b,h1,h2⟩:=h.run.run
  exact ⟨b,fun _ _ hg=>hg.sup h1,h2⟩
 ·exact ⟨own,fun _ _ hg=>hg,h⟩
def vOne (P:Program) (T:TT) (all:List Oper) (i:Nat) (k:Kt):Kt:=fun env ro own=>match all[i]? with
 | some ⟨d,op,ty,_,_,none⟩=>vOp P T op ty d k env ro own
 | _=>False
def vFo (P:Program) (T:TT) (all:List Oper) (B:Chs) (Φ:Kt) (fo:Fo):Kt:=Fo.rec (motive:=fun _=>Kt) Φ (fun _ _ _=>True) (fun i _ _ sub sib env ro own=>vOne P T all i (fun env' ro' own'=>Stop (Sup own' B∧sub env' ro' own')) env ro own∧sib env ro own) fo
structure AllOk (F:Kt→Prop) (k:Kt) (ro:Ro):Prop where
 run:∃ Φ:Kt,F Φ∧∀ env' ro' own',Le ro ro'→Φ env' ro' own'→∃ env0 own0,Sub2 env0 env'∧Sup own' own0∧k env0 ro' own0
theorem AllOk.at {F:Kt→Prop}{k:Kt}{ro:Ro}{ι:Type} (f:ι→Env) (O:ι→Chs) (I:ι→Prop) (h:F (fun env' ro' own'=>ro'=ro∧∃ i,Sub (f i) env'∧Sup own' (O i)∧I i)) (hk:∀ i,I i→k (f i) ro (O i)):AllOk F k ro :=
 ⟨_,h,fun env' ro' own' _ ⟨e,i,h1,h2,h3⟩=>⟨f i,O i,fun t v hv=>h1.look hv,h2,by rw [e];exact hk i h3⟩⟩
def vH1 (P:Program) (T:TT) (all:List Oper) (x:Tk) (r:List Tk) (ih:List (Nat × Bool)→Chs→Kt→Kt) (K:List (Nat × Bool)) (B:Chs) (k:Kt):Kt:=fun env ro own=>match x with
 | .look i=>(match all[i]? with
   | some ⟨d,op,ty,_,_,none⟩=>vQ P T op ty d B (ih K B k) env ro own
   | some ⟨d,op,ty,_,_,some (j,b)⟩=>(match zBD all j with
     | some t=>(match look env t with
       | some (.bool c)=>(match kn K t with
         | some _=>bif zBU c b then vQ P T op ty d B (ih K B k) env ro own else setK d undef (ih K B k) env ro own
         | none=>Stop (GJ c b false (vQ P T op ty d B (ih ((t,b)::K) B k) ((t,.bool b)::env) ro own) (setK d undef (ih ((t,!b)::K) B k) ((t,.bool !b)::env) ro own) (fun _=>False) (fun _=>False)))
       | some _=>setK d undef (ih K B k) env ro own
       | none=>False)
     | none=>False)
   | none=>False)
 | .last i=>(match all[i]? with
   | some ⟨d,op,ty,_,_,none⟩=>vOp P T op ty d (nextB r (ih K) k) env ro own
   | some ⟨d,op,ty,_,_,some (j,b)⟩=>(match zBD all j with
     | some t=>(match look env t with
       | some (.bool c)=>(match kn K t with
         | some _=>bif zBU c b then vOp P T op ty d (nextB r (ih K) k) env ro own else setK d undef (nextB r (ih K) k) env ro own
         | none=>Stop (GJ c b false (vOp P T op ty d (nextB r (ih ((t,b)::K)) k) ((t,.bool b)::env) ro own) (setK d undef (nextB r (ih ((t,!b)::K)) k) ((t,.bool !b)::env) ro own) (fun _=>False) (fun _=>False)))
       | some _=>setK d undef (nextB r (ih K) k) env ro own
       | none=>False)
     | none=>False)
   | none=>False)
 | .keep i=>(match all[i]? with
   | some ⟨d,op,ty,_,_,none⟩=>vOp P T op ty d (fun env' ro' own'=>Stop (Bk own' B (fun B'=>ih K B' k env' ro' own'))) env ro own
   | some ⟨d,op,ty,_,_,some (j,b)⟩=>(match zBD all j with
     | some t=>(match look env t with
       | some (.bool c)=>(match kn K t with
         | some _=>bif zBU c b then vOp P T op ty d (fun env' ro' own'=>Stop (Bk own' B (fun B'=>ih K B' k env' ro' own'))) env ro own else setK d undef (ih K B k) env ro own
         | none=>Stop (GJ c b false (vOp P T op ty d (fun env' ro' own'=>Stop (Bk own' B (fun B'=>ih ((t,b)::K) B' k env' ro' own'))) ((t,.bool b)::env) ro own) (setK d undef (ih ((t,!b)::K) B k) ((t,.bool !b)::env) ro own) (fun _=>False) (fun _=>False)))
       | some _=>setK d undef (ih K B k) env ro own
       | none=>False)
     | none=>False)
   | none=>False)
 | .rest fo=>Stop (AllOk (fun Φ=>vFo P T all B Φ fo env ro own) k ro)
def vH (P:Program) (T:TT) (all:List Oper) (pl:List Tk):List (Nat × Bool)→Chs→Kt→Kt:=List.rec (motive:=fun _=>List (Nat × Bool)→Chs→Kt→Kt) (fun _ _ k=>k) (fun x r ih=>vH1 P T all x r ih) pl
theorem vH_look {P:Program}{T:TT}{all:List Oper}{i:Nat}{r:List Tk}{K:List (Nat × Bool)}{B:Chs}{k:Kt}{env:Env}{ro:Ro}{own:Chs}:vH P T all (.look i::r) K B k env ro own=(match all[i]? with
  | some ⟨d,op,ty,_,_,none⟩=>vQ P T op ty d B (vH P T all r K B k) env ro own
  | some ⟨d,op,ty,_,_,some (j,b)⟩=>(match zBD all j with
    | some t=>(match look env t with
      | some (.bool c)=>(match kn K t with
        | some _=>bif zBU c b then vQ P T op ty d B (vH P T all r K B k) env ro own else setK d undef (vH P T all r K B k) env ro own
        | none=>Stop (GJ c b false (vQ P T op ty d B (vH P T all r ((t,b)::K) B k) ((t,.bool b)::env) ro own) (setK d undef (vH P T all r ((t,!b)::K) B k) ((t,.bool !b)::env) ro own) (fun _=>False) (fun _=>False)))
      | some _=>setK d undef (vH P T all r K B k) env ro own
      | none=>False)
    | none=>False)
  | none=>False):=rfl
theorem vH_last {P:Program}{T:TT}{all:List Oper}{i:Nat}{r:List Tk}{K:List (Nat × Bool)}{B:Chs}{k:Kt}{env:Env}{ro:Ro}{own:Chs}:vH P T all (.last i::r) K B k env ro own=(match all[i]? with
  | some ⟨d,op,ty,_,_,none⟩=>vOp P T op ty d (nextB r (vH P T all r K) k) env ro own
  | some ⟨d,op,ty,_,_,some (j,b)⟩=>(match zBD all j with
    | some t=>(match look env t with
      | some (.bool c)=>(match kn K t with
        | some _=>bif zBU c b then vOp P T op ty d (nextB r (vH P T all r K) k) env ro own else setK d undef (nextB r (vH P T all r K) k) env ro own
        | none=>Stop (GJ c b false (vOp P T op ty d (nextB r (vH P T all r ((t,b)::K)) k) ((t,.bool b)::env) ro own) (setK d undef (nextB r (vH P T all r ((t,!b)::K)) k) ((t,.bool !b)::env) ro own) (fun _=>False) (fun _=>False)))
      | some _=>setK d undef (nextB r (vH P T all r K) k) env ro own
      | none=>False)
    | none=>False)
  | none=>False):=rfl
theorem vH_keep {P:Program}{T:TT}{all:List Oper}{i:Nat}{r:List Tk}{K:List (Nat × Bool)}{B:Chs}{k:Kt}{env:Env}{ro:Ro}{own:Chs}:vH P T all (.keep i::r) K B k env ro own=(match all[i]? with
  | some ⟨d,op,ty,_,_,none⟩=>vOp P T op ty d (fun env' ro' own'=>Stop (Bk own' B (fun B'=>vH P T all r K B' k env' ro' own'))) env ro own
  | some ⟨d,op,ty,_,_,some (j,b)⟩=>(match zBD all j with
    | some t=>(match look env t with
      | some (.bool c)=>(match kn K t with
        | some _=>bif zBU c b then vOp P T op ty d (fun env' ro' own'=>Stop (Bk own' B (fun B'=>vH P T all r K B' k env' ro' own'))) env ro own else setK d undef (vH P T all r K B k) env ro own
        | none=>Stop (GJ c b false (vOp P T op ty d (fun env' ro' own'=>Stop (Bk own' B (fun B'=>vH P T all r ((t,b)::K) B' k env' ro' own'))) ((t,.bool b)::env) ro own) (setK d undef (vH P T all r ((t,!b)::K) B k) ((t,.bool !b)::env) ro own) (fun _=>False) (fun _=>False)))
      | some _=>setK d undef (vH P T all r K B k) env ro own
      | none=>False)
    | none=>False)
  | none=>False):=rfl
theorem vH_rest {P:Program}{T:TT}{all:List Oper}{fo:Fo}{r:List Tk}{K:List (Nat × Bool)}{B:Chs}{k:Kt}{env:Env}{ro:Ro}{own:Chs}:vH P T all (.rest fo::r) K B k env ro own=Stop (AllOk (fun Φ=>vFo P T all B Φ fo env ro own) k ro):=rfl
section
variable {P:Program}{T:TT}{Q:Exit→Act→World→Prop}{n:Fr}{σ:World}
theorem zGV {op:Op}{ty:TypeId}{d:Option Nat}{pos:String}{af:Array Edge}{g:Option (Nat × Bool)}{k:Kt}{env:Env}{ro:Ro}{own:Chs}{a:Act}{w:World}{K:Act→World→Prop} (hT:TOk P T) (hd:okD n.size d=true) (hv:vOp P T op ty d k env ro own)
  (hf:Fits n env a) (hs:Sat ro own w.heap) (hw:Hp w.heap σ w)
  (hk:∀ v ro' own' a' w',Le ro ro'→k (zBq d v env) ro' own'→Sat ro' own' w'.heap→Fits n (zBq d v env) a'→Hp w'.heap σ w'→K a' w'):(⟨d,op,ty,pos,af,g⟩:Oper).wp P a w K Q:=by
 have hput:∀ v,Fits n (zBq d v env) (a.put d v):=fun v=>by
  cases d with
  | none=>exact hf
  | some d=>exact hf.put hd v
 have hpure:∀ v,(zG3 T op env).has v→k (zBq d v env) ro own→(⟨d,op,ty,pos,af,g⟩:Oper).wp P a w K Q:=fun v hp hkv=>by
  unfold Oper.wp
  rw [(zCD (h:=w.heap) hT hp).run a.eval w hf.agree rfl]
  exact hk v ro own _ _ (Le.refl _) hkv hs (hput v) hw
 unfold vOp at hv
 split at hv
 ·rename_i v hp
  exact hpure v (by rw [hp];rfl) (by rwa [zA9] at hv)
 ·rename_i p v hp
  obtain ⟨h1,h2⟩:=hv.run
  exact hpure v (by rw [hp];exact ⟨h1,rfl⟩) (by rwa [zA9] at h2)
 ·unfold vEff at hv
  split at hv
  ·split at hv
   ·rename_i hx hvs
    have hc:=hv.run
    rw [zIm] at hc
    unfold Oper.wp
    rw [zEE hf.agree hx hvs]
    rcases hc.run w hs with ⟨he,hcalls⟩|⟨v,w',he,hh,ro',own',hl,hs',hKv⟩
    ·rw [he]
     refine hcalls.mono fun e w' ⟨v,hev,hh,ro',own',hl,hs',hKv⟩=>?_
     subst hev
     replace hKv:setK d v k env ro' own':=hKv
     rw [zA9] at hKv
     exact hk v ro' own' _ _ hl hKv hs' (hput v) (hw.trans hh)
    ·rw [he]
     replace hKv:setK d v k env ro' own':=hKv
     rw [zA9] at hKv
     exact hk v ro' own' _ _ hl hKv hs' (hput v) (hw.trans hh)
   ·exact hv.elim
  ·obtain ⟨v,w',hr,hh,ro',own',hl,hs',hK⟩:=(hv.run.run w.heap hs d pos af g).run a.eval w hf.agree rfl
   rw [zA9] at hK
   unfold Oper.wp
   rcases hr with hr|⟨hr,rfl⟩<;>rw [hr]<;>exact hk _ ro' own' _ _ hl hK hs' (hput _) (hw.trans hh)
theorem vQ_val {op:Op}{ty:TypeId}{d:Option Nat}{k:Kt}{env:Env}{ro:Ro}{own B:Chs} (hT:TOk P T) (hv:vQ P T op ty d B k env ro own) :
  ∃ v,(∀ h,Sat ro B h→∀ d pos af g,Pu P ⟨d,op,ty,pos,af,g⟩ env h v)∧k (zBq d v env) ro own:=by
 unfold vQ at hv
 split at hv
 ·rename_i v hp
  exact ⟨v,fun h _ d pos af g=>zCD hT (by rw [hp];rfl),by rwa [zA9] at hv⟩
 ·rename_i p v hp
  obtain ⟨h1,h2⟩:=hv.run
  exact ⟨v,fun h _ d pos af g=>zCD hT (by rw [hp];exact ⟨h1,rfl⟩),by rwa [zA9] at h2⟩
 ·obtain ⟨v,h1,h2⟩:=hv.run.run
  exact ⟨v,h1,by rwa [zA9] at h2⟩
def Sw (σ:World) (ro:Ro) (own:Chs) (w:World):Prop:=Sat ro own w.heap∧Hp w.heap σ w
theorem zGb (ph:Option Nat):∀ (ls:Array Bool) (i:Nat),phB ph ls=true→phB ph (ls.setIfInBounds i true)=true:=fun ls i h=>by
 cases ph with
 | none=>cases h
 | some e=>exact getD_set_true h
theorem zGW (hT:TOk P T) {l:List Oper} (hok:l.all (fun o=>okD n.size o.dst)=true) {B:Chs}{Φ:Kt}{ro0:Ro}
  (hk:∀ env' ro' own' h',Le ro0 ro'→Φ env' ro' own'→Sat ro' own' h'→N n σ (Q .normal) env' h') :
  ∀ (fo:Fo) (k:Nat) (env:Env) (ro:Ro) (own:Chs) (ls:Array Bool) (a:Act) (w:World),Le ro0 ro→foOk l.toArray fo k ls=true→vFo P T l B Φ fo env ro own→Fits n env a→Sat ro own w.heap→Hp w.heap σ w →
   (fo=.leaf→wpU P l.toArray Q (Sw σ ro0 B) (phB none) k ls a w)∧(∀ k',k=k'+1→∀ i∈fo.heads,wpOp P l.toArray Q i (fun a' w'=>(phB none (ls.setIfInBounds i true)=false→Sw σ ro0 B w')∧wpU P l.toArray Q (Sw σ ro0 B) (phB none) k' (ls.setIfInBounds i true) a' w') a w):=by
 intro fo
 induction fo with
 | leaf =>
   intro k env ro own ls a w hl hp hv hf hs hw
   refine ⟨fun _=>?_,fun k' _ i hi=>by cases hi⟩
   have he:Region.ready .any l.toArray ls=[]:=by simpa [foOk] using hp
   have hq:=hk env ro own w.heap hl hv hs a w hf hw
   cases k with
   | zero=>exact ⟨he,hq⟩
   | succ k=>exact ⟨fun _=>hq,fun i hi=>by rw [he] at hi;cases hi⟩
 | nil =>
   intro k env ro own ls a w hl hp hv hf hs hw
   exact ⟨fun e=>(by cases e),fun _ _ i hi=>(by cases hi)⟩
 | cons i sub sib ihs ihb =>
   intro k env ro own ls a w hl hp hv hf hs hw
   refine ⟨fun e=>(by cases e),fun k' hk' j hj=>?_⟩
   subst hk'
   simp only [foOk,Bool.and_eq_true] at hp
   obtain ⟨⟨hp1,hp2⟩,hp3⟩:=hp
   obtain ⟨hv1,hv2⟩:vOne P T l i (fun env' ro' own'=>Stop (Sup own' B∧vFo P T l B Φ sub env' ro' own')) env ro own∧vFo P T l B Φ sib env ro own:=hv
   rcases List.mem_cons.1 hj with e|hj
   ·subst e
    unfold vOne at hv1
    split at hv1
    ·rename_i d op ty pos af hi
     have hoki:okD n.size d=true:=List.all_eq_true.1 hok _ (List.mem_of_getElem? hi)
     unfold wpOp
     simp only [List.getElem?_toArray,hi]
     rw [if_pos (show Region.wanted ⟨d,op,ty,pos,af,none⟩ (yielded l.toArray a.tmps)=true from rfl)]
     refine .inl ?_
     refine zGV hT hoki hv1 hf hs hw (fun v ro' own' a' w' hl' hkk hs' hf' hw'=>?_)
     obtain ⟨hsup,hsub⟩:=hkk.run
     refine ⟨fun _=>⟨(hs'.leq ⟨(hl.trans hl').le⟩).sup hsup,hw'⟩,?_⟩
     have ih:=ihs k' _ _ _ _ _ _ (hl.trans hl') hp2 hsub hf' hs' hw'
     cases sub with
     | leaf=>exact ih.1 rfl
     | nil=>cases hp1
     | cons i2 s2 b2 =>
       have hr:Region.ready .any l.toArray (ls.setIfInBounds j true)=i2::b2.heads:=by simpa using hp1
       cases k' with
       | zero=>simp [foOk] at hp2
       | succ k2=>exact ⟨fun e=>(by rw [hr] at e;cases e),fun m hm=>ih.2 k2 rfl m (by rw [hr] at hm;exact hm)⟩
    ·exact hv1.elim
   ·exact (ihb (k'+1) env ro own ls a w hl hp3 hv2 hf hs hw).2 k' rfl j hj
theorem zCp (hT:TOk P T) {l:List Oper} (hns:Region.noSelect l.toArray=true) (hok:l.all (fun o=>okD n.size o.dst)=true) (hQ:NoPanic Q) :
  ∀ {r:List Tk}{K:List (Nat × Bool)}{k:Kt}{env:Env}{ro:Ro}{own B:Chs}{ls:Array Bool}{a:Act}{w:World},(∀ ro' g,Sat ro' own g→Sat ro' B g)→Closed l.toArray ls→zBS l.toArray r ls=true→vH P T l r K B k env ro own →
  (∀ env' ro' own' h',Le ro ro'→k env' ro' own'→Sat ro' own' h'→N n σ (Q .normal) env' h')→Fits n env a→Sat ro own w.heap→Hp w.heap σ w→wpU P l.toArray Q (Sw σ ro B) (phB (zBa r)) r.length ls a w
 | [],K,k,env,ro,own,B,ls,a,w,hB,hcl,hp,hv,hk,hf,hs,hw=>by
   refine ⟨by simpa [zBS] using hp,hk env ro own w.heap (Le.refl _) hv hs a w hf hw⟩
 | .look i::r,K,k,env,ro,own,B,ls,a,w,hB,hcl,hp,hv,hk,hf,hs,hw=>by
   simp only [zBS,Bool.and_eq_true,Bool.not_eq_true'] at hp
   obtain ⟨⟨hB0,⟨hfree,hready0⟩,hwait⟩,hrest⟩:=hp
   have hready:i∈Region.ready .any l.toArray ls:=by simpa using hready0
   have go:∀ {oi:Oper}{v:Value}{env':Env}{K':List (Nat × Bool)},l[i]?=some oi→YieldsIf P l.toArray (Sw σ ro B) oi v a→Fits n env' (a.put oi.dst v)→vH P T l r K' B k env' ro own→wpU P l.toArray Q (Sw σ ro B) (phB (zBa (.look i::r))) (r.length+1) ls a w:=fun {oi} {v} {env'} {K'} hi hy hf' hv'=>by
    have hcl':=hcl.set hready
    refine wpU.first (oi:=oi) (by simpa using hi) (Region.noSelect_spec hns) (fun c a w h=>absurd h (hQ _ _ _)) (fun ls' j hcl2 hj h1 h2=>?_) (fun ls' i' j h1 h2=>?_) r.length ls a w hB0 hcl (Region.free_spec (by simpa using hi) hfree) hready hy ⟨hB _ _ hs,hw⟩ (zCp hT hns hok hQ hB hcl' hrest hv' hk hf' hs hw)
    ·change phB (zBa r) _=_ at h1 h2
     cases hph:zBa r with
     | none=>rw [hph] at h2;cases h2
     | some e =>
       rw [hph] at h1 h2 hwait
       have hje:j=e:=by
        by_cases hje:j=e
        ·exact hje
        ·simp only [phB] at h1 h2;rw [getD_set_ne false hje] at h2;rw [h1] at h2;cases h2
       subst hje
       obtain ⟨_,o,ho,hall⟩:=mem_ready.1 hj
       exact waitsT.done hcl2 hwait (fun o2 ho2=>by rw [ho] at ho2;cases ho2;exact hall)
    ·change phB (zBa r) _=_ at h1 h2
     show phB (zBa r) _=true
     cases hph:zBa r with
     | none=>rw [hph] at h2;cases h2
     | some e =>
       rw [hph] at h1 h2
       simp only [phB] at h1 h2 ⊢
       by_cases hje:j=e
       ·subst hje
        rcases Nat.lt_or_ge j ls'.size with h'|h'
        ·simp [h']
        ·simp [Array.getElem?_eq_none,h'] at h2
       ·rw [getD_set_ne false hje] at h2;rw [h1] at h2;cases h2
   have hoki:∀ {oi:Oper},l[i]?=some oi→okD n.size oi.dst=true:=fun hi=>List.all_eq_true.1 hok _ (List.mem_of_getElem? hi)
   have look:∀ {d:Option Nat}{op:Op}{ty:TypeId}{pos:String}{af:Array Edge}{g:Option (Nat × Bool)}{K':List (Nat × Bool)}{env0:Env},l[i]?=some ⟨d,op,ty,pos,af,g⟩→Region.wanted ⟨d,op,ty,pos,af,g⟩ (yielded l.toArray a.tmps)=true→Fits n env0 a→vQ P T op ty d B (vH P T l r K' B k) env0 ro own→wpU P l.toArray Q (Sw σ ro B) (phB (zBa (.look i::r))) (r.length+1) ls a w:=fun {d op ty pos af g K' env0} hi hwt hf0 hq=>by
    obtain ⟨v,h1,h2⟩:=vQ_val hT hq
    refine go hi (.inl ⟨hwt,fun w' hw'=>(h1 _ hw'.1 d pos af g).run a.eval w' hf0.agree rfl⟩) ?_ h2
    have:=hoki hi
    cases d with
    | none=>exact hf0
    | some d=>exact hf0.put this v
   have skip:∀ {d:Option Nat}{op:Op}{ty:TypeId}{pos:String}{af:Array Edge}{g:Option (Nat × Bool)}{K':List (Nat × Bool)}{env0:Env},l[i]?=some ⟨d,op,ty,pos,af,g⟩→Region.wanted ⟨d,op,ty,pos,af,g⟩ (yielded l.toArray a.tmps)=false→Fits n env0 a→setK d undef (vH P T l r K' B k) env0 ro own→wpU P l.toArray Q (Sw σ ro B) (phB (zBa (.look i::r))) (r.length+1) ls a w:=fun {d op ty pos af g K' env0} hi hwt hf0 hq=>by
    rw [zA9] at hq
    refine go hi (.inr ⟨hwt,rfl⟩) ?_ hq
    have:=hoki hi
    cases d with
    | none=>exact hf0
    | some d=>exact hf0.put this undef
   rw [vH_look] at hv
   split at hv
   ·rename_i d op ty pos af hi
    exact look hi rfl hf hv
   ·rename_i d op ty pos af j b hi
    split at hv
    ·rename_i t hj
     split at hv
     ·rename_i c ht
      have hy:yielded l.toArray a.tmps j=some c:=by simp [yielded,zAJ hj,hf.get _ _ ht]
      have key:(c=b→∃ K' env0,Fits n env0 a∧vQ P T op ty d B (vH P T l r K' B k) env0 ro own)→(c=!b→∃ K' env0,Fits n env0 a∧setK d undef (vH P T l r K' B k) env0 ro own)→wpU P l.toArray Q (Sw σ ro B) (phB (zBa (.look i::r))) (r.length+1) ls a w:=fun h1 h2=>by
       by_cases e:c=b
       ·obtain ⟨K',env0,hf0,hq⟩:=h1 e
        exact look hi (by simp [Region.wanted,hy,e]) hf0 hq
       ·obtain ⟨K',env0,hf0,hq⟩:=h2 (by revert e;cases b<;>cases c<;>simp)
        exact skip hi (by simp [Region.wanted,hy,e]) hf0 hq
      split at hv
      ·refine key (fun e=>⟨K,env,hf,?_⟩) (fun e=>⟨K,env,hf,?_⟩)
       ·subst e;have:zBU c c=true:=by cases c<;>rfl
        rw [this] at hv;exact hv
       ·subst e;have:zBU (!b) b=false:=by cases b<;>rfl
        rw [this] at hv;exact hv
      ·rcases hv.run with ⟨h1,h2⟩|⟨_,h3,_,_⟩
       ·exact key (fun e=>⟨_,_,by subst e;exact hf.sub2 (Sub2.lit ht),h1 e⟩) (fun e=>⟨_,_,by subst e;exact hf.sub2 (Sub2.lit ht),h2 e⟩)
       ·cases h3
     ·rename_i u hne ht
      have hy:yielded l.toArray a.tmps j≠some b:=by
       simp only [yielded,List.getElem?_toArray,zAJ hj,Option.bind_some,hf.get _ _ ht]
       intro e
       split at e
       ·rename_i b' hb';simp at hb' e;exact hne b' (by rw [hb'])
       ·cases e
      exact skip hi (by simpa [Region.wanted] using hy) hf hv
     ·exact hv.elim
    ·exact hv.elim
   ·exact hv.elim
 | .last i::r,K,k,env,ro,own,B,ls,a,w,hB,hcl,hp,hv,hk,hf,hs,hw=>by
   simp only [zBS,Bool.and_eq_true,Bool.not_eq_true',beq_iff_eq] at hp
   obtain ⟨⟨⟨hB0,hready⟩,hset⟩,hrest⟩:=hp
   have hoki:∀ {oi:Oper},l[i]?=some oi→okD n.size oi.dst=true:=fun hi=>List.all_eq_true.1 hok _ (List.mem_of_getElem? hi)
   refine ⟨fun e=>(by rw [hready] at e;cases e),fun j hj=>?_⟩
   have:j=i:=by rw [hready] at hj;simpa using hj
   subst this
   have run:∀ {d:Option Nat}{op:Op}{ty:TypeId}{pos:String}{af:Array Edge}{g:Option (Nat × Bool)}{K':List (Nat × Bool)}{env0:Env},l[j]?=some ⟨d,op,ty,pos,af,g⟩→Region.wanted ⟨d,op,ty,pos,af,g⟩ (yielded l.toArray a.tmps)=true→Fits n env0 a→vOp P T op ty d (nextB r (vH P T l r K') k) env0 ro own →
     wpOp P l.toArray Q j (fun a' w'=>(phB (zBa (.last j::r)) (ls.setIfInBounds j true)=false→Sw σ ro B w')∧wpU P l.toArray Q (Sw σ ro B) (phB (zBa (.last j::r))) r.length (ls.setIfInBounds j true) a' w') a w:=fun {d op ty pos af g K' env0} hi hwt hf0 hq=>by
    unfold wpOp
    simp only [List.getElem?_toArray,hi]
    rw [if_pos hwt]
    exact .inl (zGV hT (hoki hi) hq hf0 hs hw (fun v ro' own' a' w' hl hkk hs' hf' hw'=>⟨fun e=>(by rw [show phB (zBa (.last j::r)) (ls.setIfInBounds j true)=true from hset] at e;cases e),(by obtain ⟨B',hB',hkk⟩:=hkk.spec;exact wpU.next (zGb _) _ _ _ _ hset (zCp hT hns hok hQ hB' (hcl.set (by rw [hready];simp)) hrest hkk (fun env' ro2 own2 h2 hl2=>hk env' ro2 own2 h2 (hl.trans hl2)) hf' hs' hw'))⟩))
   have skip:∀ {d:Option Nat}{op:Op}{ty:TypeId}{pos:String}{af:Array Edge}{g:Option (Nat × Bool)}{K':List (Nat × Bool)}{env0:Env},l[j]?=some ⟨d,op,ty,pos,af,g⟩→Region.wanted ⟨d,op,ty,pos,af,g⟩ (yielded l.toArray a.tmps)=false→Fits n env0 a→setK d undef (nextB r (vH P T l r K') k) env0 ro own →
     wpOp P l.toArray Q j (fun a' w'=>(phB (zBa (.last j::r)) (ls.setIfInBounds j true)=false→Sw σ ro B w')∧wpU P l.toArray Q (Sw σ ro B) (phB (zBa (.last j::r))) r.length (ls.setIfInBounds j true) a' w') a w:=fun {d op ty pos af g K' env0} hi hwt hf0 hq=>by
    unfold wpOp
    simp only [List.getElem?_toArray,hi]
    rw [if_neg (by simp [hwt])]
    rw [zA9] at hq
    have hf':Fits n (zBq d undef env0) (a.put d undef):=by
     have:=hoki hi
     cases d with
     | none=>exact hf0
     | some d=>exact hf0.put this undef
    obtain ⟨B',hB',hq⟩:=hq.spec
    exact ⟨fun _=>⟨hB _ _ hs,hw⟩,wpU.next (zGb _) _ _ _ _ hset (zCp hT hns hok hQ hB' (hcl.set (by rw [hready];simp)) hrest hq hk hf' hs hw)⟩
   rw [vH_last] at hv
   split at hv
   ·rename_i d op ty pos af hi
    exact run hi rfl hf hv
   ·rename_i d op ty pos af j' b hi
    split at hv
    ·rename_i t hj
     split at hv
     ·rename_i c ht
      have hy:yielded l.toArray a.tmps j'=some c:=by simp [yielded,zAJ hj,hf.get _ _ ht]
      split at hv
      ·by_cases e:c=b
       ·subst e
        have e1:zBU c c=true:=by cases c<;>rfl
        rw [e1] at hv
        exact run hi (by simp [Region.wanted,hy]) hf hv
       ·have e':c=!b:=by revert e;cases b<;>cases c<;>simp
        subst e'
        have e1:zBU (!b) b=false:=by cases b<;>rfl
        rw [e1] at hv
        exact skip hi (by simp [Region.wanted,hy]) hf hv
      ·rcases hv.run with ⟨h1,h2⟩|⟨_,h3,_,_⟩
       ·by_cases e:c=b
        ·subst e
         exact run hi (by simp [Region.wanted,hy]) (hf.sub2 (Sub2.lit ht)) (h1 rfl)
        ·have e':c=!b:=by revert e;cases b<;>cases c<;>simp
         subst e'
         exact skip hi (by simp [Region.wanted,hy]) (hf.sub2 (Sub2.lit ht)) (h2 rfl)
       ·cases h3
     ·rename_i u hne ht
      have hy:yielded l.toArray a.tmps j'≠some b:=by
       simp only [yielded,List.getElem?_toArray,zAJ hj,Option.bind_some,hf.get _ _ ht]
       intro e
       split at e
       ·rename_i b' hb';simp at hb' e;exact hne b' (by rw [hb'])
       ·cases e
      exact skip hi (by simpa [Region.wanted] using hy) hf hv
     ·exact hv.elim
    ·exact hv.elim
   ·exact hv.elim
 | .keep i::r,K,k,env,ro,own,B,ls,a,w,hB,hcl,hp,hv,hk,hf,hs,hw=>by
   simp only [zBS,Bool.and_eq_true,Bool.not_eq_true',beq_iff_eq] at hp
   obtain ⟨⟨⟨hB0,hB1⟩,hready⟩,hrest⟩:=hp
   have hoki:∀ {oi:Oper},l[i]?=some oi→okD n.size oi.dst=true:=fun hi=>List.all_eq_true.1 hok _ (List.mem_of_getElem? hi)
   refine ⟨fun e=>(by rw [hready] at e;cases e),fun j hj=>?_⟩
   have:j=i:=by rw [hready] at hj;simpa using hj
   subst this
   have run:∀ {d:Option Nat}{op:Op}{ty:TypeId}{pos:String}{af:Array Edge}{g:Option (Nat × Bool)}{K':List (Nat × Bool)}{env0:Env},l[j]?=some ⟨d,op,ty,pos,af,g⟩→Region.wanted ⟨d,op,ty,pos,af,g⟩ (yielded l.toArray a.tmps)=true→Fits n env0 a→vOp P T op ty d (fun env' ro' own'=>Stop (Bk own' B (fun B'=>vH P T l r K' B' k env' ro' own'))) env0 ro own →
     wpOp P l.toArray Q j (fun a' w'=>(phB (zBa (.keep j::r)) (ls.setIfInBounds j true)=false→Sw σ ro B w')∧wpU P l.toArray Q (Sw σ ro B) (phB (zBa (.keep j::r))) r.length (ls.setIfInBounds j true) a' w') a w:=fun {d op ty pos af g K' env0} hi hwt hf0 hq=>by
    unfold wpOp
    simp only [List.getElem?_toArray,hi]
    rw [if_pos hwt]
    exact .inl (zGV hT (hoki hi) hq hf0 hs hw (fun v ro' own' a' w' hl hkk hs' hf' hw'=>by
     obtain ⟨B',k1,k2,hkk⟩:=hkk.run.run
     exact ⟨fun _=>⟨((hs'.leq ⟨hl.le⟩).sup k1).sup k2,hw'⟩,wpU.narrow (fun w2 h2=>⟨(h2.1.leq ⟨hl.le⟩).sup k2,h2.2⟩) _ _ _ _ (zCp hT hns hok hQ (fun _ _ hg=>hg.sup k1) (hcl.set (by rw [hready];simp)) hrest hkk (fun env' ro2 own2 h2 hl2=>hk env' ro2 own2 h2 (hl.trans hl2)) hf' hs' hw')⟩))
   have skip:∀ {d:Option Nat}{op:Op}{ty:TypeId}{pos:String}{af:Array Edge}{g:Option (Nat × Bool)}{K':List (Nat × Bool)}{env0:Env},l[j]?=some ⟨d,op,ty,pos,af,g⟩→Region.wanted ⟨d,op,ty,pos,af,g⟩ (yielded l.toArray a.tmps)=false→Fits n env0 a→setK d undef (vH P T l r K' B k) env0 ro own →
     wpOp P l.toArray Q j (fun a' w'=>(phB (zBa (.keep j::r)) (ls.setIfInBounds j true)=false→Sw σ ro B w')∧wpU P l.toArray Q (Sw σ ro B) (phB (zBa (.keep j::r))) r.length (ls.setIfInBounds j true) a' w') a w:=fun {d op ty pos af g K' env0} hi hwt hf0 hq=>by
    unfold wpOp
    simp only [List.getElem?_toArray,hi]
    rw [if_neg (by simp [hwt])]
    rw [zA9] at hq
    have hf':Fits n (zBq d undef env0) (a.put d undef):=by
     have:=hoki hi
     cases d with
     | none=>exact hf0
     | some d=>exact hf0.put this undef
    exact ⟨fun _=>⟨hB _ _ hs,hw⟩,zCp hT hns hok hQ hB (hcl.set (by rw [hready];simp)) hrest hq hk hf' hs hw⟩
   rw [vH_keep] at hv
   split at hv
   ·rename_i d op ty pos af hi
    exact run hi rfl hf hv
   ·rename_i d op ty pos af j' b hi
    split at hv
    ·rename_i t hj
     split at hv
     ·rename_i c ht
      have hy:yielded l.toArray a.tmps j'=some c:=by simp [yielded,zAJ hj,hf.get _ _ ht]
      split at hv
      ·by_cases e:c=b
       ·subst e
        have e1:zBU c c=true:=by cases c<;>rfl
        rw [e1] at hv
        exact run hi (by simp [Region.wanted,hy]) hf hv
       ·have e':c=!b:=by revert e;cases b<;>cases c<;>simp
        subst e'
        have e1:zBU (!b) b=false:=by cases b<;>rfl
        rw [e1] at hv
        exact skip hi (by simp [Region.wanted,hy]) hf hv
      ·rcases hv.run with ⟨h1,h2⟩|⟨_,h3,_,_⟩
       ·by_cases e:c=b
        ·subst e
         exact run hi (by simp [Region.wanted,hy]) (hf.sub2 (Sub2.lit ht)) (h1 rfl)
        ·have e':c=!b:=by revert e;cases b<;>cases c<;>simp
         subst e'
         exact skip hi (by simp [Region.wanted,hy]) (hf.sub2 (Sub2.lit ht)) (h2 rfl)
       ·cases h3
     ·rename_i u hne ht
      have hy:yielded l.toArray a.tmps j'≠some b:=by
       simp only [yielded,List.getElem?_toArray,zAJ hj,Option.bind_some,hf.get _ _ ht]
       intro e
       split at e
       ·rename_i b' hb';simp at hb' e;exact hne b' (by rw [hb'])
       ·cases e
      exact skip hi (by simpa [Region.wanted] using hy) hf hv
     ·exact hv.elim
    ·exact hv.elim
   ·exact hv.elim
 | .rest fo::r,K,k,env,ro,own,B,ls,a,w,hB,hcl,hp,hv,hk,hf,hs,hw=>by
   simp only [zBS,Bool.and_eq_true] at hp
   obtain ⟨⟨hp1,hp2⟩,hp3⟩:=hp
   rw [vH_rest] at hv
   obtain ⟨Φ,hF,hΦ⟩:=hv.run.run
   have hph:zBa (.rest fo::r)=none:=by
    show zBa r=none
    cases h:zBa r with
    | none=>rfl
    | some e=>rw [h] at hp2;cases hp2
   rw [hph]
   have ih:=zGW (Q:=Q) (σ:=σ) (B:=B) hT hok (fun env' ro' own' h' hl hΦ' hs'=>(by obtain ⟨env0,own0,h1,h2,h3⟩:=hΦ _ _ _ hl hΦ';exact fun a w hf hw=>hk env0 ro' own0 h' hl h3 (hs'.sup h2) a w (hf.sub2 h1) hw)) fo (r.length+1) env ro own ls a w (Le.refl _) hp3 hF hf hs hw
   cases fo with
   | leaf=>cases hp1
   | nil=>cases hp1
   | cons i2 s2 b2 =>
     have hr:Region.ready .any l.toArray ls=i2::b2.heads:=by simpa using hp1
     exact ⟨fun e=>(by rw [hr] at e;cases e),fun m hm=>ih.2 r.length rfl m (by rw [hr] at hm;exact hm)⟩
theorem CodeOk.drawn {id:Nat}{l:List Oper}{k:Exit→Kt}{env:Env}{ro:Ro}{own:Chs} [hT:TTab P T] (plan:List Tk) (hm:P.follows .mixedOrders=true) (hns:Region.noSelect l.toArray=true) (hlen:Nat.beq plan.length l.length=true) (hp:zBS l.toArray plan (Array.replicate l.length false)=true)
  (hv:nextB plan (vH P T l plan []) (k .normal) env ro own):CodeOk P (.region id l.toArray true) k env ro own :=
 ⟨fun n σ Q hok hk h hs a w hf hw=>wp_mono (wp_region_any (Q:=fun e a w=>match e with|.panic _=>False|e=>Q e a w) hm (by
   have hl:plan.length=l.length:=Nat.eq_of_beq_eq_true hlen
   obtain ⟨B,hB,hv⟩:=hv.spec
   have:=wpU.any _ _ _ _ (zCp (σ:=σ) (w:={ w with drawn:=w.drawn+1 }) (Q:=fun e a w=>match e with|.panic _=>False|e=>Q e a w) hT.ok hns (by simpa [okS] using hok) (fun c a w h=>h) hB (fun j o _ hd=>by simp [Array.getD] at hd) hp hv (fun env' ro' own' h' hl' hk' hs'=>hk .normal env' ro' own' n.D h' hl' hk' hs' (Mk.refl _ _ _ _)) hf (by rw [hw.heap];exact hs) ⟨rfl,hw.os,hw.tape,hw.output⟩)
   rw [hl] at this
   simpa using this)) (fun e a w hq=>by cases e<;>first|exact hq|exact hq.elim)⟩
end
end Go.E
namespace Go.E
open Go
def isLook:Op→Bool
 | .move _|.assign _|.pick _ _ _|.nilCheck _|.extract _ _|.unOp _ _ _|.binOp _ _ _ _ _|.convert _ _ _|.field _ _ _|.fieldAddr _ _ _|.index _ _ _|.slice _ _ _ _ _|.indexAddr _ _ _|.load _ _|.lookup _ _ _ _|.build _ _|.makeFunc _ _ _=>true
 | .call ⟨.builtin b,_,_⟩=>(match b with|.len|.cap|.min|.max=>true|_=>false)
 | _=>false
def zF4 (o:Oper):Nat:=o.after.toList.foldl (fun m e=>bif Region.binds .any e then Nat.lor m (Nat.shiftLeft 1 e.on) else m) 0
def bit (m i:Nat):Bool:=!(Nat.beq (Nat.land m (Nat.shiftLeft 1 i)) 0)
def sub (a b:Nat):Bool:=Nat.beq (Nat.land a b) a
def zH9 (lk:Bool) (mask:Nat):List Oper→Nat→Option (Nat × Nat)
 | [],_=>none
 | o::r,i=>bif !bit mask i&&sub (zF4 o) mask&&zBU lk (isLook o.op) then some (i,zF4 o) else zH9 lk mask r (i+1)
def nthO:List Oper→Nat→Option Oper
 | [],_=>none
 | o::_,0=>some o
 | _::r,i+1=>nthO r i
def isData (e:Edge):Bool:=match e.ground with
 | .data|.chain|.guard=>true|_=>false
def cloD (l:List Oper):Nat→Nat→Nat
 | 0,_=>0
 | k+1,i=>match nthO l i with
   | some o=>o.after.toList.foldl (fun m e=>bif Region.binds .any e then Nat.lor (Nat.lor m (Nat.shiftLeft 1 e.on)) (bif isData e then cloD l k e.on else 0) else m) 0
   | none=>0
def zFY (mask:Nat):List Oper→Nat→List Nat
 | [],_=>[]
 | o::r,i=>bif !bit mask i&&sub (zF4 o) mask then i::zFY mask r (i+1) else zFY mask r (i+1)
def foSibs (f:Nat→Fo):List Nat→Fo
 | []=>.nil
 | i::r=>.cons i (f i) (foSibs f r)
def foOf (l:List Oper):Nat→Nat→Fo
 | 0,_=>.leaf
 | k+1,mask=>match zFY mask l 0 with
   | []=>.leaf
   | i::r=>foSibs (fun i=>foOf l k (Nat.lor mask (Nat.shiftLeft 1 i))) (i::r)
def looks:List Oper→List Tk
 | []=>[]
 | _::r=>.look 0::looks r
def zGa (l:List Oper):List Oper→Nat→Nat→List Tk
 | [],_,_=>[]
 | _::f,mask,ph=>match zH9 true mask l 0 with
   | some (i,_)=>.look i::zGa l f (Nat.lor mask (Nat.shiftLeft 1 i)) (Nat.lor ph (Nat.shiftLeft 1 i))
   | none=>match zH9 false mask l 0 with
     | some (i,p)=>match zFY mask l 0 with
       | _::_::_=>.rest (foOf l 6 mask)::looks f
       | _=>bif sub ph p||sub ph (cloD l 9 i) then .last i::zGa l f (Nat.lor mask (Nat.shiftLeft 1 i)) 0 else .keep i::zGa l f (Nat.lor mask (Nat.shiftLeft 1 i)) ph
     | none=>[]
def planOf (l:List Oper):List Tk:=zGa l l 0 0
inductive NfF:Fo→Fo→Prop where
 | leaf:NfF .leaf .leaf
 | nil:NfF .nil .nil
 | cons (i:Nat) {a b a' b':Fo} (h1:NfF a a') (h2:NfF b b'):NfF (.cons i a b) (.cons i a' b')
inductive NfT:List Tk→List Tk→Prop where
 | nil:NfT [] []
 | rest {a b:Fo}{l r:List Tk} (hf:NfF a b) (h:NfT l r):NfT (.rest a::l) (.rest b::r)
 | cons (x:Tk) {l r:List Tk} (h:NfT l r):NfT (x::l) (x::r)
theorem Bs.all {own:Chs}{F:Chs→Prop} (h:F own):Bs own F:=⟨own,Sup.all _,h⟩
def ovl:List Value→Nat→List Value→List Value
 | [],_,_=>[]
 | c::cs,0,v::vs=>v::ovl cs 0 vs
 | c::cs,0,[]=>c::cs
 | c::cs,n+1,vs=>c::ovl cs n vs
theorem zH1:∀ (cs:List Value) (o:Nat) (vs:List Value),o+vs.length≤cs.length→ovl cs o vs=zAW cs o vs
 | [],o,vs,h=>by
   have h0:vs.length=0:=by have:([]:List Value).length=0:=rfl;omega
   have h1:vs=[]:=List.eq_nil_of_length_eq_zero h0
   subst h1;simp [ovl,zAW]
 | c::cs,0,v::vs,h=>by
   have:=zH1 cs 0 vs (by simp at h;omega)
   simp only [ovl,this];simp [zAW]
 | c::cs,0,[],h=>by simp [ovl,zAW]
 | c::cs,n+1,vs,h=>by
   have:=zH1 cs n vs (by simp at h;omega)
   have e:n+1+vs.length=(n+vs.length)+1:=by omega
   simp only [ovl,this,zAW,List.take_succ_cons,e,List.drop_succ_cons,List.cons_append]
theorem zDB (off:Nat):∀ (cs:List Value) (j:Nat) (A B:List Value),cs.length≤B.length→A.length=off+j →
  (cs.zipIdx j).foldl (fun (cs:Array Value) (x:Value × Nat)=>cs.setIfInBounds (off+x.2) x.1) (A++B).toArray=(A++cs++B.drop cs.length).toArray
 | [],j,A,B,_,_=>by simp
 | c::cs,j,A,B,hB,hA=>by
   cases B with
   | nil=>simp at hB
   | cons b B =>
     simp only [List.zipIdx_cons,List.foldl_cons]
     have e:(A++b::B).toArray.setIfInBounds (off+j) c=((A++[c])++B).toArray:=by
      apply Array.ext'
      simp only [Array.toList_setIfInBounds]
      rw [←hA,List.set_append_right _ _ (Nat.le_refl _)]
      simp
     rw [e,zDB off cs (j+1) (A++[c]) B (by simpa using hB) (by simp [hA];omega)]
     simp
theorem zFg (off:Nat) (vs:Array Value) (cs:List Value) (h:off+vs.size≤cs.length):vs.zipIdx.foldl (fun (cs:Array Value) (x:Value × Nat)=>cs.setIfInBounds (off+x.2) x.1) cs.toArray=(zAW cs off vs.toList).toArray:=by
 have:=zDB off vs.toList 0 (cs.take off) (cs.drop off) (by simp;omega) (by simp;omega)
 rw [List.take_append_drop] at this
 rw [←Array.foldl_toList,Array.toList_zipIdx,this]
 simp [zAW]
def zHT (fs:List (TypeId × Nat × Nat)):List Value→List (Nat × Value)→Option (List Value)
 | cells,[]=>some cells
 | cells,(i,v)::r=>match nthF fs i with
   | some (_,o,z)=>bif Nat.beq v.cells.size z&&Nat.ble (o+v.cells.size) cells.length then zHT fs (ovl cells o v.cells.toList) r else none
   | none=>none
theorem zEg {place:Nat→Option (Nat × Nat)}{fs:List (TypeId × Nat × Nat)} (hp:∀ i t o z,nthF fs i=some (t,o,z)→place i=some (o,z)):∀ {parts:List (Nat × Value)}{cells cs:List Value},zHT fs cells parts=some cs→Instr.fill place cells.toArray parts=some cs.toArray
 | [],cells,cs,h=>by simp [zHT] at h;subst h;rfl
 | (i,v)::r,cells,cs,h=>by
   unfold zHT at h
   split at h
   ·rename_i t o z hn
    cases hb:Nat.beq v.cells.size z&&Nat.ble (o+v.cells.size) cells.length with
    | false=>simp [hb] at h
    | true =>
      simp only [hb,cond_true] at h
      simp only [Bool.and_eq_true] at hb
      have h1:=Nat.eq_of_beq_eq_true hb.1
      have h2:o+v.cells.size≤cells.length:=Nat.le_of_ble_eq_true hb.2
      have ih:=zEg hp h
      have e:v.cells.zipIdx.foldl (fun (cs:Array Value) (x:Value × Nat)=>cs.setIfInBounds (o+x.2) x.1) cells.toArray=(zAW cells o v.cells.toList).toArray:=zFg o v.cells cells h2
      unfold Instr.fill
      rw [hp _ _ _ _ hn]
      simp only
      rw [if_neg (by simp [h1];omega)]
      rw [zH1 cells o v.cells.toList (by simpa using h2)] at ih
      rw [←ih]
      congr 1
   ·cases h
def zGl (T:TT) (t:TypeId) (parts:List (Nat × Value)):Option (List Value):=match T.get t with
 | some ⟨.struct fs,_,z⟩=>zHT fs z parts
 | _=>none
inductive Nf:List Value→List Value→Prop where
 | nil:Nf [] []
 | cons (v:Value) {l r:List Value} (h:Nf l r):Nf (v::l) (v::r)
theorem Nf.eq {l r:List Value} (h:Nf l r):l=r:=by
 induction h with
 | nil=>rfl
 | cons v h ih=>rw [ih]
theorem zGe:∀ {l:List (TypeId × Nat × Nat)}{i:Nat}{x:TypeId × Nat × Nat},nthF l i=some x→l[i]?=some x
 | f::r,0,x,h=>by simpa [nthF] using h
 | f::r,n+1,x,h=>by simpa using zGe (l:=r) (by simpa [nthF] using h)
 | [],_,_,h=>by simp [nthF] at h
theorem zDH {P:Program}{T:TT}{t:TypeId}{parts:List (Nat × Value)}{cs:List Value} (hT:TOk P T) (h:zGl T t parts=some cs):P.built t parts=some cs.toArray:=by
 unfold zGl at h
 split at h
 ·rename_i fs n z ht
  obtain ⟨l,h2,rfl,hne⟩:=hT.struct ht
  obtain ⟨d,j,z0,hi⟩:=tiOf.all (hT.get ht)
  have hz:z0.cells=z.toArray:=by have:=hi.cells;simp at this;rw [this]
  have hall:∀ (l:List Field),(∀ f∈l,∃ i,P.info? f.type=some i)→l.mapM (fun f=>(P.info? f.type).map fun i=>(f.offset,i.size))=some (l.map fun f=>(f.offset,((P.info? f.type).map (·.size)).getD 0)):=by
   intro l
   induction l with
   | nil=>intro _;rfl
   | cons f l ih =>
     intro hl
     obtain ⟨i,hi⟩:=hl f (by simp)
     simp [List.mapM_cons,hi,ih (fun g hg=>hl g (by simp [hg]))]
  unfold Program.built
  simp only [hi.info,h2,hi.zero,hall _ hne,hz]
  refine zEg (fun i t o s hn=>?_) h
  have:=zGe hn
  simp only [List.getElem?_map] at this
  simp only [List.getElem?_toArray,List.getElem?_map]
  cases hf:l[i]? with
  | none=>rw [hf] at this;simp at this
  | some f=>rw [hf] at this;simp at this;obtain ⟨_,rfl,rfl⟩:=this;simp
 ·cases h
section
variable {P:Program}{T:TT} [hT:TTab P T] {ty:TypeId}{env:Env}{ro:Ro}{own:Chs}{K:Value→Prop}
theorem CodeOk.drawnAuto {id:Nat}{l:List Oper}{k:Exit→Kt}{plan:List Tk} (hnf:NfT (planOf l) plan) (hm:P.follows .mixedOrders=true) (hns:Region.noSelect l.toArray=true) (hlen:Nat.beq plan.length l.length=true) (hp:zBS l.toArray plan (Array.replicate l.length false)=true)
  (hv:nextB plan (vH P T l plan []) (k .normal) env ro own):CodeOk P (.region id l.toArray true) k env ro own:=CodeOk.drawn _ hm hns hlen hp hv
theorem QOk.pu {op:Op}{v:Value} (hp:∀ h,Sat ro own h→∀ d pos af g,Pu P ⟨d,op,ty,pos,af,g⟩ env h v) (hk:K v):QOk P op ty env ro own K:=⟨v,hp,hk⟩
theorem QOk.load {t:TypeId}{x:Operand}{b o:Nat}{v:Value} (hx:ev env x=some (.pointer (some ⟨b,o,none⟩))) (ht:oneT T t=true) (hl:Ld ro own b o v) (hk:K v) :
  QOk P (.load t x) ty env ro own K:=by
 have h00:=zD2 ht
 clear ht
 obtain ⟨ti,ht,_,hr⟩:=h00
 obtain ⟨du,h1,h2⟩:=hT.ok.row ht
 exact QOk.pu (fun h hs d pos af g=>Pu.load hx h1 (h2.trans hr) (hl h hs)) hk
theorem QOk.loadRow {t:TypeId}{x:Operand}{b o:Nat}{cs:List Value}{z:Nat} (hx:ev env x=some (.pointer (some ⟨b,o,none⟩))) (ht:rowT T t=some z) (hl:LdN ro own b o cs) (hn:cs.length=z) (hk:K (.agg cs.toArray)) :
  QOk P (.load t x) ty env ro own K:=by
 have h00:=zCC ht
 clear ht
 obtain ⟨ti,ht,rfl,hr⟩:=h00
 obtain ⟨du,h1,h2⟩:=hT.ok.row ht
 exact QOk.pu (fun h hs d pos af g=>Pu.loadRow hx h1 (h2.trans hr) ((hT.ok.sz ht).trans (by rw [hn])) (hl h hs)) hk
theorem QOk.idx {t e:TypeId}{x ix:Operand}{a:Option Addr}{n c:Nat}{k:IntKind}{i:Int}{s:Nat} (hx:ev env x=some (.slice a n c)) (hi:ev env ix=some (.int k i)) (ht:zB6 T t=some (e,s))
  (hb:0≤i∧i<n) (ha:AOk ro own a n) (hk:K (.pointer (some ⟨ab a,ao a+i.toNat*s,none⟩))):QOk P (.indexAddr t x ix) ty env ro own K:=by
 have h00:=zAP ht
 clear ht
 obtain ⟨z1,z2,te,ht,he,rfl,_,_⟩:=h00
 exact QOk.pu (fun h hs d pos af g=>by
  obtain ⟨b,o,rfl⟩:=ha h hs (by omega)
  exact Pu.idx hx hi (hT.ok.slice ht) (hT.ok.sz he) hb) hk
theorem QOk.idx1 {t e:TypeId}{x ix:Operand}{a:Option Addr}{n c:Nat}{k:IntKind}{i:Int} (hx:ev env x=some (.slice a n c)) (hi:ev env ix=some (.int k i)) (ht:zB6 T t=some (e,1))
  (hb:0≤i∧i<n) (ha:AOk ro own a n) (hk:K (.pointer (some ⟨ab a,ao a+i.toNat,none⟩))):QOk P (.indexAddr t x ix) ty env ro own K :=
 QOk.idx hx hi ht hb ha (by simpa using hk)
theorem QOk.idxA {t:TypeId}{x ix:Operand}{b o n:Nat}{k:IntKind}{i:Int}{s:Nat} (hx:ev env x=some (.pointer (some ⟨b,o,none⟩))) (hi:ev env ix=some (.int k i)) (hm:elemA T t=some (n,s))
  (hb:0≤i∧i<n) (hk:K (.pointer (some ⟨b,o+i.toNat*s,none⟩))):QOk P (.indexAddr t x ix) ty env ro own K:=by
 have h00:=zEh hm
 clear hm
 obtain ⟨e,z3,z4,te,hm,he,rfl⟩:=h00
 exact QOk.pu (fun h hs d pos af g=>.mk fun ρ w hρ _=>by
  simp [execOp,hρ _ _ hx,hρ _ _ hi,Instr.indexAt,asIntOf,run_underlying (hT.ok.arr hm),zA7 (hT.ok.sz he),hb.1,hb.2,Addr.add_mid,Instr.sureAddr]) hk
theorem QOk.build {t:TypeId}{ps:List (Nat × Operand)}{vs:List Value}{cs0 cs:List Value} (hv:evs env (ps.map (·.2))=some vs) (hb:zGl T t ((ps.map (·.1)).zip vs)=some cs0) (hn:Nf cs0 cs) (hk:K (.agg cs.toArray)):QOk P (.build t ps.toArray) ty env ro own K :=
 QOk.pu (fun h hs d pos af g=>Pu.build cs.toArray hv (by rw [←hn.eq];exact zDH hT.ok hb)) hk
end
section
variable {P:Program}{T:TT} [hT:TTab P T] {ty:TypeId}{env:Env}{ro:Ro}{own:Chs}{K:Value→Ro→Chs→Prop}
theorem OpOk.build {t:TypeId}{ps:List (Nat × Operand)}{vs:List Value}{cs0 cs:List Value} (hv:evs env (ps.map (·.2))=some vs) (hb:zGl T t ((ps.map (·.1)).zip vs)=some cs0) (hn:Nf cs0 cs) (hk:K (.agg cs.toArray) ro own):OpOk P (.build t ps.toArray) ty env ro own K :=
 OpOk.pu (fun h hs d pos af g=>Pu.build cs.toArray hv (by rw [←hn.eq];exact zDH hT.ok hb)) hk
end
end Go.E
namespace Go.E
open Go
structure Rs (ro:Ro) (a:Option Addr) (n c s:Nat) (cs:List Value):Prop where
 run:∀ h own,Sat ro own h→Rd h (.slice a n c) n cs
 len:cs.length=n*s
 le:n≤c
 max:c≤maxLen
theorem Rs.up {ro ro':Ro}{a:Option Addr}{n c s:Nat}{cs:List Value} (hr:Rs ro a n c s cs) [hl:Leq ro ro']:Rs ro' a n c s cs :=
 ⟨fun h own hs=>hr.run h own (hs.leq hl),hr.len,hr.le,hr.max⟩
theorem Rs.rds {ro ro':Ro}{own:Chs}{a:Option Addr}{n c s:Nat}{cs:List Value} (hr:Rs ro a n c s cs) [hl:Leq ro ro']:Rds ro' own a n c s cs :=
 ⟨fun h hs=>hr.run h own (hs.leq hl),hr.len,hr.le,hr.max⟩
theorem Rs.nil (ro:Ro) (s:Nat):Rs ro none 0 0 s []:=⟨fun h _ _=>Rd.nil h,by simp,Nat.le_refl _,Nat.zero_le _⟩
theorem Rs.last {ro:Ro}{a:Option Addr}{n c s:Nat}{t:TypeId}{cs:List Value} (hc:(Chunk.sl a n c t s cs).holds ro):Rs ro a n c s cs :=
 ⟨fun h own hs=>(Chunk.own (h:=h) (hc.le ⟨fun b o hb=>hs.last b o hb⟩)).rd,hc.1,hc.2.1,hc.2.2.1⟩
theorem Ld.rs {ro ro':Ro}{own:Chs}{a:Option Addr}{n c s:Nat}{cs:List Value}{k:Nat}{v:Value} (hr:Rs ro a n c s cs) [hl:Leq ro ro'] (hv:cs[k]?=some v):Ld ro' own (ab a) (ao a+k) v:=fun h hs=>(hr.run h own (hs.leq hl)).cell hv
theorem LdN.rs {ro ro':Ro}{own:Chs}{a:Option Addr}{n c s:Nat}{cs:List Value}{k z:Nat} (hr:Rs ro a n c s cs) [hl:Leq ro ro']:LdN ro' own (ab a) (ao a+k) ((cs.drop k).take z):=LdN.rds (ro:=ro') (own:=own) (own':=own) (hr.rds (ro':=ro'))
theorem AOk.rs {ro ro':Ro}{own:Chs}{a:Option Addr}{n c s:Nat}{cs:List Value} (hr:Rs ro a n c s cs) [hl:Leq ro ro']:AOk ro' own a n:=fun h hs hn=>AOk.of (hr.run h own (hs.leq hl)) hn
theorem Rds.n1 {ro:Ro}{own:Chs}{a:Option Addr}{n c:Nat}{cs:List Value} (hr:Rds ro own a n c 1 cs):cs.length=n:=by have:=hr.len;omega
theorem Wk.outS {K:Value→Ro→Chs→Prop}{v:Value}{env:Env}{ro:Ro}{own own1 own':Chs} (hs:Sup own own1) (hp:own1.Perm own') (h:K v ro own'):Wk (fun _ ro own=>K v ro own) env ro own:=.own own1 hs (.perm hp (.id h))
theorem Wk.val {K:Value→Ro→Chs→Prop}{v u:Value}{env:Env}{ro:Ro}{own:Chs} (h:K v ro own) (e:v=u):Wk (fun _ ro own=>K u ro own) env ro own:=by subst e;exact .id h
theorem Sub.consE {e r:Env}{t:Nat}{u v:Value} (h:E.look e t=some u) (he:u=v) (hr:Sub r e):Sub ((t,v)::r) e:=⟨he▸h,hr⟩
theorem LoopOk.at {ws:List Nat}{A:Kt→Kt}{env:Env}{ro:Ro}{own:Chs}{ι:Type}{env0:Env} (hk:Keep ws env env0) (f:ι→Env) (O:ι→Chs) (I:ι→Prop) (μ:ι→Nat) (i0:ι) (hI:I i0) (hs:Sub (f i0) env) (ho:Sup own (O i0))
  (round:∀ i,I i→A (Wk fun env ro' own=>∃ j,(ro'=ro∧I j)∧μ j<μ i∧Sub (f j++env0) env∧Sup own (O j)) (f i++env0) ro (O i)):LoopOk ws A env ro own :=
 LoopOk.auto hk f O (fun i r=>r=ro∧I i) μ i0 ⟨rfl,hI⟩ hs ho (fun i ro' _ h=>by obtain ⟨rfl,h⟩:=h;exact round i h)
abbrev ptr' (b:Nat):Value:=.pointer (some ⟨b,0,none⟩)
section
variable {P:Program}{T:TT} [hT:TTab P T] {ty:TypeId}{env:Env}{ro:Ro}{own:Chs}{K:Value→Ro→Chs→Prop}
def ixor (a b:Int):Int:=IntKind.i64.wrap ((BitVec.ofInt 64 a ^^^ BitVec.ofInt 64 b).toNat:Int)
def iand (a b:Int):Int:=IntKind.i64.wrap ((BitVec.ofInt 64 a &&& BitVec.ofInt 64 b).toNat:Int)
theorem OpOk.andI {t yt:TypeId}{x y:Operand}{a b:Int} (hx:ev env x=some (.int .i64 a)) (hy:ev env y=some (.int .i64 b)) (hk:K (.int .i64 (iand a b)) ro own):OpOk P (.binOp .and t x y yt) ty env ro own K :=
 OpOk.pu (fun h hs d pos af g=>Pu.int2 hx hy (by simp) fun w=>rfl) hk
theorem OpOk.notI {t:TypeId}{x:Operand}{a:Int} (hx:ev env x=some (.int .i64 a)) (hk:K (.int .i64 (ixor (-1) a)) ro own):OpOk P (.unOp .xor t x) ty env ro own K :=
 OpOk.pu (fun h' hs d pos af g=>.mk fun ρ w hρ _=>by
  have hm:(if IntKind.i64.signed=true then (-1:Int) else IntKind.i64.max)=-1:=by rfl
  have hb:(Op.intBits .xor .i64 (-1) a).run P w=.ok (.int .i64 (ixor (-1) a)) w:=rfl
  simp only [execOp,hρ _ _ hx,Op.unary,hm,Sem.run_bind,hb]
  rfl) hk
end
end Go.E
namespace Go.E
open Go Go.RowKit Go.ChangeShapes Go.WideShapes Go.ChangeAt
theorem below_of {w w':World} (hh:Hp w'.heap w w') (he:Ext w.heap w'.heap):Below w.heap.size w w':=⟨hh.os,hh.tape,hh.output,he.1,he.2⟩
theorem Meets.row {P:Program}{f:FuncId}{args:Array Value}{w:World} (h:Meets P f args w.heap (fun u h'=>u=.bool true∧Ext w.heap h')) :
  Calls P f args w fun e w'=>e=.returned (.bool true)∧Below w.heap.size w w' :=
 (h w rfl).mono fun e w' ⟨v,he,hh,hv,hx⟩=>by subst hv;exact ⟨he,below_of hh hx⟩
section
variable {P:Program}{W:World}{H:Type}{enc:TypeId × Value→H}
theorem zDP {n:Int} (h:(Lit.int .u64 n).wf=true):∃ m:Nat,n=(m:Int)∧m<18446744073709551616:=by
 simp [Lit.wf,IntKind.min,IntKind.max,IntKind.signed,IntKind.bits] at h
 exact ⟨n.toNat,by omega,by omega⟩
theorem zDb {n:Int} (h:(Lit.int .i64 n).wf=true):-9223372036854775808≤n∧n≤9223372036854775807:=by
 simp [Lit.wf,IntKind.min,IntKind.max,IntKind.signed,IntKind.bits] at h
 omega
end
end Go.E
namespace Go.E
open Go
theorem sat_all (h:Heap):Sat (hm h) [] h:=⟨fun b o hb=>hb,by simp,by simp,by simp⟩
theorem Ext.ofSat {h h':Heap}{ro:Ro}{own:Chs} (hl:Le (hm h) ro) (hs:Sat ro own h'):Ext h h':=by
 have key:∀ k,k<h.size→h'[k]?=h[k]?:=fun k hk=>by
  have h1:hm h k=some h[k]:=Array.getElem?_eq_getElem hk
  have h2:=hs.last _ _ (hl.le _ _ h1)
  rw [h2];exact h1.symm
 refine ⟨?_,key⟩
 rcases Nat.eq_zero_or_pos h.size with h0|h0
 ·omega
 ·have:=key (h.size-1) (by omega)
  rw [Array.getElem?_eq_getElem (by omega:h.size-1<h.size)] at this
  have:=(Array.getElem?_eq_some_iff.1 this).1
  omega
theorem CallOk.law {P:Program}{f:FuncId}{args:Array Value}{h:Heap} (he:∀ args w,(callFunc f args).run P w=.ok (.enter f args) w) (hc:CallOk P f args (hm h) [] (fun v _ _=>v=.bool true)):Meets P f args h (fun u h'=>u=.bool true∧Ext h h'):=fun w hw=>by
 subst hw
 rcases hc.run w (sat_all _) with ⟨_,hcalls⟩|⟨v,w',h1,_⟩
 ·exact hcalls.mono fun e w' ⟨v,hev,hh,ro',own',hl,hs,hv⟩=>⟨v,hev,hh,hv,Ext.ofSat hl hs⟩
 ·rw [he] at h1;cases h1
theorem Rs.ofRd {h:Heap}{a:Option Addr}{n c s:Nat}{cs:List Value} (hr:Rd h (.slice a n c) n cs) (hl:cs.length=n*s):Rs (hm h) a n c s cs:=by
 obtain ⟨a',c',hv,h1,h2⟩:=hr.slice
 cases hv
 exact ⟨fun h' own hs=>hr.ext (Ext.ofSat (Le.refl _) hs),hl,h1,h2⟩
end Go.E
namespace Go.E
open Go
section
variable {P:Program}{f:FuncId}{fn:Func}{ro:Ro}{own:Chs}{K:Value→Ro→Chs→Prop}
theorem CallOk.at0 {args:Array Value}{v:Value} (h:∀ w,Sat ro own w.heap→(callFunc f args).run P w=.ok (.value v) w) (hk:K v ro own):CallOk P f args ro own K :=
 ⟨fun w hs=>.inr ⟨v,w,h w hs,Hp.self w,ro,own,Le.refl _,hs,hk⟩⟩
variable (hf : P.funcs[f]? = some fn) (hname : (fn.name == "runtime.NumGoroutine") = false) (hbd : fn.body.isNone = true) (hn : Extern.findNext fn = none)
include hf hname hbd hn
end
section
variable {P:Program}{T:TT} [hT:TTab P T] {ty:TypeId}{env:Env}{ro:Ro}{own:Chs}{K:Value→Ro→Chs→Prop}
end
end Go.E
namespace Go.E
open Go
section
variable {P:Program}{T:TT} [hT:TTab P T] {ty:TypeId}{env:Env}{ro:Ro}{own:Chs}{K:Value→Ro→Chs→Prop}
end
theorem CallOk.add64 {P : Program} {f : FuncId} {fn : Func} {ro : Ro} {own : Chs} {K : Value → Ro → Chs → Prop} (hf : P.funcs[f]? = some fn) (hname : (fn.name == "runtime.NumGoroutine") = false) (hbd : fn.body.isNone = true) (hn : Extern.findNext fn = none)
  (he:Extern.find fn=some (Extern.MathBitsCarry.rows[0]'(by decide)).2) {x y:Nat} (hk:K (.tuple #[.int .u64 (((x+y) % 18446744073709551616:Nat):Int),.int .u64 (((x+y) / 18446744073709551616:Nat):Int)]) ro own):CallOk P f #[.int .u64 x,.int .u64 y,.int .u64 0] ro own K:=by
 refine CallOk.at0 (fun w _=>?_) hk
 rw [run_callFunc_extern hf hname hbd hn he]
 rfl
end Go.E
namespace Go.E
open Go
theorem Take.auto {l:Chs}{c:Chunk}{r:Chs} (h:Take l c r:=by first|((repeat (first|apply Take.hit|apply Take.miss));done)|exact Take.hit _ _|exact Take.miss _ (Take.hit _ _)|exact Take.miss _ (Take.miss _ (Take.hit _ _))|exact Take.miss _ (Take.miss _ (Take.miss _ (Take.hit _ _)))|exact Take.miss _ (Take.miss _ (Take.miss _ (Take.miss _ (Take.hit _ _))))|exact Take.miss _ (Take.miss _ (Take.miss _ (Take.miss _ (Take.miss _ (Take.hit _ _)))))|exact Take.miss _ (Take.miss _ (Take.miss _ (Take.miss _ (Take.miss _ (Take.miss _ (Take.hit _ _))))))):Take l c r:=h
theorem Sub.z {a b:Env} (h:Sub a b:=by ((repeat (first|exact trivial|refine Sub.cons rfl ?_|refine Sub.consE rfl (congrArg (Value.int _) (by omega)) ?_));done)):Sub a b:=h
theorem Sup.z {a b:Chs} (h:Sup a b:=by ((repeat (first|exact Sup.all _|exact Sup.nil _|refine Sup.cons Take.auto ?_|refine Sup.nilc ?_|refine Sup.drop _ ?_));done)):Sup a b:=h
theorem Keep.z {ws:List Nat}{a b:Env} (h:Keep ws a b:=by ((repeat (first|exact Keep.nil _|apply Keep.skip (by rfl)|apply Keep.keep (by rfl)|apply Keep.args (by rfl)));done)):Keep ws a b:=h
theorem Rds.auto {ro:Ro}{own:Chs}{a:Option Addr}{n c s:Nat}{cs:List Value} (h:Rds ro own a n c s cs:=by first|exact Rs.rds (by assumption)|exact Rds.up (by assumption)|exact Rds.hasSl (by omega) (by omega) (by first|rfl|(rw [List.length_map];omega)|(simp;done)|(simp;omega))):Rds ro own a n c s cs:=h
theorem Ld.auto {ro:Ro}{own:Chs}{b o:Nat}{v:Value} (h:Ld ro own b o v:=by first|exact Ld.hasBlk rfl|exact Ld.rs (by assumption) (zEf (by omega))|exact Ld.rds (by assumption) (zEf (by omega))|exact Ld.hasSl (zEf (by omega))|exact Ld.hasBlkAt (zEf (by omega))):Ld ro own b o v:=h
theorem AOk.auto {ro:Ro}{own:Chs}{a:Option Addr}{n:Nat} (h:AOk ro own a n:=by first|exact AOk.hasSl|exact AOk.rs (by assumption)|exact AOk.rds (by assumption)|exact AOk.lit):AOk ro own a n:=h
theorem zAR {p:Prop} (h:p:=by first|omega|(simp only [Int.reduceToNat,Int.reducePow];omega)|exact u8_range _|exact u8_shr _ _|exact ⟨(u8_shr _ _).1,by decide⟩|exact add_u8 _ _ (by omega)|exact ⟨⟨Int.emod_nonneg _ (by decide),Int.emod_lt_of_pos _ (by decide)⟩,Int.natCast_nonneg _,Int.lt_of_lt_of_le (u8_range _).2 (by decide)⟩|exact ⟨⟨Int.emod_nonneg _ (by decide),Int.emod_lt_of_pos _ (by decide)⟩,⟨Int.emod_nonneg _ (by decide),Int.emod_lt_of_pos _ (by decide)⟩⟩):p:=h
theorem SetR.auto {cs:List Value}{o:Nat}{v:Value}{cs2:List Value} (h:SetR cs o v cs2:=by ((repeat (first|apply SetR.hit|apply SetR.miss));done)):SetR cs o v cs2:=h
theorem Nf.auto {a b:List Value} (h:Nf a b:=by ((repeat (first|exact Nf.nil|apply Nf.cons));done)):Nf a b:=h
theorem zH5 {ys:List Value} (h:∀ u∈ys,u.oneCell'=true:=by first|exact one_u8 _|exact zH3 _ _|assumption):∀ u∈ys,u.oneCell'=true:=h
theorem zO {p:Prop} (h:p:=by omega):p:=h
theorem zAq {α:Type}{a b:α} (h:a=b:=by rfl):a=b:=h
theorem RL.auto {P:Program}{T:TT}{env:Env}{ro:Ro}{own:Chs}{rs:List ResultVar}{vs:List Value} (h:RL P T env ro own rs vs:=by first|exact RL.row rfl rfl (by exact LdN.hasBlk) (by rfl) RL.nil|exact RL.row rfl rfl (by exact LdN.hasBlk) (by rfl) (RL.tmp rfl RL.nil)|exact RL.row rfl rfl (by exact LdN.hasBlk) (by rfl) (RL.row rfl rfl (by exact LdN.hasBlk) (by rfl) RL.nil)|exact RL.tmp rfl (RL.row rfl rfl (by exact LdN.hasBlk) (by rfl) RL.nil)|exact RL.one rfl rfl Ld.auto RL.nil|exact RL.one rfl rfl Ld.auto (RL.tmp rfl RL.nil)):RL P T env ro own rs vs:=h
theorem NfT.auto {a b:List Tk} (h:NfT a b:=by ((repeat (first|exact NfT.nil|exact NfF.leaf|exact NfF.nil|apply NfF.cons|apply NfT.rest|apply NfT.cons));done)):NfT a b:=h
structure Hd (q:Prop):Prop where
 get:q
theorem zE {p:Prop} (h:p:=by show _∧_;exact ⟨rfl,rfl,rfl⟩):p:=h
theorem wkG {q p:Prop} (h:q) (e:Hd q→p:=by
 intro hWk
 first
  | refine Stop.mk ?_
  | (show _∧_;refine And.intro zAR ?_)
  | (show OpOk _ _ _ _ _ _ _;first
    | (show OpOk _ (.load _ _) _ _ _ _ _;first|refine OpOk.load rfl rfl Ld.auto ?_|refine OpOk.loadRow rfl rfl LdN.hasBlk rfl ?_|refine OpOk.loadPart rfl rfl Nf.auto zAq ?_)
    | (show OpOk _ (.store _ _ _) _ _ _ _ _;first|refine OpOk.store rfl rfl rfl rfl SetR.auto ?_|refine OpOk.storeRow rfl rfl rfl rfl (by rfl) rfl ?_)
    | (show OpOk _ (.indexAddr _ _ _) _ _ _ _ _;first|refine OpOk.idx1 rfl rfl rfl (by omega) AOk.auto ?_|refine OpOk.idxA rfl rfl rfl (by omega) ?_|refine OpOk.idx rfl rfl rfl (by omega) AOk.auto ?_)
    | (show OpOk _ (.binOp _ _ _ _ _) _ _ _ _ _;first|(show OpOk _ (.binOp .and _ _ _ _) _ _ _ _ _;refine OpOk.andN rfl rfl zAR ?_)|refine OpOk.eqlSl rfl rfl ?_|refine OpOk.neqSl rfl rfl ?_)
    | (show OpOk _ (.slice _ _ _ _ _) _ _ _ _ _;refine OpOk.clip rfl rfl rfl rfl (by omega) ?_)
    | (show OpOk _ (.build _ _) _ _ _ _ _;refine OpOk.build rfl rfl Nf.auto ?_)
    | (show OpOk _ (.convert _ _ _) _ _ _ _ _;refine OpOk.toStr rfl rfl rfl rfl Rds.auto ?_))
  | (show QOk _ _ _ _ _ _ _;first
    | (show QOk _ (.load _ _) _ _ _ _ _;first|refine QOk.load rfl rfl Ld.auto ?_|refine QOk.loadRow rfl rfl LdN.hasBlk rfl ?_|refine QOk.loadPart rfl rfl Nf.auto zAq ?_)
    | (show QOk _ (.indexAddr _ _ _) _ _ _ _ _;first|refine QOk.idx1 rfl rfl rfl (by omega) AOk.auto ?_|refine QOk.idxA rfl rfl rfl (by omega) ?_|refine QOk.idx rfl rfl rfl (by omega) AOk.auto ?_)
    | (show QOk _ (.convert _ _ _) _ _ _ _ _;refine QOk.toStr rfl rfl rfl rfl Rds.auto ?_))
  | (show Br _ _ _;first|with_reducible refine Br.tt ?_|with_reducible refine Br.ff ?_|with_reducible refine Br.nt ?_|with_reducible refine Br.nf ?_|refine Br.t (by omega) ?_|refine Br.f (by omega) ?_)
  | (show Bk _ _ _;refine Bk.all Sup.z ?_)
  | (show RetOk _ _ _ _ _ _;refine RetOk.of (T:=T) RL.auto ?_)
  | (show CodeOk _ _ _ _ _ _;refine CodeOk.drawnAuto NfT.auto rfl (by kernel_rfl) (by rfl) (by kernel_rfl) ?_)
 repeat (first
  | refine Stop.mk ?_
  | (show _∧_;refine And.intro zAR ?_)
  | (show OpOk _ _ _ _ _ _ _;first
    | (show OpOk _ (.load _ _) _ _ _ _ _;first|refine OpOk.load rfl rfl Ld.auto ?_|refine OpOk.loadRow rfl rfl LdN.hasBlk rfl ?_|refine OpOk.loadPart rfl rfl Nf.auto zAq ?_)
    | (show OpOk _ (.store _ _ _) _ _ _ _ _;first|refine OpOk.store rfl rfl rfl rfl SetR.auto ?_|refine OpOk.storeRow rfl rfl rfl rfl (by rfl) rfl ?_)
    | (show OpOk _ (.indexAddr _ _ _) _ _ _ _ _;first|refine OpOk.idx1 rfl rfl rfl (by omega) AOk.auto ?_|refine OpOk.idxA rfl rfl rfl (by omega) ?_|refine OpOk.idx rfl rfl rfl (by omega) AOk.auto ?_)
    | (show OpOk _ (.binOp _ _ _ _ _) _ _ _ _ _;first|(show OpOk _ (.binOp .and _ _ _ _) _ _ _ _ _;refine OpOk.andN rfl rfl zAR ?_)|refine OpOk.eqlSl rfl rfl ?_|refine OpOk.neqSl rfl rfl ?_)
    | (show OpOk _ (.slice _ _ _ _ _) _ _ _ _ _;refine OpOk.clip rfl rfl rfl rfl (by omega) ?_)
    | (show OpOk _ (.build _ _) _ _ _ _ _;refine OpOk.build rfl rfl Nf.auto ?_)
    | (show OpOk _ (.convert _ _ _) _ _ _ _ _;refine OpOk.toStr rfl rfl rfl rfl Rds.auto ?_))
  | (show QOk _ _ _ _ _ _ _;first
    | (show QOk _ (.load _ _) _ _ _ _ _;first|refine QOk.load rfl rfl Ld.auto ?_|refine QOk.loadRow rfl rfl LdN.hasBlk rfl ?_|refine QOk.loadPart rfl rfl Nf.auto zAq ?_)
    | (show QOk _ (.indexAddr _ _ _) _ _ _ _ _;first|refine QOk.idx1 rfl rfl rfl (by omega) AOk.auto ?_|refine QOk.idxA rfl rfl rfl (by omega) ?_|refine QOk.idx rfl rfl rfl (by omega) AOk.auto ?_)
    | (show QOk _ (.convert _ _ _) _ _ _ _ _;refine QOk.toStr rfl rfl rfl rfl Rds.auto ?_))
  | (show Br _ _ _;first|with_reducible refine Br.tt ?_|with_reducible refine Br.ff ?_|with_reducible refine Br.nt ?_|with_reducible refine Br.nf ?_|refine Br.t (by omega) ?_|refine Br.f (by omega) ?_)
  | (show Bk _ _ _;refine Bk.all Sup.z ?_)
  | (show RetOk _ _ _ _ _ _;refine RetOk.of (T:=T) RL.auto ?_)
  | (show CodeOk _ _ _ _ _ _;refine CodeOk.drawnAuto NfT.auto rfl (by kernel_rfl) (by rfl) (by kernel_rfl) ?_))
 exact hWk.get):p:=e ⟨h⟩
theorem wkS {q p:Prop} (h:q) (e:Hd q→p:=by
 intro hWk
 first
  | refine Stop.mk ?_
  | (show _∧_;refine And.intro zAR ?_)
  | (show OpOk _ _ _ _ _ _ _;first
    | (show OpOk _ (.load _ _) _ _ _ _ _;first|refine OpOk.load rfl rfl Ld.auto ?_|refine OpOk.loadRow rfl rfl LdN.hasBlk rfl ?_|refine OpOk.loadPart rfl rfl Nf.auto zAq ?_)
    | (show OpOk _ (.store _ _ _) _ _ _ _ _;first|refine OpOk.store rfl rfl rfl rfl SetR.auto ?_|refine OpOk.storeRow rfl rfl rfl rfl (by rfl) rfl ?_)
    | (show OpOk _ (.indexAddr _ _ _) _ _ _ _ _;first|refine OpOk.idx1 rfl rfl rfl (by omega) AOk.auto ?_|refine OpOk.idxA rfl rfl rfl (by omega) ?_|refine OpOk.idx rfl rfl rfl (by omega) AOk.auto ?_)
    | (show OpOk _ (.binOp _ _ _ _ _) _ _ _ _ _;first|(show OpOk _ (.binOp .and _ _ _ _) _ _ _ _ _;refine OpOk.andN rfl rfl zAR ?_)|refine OpOk.eqlSl rfl rfl ?_|refine OpOk.neqSl rfl rfl ?_)
    | (show OpOk _ (.slice _ _ _ _ _) _ _ _ _ _;refine OpOk.clip rfl rfl rfl rfl (by omega) ?_)
    | (show OpOk _ (.build _ _) _ _ _ _ _;refine OpOk.build rfl rfl Nf.auto ?_)
    | (show OpOk _ (.convert _ _ _) _ _ _ _ _;refine OpOk.toStr rfl rfl rfl rfl Rds.auto ?_))
  | (show QOk _ _ _ _ _ _ _;first
    | (show QOk _ (.load _ _) _ _ _ _ _;first|refine QOk.load rfl rfl Ld.auto ?_|refine QOk.loadRow rfl rfl LdN.hasBlk rfl ?_|refine QOk.loadPart rfl rfl Nf.auto zAq ?_)
    | (show QOk _ (.indexAddr _ _ _) _ _ _ _ _;first|refine QOk.idx1 rfl rfl rfl (by omega) AOk.auto ?_|refine QOk.idxA rfl rfl rfl (by omega) ?_|refine QOk.idx rfl rfl rfl (by omega) AOk.auto ?_)
    | (show QOk _ (.convert _ _ _) _ _ _ _ _;refine QOk.toStr rfl rfl rfl rfl Rds.auto ?_))
  | (show Br _ _ _;first|with_reducible refine Br.tt ?_|with_reducible refine Br.ff ?_|with_reducible refine Br.nt ?_|with_reducible refine Br.nf ?_|refine Br.t (by omega) ?_|refine Br.f (by omega) ?_)
  | (show Bk _ _ _;refine Bk.same Sup.z ?_)
  | (show RetOk _ _ _ _ _ _;refine RetOk.of (T:=T) RL.auto ?_)
  | (show CodeOk _ _ _ _ _ _;refine CodeOk.drawnAuto NfT.auto rfl (by kernel_rfl) (by rfl) (by kernel_rfl) ?_)
 repeat (first
  | refine Stop.mk ?_
  | (show _∧_;refine And.intro zAR ?_)
  | (show OpOk _ _ _ _ _ _ _;first
    | (show OpOk _ (.load _ _) _ _ _ _ _;first|refine OpOk.load rfl rfl Ld.auto ?_|refine OpOk.loadRow rfl rfl LdN.hasBlk rfl ?_|refine OpOk.loadPart rfl rfl Nf.auto zAq ?_)
    | (show OpOk _ (.store _ _ _) _ _ _ _ _;first|refine OpOk.store rfl rfl rfl rfl SetR.auto ?_|refine OpOk.storeRow rfl rfl rfl rfl (by rfl) rfl ?_)
    | (show OpOk _ (.indexAddr _ _ _) _ _ _ _ _;first|refine OpOk.idx1 rfl rfl rfl (by omega) AOk.auto ?_|refine OpOk.idxA rfl rfl rfl (by omega) ?_|refine OpOk.idx rfl rfl rfl (by omega) AOk.auto ?_)
    | (show OpOk _ (.binOp _ _ _ _ _) _ _ _ _ _;first|(show OpOk _ (.binOp .and _ _ _ _) _ _ _ _ _;refine OpOk.andN rfl rfl zAR ?_)|refine OpOk.eqlSl rfl rfl ?_|refine OpOk.neqSl rfl rfl ?_)
    | (show OpOk _ (.slice _ _ _ _ _) _ _ _ _ _;refine OpOk.clip rfl rfl rfl rfl (by omega) ?_)
    | (show OpOk _ (.build _ _) _ _ _ _ _;refine OpOk.build rfl rfl Nf.auto ?_)
    | (show OpOk _ (.convert _ _ _) _ _ _ _ _;refine OpOk.toStr rfl rfl rfl rfl Rds.auto ?_))
  | (show QOk _ _ _ _ _ _ _;first
    | (show QOk _ (.load _ _) _ _ _ _ _;first|refine QOk.load rfl rfl Ld.auto ?_|refine QOk.loadRow rfl rfl LdN.hasBlk rfl ?_|refine QOk.loadPart rfl rfl Nf.auto zAq ?_)
    | (show QOk _ (.indexAddr _ _ _) _ _ _ _ _;first|refine QOk.idx1 rfl rfl rfl (by omega) AOk.auto ?_|refine QOk.idxA rfl rfl rfl (by omega) ?_|refine QOk.idx rfl rfl rfl (by omega) AOk.auto ?_)
    | (show QOk _ (.convert _ _ _) _ _ _ _ _;refine QOk.toStr rfl rfl rfl rfl Rds.auto ?_))
  | (show Br _ _ _;first|with_reducible refine Br.tt ?_|with_reducible refine Br.ff ?_|with_reducible refine Br.nt ?_|with_reducible refine Br.nf ?_|refine Br.t (by omega) ?_|refine Br.f (by omega) ?_)
  | (show Bk _ _ _;refine Bk.same Sup.z ?_)
  | (show RetOk _ _ _ _ _ _;refine RetOk.of (T:=T) RL.auto ?_)
  | (show CodeOk _ _ _ _ _ _;refine CodeOk.drawnAuto NfT.auto rfl (by kernel_rfl) (by rfl) (by kernel_rfl) ?_))
 exact hWk.get):p:=e ⟨h⟩
theorem wkT {q p:Prop} (h:q) (e:Hd q→p:=by
 intro hWk
 first
  | refine Stop.mk ?_
  | (show _∧_;refine And.intro zAR ?_)
  | (show OpOk _ _ _ _ _ _ _;first
    | (show OpOk _ (.load _ _) _ _ _ _ _;first|refine OpOk.load rfl rfl Ld.auto ?_|refine OpOk.loadRow rfl rfl LdN.hasBlk rfl ?_|refine OpOk.loadPart rfl rfl Nf.auto zAq ?_)
    | (show OpOk _ (.store _ _ _) _ _ _ _ _;first|refine OpOk.store rfl rfl rfl rfl SetR.auto ?_|refine OpOk.storeRow rfl rfl rfl rfl (by rfl) rfl ?_)
    | (show OpOk _ (.indexAddr _ _ _) _ _ _ _ _;first|refine OpOk.idx1 rfl rfl rfl (by omega) AOk.auto ?_|refine OpOk.idxA rfl rfl rfl (by omega) ?_|refine OpOk.idx rfl rfl rfl (by omega) AOk.auto ?_)
    | (show OpOk _ (.binOp _ _ _ _ _) _ _ _ _ _;first|(show OpOk _ (.binOp .and _ _ _ _) _ _ _ _ _;refine OpOk.andN rfl rfl zAR ?_)|refine OpOk.eqlSl rfl rfl ?_|refine OpOk.neqSl rfl rfl ?_)
    | (show OpOk _ (.slice _ _ _ _ _) _ _ _ _ _;refine OpOk.clip rfl rfl rfl rfl (by omega) ?_)
    | (show OpOk _ (.build _ _) _ _ _ _ _;refine OpOk.build rfl rfl Nf.auto ?_)
    | (show OpOk _ (.convert _ _ _) _ _ _ _ _;refine OpOk.toStr rfl rfl rfl rfl Rds.auto ?_))
  | (show QOk _ _ _ _ _ _ _;first
    | (show QOk _ (.load _ _) _ _ _ _ _;first|refine QOk.load rfl rfl Ld.auto ?_|refine QOk.loadRow rfl rfl LdN.hasBlk rfl ?_|refine QOk.loadPart rfl rfl Nf.auto zAq ?_)
    | (show QOk _ (.indexAddr _ _ _) _ _ _ _ _;first|refine QOk.idx1 rfl rfl rfl (by omega) AOk.auto ?_|refine QOk.idxA rfl rfl rfl (by omega) ?_|refine QOk.idx rfl rfl rfl (by omega) AOk.auto ?_)
    | (show QOk _ (.convert _ _ _) _ _ _ _ _;refine QOk.toStr rfl rfl rfl rfl Rds.auto ?_))
  | (show GJ _ _ _ _ _ _ _;first|with_reducible refine GJ.l1 ?_|with_reducible refine GJ.l2 ?_|with_reducible refine GJ.l3 ?_|with_reducible refine GJ.l4 ?_|with_reducible refine GJ.n1 ?_|with_reducible refine GJ.n2 ?_|with_reducible refine GJ.n3 ?_|with_reducible refine GJ.n4 ?_|refine GJ.t (by omega) ?_|refine GJ.f (by omega) ?_|refine GJ.ft (by omega) ?_|refine GJ.ff (by omega) ?_)
  | (show Br _ _ _;first|with_reducible refine Br.tt ?_|with_reducible refine Br.ff ?_|with_reducible refine Br.nt ?_|with_reducible refine Br.nf ?_|refine Br.t (by omega) ?_|refine Br.f (by omega) ?_)
  | (show Bk _ _ _;refine Bk.all Sup.z ?_)
  | (show RetOk _ _ _ _ _ _;refine RetOk.of (T:=T) RL.auto ?_)
  | (show CodeOk _ _ _ _ _ _;refine CodeOk.drawnAuto NfT.auto rfl (by kernel_rfl) (by rfl) (by kernel_rfl) ?_)
 repeat (first
  | refine Stop.mk ?_
  | (show _∧_;refine And.intro zAR ?_)
  | (show OpOk _ _ _ _ _ _ _;first
    | (show OpOk _ (.load _ _) _ _ _ _ _;first|refine OpOk.load rfl rfl Ld.auto ?_|refine OpOk.loadRow rfl rfl LdN.hasBlk rfl ?_|refine OpOk.loadPart rfl rfl Nf.auto zAq ?_)
    | (show OpOk _ (.store _ _ _) _ _ _ _ _;first|refine OpOk.store rfl rfl rfl rfl SetR.auto ?_|refine OpOk.storeRow rfl rfl rfl rfl (by rfl) rfl ?_)
    | (show OpOk _ (.indexAddr _ _ _) _ _ _ _ _;first|refine OpOk.idx1 rfl rfl rfl (by omega) AOk.auto ?_|refine OpOk.idxA rfl rfl rfl (by omega) ?_|refine OpOk.idx rfl rfl rfl (by omega) AOk.auto ?_)
    | (show OpOk _ (.binOp _ _ _ _ _) _ _ _ _ _;first|(show OpOk _ (.binOp .and _ _ _ _) _ _ _ _ _;refine OpOk.andN rfl rfl zAR ?_)|refine OpOk.eqlSl rfl rfl ?_|refine OpOk.neqSl rfl rfl ?_)
    | (show OpOk _ (.slice _ _ _ _ _) _ _ _ _ _;refine OpOk.clip rfl rfl rfl rfl (by omega) ?_)
    | (show OpOk _ (.build _ _) _ _ _ _ _;refine OpOk.build rfl rfl Nf.auto ?_)
    | (show OpOk _ (.convert _ _ _) _ _ _ _ _;refine OpOk.toStr rfl rfl rfl rfl Rds.auto ?_))
  | (show QOk _ _ _ _ _ _ _;first
    | (show QOk _ (.load _ _) _ _ _ _ _;first|refine QOk.load rfl rfl Ld.auto ?_|refine QOk.loadRow rfl rfl LdN.hasBlk rfl ?_|refine QOk.loadPart rfl rfl Nf.auto zAq ?_)
    | (show QOk _ (.indexAddr _ _ _) _ _ _ _ _;first|refine QOk.idx1 rfl rfl rfl (by omega) AOk.auto ?_|refine QOk.idxA rfl rfl rfl (by omega) ?_|refine QOk.idx rfl rfl rfl (by omega) AOk.auto ?_)
    | (show QOk _ (.convert _ _ _) _ _ _ _ _;refine QOk.toStr rfl rfl rfl rfl Rds.auto ?_))
  | (show GJ _ _ _ _ _ _ _;first|with_reducible refine GJ.l1 ?_|with_reducible refine GJ.l2 ?_|with_reducible refine GJ.l3 ?_|with_reducible refine GJ.l4 ?_|with_reducible refine GJ.n1 ?_|with_reducible refine GJ.n2 ?_|with_reducible refine GJ.n3 ?_|with_reducible refine GJ.n4 ?_|refine GJ.t (by omega) ?_|refine GJ.f (by omega) ?_|refine GJ.ft (by omega) ?_|refine GJ.ff (by omega) ?_)
  | (show Br _ _ _;first|with_reducible refine Br.tt ?_|with_reducible refine Br.ff ?_|with_reducible refine Br.nt ?_|with_reducible refine Br.nf ?_|refine Br.t (by omega) ?_|refine Br.f (by omega) ?_)
  | (show Bk _ _ _;refine Bk.all Sup.z ?_)
  | (show RetOk _ _ _ _ _ _;refine RetOk.of (T:=T) RL.auto ?_)
  | (show CodeOk _ _ _ _ _ _;refine CodeOk.drawnAuto NfT.auto rfl (by kernel_rfl) (by rfl) (by kernel_rfl) ?_))
 exact hWk.get):p:=e ⟨h⟩
theorem wkU {q p:Prop} (h:q) (e:Hd q→p:=by
 intro hWk
 first
  | refine Stop.mk ?_
  | (show _∧_;refine And.intro zAR ?_)
  | (show OpOk _ _ _ _ _ _ _;first
    | (show OpOk _ (.load _ _) _ _ _ _ _;first|refine OpOk.load rfl rfl Ld.auto ?_|refine OpOk.loadRow rfl rfl LdN.hasBlk rfl ?_|refine OpOk.loadPart rfl rfl Nf.auto zAq ?_)
    | (show OpOk _ (.store _ _ _) _ _ _ _ _;first|refine OpOk.store rfl rfl rfl rfl SetR.auto ?_|refine OpOk.storeRow rfl rfl rfl rfl (by rfl) rfl ?_)
    | (show OpOk _ (.indexAddr _ _ _) _ _ _ _ _;first|refine OpOk.idx1 rfl rfl rfl (by omega) AOk.auto ?_|refine OpOk.idxA rfl rfl rfl (by omega) ?_|refine OpOk.idx rfl rfl rfl (by omega) AOk.auto ?_)
    | (show OpOk _ (.binOp _ _ _ _ _) _ _ _ _ _;first|(show OpOk _ (.binOp .and _ _ _ _) _ _ _ _ _;refine OpOk.andN rfl rfl zAR ?_)|refine OpOk.eqlSl rfl rfl ?_|refine OpOk.neqSl rfl rfl ?_)
    | (show OpOk _ (.slice _ _ _ _ _) _ _ _ _ _;refine OpOk.clip rfl rfl rfl rfl (by omega) ?_)
    | (show OpOk _ (.build _ _) _ _ _ _ _;refine OpOk.build rfl rfl Nf.auto ?_)
    | (show OpOk _ (.convert _ _ _) _ _ _ _ _;refine OpOk.toStr rfl rfl rfl rfl Rds.auto ?_))
  | (show QOk _ _ _ _ _ _ _;first
    | (show QOk _ (.load _ _) _ _ _ _ _;first|refine QOk.load rfl rfl Ld.auto ?_|refine QOk.loadRow rfl rfl LdN.hasBlk rfl ?_|refine QOk.loadPart rfl rfl Nf.auto zAq ?_)
    | (show QOk _ (.indexAddr _ _ _) _ _ _ _ _;first|refine QOk.idx1 rfl rfl rfl (by omega) AOk.auto ?_|refine QOk.idxA rfl rfl rfl (by omega) ?_|refine QOk.idx rfl rfl rfl (by omega) AOk.auto ?_)
    | (show QOk _ (.convert _ _ _) _ _ _ _ _;refine QOk.toStr rfl rfl rfl rfl Rds.auto ?_))
  | (show GJ _ _ _ _ _ _ _;first|with_reducible refine GJ.l1 ?_|with_reducible refine GJ.l2 ?_|with_reducible refine GJ.l3 ?_|with_reducible refine GJ.l4 ?_|with_reducible refine GJ.n1 ?_|with_reducible refine GJ.n2 ?_|with_reducible refine GJ.n3 ?_|with_reducible refine GJ.n4 ?_|refine GJ.t (by omega) ?_|refine GJ.f (by omega) ?_|refine GJ.ft (by omega) ?_|refine GJ.ff (by omega) ?_)
  | (show Br _ _ _;first|with_reducible refine Br.tt ?_|with_reducible refine Br.ff ?_|with_reducible refine Br.nt ?_|with_reducible refine Br.nf ?_|refine Br.t (by omega) ?_|refine Br.f (by omega) ?_)
  | (show Bk _ _ _;refine Bk.same Sup.z ?_)
  | (show RetOk _ _ _ _ _ _;refine RetOk.of (T:=T) RL.auto ?_)
  | (show CodeOk _ _ _ _ _ _;refine CodeOk.drawnAuto NfT.auto rfl (by kernel_rfl) (by rfl) (by kernel_rfl) ?_)
 repeat (first
  | refine Stop.mk ?_
  | (show _∧_;refine And.intro zAR ?_)
  | (show OpOk _ _ _ _ _ _ _;first
    | (show OpOk _ (.load _ _) _ _ _ _ _;first|refine OpOk.load rfl rfl Ld.auto ?_|refine OpOk.loadRow rfl rfl LdN.hasBlk rfl ?_|refine OpOk.loadPart rfl rfl Nf.auto zAq ?_)
    | (show OpOk _ (.store _ _ _) _ _ _ _ _;first|refine OpOk.store rfl rfl rfl rfl SetR.auto ?_|refine OpOk.storeRow rfl rfl rfl rfl (by rfl) rfl ?_)
    | (show OpOk _ (.indexAddr _ _ _) _ _ _ _ _;first|refine OpOk.idx1 rfl rfl rfl (by omega) AOk.auto ?_|refine OpOk.idxA rfl rfl rfl (by omega) ?_|refine OpOk.idx rfl rfl rfl (by omega) AOk.auto ?_)
    | (show OpOk _ (.binOp _ _ _ _ _) _ _ _ _ _;first|(show OpOk _ (.binOp .and _ _ _ _) _ _ _ _ _;refine OpOk.andN rfl rfl zAR ?_)|refine OpOk.eqlSl rfl rfl ?_|refine OpOk.neqSl rfl rfl ?_)
    | (show OpOk _ (.slice _ _ _ _ _) _ _ _ _ _;refine OpOk.clip rfl rfl rfl rfl (by omega) ?_)
    | (show OpOk _ (.build _ _) _ _ _ _ _;refine OpOk.build rfl rfl Nf.auto ?_)
    | (show OpOk _ (.convert _ _ _) _ _ _ _ _;refine OpOk.toStr rfl rfl rfl rfl Rds.auto ?_))
  | (show QOk _ _ _ _ _ _ _;first
    | (show QOk _ (.load _ _) _ _ _ _ _;first|refine QOk.load rfl rfl Ld.auto ?_|refine QOk.loadRow rfl rfl LdN.hasBlk rfl ?_|refine QOk.loadPart rfl rfl Nf.auto zAq ?_)
    | (show QOk _ (.indexAddr _ _ _) _ _ _ _ _;first|refine QOk.idx1 rfl rfl rfl (by omega) AOk.auto ?_|refine QOk.idxA rfl rfl rfl (by omega) ?_|refine QOk.idx rfl rfl rfl (by omega) AOk.auto ?_)
    | (show QOk _ (.convert _ _ _) _ _ _ _ _;refine QOk.toStr rfl rfl rfl rfl Rds.auto ?_))
  | (show GJ _ _ _ _ _ _ _;first|with_reducible refine GJ.l1 ?_|with_reducible refine GJ.l2 ?_|with_reducible refine GJ.l3 ?_|with_reducible refine GJ.l4 ?_|with_reducible refine GJ.n1 ?_|with_reducible refine GJ.n2 ?_|with_reducible refine GJ.n3 ?_|with_reducible refine GJ.n4 ?_|refine GJ.t (by omega) ?_|refine GJ.f (by omega) ?_|refine GJ.ft (by omega) ?_|refine GJ.ff (by omega) ?_)
  | (show Br _ _ _;first|with_reducible refine Br.tt ?_|with_reducible refine Br.ff ?_|with_reducible refine Br.nt ?_|with_reducible refine Br.nf ?_|refine Br.t (by omega) ?_|refine Br.f (by omega) ?_)
  | (show Bk _ _ _;refine Bk.same Sup.z ?_)
  | (show RetOk _ _ _ _ _ _;refine RetOk.of (T:=T) RL.auto ?_)
  | (show CodeOk _ _ _ _ _ _;refine CodeOk.drawnAuto NfT.auto rfl (by kernel_rfl) (by rfl) (by kernel_rfl) ?_))
 exact hWk.get):p:=e ⟨h⟩
structure HdB (Q:Nat→Prop):Prop where
 get:∀ b,Q b
structure HdA (R S Q:Option Addr→Nat→Prop):Prop where
 get:∀ a' c',R a' c'→S a' c'→Q a' c'
theorem zB {Q:Nat→Prop}{p:Prop} (h:∀ b,Q b) (e:HdB Q→p:=by
 intro hWk
 first
  | (show OpOk _ (.alloc _) _ _ _ _ _;exact OpOk.alloc rfl (fun b=>hWk.get b))
  | (show OpOk _ (.box _ _) _ _ _ _ _;exact OpOk.box rfl (fun b=>hWk.get b))
  | (show OpOk _ (.buildSlice _ _ _) _ _ _ _ _;first|exact OpOk.buildSlice1 zAq zAq zAq zAq zAq (fun b=>hWk.get b)|exact OpOk.buildSlice zAq zAq zAq zAq zAq (fun b=>hWk.get b))
  | (show OpOk _ (.makeSlice _ _ _) _ _ _ _ _;exact OpOk.make1 rfl rfl rfl zO (fun b=>hWk.get b))):p:=e ⟨h⟩
theorem zC {R S Q:Option Addr→Nat→Prop}{p:Prop} (h:∀ a' c',R a' c'→S a' c'→Q a' c') (e:HdA R S Q→p:=by
 intro hWk
 show OpOk _ (.call _) _ _ _ _ _
 first
  | exact OpOk.append1 rfl rfl rfl rfl rfl rfl zO (fun a' c' hc1 hc2=>hWk.get a' c' hc1 hc2)
  | exact OpOk.append0 rfl rfl rfl rfl rfl rfl zO (fun a' c' hc1 hc2=>hWk.get a' c' hc1 hc2)
  | exact OpOk.appendE rfl rfl rfl rfl Rds.auto zH5 zO (fun a' c' hc1 hc2=>hWk.get a' c' hc1 hc2)
  | exact OpOk.append rfl rfl rfl rfl Rds.auto zH5 zO (fun a' c' hc1 hc2=>hWk.get a' c' hc1 hc2)):p:=e ⟨h⟩
end Go.E
namespace Go.E
open Go
instance BP.isNone {α:Type} (a:Option α):BP a.isNone (a=none):=⟨by cases a<;>simp⟩
theorem LdN.at {ro ro':Ro}{own:Chs}{a:Option Addr}{n c s k z:Nat}{cs vs:List Value} (hr:Rs ro a n c s cs) (hd:(cs.drop k).take z=vs) [hl:Leq ro ro']:LdN ro' own (ab a) (ao a+k) vs:=hd▸LdN.rs hr
theorem Wk.outV {K:Value→Ro→Chs→Prop}{v u:Value}{env:Env}{ro:Ro}{own own1:Chs} (hs:Sup own own1) (h:K u ro own1) (e:u=v):Wk (fun _ ro own=>K v ro own) env ro own:=by subst e;exact Wk.outS hs (.refl _) h
theorem GJ.casesT {c chk:Bool}{p A B:Prop}{S R:Bool→Prop} [h:BP c p] (k1:p→A) (k2:¬p→B):GJ c true chk A B S R:=.split (fun e=>k1 (h.iff.1 e)) (fun e=>k2 (fun hp=>by rw [h.iff.2 hp] at e;cases e))
theorem GJ.casesF {c chk:Bool}{p A B:Prop}{S R:Bool→Prop} [h:BP c p] (k1:p→B) (k2:¬p→A):GJ c false chk A B S R:=.split (fun e=>k2 (fun hp=>by rw [h.iff.2 hp] at e;cases e)) (fun e=>k1 (h.iff.1 e))
theorem Sat.freezeL {h:Heap}:∀ {l own:Chs}{ro:Ro},Sat ro (l++own) h→∃ ro',Le ro ro'∧(∀ c∈l,c.holds ro')∧Sat ro' own h
 | [],own,ro,hs=>⟨ro,Le.refl _,by simp,hs⟩
 | c::l,own,ro,hs=>by
   obtain ⟨r1,h1,h2,h3⟩:=Sat.freeze (own:=l++own) hs
   obtain ⟨r2,h4,h5,h6⟩:=Sat.freezeL h3
   exact ⟨r2,h1.trans h4,fun d hd=>by
    simp at hd
    rcases hd with rfl|hd
    ·exact h2.le h4
    ·exact h5 d hd,h6⟩
theorem CallOk.lastly {P:Program}{f:FuncId}{args:Array Value}{ro:Ro}{own:Chs}{K:Value→Ro→Chs→Prop}{Q:Value→Chs→Prop} (h:CallOk P f args ro own (fun v ro' own'=>ro'=ro∧∃ l,own'=l++own∧Q v l))
  (hk:∀ ro' v l,Le ro ro'→(∀ c∈l,c.holds ro')→Q v l→K v ro' own):CallOk P f args ro own K :=
 h.post (fun _ h=>h) (fun v ro' own' h' hl hs hq=>by
  obtain ⟨rfl,l,rfl,hQ⟩:=hq
  obtain ⟨r2,h1,h2,h3⟩:=Sat.freezeL hs
  exact ⟨r2,own,h1,h3,hk r2 v l h1 h2 hQ⟩)
theorem Rs.clip {ro:Ro}{a:Option Addr}{n c s:Nat}{cs:List Value} (hr:Rs ro a n c s cs):Rs ro a n n s cs :=
 ⟨fun h own hs=>by
  rcases hr.run h own hs with ⟨h1,h2,a',c',h3,_⟩|⟨h1,b,o,cap,h3,h4,h5,h6⟩
  ·exact .inl ⟨h1,h2,a,n,by rw [h1],by rw [h1];exact Nat.zero_le _⟩
  ·cases h3
   exact .inr ⟨h1,b,o,n,rfl,Nat.le_refl _,Nat.le_trans h4 h5,h6⟩,hr.len,Nat.le_refl _,Nat.le_trans hr.le hr.max⟩
theorem CallOk.given {P:Program}{f:FuncId}{args:Array Value}{ro:Ro}{own:Chs}{K:Value→Ro→Chs→Prop} (h:(∃ g own',Sat ro own' g)→CallOk P f args ro own K):CallOk P f args ro own K:=⟨fun w hs=>(h ⟨w.heap,own,hs⟩).run w hs⟩
theorem Rs.nilN {ro:Ro}{n c s:Nat}{cs:List Value} (hr:Rs ro none n c s cs) (h0:∃ h own,Sat ro own h):n=0:=by
 obtain ⟨h,own,hs⟩:=h0
 rcases hr.run h own hs with ⟨h1,_⟩|⟨_,b,o,cap,h2,_⟩
 ·exact h1
 ·cases h2
section
variable {P:Program}{T:TT} [hT:TTab P T] {ty:TypeId}{env:Env}{ro:Ro}{own:Chs}{K:Value→Ro→Chs→Prop}
theorem Pu.eqlSl {d:Option Nat}{pos:String}{af:Array Edge}{g:Option (Nat × Bool)}{h:Heap}{t yt e:TypeId}{x:Operand}{a:Option Addr}{n c:Nat} (hx:ev env x=some (.slice a n c)) (ht:P.underlying t=some (.slice e)) :
  Pu P ⟨d,.binOp .eql t x (.const (.slice none 0 0)) yt,ty,pos,af,g⟩ env h (.bool a.isNone):=.mk fun ρ w hr _=>by
 have hy:ρ (.const (.slice none 0 0))=.slice none 0 0:=hr _ _ rfl
 simp only [execOp,hr _ _ hx,hy,eqGuard,binOp,Sem.run_bind];simp [run_equal_slice_nil w t e a n c ht]
theorem OpOk.eqlSl {t yt e:TypeId}{x:Operand}{a:Option Addr}{n c z1:Nat}{z2:List Value} (hx:ev env x=some (.slice a n c)) (ht:T.get t=some ⟨.slice e,z1,z2⟩) (hk:K (.bool a.isNone) ro own):OpOk P (.binOp .eql t x (.const (.slice none 0 0)) yt) ty env ro own K :=
 OpOk.pu (fun h hs d pos af g=>Pu.eqlSl hx (hT.ok.slice ht)) hk
theorem Pu.clip {d:Option Nat}{pos:String}{af:Array Edge}{g:Option (Nat × Bool)}{h:Heap}{t e:TypeId}{x hi mx:Operand}{a:Option Addr}{n c s:Nat} (hx:ev env x=some (.slice a n c)) (hh:ev env hi=some (.int .i64 (n:Int))) (hm:ev env mx=some (.int .i64 (n:Int))) (hnc:n≤c) (ht:P.underlying t=some (.slice e)) (hs:(P.info? e).map (·.size)=some s) :
  Pu P ⟨d,.slice t x none (some hi) (some mx),ty,pos,af,g⟩ env h (.slice a n n):=.mk fun ρ w hρ _=>by
 have he:P.elem t=e:=by simp [Program.elem,ht]
 have ht':P.underlying t=some (.slice (P.elem t)):=by rw [he];exact ht
 simp only [execOp,Option.map_some,Option.map_none,hρ _ _ hx,hρ _ _ hh,hρ _ _ hm,run_sliceAt_slice w t _ _ _ _ ht',run_slice_hm w t a n c ht' .i64 .i64 (n:Int) (n:Int) (by omega) (by omega) (by omega),he,zA7 hs,Sem.run_bind,Sem.run_pure,Result.andThen_ok]
 have e1:sliced a 0 (n:Int).toNat (n:Int).toNat s=.slice a n n:=by
  simp only [sliced,Int.toNat_natCast,Nat.sub_zero,Nat.zero_mul]
  congr 1
  split
  ·rfl
  ·cases a<;>simp [Addr.add]
 rw [e1]
theorem OpOk.clip {t e:TypeId}{x hi mx:Operand}{a:Option Addr}{n c s:Nat} (hx:ev env x=some (.slice a n c)) (hh:ev env hi=some (.int .i64 (n:Int))) (hm:ev env mx=some (.int .i64 (n:Int))) (ht:zB6 T t=some (e,s)) (hnc:n≤c) (hk:K (.slice a n n) ro own) :
  OpOk P (.slice t x none (some hi) (some mx)) ty env ro own K:=by
 have h00:=zAP ht
 clear ht
 obtain ⟨z1,z2,te,ht,he,rfl,_,_⟩:=h00
 exact OpOk.pu (fun h hs d pos af g=>Pu.clip hx hh hm hnc (hT.ok.slice ht) (hT.ok.sz he)) hk
theorem LdN.hasBlkPart {b k z:Nat}{t:TypeId}{cs:List Value}{f:Chunk→Chs} [hb:HasBlk own b t cs f]:LdN ro own b k ((cs.drop k).take z):=by
 have:=LdN.part k z (LdN.hasBlk (ro:=ro) (hb:=hb))
 rwa [Nat.zero_add] at this
theorem OpOk.loadPart {t:TypeId}{x:Operand}{b o z:Nat}{t0:TypeId}{cs vs:List Value}{f:Chunk→Chs} (hx:ev env x=some (.pointer (some ⟨b,o,none⟩))) (ht:rowT T t=some z) [hb:HasBlk own b t0 cs f] (hv:Nf ((cs.drop o).take z) vs) (hn:vs.length=z) (hk:K (.agg vs.toArray) ro own) :
  OpOk P (.load t x) ty env ro own K:=by
 have e:=hv.eq
 exact OpOk.loadRow hx ht (e▸LdN.hasBlkPart (z:=z)) hn hk
theorem QOk.loadPart {t:TypeId}{x:Operand}{b o z:Nat}{t0:TypeId}{cs vs:List Value}{f:Chunk→Chs}{K:Value→Prop} (hx:ev env x=some (.pointer (some ⟨b,o,none⟩))) (ht:rowT T t=some z) [hb:HasBlk own b t0 cs f] (hv:Nf ((cs.drop o).take z) vs) (hn:vs.length=z) (hk:K (.agg vs.toArray)) :
  QOk P (.load t x) ty env ro own K:=by
 have e:=hv.eq
 exact QOk.loadRow hx ht (e▸LdN.hasBlkPart (z:=z)) hn hk
def eqF1 (T:TT) (t:TypeId) (x y:Value):Option Bool:=match T.get t,x,y with
 | some ⟨.int _,1,_⟩,.int k a,.int k2 b=>bif zEq k k2 then some (decide (a=b)) else none
 | some ⟨.str,1,_⟩,.string ⟨⟨a⟩⟩,.string ⟨⟨b⟩⟩=>some (decide (a=b))
 | some ⟨.bool,1,_⟩,.bool a,.bool b=>some (decide (a=b))
 | _,_,_=>none
def eqFs (T:TT) (xs ys:List Value):List (TypeId × Nat × Nat)→Option Bool
 | []=>some true
 | (t,o,_)::r=>match nthV xs o,nthV ys o with
   | some x,some y=>match eqF1 T t x y,eqFs T xs ys r with
     | some a,some b=>some (a&&b)
     | _,_=>none
   | _,_=>none
theorem zHX {t:TypeId}{x y:Value}{q:Bool} (h:eqF1 T t x y=some q) (d:Nat) (w:World):(Op.equalIn (d+1) t x y).run P w=.ok q w∧(P.info? t).map (·.size)=some 1:=by
 unfold eqF1 at h
 split at h
 ·rename_i hg
  cases hs:zEq _ _ with
  | false=>rw [hs] at h;simp at h
  | true =>
    rw [hs] at h;simp at h;subst h
    have:=zDl hs;subst this
    refine ⟨?_,hT.ok.sz hg⟩
    rw [run_equalIn_int w d t _ _ _ _ (hT.ok.int hg)]
    exact congrArg (fun b=>Result.ok b w) (by rw [Bool.eq_iff_iff];simp)
 ·rename_i hg
  simp at h;subst h
  refine ⟨?_,hT.ok.sz hg⟩
  rw [run_equalIn_string w d t _ _ (hT.ok.str hg)]
  exact congrArg (fun b=>Result.ok b w) (by rw [Bool.eq_iff_iff];simp [ByteArray.toList_eq])
 ·rename_i hg
  simp at h;subst h
  refine ⟨?_,hT.ok.sz hg⟩
  rw [run_equalIn_bool' w d t _ _ (hT.ok.bool hg)]
  exact congrArg (fun b=>Result.ok b w) (by rw [Bool.eq_iff_iff];simp)
 ·cases h
theorem zED {t:TypeId}{cs:List Value}{o:Nat}{v:Value}{i:TI} (ht:T.get t=some i) (hr:i.u.row=false) (hv:nthV cs o=some v) (w:World):(part t cs.toArray o).run P w=.ok v w:=by
 obtain ⟨du,h1,h2⟩:=hT.ok.row ht
 have hv':=zCa hv
 have hagg:(isAgg t).run P w=.ok false w:=by
  simp [isAgg,run_underlying h1]
  rw [hr] at h2
  cases du<;>simp [TypeDesc.isRow] at h2 ⊢
 simp [part,hagg,hv']
theorem zCK {xs ys : List Value} (d : Nat) (w : World) : ∀ (l : List Field) (q : Bool), (∀ f ∈ l, f.name ≠ "_") → eqFs T xs ys (l.map fun f => (f.type, f.offset, ((P.info? f.type).map (·.size)).getD 0)) = some q → (Op.eqFields (d + 1) xs.toArray ys.toArray l).run P w = .ok q w
 | [],q,_,h=>by simp [eqFs] at h;subst h;simp [Op.eqFields]
 | f::l,q,hn,h=>by
   simp only [List.map_cons,eqFs] at h
   split at h
   ·rename_i x y hx hy
    split at h
    ·rename_i a b ha hb
     simp at h
     subst h
     have h1:=(zHX (P:=P) ha d w).1
     have hg:∃ i,T.get f.type=some i∧i.u.row=false:=by
      unfold eqF1 at ha
      split at ha
      ·rename_i hg;exact ⟨_,hg,rfl⟩
      ·rename_i hg;exact ⟨_,hg,rfl⟩
      ·rename_i hg;exact ⟨_,hg,rfl⟩
      ·cases ha
     obtain ⟨i,hg,hr⟩:=hg
     have ih:=zCK d w l b (fun f' hf'=>hn f' (by simp [hf'])) hb
     simp only [Op.eqFields,hn f (by simp),ne_eq,not_false_eq_true,if_true,Sem.run_bind,zED hg hr hx w,zED hg hr hy w,h1,Result.andThen_ok,Sem.run_ite,ih]
     cases a<;>simp
    ·cases h
   ·cases h
theorem OpOk.neqStruct {t yt:TypeId}{x y:Operand}{xs ys:List Value}{fs:List (TypeId × Nat × Nat)}{z1:Nat}{z2:List Value}{q:Bool} (hx:ev env x=some (.agg xs.toArray)) (hy:ev env y=some (.agg ys.toArray)) (ht:T.get t=some ⟨.struct fs,z1,z2⟩) (hq:eqFs T xs ys fs=some q)
  (h1 : P.stoodInHeld t = false) (h2 : P.eqGuardType P.depth t = false) (h3 : ((P.fieldsOf t).toList.all fun f => f.name != "_") = true) (hk : K (.bool (!q)) ro own) : OpOk P (.binOp .neq t x y yt) ty env ro own K := by
 obtain ⟨l,e1,e2,_⟩:=hT.ok.struct ht
 have e3:P.fieldsOf t=l.toArray:=by simp [Program.fieldsOf,e1]
 rw [e3] at h3
 subst e2
 refine OpOk.pu (fun h hs d pos af g=>.mk fun ρ w hρ _=>?_) hk
 have h4:=zCK (P:=P) (T:=T) (xs:=xs) (ys:=ys) 9998 w l q (fun f hf=>by have:=List.all_eq_true.1 h3 f (by simpa using hf);simpa using this) hq
 simp only [execOp,hρ _ _ hx,hρ _ _ hy,Sem.run_bind,run_eqGuard_agg w .neq t x y _ _ h2,Result.andThen_ok,run_neq_struct,run_equalIn_agg w 9999 t _ _ (by rw [e3];exact e1) h1,e3,h4,Sem.run_pure]
theorem OpOk.eqlStruct {t yt:TypeId}{x y:Operand}{xs ys:List Value}{fs:List (TypeId × Nat × Nat)}{z1:Nat}{z2:List Value}{q:Bool} (hx:ev env x=some (.agg xs.toArray)) (hy:ev env y=some (.agg ys.toArray)) (ht:T.get t=some ⟨.struct fs,z1,z2⟩) (hq:eqFs T xs ys fs=some q)
  (h1 : P.stoodInHeld t = false) (h2 : P.eqGuardType P.depth t = false) (h3 : ((P.fieldsOf t).toList.all fun f => f.name != "_") = true) (hk : K (.bool q) ro own) : OpOk P (.binOp .eql t x y yt) ty env ro own K := by
 obtain ⟨l,e1,e2,_⟩:=hT.ok.struct ht
 have e3:P.fieldsOf t=l.toArray:=by simp [Program.fieldsOf,e1]
 rw [e3] at h3
 subst e2
 refine OpOk.pu (fun h hs d pos af g=>.mk fun ρ w hρ _=>?_) hk
 have h4:=zCK (P:=P) (T:=T) (xs:=xs) (ys:=ys) 9998 w l q (fun f hf=>by have:=List.all_eq_true.1 h3 f (by simpa using hf);simpa using this) hq
 simp only [execOp,hρ _ _ hx,hρ _ _ hy,Sem.run_bind,run_eqGuard_agg w .eql t x y _ _ h2,Result.andThen_ok,run_eql_struct,run_equalIn_agg w 9999 t _ _ (by rw [e3];exact e1) h1,e3,h4,Sem.run_pure]
end
end Go.E
namespace Go.E
open Go
abbrev MI:=List (Int × Int × Nat)
def entI (p:Int × Int × Nat):MapEntry:={ key:=.int .i64 p.1,val:=.int .i64 p.2.1,born:=p.2.2 }
def mapO (l:MI) (c:Nat):Obj:=.map (l.map entI).toArray c
class HasObj (l:Chs) (b:Nat) (o:outParam Obj) (f:outParam (Chunk→Chs)):Prop where
 repl:∀ x,Repl l (.obj b o) x (f x)
instance HasObj.miss (y:Chunk) (l:Chs) (b:Nat) (o:Obj) (f:Chunk→Chs) [h:HasObj l b o f]:HasObj (y::l) b o (fun x=>y::f x):=⟨fun x=>.miss y (h.repl x)⟩
instance HasObj.hit (b:Nat) (o:Obj) (r:Chs):HasObj (.obj b o::r) b o (fun x=>x::r):=⟨fun x=>.hit _ x r⟩
section
variable {P:Program}{T:TT} [hT:TTab P T] {ty:TypeId}{env:Env}{ro:Ro}{own:Chs}{K:Value→Ro→Chs→Prop}
theorem OpOk.makeMap {t:TypeId} (hk:∀ b,K (.map (some b)) ro (.obj b (mapO [] 0)::own)):OpOk P (.makeMap t none) ty env ro own K :=
 ⟨fun h hs d pos af g=>⟨fun ρ w hρ hw=>by
  subst hw
  refine ⟨.map (some w.heap.size),{ w with heap:=w.heap.push (.map #[] 0) },.inl ?_,⟨rfl,rfl,rfl,rfl⟩,?_⟩
  ·rfl
  ·obtain ⟨n1,n2,n3⟩:=zBd w (.map #[] 0)
   exact ⟨ro,_,Le.refl _,hs.new (c':=.obj w.heap.size (mapO [] 0)) n3 (by simp [Chunk.holds,hm,mapO,n2]) (by simp [Chunk.fp]) (by simp [Chunk.fp]),hk _⟩⟩⟩
end
end Go.E
namespace Go.E
open Go
section
variable {P:Program}{T:TT} [hT:TTab P T] {ty:TypeId}{env:Env}{ro:Ro}{own:Chs}{K:Value→Ro→Chs→Prop}
theorem OpOk.buildK {t:TypeId}{ps:List (Nat × Operand)}{vs:List Value} (cs:List Value) (hv:evs env (ps.map (·.2))=some vs) (hb:P.built t ((ps.map (·.1)).zip vs)=some cs.toArray) (hk:K (.agg cs.toArray) ro own):OpOk P (.build t ps.toArray) ty env ro own K :=
 OpOk.pu (fun h hs d pos af g=>Pu.build cs.toArray hv hb) hk
end
section
variable {P:Program}{T:TT} [hT:TTab P T] {ty:TypeId}{env:Env}{ro:Ro}{own:Chs}
theorem zHw {t e:TypeId}{x ix:Operand}{cs:List Value}{n k:Nat}{kk:IntKind}{i:Int}{v:Value}{du:TypeDesc}{d:Option Nat}{pos:String}{af:Array Edge}{g:Option (Nat × Bool)}{h:Heap} (hx:ev env x=some (.agg cs.toArray)) (hi:ev env ix=some (.int kk i)) (ht:P.underlying t=some (.array n e)) (he:P.underlying e=some du) (hr:du.isRow=false) (hs:(P.info? e).map (·.size)=some 1)
  (hk:i=(k:Int)) (hb:k<n) (hv:cs[k]?=some v):Pu P ⟨d,.index t x ix,ty,pos,af,g⟩ env h v:=.mk fun ρ w hρ _=>by
 subst hk
 have hagg:(isAgg e).run P w=.ok false w:=by
  simp [isAgg,run_underlying he]
  cases du<;>simp [TypeDesc.isRow] at hr ⊢
 have hb':(0:Int)≤(k:Int)∧(k:Int)<(n:Int):=by omega
 simp [execOp,hρ _ _ hx,hρ _ _ hi,Instr.index,asIntOf,run_underlying ht,zA7 hs,hb,part,hagg,hv]
theorem OpOk.index1 {K:Value→Ro→Chs→Prop}{t e:TypeId}{x ix:Operand}{cs:List Value}{n k:Nat}{kk:IntKind}{i:Int}{v:Value}{du:TypeDesc} (hx:ev env x=some (.agg cs.toArray)) (hi:ev env ix=some (.int kk i)) (ht:P.underlying t=some (.array n e)) (he:P.underlying e=some du) (hr:du.isRow=false) (hs:(P.info? e).map (·.size)=some 1)
  (hk':i=(k:Int)) (hb:k<n) (hv:cs[k]?=some v) (hk:K v ro own):OpOk P (.index t x ix) ty env ro own K :=
 OpOk.pu (fun h hs' d pos af g=>zHw hx hi ht he hr hs hk' hb hv) hk
end
section
variable {P:Program}{ty:TypeId}{env:Env}{ro:Ro}{own:Chs}{K:Value→Ro→Chs→Prop}
end
section
variable {P:Program}{T:TT} [hT:TTab P T] {ty:TypeId}{env:Env}{ro:Ro}{own:Chs}{K:Value→Prop}
theorem QOk.buildK {t:TypeId}{ps:List (Nat × Operand)}{vs:List Value} (cs:List Value) (hv:evs env (ps.map (·.2))=some vs) (hb:P.built t ((ps.map (·.1)).zip vs)=some cs.toArray) (hk:K (.agg cs.toArray)):QOk P (.build t ps.toArray) ty env ro own K :=
 QOk.pu (fun h hs d pos af g=>Pu.build cs.toArray hv hb) hk
end
end Go.E
namespace Go.E
open Go
section
variable {P:Program}{f:FuncId}{fn:Func}{ro:Ro}{own:Chs}{K:Value→Ro→Chs→Prop}
end
section
variable {P:Program}{T:TT} [hT:TTab P T] {ty:TypeId}{env:Env}{ro:Ro}{own:Chs}{K:Value→Ro→Chs→Prop}
theorem CallOk.sup {f:FuncId}{args:Array Value}{own0:Chs} (hs:Sup own own0) (h:CallOk P f args ro own0 K):CallOk P f args ro own K:=⟨fun w hw=>h.run w (hw.sup hs)⟩
end
end Go.E
namespace Go.E
open Go
inductive Wf (P:Program) (ro:Ro):TypeId→List Value→Prop
 | bool {t:TypeId}{b:Bool} (h:P.underlying t=some .bool):Wf P ro t [.bool b]
 | int {t:TypeId}{k:IntKind}{n:Int} (h:P.underlying t=some (.int k)) (hw:(Lit.int k n).wf=true):Wf P ro t [.int k n]
 | str {t:TypeId}{s:ByteArray} (h:P.underlying t=some .string) (hl:s.size≤reachBytes):Wf P ro t [.string s]
 | slice {t e:TypeId}{a:Option Addr}{n c:Nat}{css:List (List Value)} (h:P.underlying t=some (.slice e)) (h0:0<P.cellsOf e) (hr:Rs ro a n c (P.cellsOf e) css.flatten) (hl:css.length=n)
   (hs:∀ (i:Nat) (x:List Value),css[i]?=some x→x.length=P.cellsOf e) (hw:∀ (i:Nat) (x:List Value),css[i]?=some x→Wf P ro e x):Wf P ro t [.slice a n c]
 | struct {t:TypeId}{fs:Array Field}{cs:List Value} (h:P.underlying t=some (.struct fs)) (hl:cs.length=P.cellsOf t) (hw:∀ (i:Nat) (f:Field),fs.toList[i]?=some f→Wf P ro f.type ((cs.drop f.offset).take (P.cellsOf f.type))):Wf P ro t cs
 | array {t e:TypeId}{m:Nat}{cs:List Value} (h:P.underlying t=some (.array m e)) (hl:cs.length=P.cellsOf t) (hw:∀ i,i<m→Wf P ro e ((cs.drop (i*P.cellsOf e)).take (P.cellsOf e))):Wf P ro t cs
 | nought {t e:TypeId}{cs:List Value} (h:P.underlying t=some (.slice e)) (h0:P.cellsOf e=0):Wf P ro t cs
 | other {t:TypeId}{cs:List Value} (h:∀ d,P.underlying t=some d→(∀ k,d≠.int k)∧d≠.bool∧d≠.string∧(∀ e,d≠.slice e)∧(∀ fs,d≠.struct fs)∧(∀ n e,d≠.array n e)):Wf P ro t cs
theorem zDn {α β:Type}{f:α→Option β}:∀ {l:List α}{r:List β},l.mapM f=some r→r.length=l.length∧∀ (i:Nat) (x:α),l[i]?=some x→∃ y,f x=some y∧r[i]?=some y
 | [],r,h=>by simp at h;subst h;simp
 | a::l,r,h=>by
   rw [List.mapM_cons] at h
   cases hf:f a with
   | none=>rw [hf] at h;simp at h
   | some b =>
     rw [hf] at h
     cases hl:l.mapM f with
     | none=>rw [hl] at h;simp at h
     | some r' =>
       rw [hl] at h
       simp at h
       subst h
       obtain ⟨h1,h2⟩:=zDn hl
       refine ⟨by simp [h1],fun i x hx=>?_⟩
       cases i with
       | zero=>simp at hx;subst hx;exact ⟨b,hf,rfl⟩
       | succ i=>exact h2 i x (by simpa using hx)
theorem zC0 {H:Type}{P:Program}{e:TypeId}{d:DataW H}:∀ {ds:List (DataW H)},d∈ds→∀ n∈d.weights P e,n∈DataW.weightsAll P e ds
 | [],h,_,_=>by cases h
 | x::ds,h,n,hn=>by
   rw [DataW.weightsAll,List.mem_append]
   rcases List.mem_cons.1 h with rfl|h
   ·exact .inl hn
   ·exact .inr (zC0 h n hn)
theorem zDc {H:Type}{P:Program}{t:TypeId}{d:DataW H}:∀ {ts:List TypeId}{ds:List (DataW H)}{i:Nat},ts[i]?=some t→ds[i]?=some d→∀ n∈d.weights P t,n∈DataW.weightsEach P ts ds
 | [],_,_,h,_,_,_=>by simp at h
 | _::_,[],_,_,h,_,_=>by simp at h
 | x::ts,y::ds,0,h1,h2,n,hn=>by
   simp at h1 h2;subst h1;subst h2
   rw [DataW.weightsEach,List.mem_append];exact .inl hn
 | x::ts,y::ds,i+1,h1,h2,n,hn=>by
   rw [DataW.weightsEach,List.mem_append]
   exact .inr (zDc (i:=i) (by simpa using h1) (by simpa using h2) n hn)
theorem zDC {css:List (List Value)}{s:Nat} (hs:∀ (i:Nat) (x:List Value),css[i]?=some x→x.length=s):∀ {j:Nat}{v:Value},css.flatten[j]?=some v→0<s→∃ x,css[j / s]?=some x∧x[j % s]?=some v:=by
 induction css with
 | nil=>intro j v h;simp at h
 | cons c css ih =>
   intro j v h h0
   have hc:c.length=s:=hs 0 c rfl
   rw [List.flatten_cons] at h
   by_cases hj:j<s
   ·rw [List.getElem?_append_left (by omega)] at h
    refine ⟨c,?_,by rw [Nat.mod_eq_of_lt hj];exact h⟩
    rw [Nat.div_eq_of_lt hj];rfl
   ·rw [List.getElem?_append_right (by omega),hc] at h
    obtain ⟨x,h1,h2⟩:=ih (fun i x hx=>hs (i+1) x (by simpa using hx)) h h0
    refine ⟨x,?_,?_⟩
    ·rw [show j / s=(j-s) / s+1 by rw [Nat.div_eq_sub_div h0 (by omega)]]
     simpa using h1
    ·rwa [Nat.mod_eq_sub_mod (by omega)]
theorem zFD {css:List (List Value)}{s:Nat} (hs:∀ (i:Nat) (x:List Value),css[i]?=some x→x.length=s):css.flatten.length=css.length*s:=by
 induction css with
 | nil=>simp
 | cons c css ih =>
   have hc:c.length=s:=hs 0 c rfl
   rw [List.flatten_cons,List.length_append,ih (fun i x hx=>hs (i+1) x (by simpa using hx)),hc,List.length_cons,Nat.add_mul]
   omega
section
variable {P:Program}{W:World}{H:Type}{enc:TypeId × Value→H}
theorem Rs.ofCells {a:Addr}{n c s base:Nat}{css:List (List Value)} (h0:0<s) (hl:css.length=n) (hle:n≤c) (hm:c≤maxLen) (hc:∀ (i:Nat) (x:List Value),css[i]?=some x→W.cells? base (a.add (i*s)) s=some x):Rs (E.hm W.heap) (some a) n c s css.flatten:=by
 have hs:∀ (i:Nat) (x:List Value),css[i]?=some x→x.length=s:=fun i x hx=>(World.cells?_some (hc i x hx)).2.1
 have hfl:=zFD hs
 rw [hl] at hfl
 have hrd:Rd W.heap (.slice (some a) n c) n css.flatten:=by
  rcases Nat.eq_zero_or_pos n with hn|hn
  ·subst hn
   refine .inl ⟨rfl,List.eq_nil_of_length_eq_zero (by simpa using hfl),_,_,rfl,hm⟩
  ·have h1:∃ x,css[0]?=some x:=⟨css[0],List.getElem?_eq_getElem (by omega)⟩
   obtain ⟨x,hx⟩:=h1
   have hcc:=World.cells?_some (hc 0 x hx)
   have h2:=hcc.2.2 0 h0
   obtain ⟨b,o,spot⟩:=a
   have hx0:x[0]?=some x[0]:=List.getElem?_eq_getElem (by rw [hs 0 x hx];exact h0)
   rw [hx0] at h2
   have hspot:spot=none:=by simpa [Addr.add] using World.cell?_spot h2
   subst hspot
   refine .inr ⟨hn,b,o,c,rfl,hle,hm,?_,?_⟩
   ·have:=World.block_lt_of_cell? W _ h2
    simpa [Addr.add] using this
   ·intro j v hv
    obtain ⟨y,hy1,hy2⟩:=zDC hs hv h0
    have hj:j % s<s:=Nat.mod_lt _ h0
    have h3:=(World.cells?_some (hc _ y hy1)).2.2 (j % s) hj
    rw [hy2] at h3
    rw [←zCm,←h3]
    congr 1
    have:j / s*s+j % s=j:=by rw [Nat.mul_comm];exact Nat.div_add_mod j s
    simp only [Addr.add]
    split<;>split<;>simp<;>omega
 exact Rs.ofRd hrd hfl
theorem Wf.ofTrod {base:Nat}{held:Bool}:∀ (fuel:Nat) (t:TypeId) (cs:List Value) (x:DataW H × List MemPlace),DataW.trod enc P W base (fun _=>true) held fuel t cs=some x→(∀ n∈x.1.weights P t,n≤reachBytes)→Wf P (E.hm W.heap) t cs:=by
 intro fuel
 induction fuel with
 | zero=>intro t cs x h hb;simp [DataW.trod] at h
 | succ fuel ih =>
   intro t cs x h hb
   unfold DataW.trod at h
   split at h
   ·rename_i b hu;exact .bool hu
   ·rename_i k k' n hu
    split at h
    ·rename_i hk;obtain ⟨rfl,hw⟩:=hk;exact .int hu hw
    ·cases h
   ·rename_i k k' n hu;exact .other fun d hd=>by rw [hu] at hd;cases hd;simp
   ·rename_i s hu
    split at h
    ·cases h;exact .str hu (hb _ (by simp [DataW.weights]))
    ·cases h
   ·rename_i e hu;exact .other fun d hd=>by rw [hu] at hd;cases hd;simp
   ·rename_i e a hu;exact .other fun d hd=>by rw [hu] at hd;cases hd;simp
   ·rename_i e hu
    rcases Nat.eq_zero_or_pos (P.cellsOf e) with h0|h0
    ·exact .nought hu h0
    ·exact .slice (css:=[]) hu h0 (Rs.ofRd (Rd.nil _) (by simp)) rfl (by simp) (by simp)
   ·rename_i e a len cap hu
    rcases Nat.eq_zero_or_pos (P.cellsOf e) with h0|h0
    ·exact .nought hu h0
    ·simp only at h
     split at h
     ·rename_i hc
      obtain ⟨hc1,hc2,hc3⟩:=hc
      cases hm:(List.range len).mapM (fun i=>(W.cells? base (a.add (i*P.cellsOf e)) (P.cellsOf e)).bind (DataW.trod enc P W base (fun _=>true) held fuel e)) with
      | none=>rw [hm] at h;simp at h
      | some elems =>
        have hg:=(zDn hm).2
        rw [hm] at h
        have hbs:∀ (i:Nat) (z:DataW H × List MemPlace),elems[i]?=some z→∀ n∈z.1.weights P e,n≤reachBytes:=fun i z hz n hn=>by
         simp only [Option.bind_some,Option.map_eq_some_iff] at h
         obtain ⟨rest,_,rfl⟩:=h
         refine hb n ?_
         simp only [DataW.weights,hu,List.mem_cons,List.mem_append]
         exact .inr (.inl (zC0 (List.mem_map.2 ⟨z,List.mem_of_getElem? hz,rfl⟩) n hn))
        have key:∀ i,i<len→∃ y z,W.cells? base (a.add (i*P.cellsOf e)) (P.cellsOf e)=some y∧DataW.trod enc P W base (fun _=>true) held fuel e y=some z∧∀ n∈z.1.weights P e,n≤reachBytes:=by
         intro i hi
         obtain ⟨z,hz,hz2⟩:=hg i i (by simp [hi])
         have hz3:=hbs i z hz2
         cases hy:W.cells? base (a.add (i*P.cellsOf e)) (P.cellsOf e) with
         | none=>rw [hy] at hz;simp at hz
         | some y=>rw [hy] at hz;exact ⟨y,z,rfl,hz,hz3⟩
        have hget:∀ (i:Nat) (x:List Value),((List.range len).map fun i=>(W.cells? base (a.add (i*P.cellsOf e)) (P.cellsOf e)).getD [])[i]?=some x→W.cells? base (a.add (i*P.cellsOf e)) (P.cellsOf e)=some x∧∃ z,DataW.trod enc P W base (fun _=>true) held fuel e x=some z∧∀ n∈z.1.weights P e,n≤reachBytes:=by
         intro i x hx
         have hi:i<len:=by have:=(List.getElem?_eq_some_iff.1 hx).1;simpa using this
         obtain ⟨y,z,h1,h2⟩:=key i hi
         simp [hi,h1] at hx
         subst hx
         exact ⟨h1,z,h2⟩
        exact .slice hu h0 (Rs.ofCells h0 (by simp) hc2 hc3 (fun i x hx=>(hget i x hx).1)) (by simp) (fun i x hx=>(World.cells?_some (hget i x hx).1).2.1) (fun i x hx=>by obtain ⟨z,hz,hz2⟩:=(hget i x hx).2;exact ih e x z hz hz2)
     ·cases h
   ·rename_i fs hu
    split at h
    ·rename_i hl
     refine .struct hu hl fun i f hf=>?_
     rw [Option.map_eq_some_iff] at h
     obtain ⟨xs,hm,rfl⟩:=h
     obtain ⟨y,hy,hy2⟩:=(zDn hm).2 i f hf
     refine ih _ _ y hy fun n hn=>hb n ?_
     simp only [DataW.weights,hu]
     exact zDc (i:=i) (by rw [List.getElem?_map,hf];rfl) (by rw [List.getElem?_map,hy2];rfl) n hn
    ·cases h
   ·rename_i n e hu
    split at h
    ·rename_i hl
     refine .array hu hl fun i hi=>?_
     rw [Option.map_eq_some_iff] at h
     obtain ⟨xs,hm,rfl⟩:=h
     obtain ⟨y,hy,hy2⟩:=(zDn hm).2 i i (by simp [hi])
     refine ih _ _ y hy fun n hn=>hb n ?_
     simp only [DataW.weights,hu]
     exact zC0 (List.mem_map.2 ⟨y,List.mem_of_getElem? hy2,rfl⟩) n hn
    ·cases h
   all_goals first
    | (rename_i hu;exact .other fun d hd=>by rw [hu] at hd;cases hd;simp)
    | (rename_i hu _;exact .other fun d hd=>by rw [hu] at hd;cases hd;simp)
    | (rename_i hu _ _;exact .other fun d hd=>by rw [hu] at hd;cases hd;simp)
    | cases h
end
end Go.E
namespace Go.E
open Go
section
variable {P:Program}{ro:Ro}{t e:TypeId}{cs:List Value}
theorem Wf.struct_inv {fs:Array Field} (hu:P.underlying t=some (.struct fs)) (h:Wf P ro t cs):cs.length=P.cellsOf t∧∀ (i:Nat) (f:Field),fs.toList[i]?=some f→Wf P ro f.type ((cs.drop f.offset).take (P.cellsOf f.type)):=by
 cases h with
 | bool h=>rw [hu] at h;cases h
 | int h=>rw [hu] at h;cases h
 | str h=>rw [hu] at h;cases h
 | slice h=>rw [hu] at h;cases h
 | struct h hl hw=>rw [hu] at h;cases h;exact ⟨hl,hw⟩
 | array h=>rw [hu] at h;cases h
 | nought h=>rw [hu] at h;cases h
 | other h=>exact absurd rfl ((h _ hu).2.2.2.2.1 fs)
theorem Wf.fld {fs:Array Field}{f:Field}{i off k:Nat}{ft:TypeId} (hu:P.underlying t=some (.struct fs)) (h:Wf P ro t cs) (hf:fs.toList[i]?=some f) (ho:f.offset=off) (ht:f.type=ft) (hc:P.cellsOf ft=k):Wf P ro ft ((cs.drop off).take k):=by
 subst ho;subst ht;subst hc;exact (Wf.struct_inv hu h).2 i f hf
theorem Wf.int_inv {k:IntKind}{v:Value} (hu:P.underlying t=some (.int k)) (h:Wf P ro t [v]):∃ n,v=.int k n∧(Lit.int k n).wf=true:=by
 generalize e:[v]=cs at h
 cases h with
 | bool h=>rw [hu] at h;cases h
 | int h hw=>rw [hu] at h;cases h;cases e;exact ⟨_,rfl,hw⟩
 | str h=>rw [hu] at h;cases h
 | slice h=>rw [hu] at h;cases h
 | struct h hl hw=>rw [hu] at h;cases h
 | array h=>rw [hu] at h;cases h
 | nought h=>rw [hu] at h;cases h
 | other h=>exact absurd rfl ((h _ hu).1 k)
theorem Wf.bool_inv {v:Value} (hu:P.underlying t=some .bool) (h:Wf P ro t [v]):∃ b,v=.bool b:=by
 generalize e:[v]=cs at h
 cases h with
 | bool h=>cases e;exact ⟨_,rfl⟩
 | int h hw=>rw [hu] at h;cases h
 | str h=>rw [hu] at h;cases h
 | slice h=>rw [hu] at h;cases h
 | struct h hl hw=>rw [hu] at h;cases h
 | array h=>rw [hu] at h;cases h
 | nought h=>rw [hu] at h;cases h
 | other h=>exact absurd rfl (h _ hu).2.1
theorem zHh (s:ByteArray):Value.string s=Go.E.str s.data.toList:=rfl
theorem Wf.str_inv {v:Value} (hu:P.underlying t=some .string) (h:Wf P ro t [v]):∃ l:List UInt8,v=Go.E.str l∧l.length≤reachBytes:=by
 generalize e:[v]=cs at h
 cases h with
 | bool h=>rw [hu] at h;cases h
 | int h hw=>rw [hu] at h;cases h
 | str h hl=>cases e;exact ⟨_,zHh _,hl⟩
 | slice h=>rw [hu] at h;cases h
 | struct h hl hw=>rw [hu] at h;cases h
 | array h=>rw [hu] at h;cases h
 | nought h=>rw [hu] at h;cases h
 | other h=>exact absurd rfl (h _ hu).2.2.1
theorem Wf.slice_inv {v:Value}{s:Nat} (hu:P.underlying t=some (.slice e)) (hs:P.cellsOf e=s) (h0:0<s) (h:Wf P ro t [v]):∃ (a:Option Addr) (n c:Nat) (css:List (List Value)),v=.slice a n c∧Rs ro a n c s css.flatten∧css.length=n∧∀ (i:Nat) (x:List Value),css[i]?=some x→Wf P ro e x:=by
 subst hs
 generalize e:[v]=cs at h
 cases h with
 | bool h=>rw [hu] at h;cases h
 | int h hw=>rw [hu] at h;cases h
 | str h=>rw [hu] at h;cases h
 | slice h _ hr hl _ hw=>rw [hu] at h;cases h;cases e;exact ⟨_,_,_,_,rfl,hr,hl,hw⟩
 | struct h hl hw=>rw [hu] at h;cases h
 | array h=>rw [hu] at h;cases h
 | nought h h1=>rw [hu] at h;cases h;omega
 | other h=>exact absurd rfl ((h _ hu).2.2.2.1 _)
theorem zBR {α:Type}{V:α→List Value}{G:α→Prop}:∀ {css:List (List Value)},(∀ (i:Nat) (x:List Value),css[i]?=some x→∃ f,x=V f∧G f)→∃ l:List α,css=l.map V∧∀ f∈l,G f
 | [],_=>⟨[],rfl,fun _ h=>by cases h⟩
 | x::css,h=>by
   obtain ⟨f,rfl,hf⟩:=h 0 x rfl
   obtain ⟨l,rfl,hl⟩:=zBR (css:=css) (fun i x hx=>h (i+1) x hx)
   exact ⟨f::l,rfl,fun g hg=>by rcases List.mem_cons.1 hg with rfl|hg;exact hf;exact hl g hg⟩
end
end Go.E
namespace Go.E
open Go
theorem zP {q p:Prop} (h:q) (e:Hd q→p:=by
 intro hWk
 first
  | refine SeqOk.pass ?_
  | refine wkT ?_
  | refine Bs.all ?_
  | (show RetOk _ _ _ _ _ _;refine RetOk.of (T:=T) (RL.row rfl rfl LdN.hasBlk (by rfl) (RL.tmp rfl (RL.tmp rfl RL.nil))) ?_)
  | (show QOk _ _ _ _ _ _ _;refine QOk.build rfl rfl Nf.auto ?_)
  | (show GJ _ _ _ _ _ _ _;first|refine GJ.t (by decide) ?_|refine GJ.f (by decide) ?_|refine GJ.ft (by decide) ?_|refine GJ.ff (by decide) ?_)
  | (show Br _ _ _;first|refine Br.t (by decide) ?_|refine Br.f (by decide) ?_)
 exact hWk.get):p:=e ⟨h⟩
theorem wkB {q p:Prop} (h:q) (e:Hd q→p:=by
 intro hWk
 first
  | refine zP ?_
  | (show GJ _ _ _ _ _ _ _;first|refine GJ.t (by assumption) ?_|refine GJ.f (by assumption) ?_|refine GJ.ft (by assumption) ?_|refine GJ.ff (by assumption) ?_)
  | (show Br _ _ _;first|refine Br.t (by assumption) ?_|refine Br.f (by assumption) ?_)
 exact hWk.get):p:=e ⟨h⟩
theorem wkA {q p:Prop} (h:q) (e:Hd q→p:=by
 intro hWk
 first
  | refine wkT ?_
  | refine Bs.all ?_
  | (show RetOk _ _ _ _ _ _;refine RetOk.of (T:=T) (RL.row rfl rfl LdN.hasBlk (by rfl) (RL.tmp rfl (RL.tmp rfl RL.nil))) ?_)
  | (show QOk _ _ _ _ _ _ _;refine QOk.build rfl rfl Nf.auto ?_)
  | (show GJ _ _ _ _ _ _ _;first|refine GJ.t (by decide) ?_|refine GJ.f (by decide) ?_|refine GJ.ft (by decide) ?_|refine GJ.ff (by decide) ?_)
  | (show Br _ _ _;first|refine Br.t (by decide) ?_|refine Br.f (by decide) ?_)
 exact hWk.get):p:=e ⟨h⟩
end Go.E
end
