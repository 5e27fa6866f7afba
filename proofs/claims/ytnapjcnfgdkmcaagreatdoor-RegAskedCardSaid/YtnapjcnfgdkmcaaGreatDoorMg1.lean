/- Texts of a walk, one behind the other. -/
import Derived.WalkKit
import Derived.ProofKit
import Derived.Deep.Quiet
import Derived.Deep.MidRow
import Derived.OrdersHeld
import Derived.Deep.AppendSrc
import Derived.Laws.BytesString
import Derived.Great.BuildSlice
set_option linter.unusedVariables false
set_option linter.unusedSimpArgs false
set_option linter.unusedSectionVars false
set_option maxRecDepth 10000
section
namespace Go.E
open Go
abbrev Env:=List (Nat × Value)
abbrev Heap:=Array Obj
def look:Env→Nat→Option Value
 | [],_=>none
 | (k,v)::r,t=>bif Nat.beq k t then some v else look r t
def ev (env:Env):Operand→Option Value
 | .tmp t=>look env t
 | .const v=>some v
 | .global g=>some (.pointer (some ⟨g,0,none⟩))
 | .func f=>some (.func (.func f) #[] #[])
def evs (env:Env):List Operand→Option (List Value)
 | []=>some []
 | x::r=>match ev env x,evs env r with
   | some v,some vs=>some (v::vs)
   | _,_=>none
def Agree (env:Env) (ρ:Operand→Value):Prop:=∀ x v,ev env x=some v→ρ x=v
theorem Agree.list {env:Env}{ρ:Operand→Value} (h:Agree env ρ):∀ {xs:List Operand}{vs:List Value},evs env xs=some vs→xs.map ρ=vs
 | [],vs,hx=>by simp [evs] at hx;subst hx;rfl
 | x::r,vs,hx=>by
   unfold evs at hx
   split at hx
   ·rename_i v vs' h1 h2
    cases hx
    rw [List.map_cons,h _ _ h1,h.list h2]
   ·cases hx
structure Fr where
 size:Nat
 D:List Deferred
instance:Coe Nat Fr:=⟨fun n=>⟨n,[]⟩⟩
structure Fits (n:Fr) (env:Env) (a:Act):Prop where
 defers:a.defers=n.D
 size:a.tmps.size=n.size
 get:∀ t v,look env t=some v→a.tmps[t]?=some v
theorem Fits.agree {n:Fr}{env:Env}{a:Act} (h:Fits n env a):Agree env a.eval:=by
 intro x v hx
 cases x with
 | tmp t=>simp only [ev] at hx;have:=h.get t v hx;simp [Act.eval,this]
 | const v'=>simp only [ev,Option.some.injEq] at hx;subst hx;rfl
 | global g=>simp only [ev,Option.some.injEq] at hx;subst hx;rfl
 | func f=>simp only [ev,Option.some.injEq] at hx;subst hx;rfl
theorem Fits.put {n:Fr}{env:Env}{a:Act} (h:Fits n env a) {d:Nat} (hd:Nat.blt d n.size=true) (v:Value):Fits n ((d,v)::env) (a.put (some d) v):=by
 have hd':d<n.size:=by have:=hd;simp [Nat.blt] at this;omega
 refine ⟨h.defers,by simp [Act.put,h.size],?_⟩
 intro t u hu
 unfold look at hu
 by_cases e:d=t
 ·subst e
  simp at hu
  subst hu
  simp [Act.put,h.size,hd']
 ·have:Nat.beq d t=false:=by cases hh:Nat.beq d t;rfl;exact absurd (Nat.eq_of_beq_eq_true hh) e
  rw [this] at hu
  have:=h.get t u hu
  show (a.tmps.setIfInBounds d v)[t]?=some u
  rw [Array.getElem?_setIfInBounds_ne e]
  exact this
def Sub:Env→Env→Prop
 | [],_=>True
 | (t,v)::r,e=>look e t=some v∧Sub r e
theorem Sub.look {e' e:Env} (h:Sub e' e):∀ {t v},look e' t=some v→look e t=some v:=by
 induction e' with
 | nil=>intro t v hv;cases hv
 | cons p r ih =>
   obtain ⟨t0,v0⟩:=p
   intro t v hv
   unfold E.look at hv
   by_cases ht:Nat.beq t0 t=true
   ·rw [ht] at hv
    simp at hv
    subst hv
    have:t0=t:=Nat.eq_of_beq_eq_true ht
    subst this
    exact h.1
   ·rw [Bool.not_eq_true] at ht
    rw [ht] at hv
    exact ih h.2 hv
theorem Fits.sub {n:Fr}{e e':Env}{a:Act} (h:Fits n e a) (hs:Sub e' e):Fits n e' a:=⟨h.defers,h.size,fun t v hv=>h.get t v (hs.look hv)⟩
structure Hp (h:Heap) (σ w:World):Prop where
 heap:w.heap=h
 os:w.os=σ.os
 tape:w.tape=σ.tape
 output:w.output=σ.output
theorem Hp.self (w:World):Hp w.heap w w:=⟨rfl,rfl,rfl,rfl⟩
theorem Hp.trans {h:Heap}{σ w w':World}{h0:Heap} (a:Hp h0 σ w) (b:Hp h w w'):Hp h σ w':=⟨b.heap,b.os.trans a.os,b.tape.trans a.tape,b.output.trans a.output⟩
structure Pu (P:Program) (o:Oper) (env:Env) (h:Heap) (v:Value):Prop where
 run:∀ ρ w,Agree env ρ→w.heap=h→(execOp ρ o).run P w=.ok (.value v) w
structure Eff (P:Program) (o:Oper) (env:Env) (h:Heap) (Φ:Value→Heap→Prop):Prop where
 run:∀ ρ w,Agree env ρ→w.heap=h→∃ v w',((execOp ρ o).run P w=.ok (.value v) w'∨((execOp ρ o).run P w=.ok .skip w'∧v=undef))∧Hp w'.heap w w'∧Φ v w'.heap
def Meets (P:Program) (f:FuncId) (args:Array Value) (h:Heap) (Φ:Value→Heap→Prop):Prop :=
 ∀ w:World,w.heap=h→Calls P f args w (fun e w'=>∃ v,e=.returned v∧Hp w'.heap w w'∧Φ v w'.heap)
section
variable {P:Program}{all:Array Oper}{Q:Exit→Act→World→Prop}{n:Fr}{σ:World}{env:Env}{h:Heap}
def L (P:Program) (all:Array Oper) (Q:Exit→Act→World→Prop) (n:Fr) (σ:World) (ops:List Oper) (env:Env) (h:Heap):Prop :=
 ∀ a w,Fits n env a→Hp h σ w→wpList P all Q ops a w
def C (P:Program) (Q:Exit→Act→World→Prop) (n:Fr) (σ:World) (c:Code) (env:Env) (h:Heap):Prop :=
 ∀ a w,Fits n env a→Hp h σ w→c.wp P Q a w
def N (n:Fr) (σ:World) (K:Act→World→Prop) (env:Env) (h:Heap):Prop:=∀ a w,Fits n env a→Hp h σ w→K a w
def zBD:List Oper→Nat→Option Nat
 | ⟨d,_,_,_,_,_⟩::_,0=>d
 | _::r,j+1=>zBD r j
 | [],_=>none
theorem zAJ:∀ {l:List Oper}{j t:Nat},zBD l j=some t→(l[j]?).bind (·.dst)=some t
 | ⟨d,_,_,_,_,_⟩::_,0,t,h=>by simpa [zBD] using h
 | o::r,j+1,t,h=>by
   have:zBD r j=some t:=by cases o;simpa [zBD] using h
   have:=zAJ this
   simpa using this
 | [],_,_,h=>by simp [zBD] at h
theorem L.nil (k:N n σ (Q .normal) env h):L P all Q n σ [] env h:=fun a w hf hw=>wpList_nil (k a w hf hw)
theorem L.pure {rest:List Oper}{d:Nat}{op:Op}{ty:TypeId}{pos:String}{af:Array Edge}{v:Value}
  (hp:Pu P ⟨some d,op,ty,pos,af,none⟩ env h v) (hd:Nat.blt d n.size=true) (k:L P all Q n σ rest ((d,v)::env) h) :
  L P all Q n σ (⟨some d,op,ty,pos,af,none⟩::rest) env h:=fun a w hf hw =>
 wpList_plain rfl fun _ hK=>by
  unfold Oper.wp
  rw [hp.run a.eval w hf.agree hw.heap]
  exact hK _ _ (k _ _ (hf.put hd v) hw)
theorem L.eff {rest:List Oper}{d:Nat}{op:Op}{ty:TypeId}{pos:String}{af:Array Edge}{Φ:Value→Heap→Prop}
  (hp:Eff P ⟨some d,op,ty,pos,af,none⟩ env h Φ) (hd:Nat.blt d n.size=true) (k:∀ v h',Φ v h'→L P all Q n σ rest ((d,v)::env) h') :
  L P all Q n σ (⟨some d,op,ty,pos,af,none⟩::rest) env h:=fun a w hf hw =>
 wpList_plain rfl fun _ hK=>by
  obtain ⟨v,w',hr,hh,hΦ⟩:=hp.run a.eval w hf.agree hw.heap
  unfold Oper.wp
  rcases hr with hr|⟨hr,rfl⟩<;>rw [hr]<;>exact hK _ _ (k _ _ hΦ _ _ (hf.put hd _) (hw.trans hh))
theorem L.eff0 {rest:List Oper}{op:Op}{ty:TypeId}{pos:String}{af:Array Edge}{Φ:Value→Heap→Prop}
  (hp:Eff P ⟨none,op,ty,pos,af,none⟩ env h Φ) (k:∀ v h',Φ v h'→L P all Q n σ rest env h') :
  L P all Q n σ (⟨none,op,ty,pos,af,none⟩::rest) env h:=fun a w hf hw =>
 wpList_plain rfl fun _ hK=>by
  obtain ⟨v,w',hr,hh,hΦ⟩:=hp.run a.eval w hf.agree hw.heap
  unfold Oper.wp
  rcases hr with hr|⟨hr,rfl⟩<;>rw [hr]<;>exact hK _ _ (k _ _ hΦ _ _ hf (hw.trans hh))
theorem L.guard {rest:List Oper}{d:Option Nat}{op:Op}{ty:TypeId}{pos:String}{af:Array Edge}{j:Nat}{b:Bool}{t:Nat}
  {l:List Oper} (hj0:zBD l j=some t) (ht:look env t=some (.bool b)) (k:L P l.toArray Q n σ (⟨d,op,ty,pos,af,none⟩::rest) env h) :
  L P l.toArray Q n σ (⟨d,op,ty,pos,af,some (j,b)⟩::rest) env h:=fun a w hf hw=>by
 have hj:=zAJ hj0
 have hy:yielded l.toArray a.tmps j=some b:=by simp [yielded,hj,hf.get _ _ ht]
 have k:=k a w hf hw
 unfold wpList at k ⊢
 simp only [Region.wanted,hy,beq_self_eq_true,if_true] at k ⊢
 exact k
theorem Sub.cons {e e':Env}{t:Nat}{v:Value} (h1:E.look e t=some v) (h2:Sub e' e):Sub ((t,v)::e') e:=⟨h1,h2⟩
section
variable {K:Heap→Prop}{F:Act→Prop}
end
def Ret (σ:World) (Φ:Value→Heap→Prop) (e:Ending) (w':World):Prop:=∃ v,e=.returned v∧Hp w'.heap σ w'∧Φ v w'.heap
def NoPanic (Q:Exit→Act→World→Prop):Prop:=∀ c a w,¬Q (.panic c) a w
section
variable {K:Heap→Prop}{fuel:Nat}{listed:Array Bool}
end
theorem C.seq {x y:Code} (k:C P (Exit.then (y.wp P Q) Q) n σ x env h):C P Q n σ (.seq x y) env h:=fun a w hf hw=>wp_seq (k a w hf hw)
theorem C.region {id:Nat}{l:List Oper} (k:L P l.toArray Q n σ l env h):C P Q n σ (.region id l.toArray false) env h:=fun a w hf hw=>wp_region_lit (k a w hf hw)
theorem C.skip (k:N n σ (Q .normal) env h):C P Q n σ .skip env h:=fun a w hf hw=>wp_skip (k a w hf hw)
theorem C.label {l:Nat} (k:N n σ (Q .normal) env h):C P Q n σ (.label l) env h:=fun a w hf hw=>wp_label (k a w hf hw)
theorem C.exit {id:Nat} (k:N n σ (Q (.exit id)) env h):C P Q n σ (.exit id) env h:=fun a w hf hw=>wp_exit (k a w hf hw)
theorem C.ret (k:N n σ (Q .ret) env h):C P Q n σ .ret env h:=fun a w hf hw=>wp_ret (k a w hf hw)
theorem C.block {id:Nat}{c:Code} (k:C P (Exit.inBlock id Q) n σ c env h):C P Q n σ (.block id c) env h:=fun a w hf hw=>wp_block (k a w hf hw)
theorem C.cond {c:Operand}{x y:Code}{b:Bool} (hb:ev env c=some (.bool b)) (k1:b=true→C P Q n σ x env h) (k2:b=false→C P Q n σ y env h):C P Q n σ (.cond c x y) env h :=
 fun a w hf hw=>wp_cond_split (hf.agree _ _ hb) (fun e=>k1 e a w hf hw) (fun e=>k2 e a w hf hw)
def Round {ι:Type} (n:ι→Fr) (σ:World) (f:ι→Env) (I:ι→Heap→Prop) (μ:ι→Nat) (m:Nat) (a:Act) (w:World):Prop:=∃ j h',I j h'∧μ j<m∧Fits (n j) (f j) a∧Hp h' σ w
theorem N.round {ι:Type}{f:ι→Env}{I:ι→Heap→Prop}{μ:ι→Nat}{m:Nat}{n:ι→Fr} (j:ι) (hI:I j h) (hm:μ j<m) (hs:Sub (f j) env):N (n j) σ (Round n σ f I μ m) env h:=fun _ _ hf hw=>⟨j,h,hI,hm,hf.sub hs,hw⟩
theorem C.loop {ι:Type}{c:Code}{n:ι→Fr} (f:ι→Env) (I:ι→Heap→Prop) (μ:ι→Nat) (i0:ι) (hI:I i0 h) (hs:Sub (f i0) env)
  (k:∀ i h,I i h→C P (Exit.then (Round n σ f I μ (μ i)) Q) (n i) σ c (f i) h):C P Q (n i0) σ (.loop c) env h:=by
 intro a w hf hw b kk cs
 have key:∀ m i h a w,μ i=m→I i h→Fits (n i) (f i) a→Hp h σ w→∃ e a' w',Q e a' w'∧Arrives P (lone (b.at a (.code c::.inLoop c::kk)) cs w) b kk cs e a' w':=by
  intro m
  induction m using Nat.strongRecOn with
  | _ m ih =>
    intro i h a w hm hI hf hw
    obtain ⟨e,a₁,w₁,hq,harr⟩:=k i h hI a w hf hw b (.inLoop c::kk) cs
    cases e with
    | normal =>
      obtain ⟨j,h',hI',hlt,hf',hw'⟩:=hq
      obtain ⟨e₂,a₂,w₂,hq₂,harr₂⟩:=ih (μ j) (hm▸hlt) j h' a₁ w₁ rfl hI' hf' hw'
      exact ⟨e₂,a₂,w₂,hq₂,.of_steps (Steps.trans harr (.one step_inLoop)) harr₂⟩
    | exit id=>exact ⟨_,a₁,w₁,hq,.pass (x:=.inLoop c) rfl (fun _ _=>.inl (by simp)) harr⟩
    | goto l=>exact ⟨_,a₁,w₁,hq,.pass (x:=.inLoop c) rfl (fun _ _=>.inl (by simp)) harr⟩
    | ret=>exact ⟨_,a₁,w₁,hq,.pass (x:=.inLoop c) rfl (fun _ _=>.inl (by simp)) harr⟩
    | panic ch=>exact ⟨_,a₁,w₁,hq,.pass (x:=.inLoop c) rfl (fun _ _=>.inl (by simp)) harr⟩
    | outgrown=>exact ⟨_,a₁,w₁,hq,.pass (x:=.inLoop c) rfl (fun _ _=>.inl (by simp)) harr⟩
 obtain ⟨e,a',w',hq,harr⟩:=key _ i0 h a w rfl hI (hf.sub hs) hw
 exact ⟨e,a',w',hq,.of_steps (.one step_loop) harr⟩
theorem N.then_normal {K:Act→World→Prop} (k:N n σ K env h):N n σ (Exit.then K Q .normal) env h:=k
theorem N.wp {c:Code} (k:C P Q n σ c env h):N n σ (c.wp P Q) env h:=k
theorem N.block_same {id:Nat} (k:N n σ (Q .normal) env h):N n σ (Exit.inBlock id Q (.exit id)) env h:=fun a w hf hw=>by
 simp only [Exit.inBlock,if_true];exact k a w hf hw
theorem N.block_other {id id':Nat} (hne:Nat.beq id' id=false) (k:N n σ (Q (.exit id')) env h):N n σ (Exit.inBlock id Q (.exit id')) env h:=fun a w hf hw=>by
 have:id'≠id:=fun e=>by subst e;simp at hne
 simp only [Exit.inBlock,if_neg this];exact k a w hf hw
theorem N.end0 {fn:Func}{Φ:Value→Heap→Prop} (hD:n.D=[]) (hr:fn.results=#[]) (hΦ:Φ (.tuple #[]) h):N n σ (bodyPost P fn (Ret σ Φ) .normal) env h :=
 fun a w hf hw=>⟨hf.defers.trans hD,.tuple #[],by simp [results,hr],_,rfl,hw.heap▸hw,hw.heap▸hΦ⟩
def zDI:Nat→List Value→Env
 | _,[]=>[]
 | k,v::r=>(k,v)::zDI (k+1) r
theorem zD5:∀ (vs:List Value) (k t:Nat) (v:Value),look (zDI k vs) t=some v→k≤t∧vs[t-k]?=some v
 | [],_,_,_,h=>by cases h
 | u::r,k,t,v,h=>by
   unfold zDI look at h
   by_cases e:Nat.beq k t=true
   ·rw [e] at h
    have:=Nat.eq_of_beq_eq_true e
    subst this
    simp at h
    simp [h]
   ·rw [Bool.not_eq_true] at e
    rw [e] at h
    have ih:=zD5 r (k+1) t v h
    refine ⟨by omega,?_⟩
    rw [show t-k=(t-(k+1))+1 by omega]
    simpa using ih.2
theorem Meets.intro {f:FuncId}{fn:Func}{c:Code}{args:List Value}{Φ:Value→Heap→Prop} (hf:P.funcs[f]?=some fn) (hb:fn.body=some c) {m:Nat} (hn:fn.ntmps=m) (hl:Nat.ble args.length m=true)
  (k:∀ σ,C P (bodyPost P fn (Ret σ Φ)) ⟨m,[]⟩ σ c (zDI 0 args) h):Meets P f args.toArray h Φ:=fun w hw =>
 calls_of_wp hf hb (k w _ w ⟨rfl,by have:args.length≤m:=by simpa using hl
                                    simp [hn];omega,fun t v hv=>by
  have:=(zD5 args 0 t v hv).2
  simp only [Nat.sub_zero] at this
  have ht:t<args.length:=(List.getElem?_eq_some_iff.1 this).1
  rw [Array.getElem?_append_left (by simpa using ht)]
  simpa using this⟩ ⟨hw,rfl,rfl,rfl⟩)
end
end Go.E
namespace Go.E
open Go
section
variable {P:Program}{env:Env}{h:Heap}{d:Option Nat}{ty:TypeId}{pos:String}{af:Array Edge}{g:Option (Nat × Bool)}
theorem Pu.move {x:Operand}{v:Value} (hx:ev env x=some v):Pu P ⟨d,.move x,ty,pos,af,g⟩ env h v:=.mk fun ρ w hr _=>by
 simp [execOp,hr _ _ hx,Sem.run,pure]
theorem Pu.assign {x:Operand}{v:Value} (hx:ev env x=some v):Pu P ⟨d,.assign x,ty,pos,af,g⟩ env h v:=.mk fun ρ w hr _=>by
 simp [execOp,hr _ _ hx,Sem.run,pure]
theorem Pu.pickT {c x y:Operand}{v:Value} (hc:ev env c=some (.bool true)) (hx:ev env x=some v):Pu P ⟨d,.pick c x y,ty,pos,af,g⟩ env h v:=.mk fun ρ w hr _=>by
 simp [execOp,hr _ _ hc,hr _ _ hx,asBool]
theorem Pu.pickF {c x y:Operand}{v:Value} (hc:ev env c=some (.bool false)) (hy:ev env y=some v):Pu P ⟨d,.pick c x y,ty,pos,af,g⟩ env h v:=.mk fun ρ w hr _=>by
 simp [execOp,hr _ _ hc,hr _ _ hy,asBool]
theorem Pu.not {t:TypeId}{x:Operand}{b:Bool} (hx:ev env x=some (.bool b)):Pu P ⟨d,.unOp .not t x,ty,pos,af,g⟩ env h (.bool (!b)):=.mk fun ρ w hr _=>by
 simp [execOp,hr _ _ hx,Op.unary]
theorem zEm {n:Int} (h:-9223372036854775808≤n∧n≤9223372036854775807):IntKind.i64.wrap n=n:=by
 simp only [IntKind.wrap,IntKind.bits,IntKind.signed];simp;omega
theorem run_int2 {op:BinOp}{t yt:TypeId}{x y:Operand}{k:IntKind}{a b:Int}{ρ:Operand→Value}{w:World} (hx:ρ x=.int k a) (hy:ρ y=.int k b) (hop:op≠.shl∧op≠.shr) :
  (execOp ρ ⟨d,.binOp op t x y yt,ty,pos,af,g⟩).run P w=((match op with
   | .add|.sub|.mul=>Op.intArith op k a b
   | .quo|.rem=>Op.intDiv op k a b
   | .and|.or|.xor|.andNot=>Op.intBits op k a b
   | _=>Op.intCmp op a b).run P w).andThen fun v w=>.ok (.value v) w:=by
 simp only [execOp,hx,hy]
 cases op<;>simp_all [eqGuard,binOp,Sem.run_bind]
theorem Pu.int2 {op:BinOp}{t yt:TypeId}{x y:Operand}{k:IntKind}{a b:Int}{v:Value} (hx:ev env x=some (.int k a)) (hy:ev env y=some (.int k b)) (hop:op≠.shl∧op≠.shr)
  (hv:∀ w,(match op with
   | .add|.sub|.mul=>Op.intArith op k a b
   | .quo|.rem=>Op.intDiv op k a b
   | .and|.or|.xor|.andNot=>Op.intBits op k a b
   | _=>Op.intCmp op a b).run P w=.ok v w):Pu P ⟨d,.binOp op t x y yt,ty,pos,af,g⟩ env h v:=.mk fun ρ w hr _=>by
 rw [run_int2 (hr _ _ hx) (hr _ _ hy) hop,hv w];rfl
theorem zH6 (k a:Nat):(BitVec.ofInt k (a:Int)).toNat=a % 2 ^ k:=by simp
theorem zEC {op:BinOp}{t yt:TypeId}{x y:Operand}{k ky:IntKind}{a:Int}{b:Int}{ρ:Operand→Value}{w:World} (hx:ρ x=.int k a) (hy:ρ y=.int ky b) (hop:op=.shl∨op=.shr) :
  (execOp ρ ⟨d,.binOp op t x y yt,ty,pos,af,g⟩).run P w=((Op.shift op k a ky b).run P w).andThen fun v w=>.ok (.value v) w:=by
 simp only [execOp,hx,hy]
 rcases hop with rfl|rfl<;>simp [eqGuard,binOp,Sem.run_bind]
theorem zCx {t:TypeId} (ht:P.underlying t=some .bool) (a b:Bool) (w:World):(Op.equal t (.bool a) (.bool b)).run P w=.ok (a == b) w:=by
 show (Op.equalIn (9999+1) t (.bool a) (.bool b)).run P w=.ok (a == b) w
 unfold Op.equalIn
 simp [run_underlying ht]
theorem Pu.eqlB {t yt:TypeId}{x y:Operand}{a b:Bool} (ht:P.underlying t=some .bool) (hx:ev env x=some (.bool a)) (hy:ev env y=some (.bool b)) :
  Pu P ⟨d,.binOp .eql t x y yt,ty,pos,af,g⟩ env h (.bool (decide (a=b))):=.mk fun ρ w hr _=>by
 simp only [execOp,hr _ _ hx,hr _ _ hy,eqGuard,binOp,Sem.run_bind,zCx ht];cases a<;>cases b<;>rfl
theorem Pu.neqB {t yt:TypeId}{x y:Operand}{a b:Bool} (ht:P.underlying t=some .bool) (hx:ev env x=some (.bool a)) (hy:ev env y=some (.bool b)) :
  Pu P ⟨d,.binOp .neq t x y yt,ty,pos,af,g⟩ env h (.bool (decide (a≠b))):=.mk fun ρ w hr _=>by
 simp only [execOp,hr _ _ hx,hr _ _ hy,eqGuard,binOp,Sem.run_bind,zCx ht];cases a<;>cases b<;>rfl
theorem zBE {t e:TypeId} (ht:P.underlying t=some (.pointer e)) (a:Addr) (w:World):(Op.equal t (.pointer (some a)) (.pointer none)).run P w=.ok false w:=by
 show (Op.equalIn (9999+1) t (.pointer (some a)) (.pointer none)).run P w=.ok false w
 unfold Op.equalIn
 simp [run_underlying ht]
theorem Pu.conv {s t:TypeId}{x:Operand}{k k':IntKind}{a:Int}{du:TypeDesc} (hs:P.underlying s=some du) (ht:P.underlying t=some (.int k)) (hx:ev env x=some (.int k' a)) :
  Pu P ⟨d,.convert s t x,ty,pos,af,g⟩ env h (.int k (k.wrap a)):=.mk fun ρ w hr _=>by
 simp [execOp,hr _ _ hx,convert,run_underlying hs,run_underlying ht,Conv.intToInt]
theorem Pu.len {t:TypeId}{x:Operand}{e:TypeId}{a:Option Addr}{n c:Nat} (ht:P.underlying t=some (.slice e)) (hx:ev env x=some (.slice a n c)) :
  Pu P ⟨d,.call { callee:=.builtin .len,args:=#[x],argTypes:=#[t] },ty,pos,af,g⟩ env h (.int .i64 (n:Int)):=.mk fun ρ w hr _=>by
 simp [execOp,resolve,invoke,builtin,Builtin.len_,hr _ _ hx,run_underlying ht,goInt]
theorem Pu.lenS {t:TypeId}{x:Operand}{s:ByteArray} (ht:P.underlying t=some .string) (hx:ev env x=some (.string s)) :
  Pu P ⟨d,.call { callee:=.builtin .len,args:=#[x],argTypes:=#[t] },ty,pos,af,g⟩ env h (.int .i64 (s.size:Int)):=.mk fun ρ w hr _=>by
 simp [execOp,resolve,invoke,builtin,Builtin.len_,hr _ _ hx,run_underlying ht,goInt]
theorem Pu.cap {t:TypeId}{x:Operand}{e:TypeId}{a:Option Addr}{n c:Nat} (ht:P.underlying t=some (.slice e)) (hx:ev env x=some (.slice a n c)) :
  Pu P ⟨d,.call { callee:=.builtin .cap,args:=#[x],argTypes:=#[t] },ty,pos,af,g⟩ env h (.int .i64 (c:Int)):=.mk fun ρ w hr _=>by
 simp [execOp,resolve,invoke,builtin,Builtin.cap_,hr _ _ hx,run_underlying ht,goInt]
theorem Pu.min {x y:Operand}{ts:Array TypeId}{k:IntKind}{a b:Int} (hx:ev env x=some (.int k a)) (hy:ev env y=some (.int k b)) :
  Pu P ⟨d,.call { callee:=.builtin .min,args:=#[x,y],argTypes:=ts },ty,pos,af,g⟩ env h (.int k (Min.min a b)):=.mk fun ρ w hr _=>by
 have e:(if b<a then b else a)=Min.min a b:=by simp only [Int.min_def];split<;>split<;>omega
 simp [execOp,resolve,invoke,builtin,Builtin.min_,Builtin.min2,hr _ _ hx,hr _ _ hy,e]
theorem Pu.max {x y:Operand}{ts:Array TypeId}{k:IntKind}{a b:Int} (hx:ev env x=some (.int k a)) (hy:ev env y=some (.int k b)) :
  Pu P ⟨d,.call { callee:=.builtin .max,args:=#[x,y],argTypes:=ts },ty,pos,af,g⟩ env h (.int k (Max.max a b)):=.mk fun ρ w hr _=>by
 have e:(if b > a then b else a)=Max.max a b:=by simp only [Int.max_def];split<;>split<;>omega
 simp [execOp,resolve,invoke,builtin,Builtin.max_,Builtin.max2,hr _ _ hx,hr _ _ hy,e]
def nthV:List Value→Nat→Option Value
 | v::_,0=>some v
 | _::r,n+1=>nthV r n
 | [],_=>none
theorem zCa:∀ {l:List Value}{i:Nat}{v:Value},nthV l i=some v→l[i]?=some v
 | v::_,0,_,h=>by simpa [nthV] using h
 | _::r,n+1,_,h=>by simpa using zCa (l:=r) (by simpa [nthV] using h)
 | [],_,_,h=>by simp [nthV] at h
theorem Pu.extract {x:Operand}{vs:List Value}{i:Nat}{v:Value} (hx:ev env x=some (.tuple vs.toArray)) (hv:nthV vs i=some v):Pu P ⟨d,.extract x i,ty,pos,af,g⟩ env h v:=.mk fun ρ w hr _=>by
 simp [execOp,hr _ _ hx,Instr.extract,zCa hv]
theorem Pu.nilCheck {x:Operand}{a:Addr} (hx:ev env x=some (.pointer (some a))):Pu P ⟨d,.nilCheck x,ty,pos,af,g⟩ env h (.pointer (some a)):=.mk fun ρ w hr _=>by
 simp [execOp,hr _ _ hx]
end
end Go.E
namespace Go.E
open Go
def zB7 (h:Heap) (b o:Nat):Option Value:=match h[b]? with
 | some (.cells c _ _)=>c[o]?
 | _=>none
theorem zCm (w:World) (b o:Nat):w.cell? ⟨b,o,none⟩=zB7 w.heap b o:=by
 simp only [World.cell?,zB7];split<;>simp_all
theorem zBI {h:Heap}{b o:Nat}{c:Array Value}{t:TypeId}{fz:Nat × Nat} (hb:h[b]?=some (.cells c t fz)):zB7 h b o=c[o]?:=by simp [zB7,hb]
theorem zFo {h h':Heap}{b:Nat} (hb:h'[b]?=h[b]?) (o:Nat):zB7 h' b o=zB7 h b o:=by simp [zB7,hb]
def Cells (h:Heap) (b o:Nat) (cs:List Value):Prop:=∀ j v,cs[j]?=some v→zB7 h b (o+j)=some v
def Row (h:Heap) (b:Nat) (t:TypeId) (cs:List Value):Prop:=h[b]?=some (.cells cs.toArray t (0,0))
theorem Row.cells {h:Heap}{b:Nat}{t:TypeId}{cs:List Value} (hr:Row h b t cs):Cells h b 0 cs:=fun j v hv=>by
 rw [Nat.zero_add,zBI hr];simpa using hv
theorem Row.cell {h:Heap}{b o:Nat}{t:TypeId}{cs:List Value}{v:Value} (hr:Row h b t cs) (hv:cs[o]?=some v):zB7 h b o=some v:=by
 rw [zBI hr];simpa using hv
theorem Cells.keep {h h':Heap}{b o:Nat}{cs:List Value} (hc:Cells h b o cs) (hk:h'[b]?=h[b]?):Cells h' b o cs:=fun j v hv=>by rw [zFo hk];exact hc j v hv
theorem Cells.range {w:World}{b o:Nat}{cs:List Value} (hc:Cells w.heap b o cs):w.rangeAt b o cs:=fun j v hv=>by rw [zCm];exact hc j v hv
def Ext (h h':Heap):Prop:=h.size≤h'.size∧∀ k,k<h.size→h'[k]?=h[k]?
section
variable {P:Program}{env:Env}{h:Heap}{d:Option Nat}{ty:TypeId}{pos:String}{af:Array Edge}{g:Option (Nat × Bool)}
theorem zBX {w:World}{t:TypeId}{du:TypeDesc}{b o:Nat}{v:Value} (hu:P.underlying t=some du) (hd:du.isRow=false) (hc:zB7 w.heap b o=some v):(loadVar t ⟨b,o,none⟩).run P w=.ok v w:=by
 have hagg:(isAgg t).run P w=.ok false w:=by
  unfold isAgg
  rw [Sem.run_bind,run_underlying hu w]
  cases du<;>simp_all
 have hc':w.cell? ⟨b,o,none⟩=some v:=by rw [zCm];exact hc
 simp [loadVar,Sem.run_bind,hagg,hc']
theorem Pu.load {t:TypeId}{x:Operand}{du:TypeDesc}{b o:Nat}{v:Value} (hx:ev env x=some (.pointer (some ⟨b,o,none⟩))) (hu:P.underlying t=some du) (hd:du.isRow=false) (hc:zB7 h b o=some v) :
  Pu P ⟨d,.load t x,ty,pos,af,g⟩ env h v:=.mk fun ρ w hr hw=>by
 subst hw
 simp only [execOp,hr _ _ hx,Instr.loadAt,Instr.sureAddr,Sem.run_bind,Sem.run_pure,Result.andThen_ok,zBX hu hd hc]
theorem Pu.loadRow {t:TypeId}{x:Operand}{du:TypeDesc}{b o:Nat}{cs:List Value} (hx:ev env x=some (.pointer (some ⟨b,o,none⟩))) (hu:P.underlying t=some du) (hd:du.isRow=true) (hi:(P.info? t).map (·.size)=some cs.length)
  (hc:Cells h b o cs):Pu P ⟨d,.load t x,ty,pos,af,g⟩ env h (.agg cs.toArray):=.mk fun ρ w hr hw=>by
 subst hw
 simp only [execOp,hr _ _ hx,run_loadAt_mid w b o t cs du hc.range hu hd hi,Sem.run_bind,Sem.run_pure,Result.andThen_ok]
theorem zA7 {e s:Nat} (hs:(P.info? e).map (·.size)=some s) (w:World):(sizeOf e).run P w=.ok s w:=by
 cases hq:P.info? e with
 | none=>simp [hq] at hs
 | some i=>simp [hq] at hs;simp [sizeOf,typeInfo,hq,hs]
theorem Pu.idx {t e:TypeId}{x ix:Operand}{k:IntKind}{b o n c s:Nat}{iv:Int} (hx:ev env x=some (.slice (some ⟨b,o,none⟩) n c)) (hi:ev env ix=some (.int k iv)) (ht:P.underlying t=some (.slice e))
  (hs:(P.info? e).map (·.size)=some s) (hr:0≤iv∧iv<n):Pu P ⟨d,.indexAddr t x ix,ty,pos,af,g⟩ env h (.pointer (some ⟨b,o+iv.toNat*s,none⟩)):=.mk fun ρ w hρ _=>by
 simp [execOp,hρ _ _ hx,hρ _ _ hi,Instr.indexAt,asIntOf,run_underlying ht,zA7 hs,hr.1,hr.2,Addr.add_mid]
def zBB:List Field→Nat→Option (TypeId × Nat)
 | ⟨_,t,o,_,_,_,_⟩::_,0=>some (t,o)
 | _::r,n+1=>zBB r n
 | [],_=>none
theorem zB5:∀ {l:List Field}{i t o:Nat},zBB l i=some (t,o)→∃ f,l[i]?=some f∧f.type=t∧f.offset=o
 | ⟨n,t',o',a,b,c,e⟩::r,0,t,o,h=>by simp [zBB] at h;exact ⟨_,rfl,h.1,h.2⟩
 | f::r,n+1,t,o,h=>by
   have:zBB r n=some (t,o):=by cases f;simpa [zBB] using h
   obtain ⟨f',h1,h2⟩:=zB5 this
   exact ⟨f',by simpa using h1,h2⟩
 | [],_,_,_,h=>by simp [zBB] at h
theorem Pu.fieldAddr {s:TypeId}{x:Operand}{i:Nat}{b o z t o':Nat}{fs:List Field} (hx:ev env x=some (.pointer (some ⟨b,o,none⟩))) (hu:P.underlying s=some (.struct fs.toArray)) (hf:zBB fs i=some (t,o'))
  (hz:(P.info? t).map (·.size)=some (z+1)):Pu P ⟨d,.fieldAddr s x i,ty,pos,af,g⟩ env h (.pointer (some ⟨b,o+o',none⟩)):=.mk fun ρ w hρ _=>by
 obtain ⟨f,h1,h2,h3⟩:=zB5 hf
 subst h2;subst h3
 simp [execOp,hρ _ _ hx,Instr.fieldAt,run_underlying hu,h1,Instr.sureAddr,fieldPlace,zA7 hz,Addr.add_mid]
theorem Pu.field {s:TypeId}{x:Operand}{i t o:Nat}{cs:Array Value}{fs:List Field}{du:TypeDesc}{v:Value} (hx:ev env x=some (.agg cs)) (hu:P.underlying s=some (.struct fs.toArray)) (hf:zBB fs i=some (t,o))
  (hd:P.underlying t=some du) (hr:du.isRow=false) (hv:cs[o]?=some v):Pu P ⟨d,.field s x i,ty,pos,af,g⟩ env h v:=.mk fun ρ w hρ _=>by
 obtain ⟨f,h1,h2,h3⟩:=zB5 hf
 subst h2;subst h3
 have hagg:(isAgg f.type).run P w=.ok false w:=by
  unfold isAgg
  rw [Sem.run_bind,run_underlying hd w]
  cases du<;>simp_all
 simp [execOp,hρ _ _ hx,Instr.field,run_underlying hu,h1,asAgg,part,hagg,hv]
theorem Pu.fieldRow {s:TypeId}{x:Operand}{i n t o:Nat}{cs:Array Value}{fs:List Field}{du:TypeDesc} (hx:ev env x=some (.agg cs)) (hu:P.underlying s=some (.struct fs.toArray)) (hf:zBB fs i=some (t,o))
  (hd:P.underlying t=some du) (hr:du.isRow=true) (hn:(P.info? t).map (·.size)=some n):Pu P ⟨d,.field s x i,ty,pos,af,g⟩ env h (.agg (cs.extract o (o+n))):=.mk fun ρ w hρ _=>by
 obtain ⟨f,h1,h2,h3⟩:=zB5 hf
 subst h2;subst h3
 have hagg:(isAgg f.type).run P w=.ok true w:=by
  unfold isAgg
  rw [Sem.run_bind,run_underlying hd w]
  cases du<;>simp_all
 simp [execOp,hρ _ _ hx,Instr.field,run_underlying hu,h1,asAgg,part,hagg,zA7 hn]
theorem zHk {w:World}{b:Nat}{t:TypeId}{cs cs':List Value} (hr:Row w.heap b t cs) :
  Hp (w.setRow b cs'.toArray).heap w (w.setRow b cs'.toArray)∧(w.setRow b cs'.toArray).heap.size=w.heap.size∧Row (w.setRow b cs'.toArray).heap b t cs'∧∀ k,k≠b→(w.setRow b cs'.toArray).heap[k]?=w.heap[k]? :=
 ⟨⟨rfl,rfl,rfl,rfl⟩,by simp,setRow_heap w b _ _ t _ hr,fun k hk=>setRow_other w b k _ hk⟩
def zAW (cs:List Value) (o:Nat) (vs:List Value):List Value:=cs.take o++vs++cs.drop (o+vs.length)
theorem zGv (cs:List Value) (o:Nat) (v:Value) (ho:o<cs.length):zAW cs o [v]=cs.set o v:=by
 unfold zAW
 apply List.ext_getElem?
 intro j
 simp only [List.length_singleton,List.getElem?_append,List.getElem?_take,List.length_append,List.length_take,List.getElem?_drop,List.getElem?_set]
 have:min o cs.length=o:=by omega
 by_cases h1:j<o
 ·simp [this,h1,Nat.ne_of_gt h1];omega
 ·by_cases h2:j=o
  ·subst h2;simp [this,ho]
  ·have h3:¬j<o+1:=by omega
   simp [this,h3,Ne.symm h2]
   congr 1;omega
theorem Eff.storeN0 {t t0:TypeId}{x y:Operand}{b o:Nat}{v:Value}{cs:List Value} (hx:ev env x=some (.pointer (some ⟨b,o,none⟩))) (hy:ev env y=some v) (hi:(P.info? t).map (·.size)=some v.cells.size)
  (h1:∀ u∈v.cells.toList,u.oneCell'=true) (hr:Row h b t0 cs) (ho:o+v.cells.size≤cs.length) :
  Eff P ⟨d,.store t x y,ty,pos,af,g⟩ env h (fun u h'=>u=undef∧h'.size=h.size∧Row h' b t0 (zAW cs o v.cells.toList)∧∀ k,k≠b→h'[k]?=h[k]?):=.mk fun ρ w hρ hw=>by
 subst hw
 have hst:=run_storeCells_at P b o t0 v.cells.toList 0 cs.toArray w hr (by simpa using ho) h1
 simp only [Nat.add_zero] at hst
 obtain ⟨k1,k2,k3,k4⟩:=zHk (cs':=zAW cs o v.cells.toList) hr
 refine ⟨undef,_,.inr ⟨?_,rfl⟩,k1,rfl,k2,k3,k4⟩
 simp [execOp,hρ _ _ hx,hρ _ _ hy,Instr.storeAt,Instr.sureAddr,storeVar,zA7 hi,hst,zAW]
theorem zCS {v:Value} (h:v.oneCell'=true):v.cells=#[v]:=by cases v<;>simp_all [Value.oneCell',Value.cells]
theorem Eff.store0 {t t0:TypeId}{x y:Operand}{b o:Nat}{v:Value}{cs:List Value} (hx:ev env x=some (.pointer (some ⟨b,o,none⟩))) (hy:ev env y=some v) (hi:(P.info? t).map (·.size)=some 1)
  (h1:v.oneCell'=true) (hr:Row h b t0 cs) (ho:o<cs.length) :
  Eff P ⟨d,.store t x y,ty,pos,af,g⟩ env h (fun u h'=>u=undef∧h'.size=h.size∧Row h' b t0 (cs.set o v)∧∀ k,k≠b→h'[k]?=h[k]?):=.mk fun ρ w hρ hw=>by
 have hc:=zCS h1
 have:=(Eff.storeN0 (d:=d) (ty:=ty) (pos:=pos) (af:=af) (g:=g) hx hy (by rw [hc];exact hi) (by rw [hc];simpa using h1) hr (by rw [hc];simp;omega)).run ρ w hρ hw
 rw [hc] at this
 simpa [zGv cs o v ho] using this
def zIv (o:Obj) (h h':Heap):Prop:=h'.size=h.size+1∧h'[h.size]?=some o∧∀ k,k<h.size→h'[k]?=h[k]?
theorem zBd (w:World) (o:Obj):zIv o w.heap (w.heap.push o):=⟨by simp,by simp,fun k hk=>by rw [Array.getElem?_push_lt hk];simp [hk]⟩
theorem Eff.box {t:TypeId}{x:Operand}{v:Value} (hx:ev env x=some v) :
  Eff P ⟨d,.box t x,ty,pos,af,g⟩ env h (fun u h'=>u=.pointer (some ⟨h.size,0,none⟩)∧zIv (.cells v.cells t) h h'):=.mk fun ρ w hρ hw=>by
 subst hw
 refine ⟨_,{ w with heap:=w.heap.push (.cells v.cells t) },.inl ?_,⟨rfl,rfl,rfl,rfl⟩,rfl,zBd w _⟩
 simp [execOp,hρ _ _ hx,Instr.box,newVar,newRow]
theorem Eff.alloc {t:TypeId}{z:Value} (hz:∀ w,(zeroValue t).run P w=.ok z w) :
  Eff P ⟨d,.alloc t,ty,pos,af,g⟩ env h (fun u h'=>u=.pointer (some ⟨h.size,0,none⟩)∧zIv (.cells z.cells t) h h'):=.mk fun ρ w hρ hw=>by
 subst hw
 refine ⟨_,{ w with heap:=w.heap.push (.cells z.cells t) },.inl ?_,⟨rfl,rfl,rfl,rfl⟩,rfl,zBd w _⟩
 simp [execOp,Instr.alloc,newVar,newRow,hz]
theorem Pu.build {t:TypeId}{ps:List (Nat × Operand)}{vs:List Value} (cs:Array Value) (hv:evs env (ps.map (·.2))=some vs) (hb:P.built t ((ps.map (·.1)).zip vs)=some cs) :
  Pu P ⟨d,.build t ps.toArray,ty,pos,af,g⟩ env h (.agg cs):=.mk fun ρ w hρ _=>by
 have hvs:(ps.map (·.2)).map ρ=vs:=hρ.list hv
 have e:((ps.toArray.map fun (i,x)=>(i,ρ x))).toList=(ps.map (·.1)).zip vs:=by
  rw [←hvs]
  apply List.ext_getElem?
  intro j
  simp only [List.map_toArray,List.getElem?_map,List.getElem?_zip_eq_some,List.map_map]
  rw [List.zip_map',List.getElem?_map]
  rfl
 have hr:=run_build w t (ps.toArray.map fun (i,x)=>(i,ρ x)) cs (by rw [e];exact hb)
 simp only [execOp,Sem.run_bind]
 rw [hr]
 rfl
def Rd (h:Heap) (v:Value) (n:Nat) (cs:List Value):Prop :=
 (n=0∧cs=[]∧∃ a c,v=.slice a 0 c∧c≤maxLen)∨(0<n∧∃ b o cap,v=.slice (some ⟨b,o,none⟩) n cap∧n≤cap∧cap≤maxLen∧b<h.size∧Cells h b o cs)
theorem Rd.keep {h h':Heap}{v:Value}{n:Nat}{cs:List Value} (hr:Rd h v n cs) (hs:h.size≤h'.size) (hk:∀ b,v.ownBlock=some b→0<n→b<h.size→h'[b]?=h[b]?):Rd h' v n cs:=by
 rcases hr with hr|⟨hn,b,o,cap,rfl,h1,h2,h3,h4⟩
 ·exact .inl hr
 ·exact .inr ⟨hn,b,o,cap,rfl,h1,h2,by omega,h4.keep (hk b rfl hn h3)⟩
theorem Rd.ext {h h':Heap}{v:Value}{n:Nat}{cs:List Value} (hr:Rd h v n cs) (he:Ext h h'):Rd h' v n cs:=hr.keep he.1 (fun b _ _ hb=>he.2 b hb)
theorem Rd.nil (h:Heap):Rd h (.slice none 0 0) 0 []:=.inl ⟨rfl,rfl,none,0,rfl,Nat.zero_le _⟩
theorem Rd.slice {h:Heap}{v:Value}{n:Nat}{cs:List Value} (hr:Rd h v n cs):∃ a c,v=.slice a n c∧n≤c∧c≤maxLen:=by
 rcases hr with ⟨rfl,_,a,c,rfl,hc⟩|⟨_,b,o,cap,rfl,h1,h2,_⟩
 ·exact ⟨a,c,rfl,Nat.zero_le _,hc⟩
 ·exact ⟨_,cap,rfl,h1,h2⟩
theorem Rd.posn {h:Heap}{v:Value}{n:Nat}{cs:List Value} (hr:Rd h v n cs) (hn:0<n):∃ b o c,v=.slice (some ⟨b,o,none⟩) n c∧n≤c∧c≤maxLen∧b<h.size∧Cells h b o cs:=by
 rcases hr with ⟨rfl,_⟩|⟨_,r⟩
 ·omega
 ·exact r
def Own (h:Heap) (base:Nat) (e:TypeId) (size:Nat) (v:Value) (n:Nat) (xs:List Value):Prop :=
 xs.length=n*size∧((v=.slice none 0 0∧n=0) ∨
  ∃ g cap cur,v=.slice (some ⟨g,0,none⟩) n cap∧base≤g∧h[g]?=some (.cells cur e (0,0))∧n≤cap∧cap≤maxLen∧cur.size=cap*size∧cur.toList.take (n*size)=xs)
theorem Own.nil (h:Heap) (base:Nat) (e:TypeId) (size:Nat):Own h base e size (.slice none 0 0) 0 []:=⟨by simp,.inl ⟨rfl,rfl⟩⟩
theorem Own.rd {h:Heap}{base:Nat}{e:TypeId}{size:Nat}{v:Value}{n:Nat}{xs:List Value} (ho:Own h base e size v n xs):Rd h v n xs:=by
 rcases ho.2 with ⟨rfl,rfl⟩|⟨g,cap,cur,rfl,hb,hg,h1,h2,h3,h4⟩
 ·exact .inl ⟨rfl,List.eq_nil_of_length_eq_zero (by simpa using ho.1),none,0,rfl,Nat.zero_le _⟩
 ·by_cases hn:n=0
  ·subst hn
   exact .inl ⟨rfl,List.eq_nil_of_length_eq_zero (by simpa using ho.1),_,cap,rfl,h2⟩
  ·refine .inr ⟨by omega,g,0,cap,rfl,h1,h2,(Array.getElem?_eq_some_iff.1 hg).1,fun j u hu=>?_⟩
   rw [Nat.zero_add,zBI hg]
   rw [←h4,List.getElem?_take] at hu
   split at hu
   ·simpa using hu
   ·cases hu
theorem Own.block {h:Heap}{base:Nat}{e:TypeId}{size:Nat}{v:Value}{n:Nat}{xs:List Value} (ho:Own h base e size v n xs) {b:Nat} (hb:v.ownBlock=some b):base≤b∧b<h.size:=by
 rcases ho.2 with ⟨rfl,rfl⟩|⟨g,cap,cur,rfl,hb',hg,_⟩
 ·cases hb
 ·cases hb;exact ⟨hb',(Array.getElem?_eq_some_iff.1 hg).1⟩
theorem Own.mono {h:Heap}{base base':Nat}{e:TypeId}{size:Nat}{v:Value}{n:Nat}{xs:List Value} (ho:Own h base e size v n xs) (hb:base'≤base):Own h base' e size v n xs:=by
 refine ⟨ho.1,?_⟩
 rcases ho.2 with h1|⟨g,cap,cur,rfl,hb',r⟩
 ·exact .inl h1
 ·exact .inr ⟨g,cap,cur,rfl,by omega,r⟩
def Appended (base:Nat) (e:TypeId) (size:Nat) (v:Value) (n:Nat) (xs:List Value) (h:Heap) (v':Value) (h':Heap):Prop :=
 Own h' base e size v' n xs∧h.size≤h'.size∧(∀ k,k<h.size→v.ownBlock≠some k→h'[k]?=h[k]?)∧(v'=.slice none 0 0→v=.slice none 0 0∧n=0) ∧
  ∀ k,v'.ownBlock=some k→v.ownBlock=some k∨h.size≤k
theorem zFq {w w':World}{t e:TypeId}{i:TypeInfo}{z v v':Value}{base size n m c:Nat}{a:Addr}{xs news:List Value} (ht:P.underlying t=some (.slice e)) (hi:P.info? e=some i) (hz:i.zero=some z) (hsz:i.size=size) (ho:Own w.heap base e size v n xs)
  (hl:news.length=m*size) (hn:∀ j u,news[j]?=some u→w.cell? (a.add j)=some u) (h1:∀ u∈news,u.oneCell'=true) (h63:n+m≤maxLen) (hbytes:(n+m)*i.bytes≤140737488355328)
  (hr:(Builtin.append_ #[t,t] ty #[v,.slice (some a) m c]).run P w=.ok v' w') (hnil:v'=.slice none 0 0↔v=.slice none 0 0∧m=0):∀ k,v'.ownBlock=some k→v.ownBlock=some k∨w.heap.size≤k:=by
 intro k hk
 have hsmall:n+m≤9223372036854775807:=by unfold maxLen at h63;omega
 subst hsz
 rcases ho.2 with ⟨rfl,rfl⟩|⟨g',cap,cur,rfl,hb,hg,h2,h3,h4,h5⟩
 ·by_cases hm:m=0
  ·have:=hnil.2 ⟨rfl,hm⟩
   rw [this] at hk
   cases hk
  ·have:=run_append_nil (P:=P) w t ty e i z ht hi hz a m c news hl hn (by omega) (by omega) (by rw [Nat.zero_add] at hbytes;omega)
   rw [this] at hr
   injection hr with hv _
   rw [←hv] at hk
   simp [Value.ownBlock] at hk
   omega
 ·by_cases hm:n+m≤cap
  ·have:=run_append_room (P:=P) w t ty e i ht hi g' n cap cur hg a m c news hl hn h1 hm (by rw [hl,←Nat.add_mul,h4];exact Nat.mul_le_mul_right _ hm)
   rw [this] at hr
   injection hr with hv _
   rw [←hv] at hk
   exact .inl hk
  ·have hcs:∀ j v,xs[j]?=some v→w.cell? ((⟨g',0,none⟩:Addr).add j)=some v:=fun j u hu=>by
    rw [Addr.add_mid,zCm,Nat.zero_add,zBI hg]
    rw [←h5,List.getElem?_take] at hu
    split at hu
    ·simpa using hu
    ·cases hu
   have:=run_append_grow (P:=P) w t ty e i z ht hi hz ⟨g',0,none⟩ n cap xs ho.1 hcs a m c news hl hn (by omega) (by omega) (growslice_fits (by omega) hbytes)
   rw [this] at hr
   injection hr with hv _
   rw [←hv] at hk
   simp [Value.ownBlock] at hk
   omega
theorem Eff.appendOwn {x y:Operand}{t e:TypeId}{i:TypeInfo}{z v s:Value}{base size n m:Nat}{xs news:List Value} (hx:ev env x=some v) (hy:ev env y=some s) (ht:P.underlying t=some (.slice e)) (hi:P.info? e=some i)
  (hz:i.zero=some z) (hsz:i.size=size) (hby:i.bytes≤1048576) (hzs:z.cells.size=size) (hpos:0<size) (ho:Own h base e size v n xs) (hs:Rd h s m news) (hl:news.length=m*size) (h1:∀ u∈news,u.oneCell'=true)
  (hle:n+m≤134217728) (hb:base≤h.size) :
  Eff P ⟨d,.call { callee:=.builtin .append,args:=#[x,y],argTypes:=#[t,t] },ty,pos,af,g⟩ env h (fun v' h'=>Appended base e size v (n+m) (xs++news) h v' h'):=.mk fun ρ w hρ hw=>by
 subst hw
 have hbytes:(n+m)*i.bytes≤140737488355328:=Nat.le_trans (Nat.mul_le_mul hle hby) (by decide)
 have h63:n+m≤maxLen:=by unfold maxLen;omega
 have hrun:∀ (a:Addr) (c:Nat),s=.slice (some a) m c→(∀ j u,news[j]?=some u→w.cell? (a.add j)=some u) →
   ∃ v' w',(Builtin.append_ #[t,t] ty #[v,s]).run P w=.ok v' w'∧w'.ownsRow base e size v' (n+m) (xs++news)∧w.grownBy w' v.ownBlock∧(v'=.slice none 0 0↔v=.slice none 0 0∧m=0):=fun a c hs' hn=>by
  subst hs'
  exact run_append_own (P:=P) w base t ty e i z size i.bytes ht hi hz hsz rfl hzs hpos v n xs ho a m c news hl hn h1 h63 hbytes hb
 have hfin:∀ (a:Addr) (c:Nat),s=.slice (some a) m c→(∀ j u,news[j]?=some u→w.cell? (a.add j)=some u) →
   ∃ v' w',((execOp ρ ⟨d,.call { callee:=.builtin .append,args:=#[x,y],argTypes:=#[t,t] },ty,pos,af,g⟩).run P w=.ok (.value v') w'∨((execOp ρ ⟨d,.call { callee:=.builtin .append,args:=#[x,y],argTypes:=#[t,t] },ty,pos,af,g⟩).run P w=.ok .skip w'∧v'=undef))∧Hp w'.heap w w'∧Appended base e size v (n+m) (xs++news) w.heap v' w'.heap:=fun a c hs' hn=>by
  obtain ⟨v',w',hr,hown,hgr,hnil⟩:=hrun a c hs' hn
  have hblk:=fun (hn:∀ j u,news[j]?=some u→w.cell? (a.add j)=some u) (hr:(Builtin.append_ #[t,t] ty #[v,.slice (some a) m c]).run P w=.ok v' w')=>zFq (P:=P) ht hi hz hsz ho hl hn h1 h63 hbytes hr hnil
  refine ⟨v',w',.inl ?_,⟨rfl,hgr.os,hgr.tape,hgr.output⟩,hown,hgr.size,fun k hk hne=>hgr.block k hk (fun e=>hne e.symm),fun e=>?_,hblk hn (by subst hs';exact hr)⟩
  ·simp only [execOp,resolve,invoke,builtin,Sem.run_bind,Sem.run_pure,Result.andThen_ok]
   simp [hρ _ _ hx,hρ _ _ hy,hr]
  ·obtain ⟨e1,e2⟩:=hnil.1 e
   refine ⟨e1,?_⟩
   rcases ho.2 with ⟨_,rfl⟩|⟨g',cap,cur,hv,_⟩
   ·omega
   ·rw [e1] at hv;cases hv
 rcases hs with ⟨rfl,rfl,a,c,rfl,_⟩|⟨_,b,o,c,rfl,_,_,_,hcs⟩
 ·-- nothing to append: the slice as it was
  cases a with
  | some a=>exact hfin a c rfl (fun j u hu=>by simp at hu)
  | none =>
    rcases ho.2 with ⟨rfl,rfl⟩|⟨g',cap,cur,rfl,hbg,hg,hnc,r⟩
    ·refine ⟨.slice none 0 0,w,.inl ?_,Hp.self w,?_⟩
     ·simp [execOp,resolve,invoke,builtin,hρ _ _ hx,hρ _ _ hy,Builtin.append_,run_underlying ht,sizeOf,typeInfo,hi,Builtin.lenOf,Builtin.firstCells]
     ·have hx0:xs=[]:=List.eq_nil_of_length_eq_zero (by simpa using ho.1)
      subst hx0
      exact ⟨Own.nil _ _ _ _,Nat.le_refl _,fun _ _ _=>rfl,fun _=>⟨rfl,rfl⟩,fun k hk=>.inl hk⟩
    ·refine ⟨.slice (some ⟨g',0,none⟩) n cap,w,.inl ?_,Hp.self w,?_⟩
     ·simp [execOp,resolve,invoke,builtin,hρ _ _ hx,hρ _ _ hy,Builtin.append_,run_underlying ht,sizeOf,typeInfo,hi,Builtin.lenOf,Builtin.firstCells,hnc,storeCells]
     ·exact ⟨by simpa using ho,Nat.le_refl _,fun _ _ _=>rfl,(fun e=>by cases e),fun k hk=>.inl hk⟩
 ·exact hfin _ _ rfl (fun j u hu=>by rw [Addr.add_mid,zCm];exact hcs j u hu)
end
end Go.E
namespace Go.E
open Go
section
variable {P:Program}{env:Env}{h:Heap}{d:Option Nat}{ty:TypeId}{pos:String}{af:Array Edge}{g:Option (Nat × Bool)}
def flat (vs:List Value):List Value:=vs.flatMap fun v=>v.cells.toList
theorem zFh (size:Nat):∀ (vs:List Value) (k:Nat) (pre post:List Value),pre.length=k*size→post.length=vs.length*size→(∀ v∈vs,v.cells.size=size) →
  Instr.fill (fun i=>some (i*size,size)) (pre++post).toArray ((vs.zipIdx k).map fun x=>(x.2,x.1))=some (pre++flat vs).toArray
 | [],k,pre,post,hp,hq,_=>by
   have:post=[]:=List.eq_nil_of_length_eq_zero (by simpa using hq)
   subst this
   simp [Instr.fill,flat]
 | v::r,k,pre,post,hp,hq,hv=>by
   have hvs:v.cells.size=size:=hv v (by simp)
   have hfold:∀ (cs:List Value) (j:Nat) (A:List Value) (B:List Value),cs.length≤B.length→A.length=k*size+j →
     (cs.zipIdx j).foldl (fun (cs:Array Value) (x:Value × Nat)=>cs.setIfInBounds (k*size+x.2) x.1) (A++B).toArray=(A++cs++B.drop cs.length).toArray:=by
    intro cs
    induction cs with
    | nil=>intro j A B _ _;simp
    | cons c cs ih =>
      intro j A B hB hA
      cases B with
      | nil=>simp at hB
      | cons b B =>
        simp only [List.zipIdx_cons,List.foldl_cons]
        have e:(A++b::B).toArray.setIfInBounds (k*size+j) c=((A++[c])++B).toArray:=by
         apply Array.ext'
         simp only [Array.toList_setIfInBounds]
         rw [←hA,List.set_append_right _ _ (Nat.le_refl _)]
         simp
        rw [e,ih (j+1) (A++[c]) B (by simpa using hB) (by simp [hA];omega)]
        simp
   have hlen:size≤post.length:=by rw [hq,List.length_cons,Nat.add_mul];omega
   simp only [List.zipIdx_cons,List.map_cons,Instr.fill]
   have hc1:¬(v.cells.size≠size∨k*size+v.cells.size > (pre++post).toArray.size):=by
    simp [hvs,hp];omega
   rw [if_neg (by simpa using hc1)]
   have e2:(v.cells.zipIdx).foldl (fun (cs:Array Value) (x:Value × Nat)=>cs.setIfInBounds (k*size+x.2) x.1) (pre++post).toArray=(pre++v.cells.toList++post.drop size).toArray:=by
    have:=hfold v.cells.toList 0 pre post (by simp [hvs];exact hlen) (by simp [hp])
    rw [←Array.foldl_toList,Array.toList_zipIdx,this]
    simp [hvs]
   rw [e2]
   have:=zFh size r (k+1) (pre++v.cells.toList) (post.drop size) (by simp [hp,hvs,Nat.add_mul]) (by simp [hq,Nat.add_mul]) (fun u hu=>hv u (by simp [hu]))
   rw [this]
   simp [flat]
theorem Eff.buildSlice {t e n:Nat}{ps:List (Nat × Operand)}{vs:List Value}{i:TypeInfo}{z:Value}{size:Nat} (hv:evs env (ps.map (·.2))=some vs) (hp:ps.map (·.1)=List.range n) (ht:P.underlying t=some (.slice e))
  (hi:P.info? e=some i) (hz:i.zero=some z) (hsz:i.size=size) (hpos:0<size) (hn:n*size≤1048576) (h1:∀ v∈vs,v.cells.size=size) :
  Eff P ⟨d,.buildSlice t n ps.toArray,ty,pos,af,g⟩ env h (fun u h'=>u=.slice (some ⟨h.size,0,none⟩) n n∧zIv (.cells (flat vs).toArray e) h h'):=.mk fun ρ w hρ hw=>by
 subst hw
 have hvs:(ps.map (·.2)).map ρ=vs:=hρ.list hv
 have hl:vs.length=n:=by rw [←hvs];have:=congrArg List.length hp;simpa using this
 have hparts:(ps.toArray.map fun (i,x)=>(i,ρ x)).toList=(vs.zipIdx 0).map fun x=>(x.2,x.1):=by
  apply List.ext_getElem?
  intro j
  have e1:(ps.map (·.1))[j]?=(List.range n)[j]?:=by rw [hp]
  have e2:((ps.map (·.2)).map ρ)[j]?=vs[j]?:=by rw [hvs]
  simp only [List.getElem?_map] at e1 e2
  simp only [List.map_toArray,List.getElem?_map,List.getElem?_zipIdx,Nat.zero_add]
  rw [←e2]
  cases hj:ps[j]? with
  | none=>simp
  | some p =>
    obtain ⟨a,x⟩:=p
    have hjn:j<n:=by have:=(List.getElem?_eq_some_iff.1 hj).1;have:=congrArg List.length hp;simp at this;omega
    rw [hj,List.getElem?_range hjn] at e1
    simp at e1
    simp [e1]
 have hrun:(Instr.buildSlice t n (ps.toArray.map fun (i,x)=>(i,ρ x))).run P w=.ok (.slice (some ⟨w.heap.size,0,none⟩) n n) { w with heap:=w.heap.push (.cells (flat vs).toArray e) }:=by
  by_cases h0:n=0
  ·subst h0
   have hv0:vs=[]:=List.eq_nil_of_length_eq_zero hl
   subst hv0
   have hps:ps=[]:=by simpa using hp
   subst hps
   simp [Instr.buildSlice,run_underlying ht,sizeOf,typeInfo,hi,newRow,Instr.fill,flat,show Array.range 0=(#[]:Array Nat) from by apply Array.ext';simp]
  ·have hf:=zFh size vs 0 [] ((List.range (n*size)).map fun k=>z.cells[k % z.cells.size]!) (by simp) (by simp [hl]) h1
   refine run_buildSlice w t e n _ (flat vs).toArray i z ht hi hz (by rw [hsz];omega) (by rw [hsz];exact Nat.mul_ne_zero h0 (by omega)) ?_
   rw [hparts,hsz]
   have e3:(Array.range (n*size)).map (z.cells[· % z.cells.size]!)=([]++(List.range (n*size)).map fun k=>z.cells[k % z.cells.size]!).toArray:=by
    apply Array.ext';simp
   rw [e3,hf]
   simp
 refine ⟨_,{ w with heap:=w.heap.push (.cells (flat vs).toArray e) },.inl ?_,⟨rfl,rfl,rfl,rfl⟩,rfl,zBd w _⟩
 simp only [execOp,Sem.run_bind]
 rw [hrun]
 rfl
theorem zDD (size:Nat):∀ (vs:List Value),(∀ v∈vs,v.cells.size=size)→(flat vs).length=vs.length*size
 | [],_=>by simp [flat]
 | v::r,hv=>by
   have:=zDD size r (fun u hu=>hv u (by simp [hu]))
   have h0:=hv v (by simp)
   have e:flat (v::r)=v.cells.toList++flat r:=rfl
   rw [e,List.length_append,this,Array.length_toList,h0,List.length_cons,Nat.add_mul];omega
theorem zCJ:∀ (vs:List Value),(∀ v∈vs,v.oneCell'=true)→flat vs=vs
 | [],_=>rfl
 | v::r,hv=>by
   have:=zCJ r (fun u hu=>hv u (by simp [hu]))
   have h0:=zCS (hv v (by simp))
   simp only [flat,List.flatMap_cons] at this ⊢
   rw [this,h0];rfl
theorem Pu.cutLH {t e:TypeId}{x lo hi:Operand}{a:Option Addr}{n c s:Nat}{l m:Int}{k1 k2:IntKind} (hx:ev env x=some (.slice a n c)) (hl:ev env lo=some (.int k1 l)) (hh:ev env hi=some (.int k2 m)) (ht:P.underlying t=some (.slice e))
  (hs:(P.info? e).map (·.size)=some s) (h0:0≤l) (h1:l≤m) (h2:m≤c):Pu P ⟨d,.slice t x (some lo) (some hi) none,ty,pos,af,g⟩ env h (sliced a l.toNat m.toNat c s):=.mk fun ρ w hρ _=>by
 have he:P.elem t=e:=by simp [Program.elem,ht]
 have ht':P.underlying t=some (.slice (P.elem t)):=by rw [he];exact ht
 simp only [execOp,Option.map_some,Option.map_none,hρ _ _ hx,hρ _ _ hl,hρ _ _ hh,run_sliceAt_slice w t _ _ _ _ ht',run_slice_lh w t a n c ht' k1 k2 l m h0 h1 h2,he,zA7 hs,Sem.run_bind,Sem.run_pure,Result.andThen_ok]
theorem Pu.cutH {t e:TypeId}{x hi:Operand}{a:Option Addr}{n c s:Nat}{m:Int}{k2:IntKind} (hx:ev env x=some (.slice a n c)) (hh:ev env hi=some (.int k2 m)) (ht:P.underlying t=some (.slice e))
  (hs:(P.info? e).map (·.size)=some s) (h0:0≤m) (h2:m≤c):Pu P ⟨d,.slice t x none (some hi) none,ty,pos,af,g⟩ env h (sliced a 0 m.toNat c s):=.mk fun ρ w hρ _=>by
 have he:P.elem t=e:=by simp [Program.elem,ht]
 have ht':P.underlying t=some (.slice (P.elem t)):=by rw [he];exact ht
 simp only [execOp,Option.map_some,Option.map_none,hρ _ _ hx,hρ _ _ hh,run_sliceAt_slice w t _ _ _ _ ht',run_slice_h w t a n c ht' k2 m h0 h2,he,zA7 hs,Sem.run_bind,Sem.run_pure,Result.andThen_ok]
theorem Pu.cutL {t e:TypeId}{x lo:Operand}{a:Option Addr}{n c s:Nat}{l:Int}{k1:IntKind} (hx:ev env x=some (.slice a n c)) (hl:ev env lo=some (.int k1 l)) (ht:P.underlying t=some (.slice e))
  (hs:(P.info? e).map (·.size)=some s) (h0:0≤l) (h1:l≤n):Pu P ⟨d,.slice t x (some lo) none none,ty,pos,af,g⟩ env h (sliced a l.toNat n c s):=.mk fun ρ w hρ _=>by
 have he:P.elem t=e:=by simp [Program.elem,ht]
 have ht':P.underlying t=some (.slice (P.elem t)):=by rw [he];exact ht
 simp only [execOp,Option.map_some,Option.map_none,hρ _ _ hx,hρ _ _ hl,run_sliceAt_slice w t _ _ _ _ ht',run_slice_l w t a n c ht' k1 l h0 h1,he,zA7 hs,Sem.run_bind,Sem.run_pure,Result.andThen_ok]
def str (l:List UInt8):Value:=.string ⟨l.toArray⟩
def u8 (c:UInt8):Value:=.int .u8 (c.toNat:Int)
theorem Pu.lenStr {t:TypeId}{x:Operand}{l:List UInt8} (hx:ev env x=some (str l)) (ht:P.underlying t=some .string) :
  Pu P ⟨d,.call { callee:=.builtin .len,args:=#[x],argTypes:=#[t] },ty,pos,af,g⟩ env h (.int .i64 (l.length:Int)):=by
 have:=Pu.lenS (h:=h) (d:=d) (ty:=ty) (pos:=pos) (af:=af) (g:=g) ht hx
 have e:(⟨l.toArray⟩:ByteArray).size=l.length:=by simp [ByteArray.size]
 rwa [e] at this
theorem Pu.eqlS {t yt:TypeId}{x y:Operand}{a b:List UInt8} (hx:ev env x=some (str a)) (hy:ev env y=some (str b)) :
  Pu P ⟨d,.binOp .eql t x y yt,ty,pos,af,g⟩ env h (.bool (decide (a=b))):=.mk fun ρ w hρ _=>by
 have e:(a == b)=decide (a=b):=by by_cases hab:a=b<;>simp [hab]
 simp [execOp,hρ _ _ hx,hρ _ _ hy,str,eqGuard,binOp_string_eql,e]
theorem Pu.neqS {t yt:TypeId}{x y:Operand}{a b:List UInt8} (hx:ev env x=some (str a)) (hy:ev env y=some (str b)) :
  Pu P ⟨d,.binOp .neq t x y yt,ty,pos,af,g⟩ env h (.bool (decide (a≠b))):=.mk fun ρ w hρ _=>by
 have e:(!(a == b))=decide (a≠b):=by by_cases hab:a=b<;>simp [hab]
 simp [execOp,hρ _ _ hx,hρ _ _ hy,str,eqGuard,binOp_string_neq,e]
theorem Pu.addS {t yt:TypeId}{x y:Operand}{a b:List UInt8} (hx:ev env x=some (str a)) (hy:ev env y=some (str b)) (hr:a.length+b.length≤4611686018427387904) :
  Pu P ⟨d,.binOp .add t x y yt,ty,pos,af,g⟩ env h (str (a++b)):=.mk fun ρ w hρ _=>by
 have e1:(⟨a.toArray⟩:ByteArray).size=a.length:=by simp [ByteArray.size]
 have e2:(⟨b.toArray⟩:ByteArray).size=b.length:=by simp [ByteArray.size]
 have e3:(⟨a.toArray⟩++⟨b.toArray⟩:ByteArray)=⟨(a++b).toArray⟩:=by
  apply ByteArray.ext;simp
 have hle:¬(((a.length+b.length:Nat):Int) > IntKind.i64.max):=by simp only [IntKind.max,IntKind.signed,IntKind.bits];simp;omega
 simp only [execOp,hρ _ _ hx,hρ _ _ hy,str,eqGuard,binOp_string_add,Op.stringOp,e1,e2,e3]
 simp [hle]
 omega
theorem Pu.idxS {t:TypeId}{x ix:Operand}{l:List UInt8}{k:IntKind}{iv:Int}{c:UInt8} (hx:ev env x=some (str l)) (hi:ev env ix=some (.int k iv)) (ht:P.underlying t=some .string) (h0:0≤iv) (hc:l[iv.toNat]?=some c) :
  Pu P ⟨d,.index t x ix,ty,pos,af,g⟩ env h (u8 c):=.mk fun ρ w hρ _=>by
 have hlt:iv.toNat<l.length:=(List.getElem?_eq_some_iff.1 hc).1
 have e:(⟨l.toArray⟩:ByteArray)[iv.toNat]?=some c:=by
  rw [ByteArray.getElem?_lt' _ _ (by simpa [ByteArray.size] using hlt)]
  have:=(List.getElem?_eq_some_iff.1 hc).2
  simp [ByteArray.getElem_eq_getElem_data,this]
 simp [execOp,hρ _ _ hx,hρ _ _ hi,str,Instr.index,asIntOf,run_underlying ht,h0,e,u8]
theorem zC8 (l:List UInt8) (a b:Nat):(⟨l.toArray⟩:ByteArray).extract a b=⟨((l.drop a).take (b-a)).toArray⟩:=by
 apply ByteArray.ext
 apply Array.ext'
 simp [ByteArray.data_extract,List.extract_eq_take_drop]
theorem zEr {w:World}{n:Nat}{l m:Int}{k1 k2:IntKind} (h0:0≤l) (h1:l≤m) (h2:m≤n):(Instr.sliceBounds false n n (some (.int k1 l)) (some (.int k2 m)) none).run P w=.ok (l.toNat,m.toNat,n) w:=by
 have hm:0≤m:=by omega
 have e:(m.toNat:Int)=m:=Int.toNat_of_nonneg hm
 simp [Instr.sliceBounds,run_sliceBound,h0,hm,h1,h2,e]
theorem Pu.cutS {t:TypeId}{x lo hi:Operand}{s:List UInt8}{l m:Int}{k1 k2:IntKind} (hx:ev env x=some (str s)) (hl:ev env lo=some (.int k1 l)) (hh:ev env hi=some (.int k2 m)) (ht:P.underlying t=some .string)
  (h0:0≤l) (h1:l≤m) (h2:m≤s.length):Pu P ⟨d,.slice t x (some lo) (some hi) none,ty,pos,af,g⟩ env h (str ((s.drop l.toNat).take (m.toNat-l.toNat))):=.mk fun ρ w hρ _=>by
 have e1:(⟨s.toArray⟩:ByteArray).size=s.length:=by simp [ByteArray.size]
 simp only [execOp,Option.map_some,Option.map_none,hρ _ _ hx,hρ _ _ hl,hρ _ _ hh,str,run_sliceAt_string w t _ _ _ _ ht,Instr.slice,run_underlying ht,Sem.run_bind,Result.andThen_ok,e1,Option.isSome_none,Bool.false_eq_true,if_false]
 rw [zEr h0 h1 h2]
 simp [zC8]
theorem Pu.cutSH {t:TypeId}{x hi:Operand}{s:List UInt8}{m:Int}{k2:IntKind} (hx:ev env x=some (str s)) (hh:ev env hi=some (.int k2 m)) (ht:P.underlying t=some .string)
  (h1:0≤m) (h2:m≤s.length):Pu P ⟨d,.slice t x none (some hi) none,ty,pos,af,g⟩ env h (str (s.take m.toNat)):=.mk fun ρ w hρ _=>by
 have e1:(⟨s.toArray⟩:ByteArray).size=s.length:=by simp [ByteArray.size]
 simp only [execOp,Option.map_some,Option.map_none,hρ _ _ hx,hρ _ _ hh,str,run_sliceAt_string w t _ _ _ _ ht,run_slice_string_h w t _ ht k2 m h1 (by rw [e1];exact h2),Sem.run_bind,Result.andThen_ok,zC8]
 simp
theorem Pu.cutSL {t:TypeId}{x lo:Operand}{s:List UInt8}{l:Int}{k1:IntKind} (hx:ev env x=some (str s)) (hl:ev env lo=some (.int k1 l)) (ht:P.underlying t=some .string)
  (h0:0≤l) (h1:l≤s.length):Pu P ⟨d,.slice t x (some lo) none none,ty,pos,af,g⟩ env h (str (s.drop l.toNat)):=.mk fun ρ w hρ _=>by
 have e1:(⟨s.toArray⟩:ByteArray).size=s.length:=by simp [ByteArray.size]
 simp only [execOp,Option.map_some,Option.map_none,hρ _ _ hx,hρ _ _ hl,str,run_sliceAt_string w t _ _ _ _ ht,run_slice_string_l w t _ ht k1 l h0 (by rw [e1];exact h1),Sem.run_bind,Result.andThen_ok,zC8]
 have e2:(s.drop l.toNat).take (s.length-l.toNat)=s.drop l.toNat:=List.take_of_length_le (by simp)
 simp [e1,e2]
end
end Go.E
namespace Go.E
open Go
inductive TU where
 | int (k:IntKind)|bool|str|slice (e:TypeId)|ptr (e:TypeId)|struct (fs:List (TypeId × Nat × Nat))|arr (n:Nat) (e:TypeId)|map (k v:TypeId)|func|iface|other
structure TI where
 u:TU
 size:Nat
 zero:List Value
abbrev TT:=List (TypeId × TI)
def TT.get:TT→TypeId→Option TI
 | [],_=>none
 | (k,v)::r,t=>bif Nat.beq k t then some v else TT.get r t
def tuOf (P:Program):TypeDesc→TU
 | .int k=>.int k|.bool=>.bool|.string=>.str|.slice e=>.slice e|.pointer e=>.ptr e
 | .struct fs=>.struct (fs.toList.map fun f=>(f.type,f.offset,((P.info? f.type).map (·.size)).getD 0))
 | .array n e=>.arr n e|.map k v=>.map k v|.func _ _ _=>.func|.interface _=>.iface|_=>.other
def zHQ (P:Program):TypeDesc→Bool
 | .struct fs=>fs.toList.all (fun f=>(P.info? f.type).isSome)
 | _=>true
def tiOf (P:Program) (t:TypeId):Option TI :=
 match P.info? t,P.underlying t with
 | some i,some d=>match i.zero with
   | some z=>bif Nat.ble i.bytes 1048576&&zHQ P d then some ⟨tuOf P d,i.size,z.cells.toList⟩ else none
   | none=>none
 | _,_=>none
def TOk (P:Program):TT→Prop
 | []=>True
 | (t,i)::r=>tiOf P t=some i∧TOk P r
theorem TOk.get {P:Program}:∀ {T:TT}{t:TypeId}{i:TI},TOk P T→T.get t=some i→tiOf P t=some i
 | [],_,_,_,h=>by cases h
 | (k,v)::r,t,i,hT,h=>by
   unfold TT.get at h
   by_cases e:Nat.beq k t=true
   ·rw [e] at h;simp at h;subst h;have:=Nat.eq_of_beq_eq_true e;subst this;exact hT.1
   ·rw [Bool.not_eq_true] at e;rw [e] at h;exact hT.2.get h
structure TInfo (P:Program) (t:TypeId) (i:TI) (d:TypeDesc) (j:TypeInfo) (z:Value):Prop where
 info:P.info? t=some j
 und:P.underlying t=some d
 zero:j.zero=some z
 bytes:j.bytes≤1048576
 u:i.u=tuOf P d
 size:i.size=j.size
 cells:i.zero=z.cells.toList
 flds:zHQ P d=true
theorem tiOf.all {P:Program}{t:TypeId}{i:TI} (h:tiOf P t=some i):∃ d j z,TInfo P t i d j z:=by
 unfold tiOf at h
 split at h
 ·rename_i j d h1 h2
  split at h
  ·rename_i z hz
   cases hb:Nat.ble j.bytes 1048576&&zHQ P d with
   | false=>simp [hb] at h
   | true=>simp only [hb,cond_true,Option.some.injEq] at h;subst h;simp only [Bool.and_eq_true] at hb;exact ⟨d,j,z,h1,h2,hz,by simpa using hb.1,rfl,rfl,rfl,hb.2⟩
  ·cases h
 ·cases h
theorem TInfo.sz {P:Program}{t:TypeId}{i:TI}{d:TypeDesc}{j:TypeInfo}{z:Value} (h:TInfo P t i d j z):(P.info? t).map (·.size)=some i.size:=by simp [h.info,h.size]
theorem TOk.sz {P:Program}{T:TT}{t:TypeId}{i:TI} (hT:TOk P T) (h:T.get t=some i):(P.info? t).map (·.size)=some i.size:=by
 obtain ⟨d,j,z,hi⟩:=tiOf.all (hT.get h);exact hi.sz
theorem TOk.slice {P:Program}{T:TT}{t e:TypeId}{n:Nat}{zs:List Value} (hT:TOk P T) (h:T.get t=some ⟨.slice e,n,zs⟩):P.underlying t=some (.slice e):=by
 obtain ⟨d,j,z,hi⟩:=tiOf.all (hT.get h);have:=hi.u;have h2:=hi.und;cases d<;>simp [tuOf] at this;subst this;exact h2
theorem TOk.int {P:Program}{T:TT}{t:TypeId}{k:IntKind}{n:Nat}{zs:List Value} (hT:TOk P T) (h:T.get t=some ⟨.int k,n,zs⟩):P.underlying t=some (.int k):=by
 obtain ⟨d,j,z,hi⟩:=tiOf.all (hT.get h);have:=hi.u;have h2:=hi.und;cases d<;>simp [tuOf] at this;subst this;exact h2
theorem TOk.bool {P:Program}{T:TT}{t:TypeId}{n:Nat}{zs:List Value} (hT:TOk P T) (h:T.get t=some ⟨.bool,n,zs⟩):P.underlying t=some .bool:=by
 obtain ⟨d,j,z,hi⟩:=tiOf.all (hT.get h);have:=hi.u;have h2:=hi.und;cases d<;>simp [tuOf] at this;exact h2
theorem TOk.str {P:Program}{T:TT}{t:TypeId}{n:Nat}{zs:List Value} (hT:TOk P T) (h:T.get t=some ⟨.str,n,zs⟩):P.underlying t=some .string:=by
 obtain ⟨d,j,z,hi⟩:=tiOf.all (hT.get h);have:=hi.u;have h2:=hi.und;cases d<;>simp [tuOf] at this;exact h2
theorem TOk.ptr {P:Program}{T:TT}{t e:TypeId}{n:Nat}{zs:List Value} (hT:TOk P T) (h:T.get t=some ⟨.ptr e,n,zs⟩):P.underlying t=some (.pointer e):=by
 obtain ⟨d,j,z,hi⟩:=tiOf.all (hT.get h);have:=hi.u;have h2:=hi.und;cases d<;>simp [tuOf] at this;subst this;exact h2
theorem TOk.arr {P:Program}{T:TT}{t e m:TypeId}{n:Nat}{zs:List Value} (hT:TOk P T) (h:T.get t=some ⟨.arr m e,n,zs⟩):P.underlying t=some (.array m e):=by
 obtain ⟨d,j,z,hi⟩:=tiOf.all (hT.get h);have:=hi.u;have h2:=hi.und;cases d<;>simp [tuOf] at this;obtain ⟨rfl,rfl⟩:=this;exact h2
theorem TOk.struct {P:Program}{T:TT}{t:TypeId}{fs:List (TypeId × Nat × Nat)}{n:Nat}{zs:List Value} (hT:TOk P T) (h:T.get t=some ⟨.struct fs,n,zs⟩) :
  ∃ l:List Field,P.underlying t=some (.struct l.toArray)∧(fs=l.map fun f=>(f.type,f.offset,((P.info? f.type).map (·.size)).getD 0))∧∀ f∈l,∃ i,P.info? f.type=some i:=by
 obtain ⟨d,j,z,hi⟩:=tiOf.all (hT.get h)
 have h1:=hi.u
 have h2:=hi.und
 have h3:=hi.flds
 cases d with
 | struct fs' =>
   cases h1
   exact ⟨fs'.toList,by simpa using h2,rfl,fun f hf=>Option.isSome_iff_exists.1 (List.all_eq_true.1 h3 f hf)⟩
 | _=>simp [tuOf] at h1
def TU.row:TU→Bool
 | .struct _=>true|.arr _ _=>true|_=>false
theorem TOk.row {P:Program}{T:TT}{t:TypeId}{i:TI} (hT:TOk P T) (h:T.get t=some i):∃ d,P.underlying t=some d∧d.isRow=i.u.row:=by
 obtain ⟨d,j,z,hi⟩:=tiOf.all (hT.get h);refine ⟨d,hi.und,?_⟩;rw [hi.u];cases d<;>rfl
abbrev Ro:=Nat→Option Obj
inductive Chunk where
 | blk (b:Nat) (t:TypeId) (cs:List Value)
 | sl (a:Option Addr) (n c:Nat) (t:TypeId) (s:Nat) (cs:List Value)
 | obj (b:Nat) (o:Obj)
abbrev Chs:=List Chunk
def hm (h:Heap):Ro:=fun b=>h[b]?
def RowR (m:Ro) (b:Nat) (t:TypeId) (cs:List Value):Prop:=m b=some (.cells cs.toArray t (0,0))
def Chunk.fp:Chunk→List Nat
 | .blk b _ _=>[b]
 | .sl none _ _ _ _ _=>[]
 | .sl (some a) _ _ _ _ _=>[a.block]
 | .obj b _=>[b]
def Chunk.holds (m:Ro):Chunk→Prop
 | .blk b t cs=>RowR m b t cs
 | .sl a n c t s cs=>cs.length=n*s∧n≤c∧c≤maxLen∧((a=none∧n=0∧c=0)∨∃ b sp,a=some ⟨b,0,none⟩∧RowR m b t (cs++sp)∧cs.length+sp.length=c*s)
 | .obj b o=>m b=some o
class Le (r:outParam Ro) (r':Ro):Prop where
 le:∀ b o,r b=some o→r' b=some o
theorem Le.refl (r:Ro):Le r r:=⟨fun _ _ h=>h⟩
theorem Le.trans {a b c:Ro} (h1:Le a b) (h2:Le b c):Le a c:=⟨fun x o h=>h2.le x o (h1.le x o h)⟩
class Leq (r r':Ro):Prop where
 le:∀ b o,r b=some o→r' b=some o
instance Leq.refl (r:Ro):Leq r r:=⟨fun _ _ h=>h⟩
instance Leq.step {a b c:Ro} [h2:Le b c] [h1:Leq a b]:Leq a c:=⟨fun x o h=>h2.le x o (h1.le x o h)⟩
theorem Chunk.holds.congr {m m':Ro}{c:Chunk} (h:c.holds m) (he:∀ b∈c.fp,m' b=m b):c.holds m':=by
 cases c with
 | blk b t cs=>exact (he b (by simp [Chunk.fp])).trans h
 | obj b o=>exact (he b (by simp [Chunk.fp])).trans h
 | sl a n c t s cs =>
   obtain ⟨h1,h2,h3,h4⟩:=h
   refine ⟨h1,h2,h3,?_⟩
   rcases h4 with h4|⟨b,sp,rfl,h5,h6⟩
   ·exact .inl h4
   ·exact .inr ⟨b,sp,rfl,(he b (by simp [Chunk.fp])).trans h5,h6⟩
theorem Chunk.holds.le {m m':Ro}{c:Chunk} (h:c.holds m) (he:Le m m'):c.holds m':=by
 cases c with
 | blk b t cs=>exact he.le _ _ h
 | obj b o=>exact he.le _ _ h
 | sl a n c t s cs =>
   obtain ⟨h1,h2,h3,h4⟩:=h
   refine ⟨h1,h2,h3,?_⟩
   rcases h4 with h4|⟨b,sp,rfl,h5,h6⟩
   ·exact .inl h4
   ·exact .inr ⟨b,sp,rfl,he.le _ _ h5,h6⟩
theorem Chunk.holds.lt {h:Heap}{c:Chunk} (hc:c.holds (hm h)):∀ b∈c.fp,b<h.size:=by
 intro b hb
 cases c with
 | blk b' t cs=>simp [Chunk.fp] at hb;subst hb;exact (Array.getElem?_eq_some_iff.1 hc).1
 | obj b' o=>simp [Chunk.fp] at hb;subst hb;exact (Array.getElem?_eq_some_iff.1 hc).1
 | sl a n c t s cs =>
   rcases hc.2.2.2 with ⟨rfl,_⟩|⟨b',sp,rfl,h5,h6⟩
   ·simp [Chunk.fp] at hb
   ·simp [Chunk.fp] at hb;subst hb;exact (Array.getElem?_eq_some_iff.1 h5).1
structure Sat (ro:Ro) (own:Chs) (h:Heap):Prop where
 last:∀ b o,ro b=some o→h[b]?=some o
 parts:∀ c∈own,c.holds (hm h)
 nd:(own.flatMap Chunk.fp).Nodup
 ap:∀ c∈own,∀ b∈c.fp,ro b=none
theorem Sat.cons {ro:Ro}{c:Chunk}{own:Chs}{h:Heap} (hs:Sat ro (c::own) h):c.holds (hm h)∧Sat ro own h∧(∀ b∈c.fp,∀ d∈own,b∉d.fp):=by
 obtain ⟨h1,h2,h3,h4⟩:=hs
 rw [List.flatMap_cons,List.nodup_append] at h3
 exact ⟨h2 c (by simp),⟨h1,fun d hd=>h2 d (by simp [hd]),h3.2.1,fun d hd=>h4 d (by simp [hd])⟩,fun b hb d hd hbd=>h3.2.2 b hb b (List.mem_flatMap.2 ⟨d,hd,hbd⟩) rfl⟩
theorem Sat.perm {ro:Ro}{own own':Chs}{h:Heap} (hs:Sat ro own h) (hp:own.Perm own'):Sat ro own' h :=
 ⟨hs.last,fun c hc=>hs.parts c (hp.mem_iff.2 hc),(hp.flatMap_right _).nodup_iff.1 hs.nd,fun c hc=>hs.ap c (hp.mem_iff.2 hc)⟩
theorem Sat.drop {ro:Ro}{c:Chunk}{own:Chs}{h:Heap} (hs:Sat ro (c::own) h):Sat ro own h:=hs.cons.2.1
theorem Sat.put {ro:Ro}{c c':Chunk}{own:Chs}{h h':Heap} (hs:Sat ro (c::own) h) (hk:∀ b,b<h.size→b∉c.fp→h'[b]?=h[b]?) (hc:c'.holds (hm h')) (hf:∀ b∈c'.fp,b∈c.fp∨h.size≤b) (hn:c'.fp.Nodup):Sat ro (c'::own) h':=by
 obtain ⟨h1,h2,h3⟩:=hs.cons
 have hlt:∀ b o,ro b=some o→b<h.size:=fun b o hb=>(Array.getElem?_eq_some_iff.1 (hs.last b o hb)).1
 have hkeep:∀ d∈own,∀ b∈d.fp,hm h' b=hm h b:=fun d hd b hb=>hk b ((h2.parts d hd).lt b hb) (fun hbc=>h3 b hbc d hd hb)
 refine ⟨fun b o hb=>?_,fun d hd=>?_,?_,fun d hd b hb=>?_⟩
 ·rw [hk b (hlt b o hb) (fun hbc=>by rw [hs.ap c (by simp) b hbc] at hb;cases hb)]
  exact hs.last b o hb
 ·simp at hd
  rcases hd with rfl|hd
  ·exact hc
  ·exact (h2.parts d hd).congr (hkeep d hd)
 ·rw [List.flatMap_cons,List.nodup_append]
  refine ⟨hn,h2.nd,fun b hb b' hb' e=>?_⟩
  subst e
  obtain ⟨d,hd,hbd⟩:=List.mem_flatMap.1 hb'
  rcases hf b hb with hb2|hb2
  ·exact h3 b hb2 d hd hbd
  ·have:=(h2.parts d hd).lt b hbd;omega
 ·simp at hd
  rcases hd with rfl|hd
  ·rcases hf b hb with hb2|hb2
   ·exact hs.ap c (by simp) b hb2
   ·cases hr:ro b with
    | none=>rfl
    | some o=>have:=hlt b o hr;omega
  ·exact h2.ap d hd b hb
theorem Sat.new {ro:Ro}{c':Chunk}{own:Chs}{h h':Heap} (hs:Sat ro own h) (hk:∀ b,b<h.size→h'[b]?=h[b]?) (hc:c'.holds (hm h')) (hf:∀ b∈c'.fp,h.size≤b) (hn:c'.fp.Nodup):Sat ro (c'::own) h':=by
 have hs':Sat ro (.sl none 0 0 0 0 []::own) h:=⟨hs.last,fun d hd=>by
   simp at hd
   rcases hd with rfl|hd
   ·exact ⟨rfl,Nat.le_refl _,Nat.zero_le _,.inl ⟨rfl,rfl,rfl⟩⟩
   ·exact hs.parts d hd,by simpa [Chunk.fp] using hs.nd,fun d hd=>by
   simp at hd
   rcases hd with rfl|hd
   ·simp [Chunk.fp]
   ·exact hs.ap d hd⟩
 exact hs'.put (fun b hb _=>hk b hb) hc (fun b hb=>.inr (hf b hb)) hn
theorem Sat.keep {ro:Ro}{own:Chs}{h h':Heap} (hs:Sat ro own h) (hk:∀ b,b<h.size→h'[b]?=h[b]?):Sat ro own h' :=
 (hs.new (c':=.sl none 0 0 0 0 []) hk ⟨rfl,Nat.le_refl _,Nat.zero_le _,.inl ⟨rfl,rfl,rfl⟩⟩ (by simp [Chunk.fp]) (by simp [Chunk.fp])).drop
theorem Sat.freeze {ro:Ro}{c:Chunk}{own:Chs}{h:Heap} (hs:Sat ro (c::own) h):∃ ro',Le ro ro'∧c.holds ro'∧Sat ro' own h:=by
 obtain ⟨h1,h2,h3⟩:=hs.cons
 refine ⟨fun b=>if b∈c.fp then h[b]? else ro b,⟨fun b o hb=>?_⟩,h1.congr (fun b hb=>by simp [hb,hm]),fun b o hb=>?_,h2.parts,h2.nd,fun d hd b hb=>?_⟩
 ·by_cases hbc:b∈c.fp
  ·rw [hs.ap c (by simp) b hbc] at hb;cases hb
  ·simp [hbc,hb]
 ·by_cases hbc:b∈c.fp
  ·simpa [hbc] using hb
  ·simp [hbc] at hb;exact hs.last b o hb
 ·have:b∉c.fp:=fun hbc=>h3 b hbc d hd hb
  simp [this,h2.ap d hd b hb]
inductive Take:Chs→Chunk→Chs→Prop where
 | hit (c:Chunk) (r:Chs):Take (c::r) c r
 | miss (x:Chunk) {r:Chs}{c:Chunk}{r':Chs} (h:Take r c r'):Take (x::r) c (x::r')
theorem Take.perm {l:Chs}{c:Chunk}{r:Chs} (h:Take l c r):l.Perm (c::r):=by
 induction h with
 | hit c r=>exact .refl _
 | miss x h ih=>exact (ih.cons x).trans (.swap _ _ _)
structure OpOk (P:Program) (op:Op) (ty:TypeId) (env:Env) (ro:Ro) (own:Chs) (K:Value→Ro→Chs→Prop):Prop where
 run:∀ h,Sat ro own h→∀ d pos af g,Eff P ⟨d,op,ty,pos,af,g⟩ env h (fun v h'=>∃ ro' own',Le ro ro'∧Sat ro' own' h'∧K v ro' own')
def CallRes (P:Program) (f:FuncId) (args:Array Value) (w:World) (R:Value→World→Prop):Prop :=
 ((callFunc f args).run P w=.ok (.enter f args) w∧Calls P f args w (fun e w'=>∃ v,e=.returned v∧R v w'))∨∃ v w',(callFunc f args).run P w=.ok (.value v) w'∧R v w'
theorem CallRes.mono {P:Program}{f:FuncId}{args:Array Value}{w:World}{R R':Value→World→Prop} (h:CallRes P f args w R) (hi:∀ v w',R v w'→R' v w'):CallRes P f args w R':=by
 rcases h with ⟨h1,h2⟩|⟨v,w',h1,h2⟩
 ·exact .inl ⟨h1,h2.mono fun e w' ⟨v,he,hR⟩=>⟨v,he,hi _ _ hR⟩⟩
 ·exact .inr ⟨v,w',h1,hi _ _ h2⟩
def Post (ro:Ro) (K:Value→Ro→Chs→Prop) (w:World) (v:Value) (w':World):Prop:=Hp w'.heap w w'∧∃ ro' own',Le ro ro'∧Sat ro' own' w'.heap∧K v ro' own'
structure CallOk (P:Program) (f:FuncId) (args:Array Value) (ro:Ro) (own:Chs) (K:Value→Ro→Chs→Prop):Prop where
 run:∀ w,Sat ro own w.heap→CallRes P f args w (Post ro K w)
theorem CallOk.body {P:Program}{f:FuncId}{args:Array Value}{ro:Ro}{own:Chs}{K:Value→Ro→Chs→Prop} (enter:∀ args w,(callFunc f args).run P w=.ok (.enter f args) w)
  (meets:∀ h,Sat ro own h→Meets P f args h (fun v h'=>∃ ro' own',Le ro ro'∧Sat ro' own' h'∧K v ro' own')):CallOk P f args ro own K :=
 ⟨fun w hs=>.inl ⟨enter args w,(meets w.heap hs w rfl).mono fun e w' ⟨v,he,hh,hp⟩=>⟨v,he,hh,hp⟩⟩⟩
theorem CallOk.post {P:Program}{f:FuncId}{args:Array Value}{ro ro0:Ro}{own own0:Chs}{K K':Value→Ro→Chs→Prop} (h:CallOk P f args ro0 own0 K') (hs:∀ h,Sat ro own h→Sat ro0 own0 h)
  (hk:∀ v ro' own' h',Le ro0 ro'→Sat ro' own' h'→K' v ro' own'→∃ ro2 own2,Le ro ro2∧Sat ro2 own2 h'∧K v ro2 own2):CallOk P f args ro own K :=
 ⟨fun w hw=>(h.run w (hs _ hw)).mono fun v w' ⟨hh,ro',own',hl,hs',hK⟩=>⟨hh,hk v ro' own' _ hl hs' hK⟩⟩
theorem CallOk.perm {P:Program}{f:FuncId}{args:Array Value}{ro:Ro}{own own':Chs}{K:Value→Ro→Chs→Prop} (hp:own.Perm own') (h:CallOk P f args ro own' K):CallOk P f args ro own K :=
 h.post (fun _ h=>h.perm hp) (fun v ro' own' h' hl hs hK=>⟨ro',own',hl,hs,hK⟩)
theorem CallOk.freeze {P:Program}{f:FuncId}{args:Array Value}{ro:Ro}{own own':Chs}{c:Chunk}{K:Value→Ro→Chs→Prop} (ht:Take own c own') (h:∀ ro',Le ro ro'→c.holds ro'→CallOk P f args ro' own' K):CallOk P f args ro own K :=
 ⟨fun w hg=>by
  obtain ⟨ro',hl,hc,hs⟩:=(hg.perm ht.perm).freeze
  exact ((h ro' hl hc).run w hs).mono fun v w' ⟨hh,ro2,own2,hl2,hs2,hK⟩=>⟨hh,ro2,own2,hl.trans hl2,hs2,hK⟩⟩
inductive PR where
 | no
 | ok (v:Value)
 | req (p:Prop) (v:Value)
def zIq (k:IntKind) (r:Int):PR:=match k with
 | .i64=>.req (-9223372036854775808≤r∧r≤9223372036854775807) (.int .i64 r)
 | .u8=>.ok (.int .u8 (r % 256))
 | .u16=>.ok (.int .u16 (r % 65536))
 | .u32=>.ok (.int .u32 (r % 4294967296))
 | .u64=>.ok (.int .u64 (r % 18446744073709551616))
 | k=>.ok (.int k (k.wrap r))
def zIn (k:IntKind) (a b r:Int):PR:=match k with
 | .u8=>.req ((0≤a∧a<256)∧0≤b∧b<256) (.int .u8 r)
 | .u16=>.req ((0≤a∧a<65536)∧0≤b∧b<65536) (.int .u16 r)
 | .u32=>.req ((0≤a∧a<4294967296)∧0≤b∧b<4294967296) (.int .u32 r)
 | .u64=>.req ((0≤a∧a<18446744073709551616)∧0≤b∧b<18446744073709551616) (.int .u64 r)
 | .i64=>.req ((0≤a∧a<9223372036854775808)∧0≤b∧b<9223372036854775808) (.int .i64 r)
 | _=>.no
def shl1 (k:IntKind) (a b:Int):PR:=match k with
 | .i64=>.req ((0≤b∧b≤64)∧-9223372036854775808≤a*2 ^ b.toNat∧a*2 ^ b.toNat≤9223372036854775807) (.int .i64 (a*2 ^ b.toNat))
 | .u8=>.req (0≤b∧b≤8) (.int .u8 (a*2 ^ b.toNat % 256))
 | .u16=>.req (0≤b∧b≤16) (.int .u16 (a*2 ^ b.toNat % 65536))
 | .u32=>.req (0≤b∧b≤32) (.int .u32 (a*2 ^ b.toNat % 4294967296))
 | .u64=>.req (0≤b∧b≤64) (.int .u64 (a*2 ^ b.toNat % 18446744073709551616))
 | _=>.no
def shr1 (k:IntKind) (a b:Int):PR:=match k with
 | .i64=>.req (0≤b∧b≤64) (.int .i64 (a / 2 ^ b.toNat))
 | .u8=>.req (0≤b∧b≤8) (.int .u8 (a / 2 ^ b.toNat))
 | .u16=>.req (0≤b∧b≤16) (.int .u16 (a / 2 ^ b.toNat))
 | .u32=>.req (0≤b∧b≤32) (.int .u32 (a / 2 ^ b.toNat))
 | .u64=>.req (0≤b∧b≤64) (.int .u64 (a / 2 ^ b.toNat))
 | _=>.no
def nand2 (a b:Int):Int:=((a.toNat &&& b.toNat:Nat):Int)
def nor2 (a b:Int):Int:=((a.toNat ||| b.toNat:Nat):Int)
def nxor2 (a b:Int):Int:=((a.toNat ^^^ b.toNat:Nat):Int)
def InK (k:IntKind) (a:Int):Prop:=match k with
 | .u8=>0≤a∧a<256|.u16=>0≤a∧a<65536|.u32=>0≤a∧a<4294967296|.u64=>0≤a∧a<18446744073709551616
 | .i8=>0≤a∧a<128|.i16=>0≤a∧a<32768|.i32=>0≤a∧a<2147483648|.i64=>0≤a∧a<9223372036854775808
def zEq:IntKind→IntKind→Bool
 | .i8,.i8|.i16,.i16|.i32,.i32|.i64,.i64|.u8,.u8|.u16,.u16|.u32,.u32|.u64,.u64=>true
 | _,_=>false
def int2 (op:BinOp) (k:IntKind) (a b:Int):PR:=match op with
 | .add=>zIq k (a+b)
 | .sub=>zIq k (a-b)
 | .mul=>zIq k (a*b)
 | .quo=>(match k with
   | .i64=>.req (0≤a∧0<b∧a / b≤9223372036854775807) (.int .i64 (a / b))
   | .u8=>.req (0≤a∧0<b∧a / b<256) (.int .u8 (a / b))
   | .u32=>.req (0≤a∧0<b∧a / b<4294967296) (.int .u32 (a / b))
   | .u64=>.req (0≤a∧0<b∧a / b<18446744073709551616) (.int .u64 (a / b))
   | _=>.no)
 | .rem=>.req (0≤a∧0<b) (.int k (a % b))
 | .and=>(match k with|.i64=>.no|k=>zIn k a b (nand2 a b))
 | .or=>zIn k a b (nor2 a b)
 | .xor=>(match k with|.i64=>.no|k=>zIn k a b (nxor2 a b))
 | .eql=>.ok (.bool (decide (a=b)))
 | .neq=>.ok (.bool (decide (a≠b)))
 | .lss=>.ok (.bool (decide (a<b)))
 | .leq=>.ok (.bool (decide (a≤b)))
 | .gtr=>.ok (.bool (decide (a > b)))
 | .geq=>.ok (.bool (decide (a ≥ b)))
 | _=>.no
def conv1 (k k':IntKind) (a:Int):PR:=match k,k' with
 | .i64,.i64=>.req (-9223372036854775808≤a∧a≤9223372036854775807) (.int .i64 a)
 | .u8,.i64|.u8,.u64|.u8,.u32|.u8,.u16|.u8,.i32|.u8,.u8=>.req (0≤a∧a<256) (.int k' a)
 | .u16,.i64|.u16,.u64|.u16,.u32|.u16,.i32=>.req (0≤a∧a<65536) (.int k' a)
 | .u32,.i64|.u32,.u64|.u32,.u32=>.req (0≤a∧a<4294967296) (.int k' a)
 | _,.u8=>.ok (.int .u8 (a % 256))
 | _,.u16=>.ok (.int .u16 (a % 65536))
 | _,.u32=>.ok (.int .u32 (a % 4294967296))
 | _,.u64=>.ok (.int .u64 (a % 18446744073709551616))
 | _,k'=>.ok (.int k' (k'.wrap a))
def str2 (op:BinOp) (a b:List UInt8):PR:=match op with
 | .eql=>.ok (.bool (decide (a=b)))
 | .neq=>.ok (.bool (decide (a≠b)))
 | .add=>.req (a.length+b.length≤4611686018427387904) (str (a++b))
 | _=>.no
def bool2 (op:BinOp) (a b:Bool):PR:=match op with
 | .eql=>.ok (.bool (decide (a=b)))
 | .neq=>.ok (.bool (decide (a≠b)))
 | _=>.no
def nthF:List (TypeId × Nat × Nat)→Nat→Option (TypeId × Nat × Nat)
 | f::_,0=>some f
 | _::r,n+1=>nthF r n
 | [],_=>none
def cutA (a:Option Addr) (l c s:Nat):Option Addr:=if c=l then a else a.map (·.add (l*s))
def un (T:TT) (op:UnOp) (v:Value):PR:=match op,v with
 | .not,.bool b=>.ok (.bool (!b))
 | .neg,.int .i64 n=>.req (-9223372036854775808≤0-n∧0-n≤9223372036854775807) (.int .i64 (0-n))
 | _,_=>.no
def bin (T:TT) (op:BinOp) (t:TypeId) (x y:Value):PR:=match x,y with
 | .int k a,.int k2 b=>(match op with
   | .shl=>shl1 k a b
   | .shr=>shr1 k a b
   | op=>bif zEq k k2 then int2 op k a b else .no)
 | .string ⟨⟨a⟩⟩,.string ⟨⟨b⟩⟩=>str2 op a b
 | .bool a,.bool b=>match T.get t with
   | some ⟨.bool,_,_⟩=>bool2 op a b
   | _=>.no
 | .pointer (some _),.pointer none=>match T.get t,op with
   | some ⟨.ptr _,_,_⟩,.eql=>.ok (.bool false)
   | some ⟨.ptr _,_,_⟩,.neq=>.ok (.bool true)
   | _,_=>.no
 | _,_=>.no
def fld (T:TT) (s:TypeId) (cs:List Value) (i:Nat):PR:=match T.get s with
 | some ⟨.struct fs,_,_⟩=>match nthF fs i with
   | some (t,o,z)=>match T.get t with
     | some ti=>bif ti.u.row then .ok (.agg ((cs.drop o).take z).toArray) else match nthV cs o with
       | some v=>.ok v
       | none=>.no
     | none=>.no
   | none=>.no
 | _=>.no
def fldA (T:TT) (s:TypeId) (b o i:Nat):PR:=match T.get s with
 | some ⟨.struct fs,_,_⟩=>match nthF fs i with
   | some (_,o',z)=>bif Nat.blt 0 z then .ok (.pointer (some ⟨b,o+o',none⟩)) else .no
   | none=>.no
 | _=>.no
def bi1 (T:TT) (b:Builtin) (t:TypeId) (x:Value):PR:=match b,x with
 | .len,.slice _ n _=>match T.get t with
   | some ⟨.slice _,_,_⟩=>.ok (.int .i64 (n:Int))
   | _=>.no
 | .cap,.slice _ _ c=>match T.get t with
   | some ⟨.slice _,_,_⟩=>.ok (.int .i64 (c:Int))
   | _=>.no
 | .len,.string ⟨⟨l⟩⟩=>match T.get t with
   | some ⟨.str,_,_⟩=>.ok (.int .i64 (l.length:Int))
   | _=>.no
 | _,_=>.no
def bi2 (b:Builtin) (x y:Value):PR:=match b,x,y with
 | .min,.int k a,.int k2 b=>bif zEq k k2 then .ok (.int k (Min.min a b)) else .no
 | .max,.int k a,.int k2 b=>bif zEq k k2 then .ok (.int k (Max.max a b)) else .no
 | _,_,_=>.no
def cutS (T:TT) (t:TypeId) (s:List UInt8) (l h:Int):PR:=match T.get t with
 | some ⟨.str,_,_⟩=>.req (0≤l∧l≤h∧h≤s.length) (str ((s.drop l.toNat).take (h.toNat-l.toNat)))
 | _=>.no
def cutV (T:TT) (t:TypeId) (a:Option Addr) (n c:Nat) (l h:Int):PR:=match T.get t with
 | some ⟨.slice e,_,_⟩=>match T.get e with
   | some te=>.req (0≤l∧l≤h∧h≤c) (.slice (cutA a l.toNat c te.size) (h.toNat-l.toNat) (c-l.toNat))
   | _=>.no
 | _=>.no
def isTF:Operand→Operand→Bool
 | .const (.bool true),.const (.bool false)=>true
 | _,_=>false
def pickV (env:Env) (b:Bool) (x y:Operand):PR:=match isTF x y with
 | true=>.ok (.bool b)
 | false=>match b with
   | true=>(match ev env x with|some v=>.ok v|none=>.no)
   | false=>(match ev env y with|some v=>.ok v|none=>.no)
def zG3 (T:TT) (op:Op) (env:Env):PR:=match op with
 | .move x=>match ev env x with|some v=>.ok v|none=>.no
 | .assign x=>match ev env x with|some v=>.ok v|none=>.no
 | .pick c x y=>match ev env c with
   | some (.bool b)=>pickV env b x y
   | _=>.no
 | .nilCheck x=>match ev env x with|some (.pointer (some a))=>.ok (.pointer (some a))|_=>.no
 | .extract x i=>match ev env x with
   | some (.tuple ⟨vs⟩)=>(match nthV vs i with|some v=>.ok v|none=>.no)
   | _=>.no
 | .unOp op _ x=>match ev env x with|some v=>un T op v|none=>.no
 | .binOp op t x y _=>match ev env x,ev env y with|some v,some u=>bin T op t v u|_,_=>.no
 | .convert s t x=>match ev env x with
   | some (.int k a)=>(match T.get s,T.get t with|some _,some ⟨.int k',_,_⟩=>conv1 k k' a|_,_=>.no)
   | _=>.no
 | .field s x i=>match ev env x with
   | some (.agg ⟨cs⟩)=>fld T s cs i
   | _=>.no
 | .fieldAddr s x i=>match ev env x with
   | some (.pointer (some ⟨b,o,none⟩))=>fldA T s b o i
   | _=>.no
 | .index t x ix=>match ev env x,ev env ix with
   | some (.string ⟨⟨l⟩⟩),some (.int _ i)=>(match T.get t with|some ⟨.str,_,_⟩=>.req (0≤i∧i<l.length) (u8 l[i.toNat]!)|_=>.no)
   | _,_=>.no
 | .slice t x (some lo) (some hi) none=>match ev env x,ev env lo,ev env hi with
   | some (.string ⟨⟨l⟩⟩),some (.int _ a),some (.int _ b)=>cutS T t l a b
   | some (.slice s n c),some (.int _ a),some (.int _ b)=>cutV T t s n c a b
   | _,_,_=>.no
 | .slice t x none (some hi) none=>match ev env x,ev env hi with
   | some (.string ⟨⟨l⟩⟩),some (.int _ b)=>(match T.get t with|some ⟨.str,_,_⟩=>.req (0≤b∧b≤l.length) (str (l.take b.toNat))|_=>.no)
   | some (.slice s n c),some (.int _ b)=>cutV T t s n c 0 b
   | _,_=>.no
 | .slice t x (some lo) none none=>match ev env x,ev env lo with
   | some (.string ⟨⟨l⟩⟩),some (.int _ a)=>(match T.get t with|some ⟨.str,_,_⟩=>.req (0≤a∧a≤l.length) (str (l.drop a.toNat))|_=>.no)
   | some (.slice s n c),some (.int _ a)=>cutV T t s n c a n
   | _,_=>.no
 | .slice t x none none none=>match ev env x with
   | some (.slice s n c)=>cutV T t s n c 0 n
   | _=>.no
 | .makeFunc fn ⟨xs⟩ ⟨ys⟩=>match evs env xs,evs env ys with
   | some vs,some us=>.ok (.func fn ⟨vs⟩ ⟨us⟩)
   | _,_=>.no
 | .call ⟨.builtin b,⟨[x]⟩,⟨[t]⟩⟩=>match ev env x with|some v=>bi1 T b t v|none=>.no
 | .call ⟨.builtin b,⟨[x,y]⟩,_⟩=>match ev env x,ev env y with|some v,some u=>bi2 b v u|_,_=>.no
 | _=>.no
end Go.E
namespace Go.E
open Go
def PR.has:PR→Value→Prop
 | .no,_=>False
 | .ok u,v=>u=v
 | .req p u,v=>p∧u=v
theorem zDl {k k2:IntKind} (h:zEq k k2=true):k=k2:=by cases k<;>cases k2<;>first|rfl|cases h
section
variable {P:Program}{T:TT}{env:Env}{h:Heap}{d:Option Nat}{ty:TypeId}{pos:String}{af:Array Edge}{g:Option (Nat × Bool)}
theorem InK.lt {k:IntKind}{a:Int} (h:InK k a):0≤a∧a.toNat<2 ^ k.bits∧k.wrap a=a:=by
 cases k<;>simp only [InK] at h<;>refine ⟨h.1,?_,?_⟩<;>simp [IntKind.bits,IntKind.wrap,IntKind.signed]<;>omega
theorem InK.pow {k:IntKind}{a:Int} (h:InK k a):a.toNat<2 ^ (if k.signed then k.bits-1 else k.bits):=by
 cases k<;>simp only [InK] at h<;>simp [IntKind.bits,IntKind.signed]<;>omega
theorem InK.ofPow {k:IntKind}{n:Nat} (h:n<2 ^ (if k.signed then k.bits-1 else k.bits)):InK k (n:Int):=by
 cases k<;>simp [InK,IntKind.bits,IntKind.signed] at h ⊢<;>omega
theorem zBc {k:IntKind}{a:Int} (ha:InK k a):(BitVec.ofInt k.bits a).toNat=a.toNat:=by
 have:=zH6 k.bits a.toNat
 rwa [Int.toNat_of_nonneg ha.lt.1,Nat.mod_eq_of_lt ha.lt.2.1] at this
theorem bits_and {k:IntKind}{a b:Int} (ha:InK k a) (hb:InK k b) (w:World):(Op.intBits .and k a b).run P w=.ok (.int k (nand2 a b)) w:=by
 have e1:(BitVec.ofInt k.bits a).toNat=a.toNat:=zBc ha
 have e2:(BitVec.ofInt k.bits b).toNat=b.toNat:=zBc hb
 have hw:k.wrap ((a.toNat &&& b.toNat:Nat):Int)=((a.toNat &&& b.toNat:Nat):Int):=(InK.ofPow (Nat.and_lt_two_pow _ hb.pow)).lt.2.2
 simp only [Op.intBits,BitVec.toNat_and,e1,e2,nand2,hw];rfl
theorem bits_or {k:IntKind}{a b:Int} (ha:InK k a) (hb:InK k b) (w:World):(Op.intBits .or k a b).run P w=.ok (.int k (nor2 a b)) w:=by
 have e1:(BitVec.ofInt k.bits a).toNat=a.toNat:=zBc ha
 have e2:(BitVec.ofInt k.bits b).toNat=b.toNat:=zBc hb
 have hw:k.wrap ((a.toNat ||| b.toNat:Nat):Int)=((a.toNat ||| b.toNat:Nat):Int):=(InK.ofPow (Nat.or_lt_two_pow ha.pow hb.pow)).lt.2.2
 simp only [Op.intBits,BitVec.toNat_or,e1,e2,nor2,hw];rfl
theorem bits_xor {k:IntKind}{a b:Int} (ha:InK k a) (hb:InK k b) (w:World):(Op.intBits .xor k a b).run P w=.ok (.int k (nxor2 a b)) w:=by
 have e1:(BitVec.ofInt k.bits a).toNat=a.toNat:=zBc ha
 have e2:(BitVec.ofInt k.bits b).toNat=b.toNat:=zBc hb
 have hw:k.wrap ((a.toNat ^^^ b.toNat:Nat):Int)=((a.toNat ^^^ b.toNat:Nat):Int):=(InK.ofPow (Nat.xor_lt_two_pow ha.pow hb.pow)).lt.2.2
 simp only [Op.intBits,BitVec.toNat_xor,e1,e2,nxor2,hw];rfl
theorem zE3 {k:IntKind}{r:Int}{v:Value} (hp:(zIq k r).has v):v=.int k (k.wrap r):=by
 cases k<;>simp only [zIq,PR.has] at hp<;>first|(obtain ⟨h1,rfl⟩:=hp;rw [zEm h1])|(subst hp;simp [IntKind.wrap,IntKind.bits,IntKind.signed];done)|exact hp.symm
theorem zE2 {k:IntKind}{a b r:Int}{v:Value} (hp:(zIn k a b r).has v):InK k a∧InK k b∧v=.int k r:=by
 cases k<;>simp only [zIn,PR.has] at hp<;>first|exact hp.elim|(obtain ⟨h,rfl⟩:=hp;exact ⟨h.1,h.2,rfl⟩)
theorem shl1_ok {k:IntKind}{a b:Int}{v:Value} (hp:(shl1 k a b).has v):(0≤b∧b≤k.bits)∧v=.int k (k.wrap (a*2 ^ b.toNat)):=by
 cases k<;>simp only [shl1,PR.has] at hp<;>first
  | exact hp.elim
  | (obtain ⟨⟨h,h2⟩,rfl⟩:=hp;exact ⟨h,by rw [zEm h2]⟩)
  | (obtain ⟨h,rfl⟩:=hp;exact ⟨h,by simp [IntKind.wrap,IntKind.bits,IntKind.signed]⟩)
theorem shr1_ok {k:IntKind}{a b:Int}{v:Value} (hp:(shr1 k a b).has v):(0≤b∧b≤k.bits)∧v=.int k (a / 2 ^ b.toNat):=by
 cases k<;>simp only [shr1,PR.has] at hp<;>first|exact hp.elim|(obtain ⟨h,rfl⟩:=hp;exact ⟨h,rfl⟩)
theorem int2_ok {op:BinOp}{t yt:TypeId}{x y:Operand}{k:IntKind}{a b:Int}{v:Value} (hx:ev env x=some (.int k a)) (hy:ev env y=some (.int k b)) (hs:op≠.shl∧op≠.shr) (hp:(int2 op k a b).has v) :
  Pu P ⟨d,.binOp op t x y yt,ty,pos,af,g⟩ env h v:=by
 refine Pu.int2 hx hy hs fun w=>?_
 cases op<;>simp only [int2] at hp ⊢
 case add=>rw [zE3 hp];simp [Op.intArith]
 case sub=>rw [zE3 hp];simp [Op.intArith]
 case mul=>rw [zE3 hp];simp [Op.intArith]
 case quo =>
  have key:0≤a∧0<b∧k.wrap (a / b)=a / b∧v=.int k (a / b):=by
   cases k<;>first
    | exact hp.elim
    | (obtain ⟨⟨h0,h1,h2⟩,rfl⟩:=hp
       have h3:0≤a / b:=Int.ediv_nonneg h0 (by omega)
       refine ⟨h0,h1,?_,rfl⟩
       generalize a / b=q at h2 h3 ⊢
       simp [IntKind.wrap,IntKind.bits,IntKind.signed];omega)
  obtain ⟨h0,h1,h2,rfl⟩:=key
  have hb:¬b=0:=by omega
  simp only [Op.intDiv,hb,if_false,Int.tdiv_eq_ediv_of_nonneg h0,h2];rfl
 case rem =>
  obtain ⟨⟨h0,h1⟩,rfl⟩:=hp
  have hb:¬b=0:=by omega
  simp only [Op.intDiv,hb,if_false,Int.tmod_eq_emod_of_nonneg h0];rfl
 case and=>cases k<;>first|exact hp.elim|(obtain ⟨h0,h1,rfl⟩:=zE2 hp;exact bits_and h0 h1 w)
 case or=>obtain ⟨h0,h1,rfl⟩:=zE2 hp;exact bits_or h0 h1 w
 case xor=>cases k<;>first|exact hp.elim|(obtain ⟨h0,h1,rfl⟩:=zE2 hp;exact bits_xor h0 h1 w)
 case eql=>cases hp;rfl
 case neq=>cases hp;simp [Op.intCmp,bne];rfl
 case lss=>cases hp;rfl
 case leq=>cases hp;rfl
 case gtr=>cases hp;rfl
 case geq=>cases hp;rfl
 all_goals exact hp.elim
theorem shl_ok {t yt:TypeId}{x y:Operand}{k ky:IntKind}{a b:Int} (hx:ev env x=some (.int k a)) (hy:ev env y=some (.int ky b)) (hb:0≤b∧b≤k.bits) :
  Pu P ⟨d,.binOp .shl t x y yt,ty,pos,af,g⟩ env h (.int k (k.wrap (a*2 ^ b.toNat))):=.mk fun ρ w hr _=>by
 rw [zEC (hr _ _ hx) (hr _ _ hy) (.inl rfl)]
 have h0:¬(b<0):=by omega
 have:b.toNat≤k.bits:=by omega
 simp [Op.shift,h0,Nat.min_eq_left this]
theorem shr_ok {t yt:TypeId}{x y:Operand}{k ky:IntKind}{a b:Int} (hx:ev env x=some (.int k a)) (hy:ev env y=some (.int ky b)) (hb:0≤b∧b≤k.bits) :
  Pu P ⟨d,.binOp .shr t x y yt,ty,pos,af,g⟩ env h (.int k (a / 2 ^ b.toNat)):=.mk fun ρ w hr _=>by
 rw [zEC (hr _ _ hx) (hr _ _ hy) (.inr rfl)]
 have h0:¬(b<0):=by omega
 have h1:b.toNat≤k.bits:=by omega
 have e:a.fdiv (2 ^ b.toNat)=a / 2 ^ b.toNat:=Int.fdiv_eq_ediv_of_nonneg _ (Int.le_of_lt (Int.pow_pos (by omega)))
 simp [Op.shift,h0,Nat.min_eq_left h1,e]
theorem str2_ok {op:BinOp}{t yt:TypeId}{x y:Operand}{a b:List UInt8}{v:Value} (hx:ev env x=some (str a)) (hy:ev env y=some (str b)) (hp:(str2 op a b).has v) :
  Pu P ⟨d,.binOp op t x y yt,ty,pos,af,g⟩ env h v:=by
 cases op<;>simp only [str2] at hp
 case eql=>cases hp;exact Pu.eqlS hx hy
 case neq=>cases hp;exact Pu.neqS hx hy
 case add=>obtain ⟨h1,rfl⟩:=hp;exact Pu.addS hx hy h1
 all_goals exact hp.elim
theorem eqlNil2 {t yt e:TypeId}{x y:Operand}{a:Addr} (hx:ev env x=some (.pointer (some a))) (hy:ev env y=some (.pointer none)) (ht:P.underlying t=some (.pointer e)) :
  Pu P ⟨d,.binOp .eql t x y yt,ty,pos,af,g⟩ env h (.bool false):=.mk fun ρ w hr _=>by
 simp only [execOp,hr _ _ hx,hr _ _ hy,eqGuard,binOp,Sem.run_bind,zBE ht];rfl
theorem neqNil2 {t yt e:TypeId}{x y:Operand}{a:Addr} (hx:ev env x=some (.pointer (some a))) (hy:ev env y=some (.pointer none)) (ht:P.underlying t=some (.pointer e)) :
  Pu P ⟨d,.binOp .neq t x y yt,ty,pos,af,g⟩ env h (.bool true):=.mk fun ρ w hr _=>by
 simp only [execOp,hr _ _ hx,hr _ _ hy,eqGuard,binOp,Sem.run_bind,zBE ht];rfl
theorem bin_ok {op:BinOp}{t yt:TypeId}{x y:Operand}{u1 u2 v:Value} (hT:TOk P T) (hx:ev env x=some u1) (hy:ev env y=some u2) (hp:(bin T op t u1 u2).has v) :
  Pu P ⟨d,.binOp op t x y yt,ty,pos,af,g⟩ env h v:=by
 unfold bin at hp
 split at hp
 ·rename_i k a k2 b
  split at hp
  ·obtain ⟨h1,rfl⟩:=shl1_ok hp;exact shl_ok hx hy h1
  ·obtain ⟨h1,rfl⟩:=shr1_ok hp;exact shr_ok hx hy h1
  ·rename_i op h1 h2
   cases hs:zEq k k2 with
   | false=>simp [hs,PR.has] at hp
   | true =>
     have:=zDl hs
     subst this
     simp [hs] at hp
     exact int2_ok hx hy ⟨h1,h2⟩ hp
 ·exact str2_ok hx hy hp
 ·split at hp
  ·rename_i ht
   cases op<;>simp only [bool2] at hp
   case eql=>cases hp;exact Pu.eqlB (hT.bool ht) hx hy
   case neq=>cases hp;exact Pu.neqB (hT.bool ht) hx hy
   all_goals exact hp.elim
  ·exact hp.elim
 ·split at hp
  ·rename_i ht
   cases hp;exact eqlNil2 hx hy (hT.ptr ht)
  ·rename_i ht
   cases hp;exact neqNil2 hx hy (hT.ptr ht)
  ·exact hp.elim
 ·exact hp.elim
theorem un_ok {op:UnOp}{t:TypeId}{x:Operand}{u v:Value} (hx:ev env x=some u) (hp:(un T op u).has v):Pu P ⟨d,.unOp op t x,ty,pos,af,g⟩ env h v:=by
 unfold un at hp
 split at hp
 ·cases hp;exact Pu.not hx
 ·rename_i n
  obtain ⟨h1,rfl⟩:=hp
  have e:=zEm h1
  exact .mk fun ρ w hr _=>by simp only [execOp,hr _ _ hx,Op.unary,Op.intArith,e];rfl
 ·exact hp.elim
theorem conv1_ok {s t:TypeId}{x:Operand}{k k':IntKind}{a:Int}{v:Value}{du:TypeDesc} (hs:P.underlying s=some du) (ht:P.underlying t=some (.int k')) (hx:ev env x=some (.int k a)) (hp:(conv1 k k' a).has v) :
  Pu P ⟨d,.convert s t x,ty,pos,af,g⟩ env h v:=by
 have key:v=.int k' (k'.wrap a):=by
  unfold conv1 at hp
  split at hp<;>first
   | (obtain ⟨h1,rfl⟩:=hp;simp [IntKind.wrap,IntKind.bits,IntKind.signed]<;>omega)
   | (obtain ⟨h1,rfl⟩:=hp;cases k<;>cases k'<;>simp_all [IntKind.wrap,IntKind.bits,IntKind.signed]<;>omega)
   | (cases hp;simp [IntKind.wrap,IntKind.bits,IntKind.signed];done)
   | exact hp.symm
 rw [key];exact Pu.conv hs ht hx
theorem zEx:∀ {l:List Field}{i t o z:Nat}{f:TypeId→Nat},nthF (l.map fun x=>(x.type,x.offset,f x.type)) i=some (t,o,z)→zBB l i=some (t,o)∧z=f t
 | x::r,0,t,o,z,f,h=>by
   cases x;simp [nthF] at h;obtain ⟨rfl,rfl,rfl⟩:=h;exact ⟨rfl,rfl⟩
 | x::r,n+1,t,o,z,f,h=>by
   cases x;exact zEx (l:=r) (by simpa [nthF] using h)
 | [],_,_,_,_,_,h=>by simp [nthF] at h
theorem fld_ok {s:TypeId}{x:Operand}{i:Nat}{cs:List Value}{v:Value} (hT:TOk P T) (hx:ev env x=some (.agg cs.toArray)) (hp:(fld T s cs i).has v):Pu P ⟨d,.field s x i,ty,pos,af,g⟩ env h v:=by
 unfold fld at hp
 split at hp
 ·rename_i fs _ _ hs
  obtain ⟨l,hu,rfl,_⟩:=hT.struct hs
  split at hp
  ·rename_i t o z hn
   obtain ⟨hf,hz⟩:=zEx (f:=fun t=>((P.info? t).map (·.size)).getD 0) hn
   split at hp
   ·rename_i ti ht
    obtain ⟨du,h1,h2⟩:=hT.row ht
    have hsz:=hT.sz ht
    have hz':z=ti.size:=by rw [hz,hsz];rfl
    cases hr:ti.u.row with
    | true =>
      rw [hr] at h2 hp
      cases hp
      have:=Pu.fieldRow (h:=h) (d:=d) (ty:=ty) (pos:=pos) (af:=af) (g:=g) hx hu hf h1 h2 hsz
      have e:cs.toArray.extract o (o+ti.size)=((cs.drop o).take z).toArray:=by rw [hz'];simp [List.extract_toArray,List.extract_eq_take_drop]
      rwa [e] at this
    | false =>
      rw [hr] at h2 hp
      simp only [cond_false] at hp
      split at hp
      ·rename_i u hu2
       cases hp
       exact Pu.field hx hu hf h1 h2 (by simpa using zCa hu2)
      ·exact hp.elim
   ·exact hp.elim
  ·exact hp.elim
 ·exact hp.elim
theorem fldA_ok {s:TypeId}{x:Operand}{i b o:Nat}{v:Value} (hT:TOk P T) (hx:ev env x=some (.pointer (some ⟨b,o,none⟩))) (hp:(fldA T s b o i).has v):Pu P ⟨d,.fieldAddr s x i,ty,pos,af,g⟩ env h v:=by
 unfold fldA at hp
 split at hp
 ·rename_i fs _ _ hs
  obtain ⟨l,hu,rfl,_⟩:=hT.struct hs
  split at hp
  ·rename_i t o' z hn
   obtain ⟨hf,hz⟩:=zEx (f:=fun t=>((P.info? t).map (·.size)).getD 0) hn
   cases hb:Nat.blt 0 z with
   | false=>simp [hb,PR.has] at hp
   | true =>
     simp only [hb,cond_true] at hp
     cases hp
     have h0:0<z:=by have:1≤z:=by simpa [Nat.blt] using hb
                     omega
     cases hi:(P.info? t).map (·.size) with
     | none=>simp [hi] at hz;omega
     | some n =>
       simp [hi] at hz
       exact Pu.fieldAddr hx hu hf (z:=n-1) (by rw [hi];congr 1;omega)
  ·exact hp.elim
 ·exact hp.elim
theorem bi1_ok {b:Builtin}{t:TypeId}{x:Operand}{u v:Value} (hT:TOk P T) (hx:ev env x=some u) (hp:(bi1 T b t u).has v):Pu P ⟨d,.call ⟨.builtin b,#[x],#[t]⟩,ty,pos,af,g⟩ env h v:=by
 unfold bi1 at hp
 split at hp
 ·split at hp
  ·rename_i ht;cases hp;exact Pu.len (hT.slice ht) hx
  ·exact hp.elim
 ·split at hp
  ·rename_i ht;cases hp;exact Pu.cap (hT.slice ht) hx
  ·exact hp.elim
 ·split at hp
  ·rename_i ht;cases hp;exact Pu.lenStr hx (hT.str ht)
  ·exact hp.elim
 ·exact hp.elim
theorem bi2_ok {b:Builtin}{ts:Array TypeId}{x y:Operand}{u1 u2 v:Value} (hx:ev env x=some u1) (hy:ev env y=some u2) (hp:(bi2 b u1 u2).has v):Pu P ⟨d,.call ⟨.builtin b,#[x,y],ts⟩,ty,pos,af,g⟩ env h v:=by
 unfold bi2 at hp
 split at hp
 ·rename_i k a k2 b
  cases hs:zEq k k2 with
  | false=>simp [hs,PR.has] at hp
  | true=>have:=zDl hs;subst this;simp [hs] at hp;cases hp;exact Pu.min hx hy
 ·rename_i k a k2 b
  cases hs:zEq k k2 with
  | false=>simp [hs,PR.has] at hp
  | true=>have:=zDl hs;subst this;simp [hs] at hp;cases hp;exact Pu.max hx hy
 ·exact hp.elim
theorem zHi (a:Option Addr) (l m c s:Nat):sliced a l m c s=.slice (cutA a l c s) (m-l) (c-l):=by simp [sliced,cutA]
theorem zE1 {t:TypeId}{x:Operand}{lo hi:Option Operand}{a:Option Addr}{n c:Nat}{l m:Int}{v:Value} (hT:TOk P T) (hx:ev env x=some (.slice a n c))
  (hk:∀ e s,P.underlying t=some (.slice e)→(P.info? e).map (·.size)=some s→0≤l∧l≤m∧m≤c→Pu P ⟨d,.slice t x lo hi none,ty,pos,af,g⟩ env h (sliced a l.toNat m.toNat c s)) (hp:(cutV T t a n c l m).has v) :
  Pu P ⟨d,.slice t x lo hi none,ty,pos,af,g⟩ env h v:=by
 unfold cutV at hp
 split at hp
 ·rename_i ht
  split at hp
  ·rename_i te he
   obtain ⟨h1,rfl⟩:=hp
   have:=hk _ _ (hT.slice ht) (hT.sz he) h1
   rwa [zHi] at this
  ·exact hp.elim
 ·exact hp.elim
theorem cutAll {t e:TypeId}{x:Operand}{a:Option Addr}{n c s:Nat} (hx:ev env x=some (.slice a n c)) (ht:P.underlying t=some (.slice e))
  (hs:(P.info? e).map (·.size)=some s):Pu P ⟨d,.slice t x none none none,ty,pos,af,g⟩ env h (sliced a 0 n c s):=.mk fun ρ w hρ _=>by
 have he:P.elem t=e:=by simp [Program.elem,ht]
 have ht':P.underlying t=some (.slice (P.elem t)):=by rw [he];exact ht
 simp only [execOp,Option.map_none,hρ _ _ hx,run_sliceAt_slice w t _ _ _ _ ht',run_slice_all w t a n c ht',he,zA7 hs,Sem.run_bind,Sem.run_pure,Result.andThen_ok]
theorem pickV_ok {c x y:Operand}{b:Bool}{v:Value} (hc:ev env c=some (.bool b)) (hp:(pickV env b x y).has v):Pu P ⟨d,.pick c x y,ty,pos,af,g⟩ env h v:=by
 unfold pickV at hp
 split at hp
 ·rename_i ht
  unfold isTF at ht
  split at ht
  ·cases hp
   cases b
   ·exact Pu.pickF hc rfl
   ·exact Pu.pickT hc rfl
  ·cases ht
 ·split at hp
  ·split at hp
   ·rename_i hx;cases hp;exact Pu.pickT hc hx
   ·exact hp.elim
  ·split at hp
   ·rename_i hx;cases hp;exact Pu.pickF hc hx
   ·exact hp.elim
theorem zCD {op:Op}{v:Value} (hT:TOk P T) (hp:(zG3 T op env).has v):Pu P ⟨d,op,ty,pos,af,g⟩ env h v:=by
 unfold zG3 at hp
 split at hp
 ·split at hp
  ·rename_i hx;cases hp;exact Pu.move hx
  ·exact hp.elim
 ·split at hp
  ·rename_i hx;cases hp;exact Pu.assign hx
  ·exact hp.elim
 ·split at hp
  ·rename_i hc;exact pickV_ok hc hp
  ·exact hp.elim
 ·split at hp
  ·rename_i hx;cases hp;exact Pu.nilCheck hx
  ·exact hp.elim
 ·split at hp
  ·rename_i hx
   split at hp
   ·rename_i hv;cases hp;exact Pu.extract hx hv
   ·exact hp.elim
  ·exact hp.elim
 ·split at hp
  ·rename_i hx;exact un_ok hx hp
  ·exact hp.elim
 ·split at hp
  ·rename_i hx hy;exact bin_ok hT hx hy hp
  ·exact hp.elim
 ·rename_i s t x
  split at hp
  ·rename_i k a hx
   split at hp
   ·rename_i k' _ _ hs0 ht
    obtain ⟨du,hs,_⟩:=hT.row hs0
    exact conv1_ok hs (hT.int ht) hx hp
   ·exact hp.elim
  ·exact hp.elim
 ·split at hp
  ·rename_i hx;exact fld_ok hT hx hp
  ·exact hp.elim
 ·split at hp
  ·rename_i hx;exact fldA_ok hT hx hp
  ·exact hp.elim
 ·split at hp
  ·rename_i l k i hx hi
   split at hp
   ·rename_i ht
    obtain ⟨h1,rfl⟩:=hp
    exact Pu.idxS hx hi (hT.str ht) h1.1 (by
     have:i.toNat<l.length:=by omega
     rw [List.getElem?_eq_getElem this,List.getElem!_eq_getElem?_getD,List.getElem?_eq_getElem this];rfl)
   ·exact hp.elim
  ·exact hp.elim
 ·split at hp
  ·rename_i hx hl hh
   unfold cutS at hp
   split at hp
   ·rename_i ht;obtain ⟨h1,rfl⟩:=hp;exact Pu.cutS hx hl hh (hT.str ht) h1.1 h1.2.1 h1.2.2
   ·exact hp.elim
  ·rename_i hx hl hh
   exact zE1 hT hx (fun e s he hs h1=>Pu.cutLH hx hl hh he hs h1.1 h1.2.1 h1.2.2) hp
  ·exact hp.elim
 ·split at hp
  ·rename_i hx hh
   split at hp
   ·rename_i ht;obtain ⟨h1,rfl⟩:=hp;exact Pu.cutSH hx hh (hT.str ht) h1.1 h1.2
   ·exact hp.elim
  ·rename_i hx hh
   exact zE1 hT hx (fun e s he hs h1=>Pu.cutH hx hh he hs h1.2.1 h1.2.2) hp
  ·exact hp.elim
 ·split at hp
  ·rename_i hx hl
   split at hp
   ·rename_i ht;obtain ⟨h1,rfl⟩:=hp;exact Pu.cutSL hx hl (hT.str ht) h1.1 h1.2
   ·exact hp.elim
  ·rename_i hx hl
   exact zE1 hT hx (fun e s he hs h1=>by have:=Pu.cutL (h:=h) (d:=d) (ty:=ty) (pos:=pos) (af:=af) (g:=g) hx hl he hs h1.1 h1.2.1;exact this) hp
  ·exact hp.elim
 ·split at hp
  ·rename_i hx
   exact zE1 hT hx (fun e s he hs h1=>cutAll hx he hs) hp
  ·exact hp.elim
 ·split at hp
  ·rename_i hx hy
   cases hp
   exact .mk fun ρ w hr _=>by
    have h1:=hr.list hx
    have h2:=hr.list hy
    simp only [execOp,Array.map,←h1,←h2]
    simp [Instr.makeFunc]
  ·exact hp.elim
 ·split at hp
  ·rename_i hx;exact bi1_ok hT hx hp
  ·exact hp.elim
 ·split at hp
  ·rename_i hx hy;exact bi2_ok hx hy hp
  ·exact hp.elim
 ·exact hp.elim
end
end Go.E
namespace Go.E
open Go
abbrev Kt:=Env→Ro→Chs→Prop
structure Stop (p:Prop):Prop where
 run:p
structure Br (c:Bool) (A B:Prop):Prop where
 yes:c=true→A
 no:c=false→B
def jb (b c q:Bool):Bool:=match b with|true=>c&&q|false=>c||q
inductive GJ (c b chk:Bool) (A B:Prop) (S R:Bool→Prop):Prop where
 | split (yes:c=b→A) (no:c=!b→B)
 | join (q:Bool) (hc:chk=true) (seg:c=b→S q) (rest:R (jb b c q))
inductive Sup:Chs→Chs→Prop where
 | nil (l:Chs):Sup l []
 | cons {l:Chs}{c:Chunk}{r:Chs}{o:Chs} (h:Take l c r) (t:Sup r o):Sup l (c::o)
 | nilc {l:Chs}{t:TypeId}{s:Nat}{o:Chs} (h:Sup l o):Sup l (.sl none 0 0 t s []::o)
 | all (l:Chs):Sup l l
 | drop (c:Chunk) {l o:Chs} (h:Sup l o):Sup (c::l) o
theorem Sat.nilc {ro:Ro}{own:Chs}{h:Heap} (hs:Sat ro own h) (t:TypeId) (s:Nat):Sat ro (.sl none 0 0 t s []::own) h :=
 hs.new (fun b _=>rfl) ⟨by simp,Nat.le_refl _,Nat.zero_le _,.inl ⟨rfl,rfl,rfl⟩⟩ (by simp [Chunk.fp]) (by simp [Chunk.fp])
theorem Sat.under {ro:Ro}{c:Chunk}{own own':Chs}{h:Heap} (hs:Sat ro (c::own) h) (hs':Sat ro own' h) (hf:∀ d∈own',∀ b∈d.fp,∃ e∈own,b∈e.fp):Sat ro (c::own') h:=by
 obtain ⟨h1,h2,h3⟩:=hs.cons
 refine ⟨hs.last,fun d hd=>?_,?_,fun d hd b hb=>?_⟩
 ·simp at hd
  rcases hd with rfl|hd
  ·exact h1
  ·exact hs'.parts d hd
 ·rw [List.flatMap_cons,List.nodup_append]
  have:=hs.nd
  rw [List.flatMap_cons,List.nodup_append] at this
  refine ⟨this.1,hs'.nd,fun b hb b' hb' e=>?_⟩
  subst e
  obtain ⟨d,hd,hbd⟩:=List.mem_flatMap.1 hb'
  obtain ⟨e,he,hbe⟩:=hf d hd b hbd
  exact h3 b hb e he hbe
 ·simp at hd
  rcases hd with rfl|hd
  ·exact hs.ap d (by simp) b hb
  ·exact hs'.ap d hd b hb
theorem Sup.spec {own own':Chs} (hp:Sup own own'):∀ {ro:Ro}{h:Heap},Sat ro own h→Sat ro own' h∧∀ d∈own',∀ b∈d.fp,∃ e∈own,b∈e.fp:=by
 induction hp with
 | nil l=>intro ro h hs;exact ⟨⟨hs.last,by simp,by simp,by simp⟩,by simp⟩
 | cons ht t ih =>
   intro ro h hs
   have hs1:=hs.perm ht.perm
   obtain ⟨h1,h2⟩:=ih hs1.drop
   refine ⟨hs1.under h1 h2,fun d hd b hb=>?_⟩
   simp at hd
   rcases hd with rfl|hd
   ·exact ⟨d,ht.perm.mem_iff.2 (by simp),hb⟩
   ·obtain ⟨e,he,hbe⟩:=h2 d hd b hb
    exact ⟨e,ht.perm.mem_iff.2 (by simp [he]),hbe⟩
 | nilc t ih =>
   intro ro h hs
   obtain ⟨h1,h2⟩:=ih hs
   refine ⟨h1.nilc _ _,fun d hd b hb=>?_⟩
   simp at hd
   rcases hd with rfl|hd
   ·simp [Chunk.fp] at hb
   ·exact h2 d hd b hb
 | all l=>intro ro h hs;exact ⟨hs,fun d hd b hb=>⟨d,hd,hb⟩⟩
 | drop c t ih =>
   intro ro h hs
   obtain ⟨h1,h2⟩:=ih hs.drop
   exact ⟨h1,fun d hd b hb=>by obtain ⟨e,he,hbe⟩:=h2 d hd b hb;exact ⟨e,by simp [he],hbe⟩⟩
theorem Sat.sup {ro:Ro}{own own':Chs}{h:Heap} (hs:Sat ro own h) (hp:Sup own own'):Sat ro own' h:=(hp.spec hs).1
def Sub2 (e' e:Env):Prop:=∀ t v,look e' t=some v→look e t=some v
theorem Fits.sub2 {n:Fr}{e e':Env}{a:Act} (h:Fits n e a) (hs:Sub2 e' e):Fits n e' a:=⟨h.defers,h.size,fun t v hv=>h.get t v (hs t v hv)⟩
theorem Sub.to2 {e' e:Env} (h:Sub e' e):Sub2 e' e:=fun t v hv=>h.look hv
inductive Wk (k:Kt):Env→Ro→Chs→Prop where
 | id {env:Env}{ro:Ro}{own:Chs} (h:k env ro own):Wk k env ro own
 | own {env:Env}{ro:Ro}{own:Chs} (own':Chs) (hp:Sup own own') (h:Wk k env ro own'):Wk k env ro own
 | env {env:Env}{ro:Ro}{own:Chs} (env':Env) (hp:Sub env' env) (h:Wk k env' ro own):Wk k env ro own
 | freeze {env:Env}{ro:Ro}{own own':Chs}{c:Chunk} (ht:Take own c own') (h:∀ ro',Le ro ro'→c.holds ro'→Wk k env ro' own'):Wk k env ro own
 | perm {env:Env}{ro:Ro}{own own':Chs} (hp:own.Perm own') (h:Wk k env ro own'):Wk k env ro own
 | know {env:Env}{ro:Ro}{own:Chs} (p:Prop) (hp:∀ h,Sat ro own h→p) (h:p→Wk k env ro own):Wk k env ro own
theorem Wk.get {k:Kt}{env:Env}{ro:Ro}{own:Chs} (hk:Wk k env ro own):∀ h,Sat ro own h→∃ env' ro' own',Sub2 env' env∧Le ro ro'∧Sat ro' own' h∧k env' ro' own':=by
 induction hk with
 | id h=>intro g hg;exact ⟨_,_,_,fun _ _ h=>h,Le.refl _,hg,h⟩
 | own own' hp h ih=>intro g hg;exact ih g (hg.sup hp)
 | env env' hp h ih =>
   intro g hg
   obtain ⟨e,r,o,h1,h2,h3,h4⟩:=ih g hg
   exact ⟨e,r,o,fun t v hv=>hp.look (h1 t v hv),h2,h3,h4⟩
 | freeze ht h ih =>
   intro g hg
   obtain ⟨ro',hl,hc,hs⟩:=(hg.perm ht.perm).freeze
   obtain ⟨e,r,o,h1,h2,h3,h4⟩:=ih ro' hl hc g hs
   exact ⟨e,r,o,h1,hl.trans h2,h3,h4⟩
 | perm hp h ih=>intro g hg;exact ih g (hg.perm hp)
 | know p hp h ih=>intro g hg;exact ih (hp g hg) g hg
inductive SeqOk (A:Kt→Prop) (B:Kt) (ro:Ro):Prop where
 | pass (h:A B)
 | cut {ι:Type} (E:ι→Env) (O:ι→Chs) (I:ι→Ro→Prop) (h1:A (Wk fun env ro own=>∃ i,I i ro∧Sub (E i) env∧Sup own (O i))) (h2:∀ i ro',Le ro ro'→I i ro'→B (E i) ro' (O i))
inductive LoopOk (ws:List Nat) (A:Kt→Kt) (env:Env) (ro:Ro) (own:Chs):Prop where
 | intro {ι:Type} (E:ι→Env) (O:ι→Chs) (I:ι→Ro→Prop) (μ:ι→Nat) (init:Wk (fun env ro own=>∃ i,I i ro∧Sub (E i) env∧Sup own (O i)) env ro own)
   (round:∀ i ro',Le ro ro'→I i ro'→A (Wk fun env ro own=>∃ j,I j ro∧μ j<μ i∧Sub (E j) env∧Sup own (O j)) (E i) ro' (O i))
def memN:List Nat→Nat→Bool
 | [],_=>false
 | x::r,y=>bif Nat.beq x y then true else memN r y
inductive Keep:List Nat→Env→Env→Prop where
 | nil (ws:List Nat):Keep ws [] []
 | skip {ws:List Nat}{k:Nat}{v:Value}{r r':Env} (hm:memN ws k=true) (h:Keep ws r r'):Keep ws ((k,v)::r) r'
 | keep {ws:List Nat}{k:Nat}{v:Value}{r r':Env} (hm:memN ws k=false) (h:Keep (k::ws) r r'):Keep ws ((k,v)::r) ((k,v)::r')
 | args {ws:List Nat}{n:Nat}{vs:List Value}{r':Env}{r:Env} (he:zDI n vs=r) (h:Keep ws r r'):Keep ws (zDI n vs) r'
theorem zEc:∀ {l:List Nat}{x:Nat},memN l x=false→x∉l
 | [],_,_=>by simp
 | y::r,x,h=>by
   unfold memN at h
   by_cases e:Nat.beq y x=true
   ·rw [e] at h;cases h
   ·rw [Bool.not_eq_true] at e
    rw [e] at h
    have hne:y≠x:=fun e2=>by subst e2;simp at e
    simp [zEc (by simpa using h),Ne.symm hne]
theorem zEQ:∀ {l:List Nat}{x:Nat},memN l x=true→x∈l
 | [],_,h=>by cases h
 | y::r,x,h=>by
   unfold memN at h
   by_cases e:Nat.beq y x=true
   ·have:=Nat.eq_of_beq_eq_true e;subst this;simp
   ·rw [Bool.not_eq_true] at e;rw [e] at h;simp [zEQ (by simpa using h)]
theorem Keep.spec {ws:List Nat}{env env0:Env} (h:Keep ws env env0):∀ p∈env0,p.1∉ws∧look env p.1=some p.2:=by
 induction h with
 | nil ws=>simp
 | @skip ws k v r r' hm h ih =>
   intro p hp
   obtain ⟨h1,h2⟩:=ih p hp
   refine ⟨h1,?_⟩
   have hk:k≠p.1:=fun e=>h1 (e▸zEQ hm)
   have:Nat.beq k p.1=false:=by cases hh:Nat.beq k p.1;rfl;exact absurd (Nat.eq_of_beq_eq_true hh) hk
   show (bif Nat.beq k p.1 then some v else look r p.1)=_
   rw [this];exact h2
 | @keep ws k v r r' hm h ih =>
   intro p hp
   simp at hp
   rcases hp with rfl|hp
   ·exact ⟨zEc hm,by show (bif Nat.beq k k then some v else look r k)=_;simp⟩
   ·obtain ⟨h1,h2⟩:=ih p hp
    have hk:k≠p.1:=fun e=>h1 (by simp [e])
    have:Nat.beq k p.1=false:=by cases hh:Nat.beq k p.1;rfl;exact absurd (Nat.eq_of_beq_eq_true hh) hk
    refine ⟨fun hm=>h1 (by simp [hm]),?_⟩
    show (bif Nat.beq k p.1 then some v else look r p.1)=_
    rw [this];exact h2
 | args he h ih=>subst he;exact ih
theorem Sub.of {e env:Env} (h:∀ p∈e,E.look env p.1=some p.2):Sub e env:=by
 induction e with
 | nil=>trivial
 | cons p r ih=>exact ⟨h p (by simp),ih fun q hq=>h q (by simp [hq])⟩
theorem Sub.mem {e env:Env} (h:Sub e env):∀ p∈e,E.look env p.1=some p.2:=by
 induction e with
 | nil=>intro p hp;cases hp
 | cons q r ih =>
   intro p hp
   simp at hp
   rcases hp with rfl|hp
   ·exact h.1
   ·exact ih h.2 p hp
theorem Sub.append {e1 e2 env:Env} (h1:Sub e1 env) (h2:Sub e2 env):Sub (e1++e2) env:=Sub.of fun p hp=>by
 rw [List.mem_append] at hp
 rcases hp with hp|hp
 ·exact h1.mem p hp
 ·exact h2.mem p hp
theorem LoopOk.auto {ws:List Nat}{A:Kt→Kt}{env:Env}{ro:Ro}{own:Chs}{ι:Type}{env0:Env} (hk:Keep ws env env0) (f:ι→Env) (O:ι→Chs) (I:ι→Ro→Prop) (μ:ι→Nat) (i0:ι) (hI:I i0 ro) (hs:Sub (f i0) env) (ho:Sup own (O i0))
  (round:∀ i ro',Le ro ro'→I i ro'→A (Wk fun env ro own=>∃ j,I j ro∧μ j<μ i∧Sub (f j++env0) env∧Sup own (O j)) (f i++env0) ro' (O i)):LoopOk ws A env ro own :=
 .intro (fun i=>f i++env0) O I μ (.id ⟨i0,hI,hs.append (Sub.of fun p hp=>(hk.spec p hp).2),ho⟩) round
def setK (d:Option Nat) (v:Value) (k:Kt):Kt:=fun env ro own=>match d with
 | some d=>k ((d,v)::env) ro own
 | none=>k env ro own
def capA (vs:List Value):Array Value→Array Value
 | ⟨[]⟩=>vs.toArray
 | ⟨c⟩=>(vs++c).toArray
def vEff (P:Program) (op:Op) (ty:TypeId) (d:Option Nat) (k:Kt) (env:Env) (ro:Ro) (own:Chs):Prop:=match op with
 | .call ⟨.value x,⟨args⟩,_⟩=>match ev env x,evs env args with
   | some (.func (.func f) ⟨[]⟩ cap),some vs=>Stop (CallOk P f (capA vs cap) ro own (fun v ro' own'=>setK d v k env ro' own'))
   | _,_=>False
 | op=>Stop (OpOk P op ty env ro own (fun v ro' own'=>setK d v k env ro' own'))
def vOp (P:Program) (T:TT) (op:Op) (ty:TypeId) (d:Option Nat) (k:Kt) (env:Env) (ro:Ro) (own:Chs):Prop:=match zG3 T op env with
 | .ok v=>setK d v k env ro own
 | .req p v=>Stop (p∧setK d v k env ro own)
 | .no=>vEff P op ty d k env ro own
def zFd (t:Nat) (b:Bool):Op→Bool
 | .pick (.tmp t') x y=>Nat.beq t' t&&(match b with
   | true=>(match y with|.const (.bool false)=>true|_=>false)
   | false=>(match x with|.const (.bool true)=>true|_=>false))
 | _=>false
def deadG (all:List Oper) (t:Nat) (b:Bool) (dead:List Nat):Option (Nat × Bool)→Bool
 | some (j,b')=>(match zBD all j with
   | some t'=>(Nat.beq t' t&&(match b,b' with|true,true=>true|false,false=>true|_,_=>false))||memN dead t'
   | none=>false)
 | none=>false
def zFz (all:List Oper) (t:Nat) (b:Bool):List Nat→List Oper→Option (List Oper × Oper × List Oper)
 | _,[]=>none
 | dead,o::r=>match o.dst with
   | none=>none
   | some d=>bif zFd t b o.op then some ([],o,r) else bif deadG all t b dead o.guard then
     (match zFz all t b (d::dead) r with
     | some (s,p,r')=>some (o::s,p,r')
     | none=>none)
     else none
def zDf (all:List Oper) (env:Env):Option (Nat × Bool)→Bool
 | none=>true
 | some (j,b)=>match zBD all j with
   | some t=>(match look env t with
     | some (.bool true)=>b
     | some (.bool false)=>!b
     | _=>false)
   | none=>false
def zGH (env:Env) (l:List Oper):Bool:=l.all fun o=>match o.dst with
 | some d=>(match look env d with|some _=>false|none=>true)
 | none=>true
def kn:List (Nat × Bool)→Nat→Option Bool
 | [],_=>none
 | (k,b)::r,t=>bif Nat.beq k t then some b else kn r t
def zBU:Bool→Bool→Bool
 | true,true=>true|false,false=>true|_,_=>false
def vOps1 (P:Program) (T:TT) (all:List Oper) (ih:List (Nat × Bool)→List Oper→Kt→Kt):List (Nat × Bool)→List Oper→Kt→Kt
 | _,[],k=>k
 | K,⟨d,op,ty,_,_,g⟩::r,k=>fun env ro own=>match g with
   | none=>vOp P T op ty d (ih K r k) env ro own
   | some (j,b)=>match zBD all j with
     | none=>False
     | some t=>match look env t with
       | some (.bool c)=>(match kn K t with
         | some _=>bif zBU c b then vOp P T op ty d (ih K r k) env ro own else setK d undef (ih K r k) env ro own
         | none=>(match d with
           | none=>Stop (GJ c b false (vOp P T op ty none (ih ((t,b)::K) r k) ((t,.bool b)::env) ro own) (ih ((t,!b)::K) r k ((t,.bool !b)::env) ro own) (fun _=>False) (fun _=>False))
           | some d=>(match zFz all t b [d] r with
             | some (s,⟨some dd,pop,pty,ppos,paf,pg⟩,r') =>
               Stop (GJ c b (zGH env (⟨some d, op, ty, "", #[], none⟩ :: ⟨some dd, op, ty, "", #[], none⟩ :: s) && zDf all env pg)
                (vOp P T op ty (some d) (ih ((t,b)::K) r k) ((t,.bool b)::env) ro own)
                (ih ((t,!b)::K) r k ((d,undef)::(t,.bool !b)::env) ro own)
                (fun q=>vOp P T op ty (some d) (ih ((t,b)::K) (s++[⟨some dd,pop,pty,ppos,paf,pg⟩]) (fun env' ro' own'=>look env' dd=some (.bool q)∧ro'=ro∧own'=own)) ((t,.bool b)::env) ro own)
                (fun q=>ih K r' k ((dd,.bool q)::env) ro own))
             | _=>Stop (GJ c b false (vOp P T op ty (some d) (ih ((t,b)::K) r k) ((t,.bool b)::env) ro own) (ih ((t,!b)::K) r k ((d,undef)::(t,.bool !b)::env) ro own) (fun _=>False) (fun _=>False)))))
       | some _=>setK d undef (ih K r k) env ro own
       | none=>False
def vOps0:List (Nat × Bool)→List Oper→Kt→Kt
 | _,[],k=>k
 | _,_::_,_=>fun _ _ _=>False
def vOps (P:Program) (T:TT) (all:List Oper) (fl:List Oper):List (Nat × Bool)→List Oper→Kt→Kt:=List.rec (motive:=fun _=>List (Nat × Bool)→List Oper→Kt→Kt) vOps0 (fun _ _ ih=>vOps1 P T all ih) fl
theorem zGU {P:Program}{T:TT}{all fl:List Oper}{x:Oper}{K:List (Nat × Bool)}{d:Option Nat}{op:Op}{ty:TypeId}{pos:String}{af:Array Edge}{g:Option (Nat × Bool)}{r:List Oper}{k:Kt}{env:Env}{ro:Ro}{own:Chs} :
  vOps P T all (x::fl) K (⟨d,op,ty,pos,af,g⟩::r) k env ro own=(match g with
  | none=>vOp P T op ty d (vOps P T all fl K r k) env ro own
  | some (j,b)=>match zBD all j with
    | none=>False
    | some t=>match look env t with
      | some (.bool c)=>(match kn K t with
        | some _=>bif zBU c b then vOp P T op ty d (vOps P T all fl K r k) env ro own else setK d undef (vOps P T all fl K r k) env ro own
        | none=>(match d with
          | none=>Stop (GJ c b false (vOp P T op ty none (vOps P T all fl ((t,b)::K) r k) ((t,.bool b)::env) ro own) (vOps P T all fl ((t,!b)::K) r k ((t,.bool !b)::env) ro own) (fun _=>False) (fun _=>False))
          | some d=>(match zFz all t b [d] r with
            | some (s,⟨some dd,pop,pty,ppos,paf,pg⟩,r') =>
              Stop (GJ c b (zGH env (⟨some d, op, ty, "", #[], none⟩ :: ⟨some dd, op, ty, "", #[], none⟩ :: s) && zDf all env pg)
               (vOp P T op ty (some d) (vOps P T all fl ((t,b)::K) r k) ((t,.bool b)::env) ro own)
               (vOps P T all fl ((t,!b)::K) r k ((d,undef)::(t,.bool !b)::env) ro own)
               (fun q=>vOp P T op ty (some d) (vOps P T all fl ((t,b)::K) (s++[⟨some dd,pop,pty,ppos,paf,pg⟩]) (fun env' ro' own'=>look env' dd=some (.bool q)∧ro'=ro∧own'=own)) ((t,.bool b)::env) ro own)
               (fun q=>vOps P T all fl K r' k ((dd,.bool q)::env) ro own))
            | _=>Stop (GJ c b false (vOp P T op ty (some d) (vOps P T all fl ((t,b)::K) r k) ((t,.bool b)::env) ro own) (vOps P T all fl ((t,!b)::K) r k ((d,undef)::(t,.bool !b)::env) ro own) (fun _=>False) (fun _=>False)))))
      | some _=>setK d undef (vOps P T all fl K r k) env ro own
      | none=>False):=rfl
def zBC (id:Nat):Code→Nat
 | .exit j=>bif Nat.beq j id then 1 else 0
 | .seq a b=>zBC id a+zBC id b
 | .cond _ a b=>zBC id a+zBC id b
 | .block _ a=>zBC id a
 | .loop a=>zBC id a
 | .scope a=>zBC id a
 | .rangeFunc _ _ a b=>zBC id a+zBC id b
 | _=>0
def ways:Code→Nat
 | .ret|.exit _|.goto _|.loop _=>0
 | .seq a b=>bif Nat.beq (ways a) 0 then 0 else ways b
 | .cond _ a b=>ways a+ways b
 | .block id a=>ways a+zBC id a
 | _=>1
def joins (c:Code):Bool:=Nat.ble 2 (ways c)
def zCw:Code→List Nat
 | .region _ ops _=>ops.toList.filterMap (·.dst)
 | .seq a b=>zCw a++zCw b
 | .cond _ a b=>zCw a++zCw b
 | .block _ a=>zCw a
 | .loop a=>zCw a
 | .scope a=>zCw a
 | .rangeFunc _ ps a b=>ps.toList++(zCw a++zCw b)
 | _=>[]
def okD (n:Nat):Option Nat→Bool
 | some d=>Nat.blt d n
 | none=>true
def okS (n:Nat):Code→Bool
 | .region _ ops _=>ops.toList.all fun o=>okD n o.dst
 | .seq a b=>okS n a&&okS n b
 | .cond _ a b=>okS n a&&okS n b
 | .block _ a=>okS n a
 | .loop a=>okS n a
 | .scope a=>okS n a
 | .rangeFunc _ ps a b=>ps.toList.all (fun p=>Nat.blt p n)&&okS n a&&okS n b
 | _=>true
def rf:Code→Bool
 | .seq a b=>rf a||rf b
 | .cond _ a b=>rf a||rf b
 | .block _ a=>rf a
 | .loop a=>rf a
 | .scope a=>rf a
 | .rangeFunc ..=>true
 | _=>false
def markOf (b:Nat):Deferred:={ target:=.collected b,args:=#[] }
structure Mk (f:Bool) (D0 D:List Deferred) (ro ro':Ro):Prop where
 no:f=false→D=D0
 yes:∃ ms:List Nat,D=ms.map markOf++D0∧ms.Nodup∧∀ b∈ms,ro b=none∧ro' b=some (.deferred (some []))
theorem Mk.refl (f:Bool) (D:List Deferred) (ro ro':Ro):Mk f D D ro ro':=⟨fun _=>rfl,[],rfl,.nil,fun _ h=>by cases h⟩
theorem Mk.trans {f g:Bool}{A B C:List Deferred}{r1 r2 r3:Ro} (h:Mk f A B r1 r2) (k:Mk g B C r2 r3) (hl:Le r1 r2) (hl2:Le r2 r3):Mk (f||g) A C r1 r3:=by
 refine ⟨fun e=>?_,?_⟩
 ·simp only [Bool.or_eq_false_iff] at e
  rw [k.no e.2,h.no e.1]
 ·obtain ⟨m1,rfl,n1,h1⟩:=h.yes
  obtain ⟨m2,rfl,n2,h2⟩:=k.yes
  refine ⟨m2++m1,by simp,List.nodup_append.2 ⟨n2,n1,fun b hb b' hb' e=>by
   subst e
   have:=(h2 b hb).1
   rw [(h1 b hb').2] at this;cases this⟩,fun b hb=>?_⟩
  rcases List.mem_append.1 hb with hb|hb
  ·obtain ⟨e1,e2⟩:=h2 b hb
   refine ⟨?_,e2⟩
   cases hr:r1 b with
   | none=>rfl
   | some o=>have:=hl.le b o hr;rw [e1] at this;cases this
  ·exact ⟨(h1 b hb).1,hl2.le _ _ (h1 b hb).2⟩
theorem Mk.weak {f g:Bool}{A B:List Deferred}{r1 r2:Ro} (h:Mk f A B r1 r2) (hfg:g=false→f=false):Mk g A B r1 r2:=⟨fun e=>h.no (hfg e),h.yes⟩
structure CodeOk (P:Program) (c:Code) (k:Exit→Kt) (env:Env) (ro:Ro) (own:Chs):Prop where
 run:∀ n σ Q,okS n.size c=true→(∀ e env' ro' own' D h,Le ro ro'→k e env' ro' own'→Sat ro' own' h→Mk (rf c) n.D D ro ro'→N ⟨n.size,D⟩ σ (Q e) env' h)→∀ h,Sat ro own h→C P Q n σ c env h
def vReg (P:Program) (T:TT) (id:Nat) (ops:Array Oper) (draw:Bool) (k:Exit→Kt):Kt:=fun env ro own=>match draw with
 | true=>Stop (CodeOk P (.region id ops true) k env ro own)
 | false=>vOps P T ops.toList ops.toList [] ops.toList (k .normal) env ro own
def vSeq (a:Code) (va vb:(Exit→Kt)→Kt) (k:Exit→Kt):Kt:=match joins a with
 | true=>fun env ro own=>Stop (SeqOk (fun J=>va (fun e=>match e with|.normal=>J|e=>k e) env ro own) (vb k) ro)
 | false=>va (fun e=>match e with|.normal=>vb k|e=>k e)
def vCond (c:Operand) (va vb:(Exit→Kt)→Kt) (k:Exit→Kt):Kt:=fun env ro own=>match ev env c with
 | some (.bool v)=>Stop (Br v (va k env ro own) (vb k env ro own))
 | _=>False
def zGX (id:Nat) (va:(Exit→Kt)→Kt) (k:Exit→Kt):Kt:=va (fun e=>match e with|.exit j=>bif Nat.beq j id then k .normal else k (.exit j)|e=>k e)
def vLoop (a:Code) (va:(Exit→Kt)→Kt) (k:Exit→Kt):Kt:=fun env ro own=>Stop (LoopOk (zCw a) (fun J=>va (fun e=>match e with|.normal=>J|e=>k e)) env ro own)
def zFN (P:Program) (c:Code) (k:Exit→Kt):Kt:=fun env ro own=>Stop (CodeOk P c k env ro own)
def V (P:Program) (T:TT) (c:Code):(Exit→Kt)→Kt:=Code.rec (motive:=fun _=>(Exit→Kt)→Kt) (fun k=>k .normal) (fun id ops draw=>vReg P T id ops draw) (fun a _ va vb=>vSeq a va vb) (fun c _ _ va vb=>vCond c va vb) (fun id _ va=>zGX id va) (fun a va=>vLoop a va)
 (fun f p x y _ _=>zFN P (.rangeFunc f p x y)) (fun id k=>k (.exit id)) (fun x _=>zFN P (.scope x)) (fun _ k=>k .normal) (fun l=>zFN P (.goto l)) (fun k=>k .ret) (fun w=>zFN P (.refuse w)) c
def zEB (env:Env):List ResultVar→Option (List Value)
 | []=>some []
 | .tmp t::r=>match look env t,zEB env r with
   | some v,some vs=>some (v::vs)
   | _,_=>none
 | _=>none
def tup:List Value→Value
 | [v]=>v
 | vs=>.tuple vs.toArray
inductive RV (P:Program) (env:Env) (h:Heap):List ResultVar→List Value→Prop where
 | nil:RV P env h [] []
 | tmp {t:Nat}{v:Value}{r:List ResultVar}{vs:List Value} (hv:look env t=some v) (hr:RV P env h r vs):RV P env h (.tmp t::r) (v::vs)
 | cell {t ty b o:Nat}{v:Value}{r:List ResultVar}{vs:List Value} (hx:look env t=some (.pointer (some ⟨b,o,none⟩))) (hv:∀ w:World,w.heap=h→(loadVar ty ⟨b,o,none⟩).run P w=.ok v w) (hr:RV P env h r vs):RV P env h (.cell t ty::r) (v::vs)
structure RetOk (P:Program) (rs:List ResultVar) (Φ:Value→Ro→Chs→Prop) (env:Env) (ro:Ro) (own:Chs):Prop where
 run:∃ vs,(∀ h,Sat ro own h→RV P env h rs vs)∧Wk (fun _ ro own=>Φ (tup vs) ro own) [] ro own
def retK (P:Program) (rs:List ResultVar) (Φ:Value→Ro→Chs→Prop):Exit→Kt
 | .ret=>fun env ro own=>match zEB env rs with
   | some vs=>Stop (Wk (fun _ ro own=>Φ (tup vs) ro own) [] ro own)
   | none=>Stop (RetOk P rs Φ env ro own)
 | .normal=>fun env ro own=>match rs with
   | []=>Stop (Wk (fun _ ro own=>Φ (tup []) ro own) [] ro own)
   | _=>False
 | _=>fun _ _ _=>False
end Go.E
namespace Go.E
open Go
def zBq (d:Option Nat) (v:Value) (env:Env):Env:=match d with
 | some d=>(d,v)::env
 | none=>env
theorem zA9 (d:Option Nat) (v:Value) (k:Kt) (env:Env) (ro:Ro) (own:Chs):setK d v k env ro own=k (zBq d v env) ro own:=by cases d<;>rfl
theorem zIm (vs:List Value) (c:Array Value):capA vs c=vs.toArray++c:=by
 obtain ⟨l⟩:=c
 cases l<;>simp [capA]
section
variable {P:Program}{T:TT}{all:Array Oper}{Q:Exit→Act→World→Prop}{n:Fr}{σ:World}{env:Env}{h:Heap}{ro:Ro}{own:Chs}
theorem L.sub2 {ops:List Oper}{env':Env} (hs:Sub2 env' env) (k:L P all Q n σ ops env' h):L P all Q n σ ops env h:=fun a w hf hw=>k a w (hf.sub2 hs) hw
theorem C.sub2 {c:Code}{env':Env} (hs:Sub2 env' env) (k:C P Q n σ c env' h):C P Q n σ c env h:=fun a w hf hw=>k a w (hf.sub2 hs) hw
theorem N.sub2 {K:Act→World→Prop}{env':Env} (hs:Sub2 env' env) (k:N n σ K env' h):N n σ K env h:=fun a w hf hw=>k a w (hf.sub2 hs) hw
theorem L.pure0 {rest:List Oper}{op:Op}{ty:TypeId}{pos:String}{af:Array Edge}{v:Value}
  (hp:Pu P ⟨none,op,ty,pos,af,none⟩ env h v) (k:L P all Q n σ rest env h):L P all Q n σ (⟨none,op,ty,pos,af,none⟩::rest) env h:=fun a w hf hw =>
 wpList_plain rfl fun _ hK=>by
  unfold Oper.wp
  rw [hp.run a.eval w hf.agree hw.heap]
  exact hK _ _ (k _ _ hf hw)
theorem zEE {x:Operand}{f:FuncId}{cap:Array Value}{xs:List Operand}{vs:List Value}{ats:Array TypeId}{d:Option Nat}{ty:TypeId}{pos:String}{af:Array Edge}{g:Option (Nat × Bool)}{ρ:Operand→Value}{w:World} (hρ:Agree env ρ) (hx:ev env x=some (.func (.func f) #[] cap)) (ha:evs env xs=some vs) :
  (execOp ρ ⟨d,.call { callee:=.value x,args:=xs.toArray,argTypes:=ats },ty,pos,af,g⟩).run P w=(callFunc f (vs.toArray++cap)).run P w:=by
 have h2:xs.map ρ=vs:=hρ.list ha
 simp [execOp,resolve,hρ _ _ hx,Deferred.ofValue,invoke,h2]
theorem zE7 {op:Op}{ty:TypeId}{d:Option Nat}{pos:String}{af:Array Edge}{rest:List Oper}{k:Kt} (hT:TOk P T) (hd:okD n.size d=true) (hv:vOp P T op ty d k env ro own)
  (hk:∀ v ro' own' h,Le ro ro'→k (zBq d v env) ro' own'→Sat ro' own' h→L P all Q n σ rest (zBq d v env) h) (hs:Sat ro own h):L P all Q n σ (⟨d,op,ty,pos,af,none⟩::rest) env h:=by
 have hpure:∀ v,(zG3 T op env).has v→k (zBq d v env) ro own→L P all Q n σ (⟨d,op,ty,pos,af,none⟩::rest) env h:=fun v hp hkv=>by
  have h1:=hk v ro own h (Le.refl _) hkv hs
  cases d with
  | none=>exact L.pure0 (zCD hT hp) h1
  | some d=>exact L.pure (zCD hT hp) hd h1
 unfold vOp at hv
 split at hv
 ·rename_i v hp
  exact hpure v (by rw [hp];rfl) (by rwa [zA9] at hv)
 ·rename_i p v hp
  obtain ⟨h1,h2⟩:=hv.run
  exact hpure v (by rw [hp];exact ⟨h1,rfl⟩) (by rwa [zA9] at h2)
 ·unfold vEff at hv
  split at hv
  ·split at hv
   ·rename_i hx hvs
    have hc:=hv.run
    rw [zIm] at hc
    intro a w hf hw
    refine wpList_plain rfl fun _ hK=>?_
    unfold Oper.wp
    rw [zEE hf.agree hx hvs]
    have hsw:Sat ro own w.heap:=by rw [hw.heap];exact hs
    rcases hc.run w hsw with ⟨he,hcalls⟩|⟨v,w',he,hh,ro',own',hl,hs',hKv⟩
    ·rw [he]
     refine hcalls.mono fun e w' ⟨v,hev,hh,ro',own',hl,hs',hKv⟩=>?_
     subst hev
     replace hKv:setK d v k env ro' own':=hKv
     rw [zA9] at hKv
     cases d with
     | none=>exact hK _ _ (hk v ro' own' _ hl hKv hs' _ _ hf (hw.trans hh))
     | some d=>exact hK _ _ (hk v ro' own' _ hl hKv hs' _ _ (hf.put hd v) (hw.trans hh))
    ·rw [he]
     replace hKv:setK d v k env ro' own':=hKv
     rw [zA9] at hKv
     cases d with
     | none=>exact hK _ _ (hk v ro' own' _ hl hKv hs' _ _ hf (hw.trans hh))
     | some d=>exact hK _ _ (hk v ro' own' _ hl hKv hs' _ _ (hf.put hd v) (hw.trans hh))
   ·exact hv.elim
  ·have hc:=hv.run.run h hs
   cases d with
   | none=>exact L.eff0 (hc none pos af none) (fun v h' ⟨ro',own',hl,hs',hK⟩=>hk v ro' own' h' hl (by rwa [zA9] at hK) hs')
   | some d=>exact L.eff (hc (some d) pos af none) hd (fun v h' ⟨ro',own',hl,hs',hK⟩=>hk v ro' own' h' hl (by rwa [zA9] at hK) hs')
theorem zAU {ops:Array Oper}{l2:List Oper}:∀ {l1:List Oper}{a:Act}{w:World},wpList P ops (fun e a w=>match e with|.normal=>wpList P ops Q l2 a w|e=>Q e a w) l1 a w→wpList P ops Q (l1++l2) a w
 | [],a,w,hh=>by simpa [wpList] using hh
 | o::l1,a,w,hh=>by
   rw [List.cons_append]
   unfold wpList at hh ⊢
   split
   ·rename_i hw'
    rw [if_pos hw'] at hh
    rcases hh with h0|⟨h1,a',w',h2⟩
    ·left
     unfold Oper.wp at h0 ⊢
     generalize (execOp a.eval o).run P w=r at h0 ⊢
     cases r with
     | ok nx w' =>
       cases nx<;>simp only [Oper.upon] at h0 ⊢<;>first
        | exact zAU h0
        | exact Calls.mono h0 (fun e w'' he=>by cases e<;>first|exact zAU he|exact he|(obtain ⟨a3,w3,h3⟩:=he;exact ⟨a3,w3,h3⟩))
        | exact Rows.mono h0 (fun v w'' he=>zAU he)
     | halt x w'=>cases x<;>simp only [Oper.upon] at h0 ⊢<;>exact h0
    ·exact .inr ⟨h1,a',w',h2⟩
   ·rename_i hw'
    rw [if_neg hw'] at hh
    exact zAU hh
theorem L.append {l1 l2:List Oper} (k:L P all (fun e a w=>match e with|.normal=>wpList P all Q l2 a w|e=>Q e a w) n σ l1 env h):L P all Q n σ (l1++l2) env h :=
 fun a w hf hw=>zAU (k a w hf hw)
theorem L.skip {l rest:List Oper}{d:Option Nat}{op:Op}{ty:TypeId}{pos:String}{af:Array Edge}{j:Nat}{b:Bool}{t:Nat}{u:Value}
  (hj0:zBD l j=some t) (ht:look env t=some u) (hu:u≠.bool b) (hd:okD n.size d=true) (k:L P l.toArray Q n σ rest (zBq d undef env) h) :
  L P l.toArray Q n σ (⟨d,op,ty,pos,af,some (j,b)⟩::rest) env h:=fun a w hf hw=>by
 have hj:=zAJ hj0
 have hy:yielded l.toArray a.tmps j≠some b:=by
  simp only [yielded,List.getElem?_toArray,hj,Option.bind_some,hf.get _ _ ht]
  intro e
  split at e
  ·rename_i b' hb';simp at hb' e;subst e;exact hu hb'
  ·cases e
 have k:=k (a.put d undef) w (by cases d with
  | none=>exact hf
  | some d=>exact hf.put hd undef) hw
 unfold wpList
 rw [if_neg (by simpa [Region.wanted] using hy)]
 exact k
theorem L.guardOk {l rest:List Oper}{d:Option Nat}{op:Op}{ty:TypeId}{pos:String}{af:Array Edge}{g:Option (Nat × Bool)} (hg:zDf l env g=true)
  (k:L P l.toArray Q n σ (⟨d,op,ty,pos,af,none⟩::rest) env h):L P l.toArray Q n σ (⟨d,op,ty,pos,af,g⟩::rest) env h:=by
 cases g with
 | none=>exact k
 | some p =>
   obtain ⟨j,b⟩:=p
   simp only [zDf] at hg
   split at hg
   ·rename_i t ht
    split at hg
    ·rename_i hl;subst hg;exact L.guard ht hl k
    ·rename_i hl;simp at hg;subst hg;exact L.guard ht hl k
    ·cases hg
   ·cases hg
def Pres (l:List Oper) (env env':Env):Prop:=∀ x v,look env x=some v→(∀ o∈l,o.dst≠some x)→look env' x=some v
theorem zAx (d t:Nat) (v:Value) (env:Env):look ((d,v)::env) t=if d=t then some v else look env t:=by
 show (bif Nat.beq d t then some v else look env t)=_
 by_cases e:d=t
 ·subst e;simp
 ·have:Nat.beq d t=false:=by cases hh:Nat.beq d t;rfl;exact absurd (Nat.eq_of_beq_eq_true hh) e
  simp [this,e]
theorem Pres.push {o:Oper}{l:List Oper}{env:Env}{v:Value}{env':Env} (h:Pres l (zBq o.dst v env) env'):Pres (o::l) env env':=fun x u hx hn=>h x u (by
 have h0:=hn o (by simp)
 cases hd:o.dst with
 | none=>exact hx
 | some d =>
   rw [hd] at h0
   simp only [zBq,zAx]
   rw [if_neg (fun e=>h0 (by rw [e]))]
   exact hx) (fun o' ho=>hn o' (by simp [ho]))
theorem Pres.lit {l:List Oper}{env env':Env}{t:Nat}{u:Value} (h:Pres l ((t,u)::env) env') (ht:look env t=some u):Pres l env env':=fun x v hx hn=>h x v (by
 rw [zAx]
 by_cases e:t=x
 ·subst e;rw [ht] at hx;simpa using hx
 ·rw [if_neg e];exact hx) hn
theorem Sub2.lit {env:Env}{t:Nat}{u:Value} (ht:look env t=some u):Sub2 ((t,u)::env) env:=fun x v hx=>by
 rw [zAx] at hx
 by_cases e:t=x
 ·subst e;simp at hx;subst hx;exact ht
 ·rwa [if_neg e] at hx
theorem Sub2.push {e' e:Env} (h:Sub2 e' e) (d:Option Nat) (v:Value):Sub2 (zBq d v e') (zBq d v e):=fun x u hx=>by
 cases d with
 | none=>exact h x u hx
 | some d =>
   simp only [zBq,zAx] at hx ⊢
   by_cases ed:d=x
   ·rw [if_pos ed] at hx ⊢;exact hx
   ·rw [if_neg ed] at hx ⊢;exact h x u hx
theorem zGG {env:Env}{l:List Oper} (h:zGH env l=true):∀ o∈l,∀ d,o.dst=some d→look env d=none:=fun o ho d hd=>by
 have:=(List.all_eq_true.1 h) o ho
 simp only [hd] at this
 split at this
 ·cases this
 ·assumption
theorem zDV {l0:List Oper}{t:Nat}{b:Bool}:∀ {l dead:List Oper}{ds:List Nat}{s r':List Oper}{p:Oper},zFz l0 t b ds l=some (s,p,r')→l=s++p::r'∧zFd t b p.op=true∧∃ dd,p.dst=some dd
 | [],_,_,_,_,_,h=>by cases h
 | o::r,dead,ds,s,r',p,h=>by
   unfold zFz at h
   split at h
   ·cases h
   ·rename_i d hd
    cases hp:zFd t b o.op with
    | true=>simp [hp] at h;obtain ⟨rfl,rfl,rfl⟩:=h;exact ⟨rfl,hp,d,hd⟩
    | false =>
      simp only [hp,cond_false] at h
      cases hg:deadG l0 t b ds o.guard with
      | false=>simp [hg] at h
      | true =>
        simp only [hg,cond_true] at h
        split at h
        ·rename_i s2 p2 r2 hs2
         simp at h
         obtain ⟨rfl,rfl,rfl⟩:=h
         obtain ⟨h1,h2,h3⟩:=zDV (dead:=dead) hs2
         exact ⟨by rw [h1];rfl,h2,h3⟩
        ·cases h
theorem zER:∀ {l:List Nat}{x:Nat},memN l x=true→x∈l
 | [],_,h=>by cases h
 | y::r,x,h=>by
   unfold memN at h
   by_cases e:Nat.beq y x=true
   ·have:=Nat.eq_of_beq_eq_true e;subst this;simp
   ·rw [Bool.not_eq_true] at e;rw [e] at h;simp [zER (by simpa using h)]
theorem zFR {l0:List Oper}{t:Nat}{b:Bool}:∀ {l:List Oper}{ds:List Nat}{s r':List Oper}{p:Oper}{env:Env}{h:Heap},zFz l0 t b ds l=some (s,p,r')→l.all (fun o=>okD n.size o.dst)=true →
  look env t=some (.bool !b)→(∀ x∈ds,look env x=some undef)→(∀ o∈s,o.dst≠some t)→(p.dst≠some t)→zDf l0 env p.guard=true →
  (∀ o∈s,∀ d,o.dst=some d→∀ j b' t',p.guard=some (j,b')→zBD l0 j=some t'→d≠t') →
  (∀ env':Env,Pres (s++[p]) env env'→(∃ dd,p.dst=some dd∧look env' dd=some (.bool !b))→L P l0.toArray Q n σ r' env' h)→L P l0.toArray Q n σ l env h
 | [],_,_,_,_,_,_,hs,_,_,_,_,_,_,_,_=>by cases hs
 | ⟨od,oop,oty,opos,oaf,og⟩::r,ds,s,r',p,env,h,hs,hok,ht,hds,hst,hpt,hg,hgs,hk=>by
   have hok1:okD n.size od=true:=by simp at hok;exact hok.1
   unfold zFz at hs
   split at hs
   ·cases hs
   ·rename_i d hd
    simp only at hd
    subst hd
    cases hp:zFd t b oop with
    | true =>
      simp [hp] at hs
      obtain ⟨rfl,rfl,rfl⟩:=hs
      refine L.guardOk hg ?_
      unfold zFd at hp
      split at hp
      ·rename_i t' x y
       simp at hp
       obtain ⟨rfl,hxy⟩:=hp
       have hfin:∀ v:Value,v=.bool !b→L P l0.toArray Q n σ r ((d,v)::env) h:=fun v hv=>hk _ (by
         refine Pres.push (o:=⟨some d,.pick (.tmp t') x y,oty,opos,oaf,og⟩) (v:=v) ?_
         exact fun x v hx _=>hx) ⟨d,rfl,by rw [zAx];simp [hv]⟩
       cases b with
       | true =>
         simp at hxy
         split at hxy
         ·exact L.pure (Pu.pickF ht rfl) hok1 (hfin _ rfl)
         ·cases hxy
       | false =>
         simp at hxy
         split at hxy
         ·exact L.pure (Pu.pickT ht rfl) hok1 (hfin _ rfl)
         ·cases hxy
      ·cases hp
    | false =>
      simp only [hp,cond_false] at hs
      cases hgd:deadG l0 t b ds og with
      | false=>simp [hgd] at hs
      | true =>
        simp only [hgd,cond_true] at hs
        split at hs
        ·rename_i s2 p2 r2 hs2
         simp at hs
         obtain ⟨rfl,rfl,rfl⟩:=hs
         have hdt:d≠t:=fun e=>hst ⟨some d,oop,oty,opos,oaf,og⟩ (by simp) (by simp [e])
         have hrest:L P l0.toArray Q n σ r ((d,undef)::env) h:=by
          refine zFR hs2 (by simp at hok;simpa using hok.2) (by rw [zAx,if_neg hdt];exact ht) (fun x hx=>?_) (fun o ho=>hst o (by simp [ho])) hpt ?_ (fun o ho=>hgs o (by simp [ho])) (fun env' hp' hq=>hk env' ?_ hq)
          ·rw [zAx]
           by_cases e:d=x
           ·rw [if_pos e]
           ·rw [if_neg e];simp at hx;rcases hx with rfl|hx
            ·exact absurd rfl e
            ·exact hds x hx
          ·generalize hpg:p2.guard=pg at hg
           cases pg with
           | none=>rfl
           | some q =>
             obtain ⟨j,b'⟩:=q
             simp only [zDf] at hg ⊢
             cases hj:zBD l0 j with
             | none=>simp [hj] at hg
             | some t' =>
               simp only [hj] at hg ⊢
               have hne:d≠t':=hgs ⟨some d,oop,oty,opos,oaf,og⟩ (by simp) d rfl j b' t' hpg hj
               rw [zAx,if_neg hne]
               exact hg
          ·exact Pres.push (o:=⟨some d,oop,oty,opos,oaf,og⟩) (v:=undef) hp'
         unfold deadG at hgd
         split at hgd
         ·rename_i j b'
          split at hgd
          ·rename_i t' hj
           simp only [Bool.or_eq_true,Bool.and_eq_true] at hgd
           rcases hgd with ⟨h1,h2⟩|h1
           ·have:=Nat.eq_of_beq_eq_true h1
            subst this
            have hbb:b=b':=by cases b<;>cases b'<;>simp_all
            subst hbb
            exact L.skip hj ht (by cases b<;>simp) hok1 hrest
           ·exact L.skip hj (hds _ (zER h1)) (by simp [undef]) hok1 hrest
          ·cases hgd
         ·cases hgd
        ·cases hs
theorem zBs (hT:TOk P T) {l0:List Oper}:∀ {fl:List Oper}{K:List (Nat × Bool)}{l:List Oper}{k:Kt}{env:Env}{ro:Ro}{own:Chs}{h:Heap}{Q:Exit→Act→World→Prop},l.all (fun o=>okD n.size o.dst)=true→vOps P T l0 fl K l k env ro own →
  (∀ env' ro' own' h',Pres l env env'→Le ro ro'→k env' ro' own'→Sat ro' own' h'→N n σ (Q .normal) env' h')→Sat ro own h→L P l0.toArray Q n σ l env h
 | fl,K,[],k,env,ro,own,h,Q,hok,hv,hk,hs=>by
   have hv:k env ro own:=by cases fl<;>exact hv
   exact L.nil (hk env ro own h (fun x v hx _=>hx) (Le.refl _) hv hs)
 | [],K,_::_,k,env,ro,own,h,Q,hok,hv,hk,hs=>hv.elim
 | _::fl,K,⟨d,op,ty,pos,af,g⟩::r,k,env,ro,own,h,Q,hok,hv,hk,hs=>by
   have hok1:okD n.size d=true:=by simp at hok;exact hok.1
   have hok2:r.all (fun o=>okD n.size o.dst)=true:=by simp at hok;simpa using hok.2
   have hrun:∀ (K':List (Nat × Bool)) (k':Kt) (env0:Env) (r0:List Oper) (Q0:Exit→Act→World→Prop),r0.all (fun o=>okD n.size o.dst)=true→vOp P T op ty d (vOps P T l0 fl K' r0 k') env0 ro own →
     (∀ env' ro' own' h',Pres (⟨d,op,ty,pos,af,g⟩::r0) env0 env'→Le ro ro'→k' env' ro' own'→Sat ro' own' h'→N n σ (Q0 .normal) env' h')→L P l0.toArray Q0 n σ (⟨d,op,ty,pos,af,none⟩::r0) env0 h :=
    fun K' k' env0 r0 Q0 hr0 hv0 hk0=>zE7 hT hok1 hv0 (fun v ro' own' h' hl hv' hs'=>zBs hT hr0 hv' (fun env' ro2 own2 h2 hp hl2 hk2 hs2=>hk0 env' ro2 own2 h2 (Pres.push (o:=⟨d,op,ty,pos,af,g⟩) hp) (hl.trans hl2) hk2 hs2) hs') hs
   have hskip:∀ (K':List (Nat × Bool)) (env0:Env),vOps P T l0 fl K' r k (zBq d undef env0) ro own→(∀ env',Pres (⟨d,op,ty,pos,af,g⟩::r) env0 env'→Pres (⟨d,op,ty,pos,af,g⟩::r) env env')→L P l0.toArray Q n σ r (zBq d undef env0) h :=
    fun K' env0 hv0 hpr=>zBs hT hok2 hv0 (fun env' ro2 own2 h2 hp hl2 hk2 hs2=>hk env' ro2 own2 h2 (hpr _ (Pres.push (o:=⟨d,op,ty,pos,af,g⟩) hp)) hl2 hk2 hs2) hs
   rw [zGU] at hv
   split at hv
   ·exact hrun K k env r Q hok2 hv hk
   ·rename_i j b
    split at hv
    ·exact hv.elim
    ·rename_i t hj
     split at hv
     ·rename_i c ht
      have hcase:(c=b→vOp P T op ty d (vOps P T l0 fl ((t,b)::K) r k) ((t,.bool b)::env) ro own)→(c=!b→vOps P T l0 fl ((t,!b)::K) r k (zBq d undef ((t,.bool !b)::env)) ro own)→L P l0.toArray Q n σ (⟨d,op,ty,pos,af,some (j,b)⟩::r) env h:=fun h1 h2=>by
       by_cases e:c=b
       ·subst e
        refine L.guard hj ht (L.sub2 (Sub2.lit ht) (hrun _ k _ r Q hok2 (h1 rfl) (fun env' ro' own' h' hp=>hk env' ro' own' h' (hp.lit ht))))
       ·have e':c=!b:=by revert e;cases b<;>cases c<;>simp
        subst e'
        exact L.skip hj ht (by cases b<;>simp) hok1 (L.sub2 ((Sub2.lit ht).push d undef) (hskip _ _ (h2 rfl) (fun env' hp=>hp.lit ht)))
      split at hv
      ·rename_i c'
       cases hb:zBU c b with
       | true =>
         have:c=b:=by cases c<;>cases b<;>simp_all [zBU]
         subst this
         simp only [hb,cond_true] at hv
         exact L.guard hj ht (hrun K k env r Q hok2 hv hk)
       | false =>
         have:c=!b:=by cases c<;>cases b<;>simp_all [zBU]
         subst this
         simp only [hb,cond_false,zA9] at hv
         exact L.skip hj ht (by cases b<;>simp) hok1 (hskip K env hv (fun _ h=>h))
      ·split at hv
       ·rcases hv.run with ⟨h1,h2⟩|⟨q,hc,h1,h2⟩
        ·exact hcase h1 h2
        ·cases hc
       ·rename_i d
        split at hv
        ·rename_i s dd pop pty ppos paf pg r' hseg
         rcases hv.run with ⟨h1,h2⟩|⟨q,hc,h1,h2⟩
         ·exact hcase h1 h2
         ·simp only [Bool.and_eq_true] at hc
          have hfr:=zGG hc.1
          obtain ⟨hl,hpk,_⟩:=zDV (dead:=[]) hseg
          have htd:∀ x,look env x=none→x≠t:=fun x hx e=>by subst e;rw [hx] at ht;cases ht
          have hfd : look env d = none := hfr ⟨some d, op, ty, "", #[], none⟩ (by simp) d rfl
          have hfdd : look env dd = none := hfr ⟨some dd, op, ty, "", #[], none⟩ (by simp) dd rfl
          have hfs:∀ o∈s,∀ x,o.dst=some x→look env x=none:=fun o ho x hx=>hfr o (by simp [ho]) x hx
          have hall:=List.all_eq_true.1 hok2
          rw [hl] at hall
          have hokr':r'.all (fun o=>okD n.size o.dst)=true:=List.all_eq_true.2 fun o ho=>hall o (by simp [ho])
          have hoks:(s++[(⟨some dd,pop,pty,ppos,paf,pg⟩:Oper)]).all (fun o=>okD n.size o.dst)=true:=List.all_eq_true.2 fun o ho=>hall o (by
           rw [List.mem_append,List.mem_singleton] at ho
           rcases ho with ho|ho
           ·simp [ho]
           ·subst ho;simp)
          have hkr:∀ env':Env,Sub2 ((dd,.bool (jb b c q))::env) env'→∀ {h':Heap} {Q'},Q'=Q→h'=h→L P l0.toArray Q' n σ r' env' h':=fun env' hsub h' Q' e1 e2=>by
           subst e1;subst e2
           exact L.sub2 hsub (zBs hT hokr' h2 (fun env2 ro2 own2 h3 hp hl2 hk2 hs2=>hk env2 ro2 own2 h3 (fun x v hx hn=>hp x v (by
            rw [zAx,if_neg (fun e=>by subst e;rw [hfdd] at hx;cases hx)];exact hx) (fun o ho=>hn o (by simp [hl,ho]))) hl2 hk2 hs2) hs)
          by_cases e:c=b
          ·subst e
           refine L.guard hj ht ?_
           have e2:(⟨some d,op,ty,pos,af,none⟩::r:List Oper)=(⟨some d,op,ty,pos,af,none⟩::(s++[⟨some dd,pop,pty,ppos,paf,pg⟩]))++r':=by rw [hl];simp
           rw [e2]
           refine L.append ?_
           refine L.sub2 (Sub2.lit ht) ?_
           refine zE7 hT hok1 (h1 rfl) (fun v ro' own' h' hl2 hv' hs'=>zBs hT hoks hv' (fun env' ro2 own2 h2' hp hl3 hk2 hs2=>?_) hs') hs
           obtain ⟨hq,rfl,rfl⟩:=hk2
           have hjq:jb c c q=q:=by cases c<;>simp [jb]
           have hsub:Sub2 ((dd,.bool (jb c c q))::env) env':=fun x v hx=>by
            rw [zAx] at hx
            by_cases ed:dd=x
            ·subst ed;rw [if_pos rfl,hjq] at hx;rw [hq];exact hx
            ·rw [if_neg ed] at hx
             refine (Pres.push (o:=⟨some d,op,ty,pos,af,none⟩) hp).lit ht x v hx ?_
             intro o ho e
             simp at ho
             rcases ho with rfl|ho|rfl
             ·simp at e;subst e;rw [hfd] at hx;cases hx
             ·rw [hfs o ho x e] at hx;cases hx
             ·simp at e;exact ed e
           exact L.sub2 hsub (zBs hT hokr' h2 (fun env2 ro2 own2 h3 hp2 hl2 hk2 hs2=>hk env2 ro2 own2 h3 (fun x v hx hn=>hp2 x v (by
            rw [zAx,if_neg (fun e=>by subst e;rw [hfdd] at hx;cases hx)];exact hx) (fun o ho=>hn o (by simp [hl,ho]))) hl2 hk2 hs2) hs2)
          ·have e':c=!b:=by cases b<;>cases c<;>simp_all
           subst e'
           refine L.skip hj ht (by cases b<;>simp) hok1 (zFR hseg hok2 ?_ ?_ ?_ ?_ ?_ ?_ ?_)
           ·simp only [zBq,zAx];rw [if_neg (htd d hfd)];exact ht
           ·intro x hx;simp at hx;subst hx;simp [zBq,zAx]
           ·intro o ho e;exact htd t (hfs o ho t e) rfl
           ·intro e;simp at e;exact htd dd hfdd e
           ·have hg:=hc.2
            cases pg with
            | none=>rfl
            | some q =>
              obtain ⟨j2,b2⟩:=q
              simp only [zDf] at hg ⊢
              cases hj2:zBD l0 j2 with
              | none=>simp [hj2] at hg
              | some t2 =>
                simp only [hj2,zBq,zAx] at hg ⊢
                rw [if_neg (fun e=>by subst e;rw [hfd] at hg;cases hg)]
                exact hg
           ·intro o ho x hx j2 b2 t2 hg2 hj2 e
            subst e
            simp only at hg2
            subst hg2
            have hg:=hc.2
            simp only [zDf,hj2,hfs o ho x hx] at hg
            cases hg
           ·intro env' hp ⟨d2,e2,hq⟩
            cases e2
            have hjq:jb b (!b) q=!b:=by cases b<;>simp [jb]
            refine hkr env' (fun x v hx=>?_) rfl rfl
            rw [zAx] at hx
            by_cases ed:dd=x
            ·subst ed;rw [if_pos rfl,hjq] at hx;rw [hq];exact hx
            ·rw [if_neg ed] at hx
             refine hp x v ?_ ?_
             ·simp only [zBq,zAx]
              rw [if_neg (fun e=>by subst e;rw [hfd] at hx;cases hx)]
              exact hx
             ·intro o ho e
              simp at ho
              rcases ho with ho|rfl
              ·rw [hfs o ho x e] at hx;cases hx
              ·simp at e;exact ed e
        ·rcases hv.run with ⟨h1,h2⟩|⟨q,hc,h1,h2⟩
         ·exact hcase h1 h2
         ·cases hc
     ·rename_i u hne ht
      rw [zA9] at hv
      exact L.skip hj ht (fun e=>hne b (by rw [e])) hok1 (hskip K env hv (fun _ h=>h))
     ·exact hv.elim
termination_by fl K l=>(fl.length,l.length)
end
end Go.E
end
