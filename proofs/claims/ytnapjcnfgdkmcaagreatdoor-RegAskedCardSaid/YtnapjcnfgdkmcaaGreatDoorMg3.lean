/- Texts of a walk, one behind the other. -/
import Derived.Lib.MakeNoZero
import Derived.Laws.CopyOwn
import Derived.RangeFuncRecord
import Derived.Below
import Derived.WideKeyArr
import Derived.StringKeys
import Derived.DeepKeys5
import Derived.Laws.IdiomRangeMap
import Derived.ArgAppend
import Derived.Laws.IdiomStrings
import Derived.WideKeyEntry
import Derived.Test.YtnapjcnfgdkmcaaGreatDoorProg
import Derived.KernelRfl
import Derived.Lib.LaidTab
import Derived.Stop.LaidErr
import Derived.Test.YtnapjcnfgdkmcaaGreatDoorMg2
set_option linter.unusedVariables false
set_option linter.unusedSimpArgs false
set_option linter.unusedSectionVars false
set_option maxRecDepth 10000
section
namespace Go.E
open Go
theorem LdN.atR {ro ro':Ro}{own own':Chs}{a:Option Addr}{n c s k z o:Nat}{cs vs:List Value} (hr:Rds ro own a n c s cs) (hd:(cs.drop k).take z=vs) (ho:o=ao a+k) [hl:Leq ro ro'] [hp:Suf own' own]:LdN ro' own' (ab a) o vs:=by
 subst ho;subst hd;exact LdN.rds hr
theorem Ld.atR {ro ro':Ro}{own own':Chs}{a:Option Addr}{n c s k o:Nat}{cs:List Value}{v:Value} (hr:Rds ro own a n c s cs) (hv:cs[k]?=some v) (ho:o=ao a+k) [hl:Leq ro ro'] [hp:Suf own' own]:Ld ro' own' (ab a) o v:=by
 subst ho;exact Ld.rds hr hv
end Go.E
namespace Go.E
open Go
section
variable {P:Program}{T:TT}{Q:Exit→Act→World→Prop}{n:Nat}{σ:World}
end
end Go.E
namespace Go.E
open Go
section
variable {P:Program}{T:TT}{Q:Exit→Act→World→Prop}{n:Fr}{σ:World}
end
theorem wkN {q p:Prop} (h:q) (e:Hd q→p:=by
 intro hWk
 first
  | refine Stop.mk ?_
  | (show _∧_;refine And.intro zAR ?_)
  | (show OpOk _ _ _ _ _ _ _;first
    | refine OpOk.load rfl rfl Ld.auto ?_
    | refine OpOk.loadRow rfl rfl LdN.hasBlk rfl ?_
    | refine OpOk.loadPart rfl rfl Nf.auto zAq ?_
    | refine OpOk.store rfl rfl rfl rfl SetR.auto ?_
    | refine OpOk.storeRow rfl rfl rfl rfl (by rfl) rfl ?_
    | refine OpOk.idx1 rfl rfl rfl (by omega) AOk.auto ?_
    | refine OpOk.idxA rfl rfl rfl (by omega) ?_
    | refine OpOk.idx rfl rfl rfl (by omega) AOk.auto ?_
    | refine OpOk.andN rfl rfl zAR ?_
    | refine OpOk.eqlSl rfl rfl ?_
    | refine OpOk.neqSl rfl rfl ?_
    | refine OpOk.clip rfl rfl rfl rfl (by omega) ?_
    | refine OpOk.build rfl rfl Nf.auto ?_
    | refine OpOk.toStr rfl rfl rfl rfl Rds.auto ?_)
  | (show QOk _ _ _ _ _ _ _;first|refine QOk.load rfl rfl Ld.auto ?_|refine QOk.idx1 rfl rfl rfl (by omega) AOk.auto ?_|refine QOk.idxA rfl rfl rfl (by omega) ?_|refine QOk.idx rfl rfl rfl (by omega) AOk.auto ?_|refine QOk.loadRow rfl rfl LdN.hasBlk rfl ?_|refine QOk.loadPart rfl rfl Nf.auto zAq ?_|refine QOk.toStr rfl rfl rfl rfl Rds.auto ?_)
  | (show GJ _ _ _ _ _ _ _;first|with_reducible refine GJ.l1 ?_|with_reducible refine GJ.l2 ?_|with_reducible refine GJ.l3 ?_|with_reducible refine GJ.l4 ?_|with_reducible refine GJ.n1 ?_|with_reducible refine GJ.n2 ?_|with_reducible refine GJ.n3 ?_|with_reducible refine GJ.n4 ?_|refine GJ.t (by omega) ?_|refine GJ.f (by omega) ?_|refine GJ.ft (by omega) ?_|refine GJ.ff (by omega) ?_)
  | (show Br _ _ _;first|with_reducible refine Br.tt ?_|with_reducible refine Br.ff ?_|with_reducible refine Br.nt ?_|with_reducible refine Br.nf ?_|refine Br.t (by omega) ?_|refine Br.f (by omega) ?_)
  | (show Bk _ _ _;refine Bk.all Sup.z ?_)
  | (show RetOk _ _ _ _ _ _;refine RetOk.of (T:=T) RL.auto ?_)
 repeat (first
  | refine Stop.mk ?_
  | (show _∧_;refine And.intro zAR ?_)
  | (show OpOk _ _ _ _ _ _ _;first
    | refine OpOk.load rfl rfl Ld.auto ?_
    | refine OpOk.loadRow rfl rfl LdN.hasBlk rfl ?_
    | refine OpOk.loadPart rfl rfl Nf.auto zAq ?_
    | refine OpOk.store rfl rfl rfl rfl SetR.auto ?_
    | refine OpOk.storeRow rfl rfl rfl rfl (by rfl) rfl ?_
    | refine OpOk.idx1 rfl rfl rfl (by omega) AOk.auto ?_
    | refine OpOk.idxA rfl rfl rfl (by omega) ?_
    | refine OpOk.idx rfl rfl rfl (by omega) AOk.auto ?_
    | refine OpOk.andN rfl rfl zAR ?_
    | refine OpOk.eqlSl rfl rfl ?_
    | refine OpOk.neqSl rfl rfl ?_
    | refine OpOk.clip rfl rfl rfl rfl (by omega) ?_
    | refine OpOk.build rfl rfl Nf.auto ?_
    | refine OpOk.toStr rfl rfl rfl rfl Rds.auto ?_)
  | (show QOk _ _ _ _ _ _ _;first|refine QOk.load rfl rfl Ld.auto ?_|refine QOk.idx1 rfl rfl rfl (by omega) AOk.auto ?_|refine QOk.idxA rfl rfl rfl (by omega) ?_|refine QOk.idx rfl rfl rfl (by omega) AOk.auto ?_|refine QOk.loadRow rfl rfl LdN.hasBlk rfl ?_|refine QOk.loadPart rfl rfl Nf.auto zAq ?_|refine QOk.toStr rfl rfl rfl rfl Rds.auto ?_)
  | (show GJ _ _ _ _ _ _ _;first|with_reducible refine GJ.l1 ?_|with_reducible refine GJ.l2 ?_|with_reducible refine GJ.l3 ?_|with_reducible refine GJ.l4 ?_|with_reducible refine GJ.n1 ?_|with_reducible refine GJ.n2 ?_|with_reducible refine GJ.n3 ?_|with_reducible refine GJ.n4 ?_|refine GJ.t (by omega) ?_|refine GJ.f (by omega) ?_|refine GJ.ft (by omega) ?_|refine GJ.ff (by omega) ?_)
  | (show Br _ _ _;first|with_reducible refine Br.tt ?_|with_reducible refine Br.ff ?_|with_reducible refine Br.nt ?_|with_reducible refine Br.nf ?_|refine Br.t (by omega) ?_|refine Br.f (by omega) ?_)
  | (show Bk _ _ _;refine Bk.all Sup.z ?_)
  | (show RetOk _ _ _ _ _ _;refine RetOk.of (T:=T) RL.auto ?_))
 exact hWk.get):p:=e ⟨h⟩
end Go.E
namespace Go.E
open Go
section
variable {P:Program}{f:FuncId}{fn:Func}{ro:Ro}{own:Chs}{K:Value→Ro→Chs→Prop}
end
section
variable {P:Program}{T:TT} [hT:TTab P T] {ty:TypeId}{env:Env}{ro:Ro}{own:Chs}{K:Value→Ro→Chs→Prop}
end
end Go.E
namespace Go.E
open Go
section
variable {P:Program}{f:FuncId}{ro:Ro}{own:Chs}{K:Value→Ro→Chs→Prop}
theorem CallOk.ofBelow {args:Array Value}{v:Value} (enter:∀ args w,(callFunc f args).run P w=.ok (.enter f args) w) (h:∀ w,Calls P f args w fun e w'=>e=.returned v∧Go.RowKit.Below w.heap.size w w') (hk:K v ro own):CallOk P f args ro own K :=
 CallOk.body enter fun h0 hs w hw=>(h w).mono fun e w' ⟨he,hb⟩=>⟨v,he,⟨rfl,hb.os,hb.tape,hb.output⟩,ro,own,Le.refl _,hs.keep (fun b hb'=>by subst hw;exact hb.block b hb'),hk⟩
end
end Go.E
namespace Go.E
open Go
section
variable {P:Program}{T:TT} [hT:TTab P T] {ty:TypeId}{env:Env}{ro:Ro}{own:Chs}{K:Value→Ro→Chs→Prop}
end
end Go.E
namespace Go.E
open Go
section
variable {P:Program}{T:TT}{ty:TypeId}{env:Env}{ro:Ro}{own:Chs}{K:Value→Ro→Chs→Prop}
theorem QOk.eqlStruct [hT:TTab P T] {K:Value→Prop}{t yt:TypeId}{x y:Operand}{xs ys:List Value}{fs:List (TypeId × Nat × Nat)}{z1:Nat}{z2:List Value}{q:Bool} (hx:ev env x=some (.agg xs.toArray)) (hy:ev env y=some (.agg ys.toArray)) (ht:T.get t=some ⟨.struct fs,z1,z2⟩) (hq:eqFs T xs ys fs=some q)
  (h1 : P.stoodInHeld t = false) (h2 : P.eqGuardType P.depth t = false) (h3 : ((P.fieldsOf t).toList.all fun f => f.name != "_") = true) (hk : K (.bool q)) : QOk P (.binOp .eql t x y yt) ty env ro own K := by
 obtain ⟨l,e1,e2,_⟩:=hT.ok.struct ht
 have e3:P.fieldsOf t=l.toArray:=by simp [Program.fieldsOf,e1]
 rw [e3] at h3
 subst e2
 refine QOk.pu (fun h hs d pos af g=>.mk fun ρ w hρ _=>?_) hk
 have h4:=zCK (P:=P) (T:=T) (xs:=xs) (ys:=ys) 9998 w l q (fun f hf=>by have:=List.all_eq_true.1 h3 f (by simpa using hf);simpa using this) hq
 simp only [execOp,hρ _ _ hx,hρ _ _ hy,Sem.run_bind,run_eqGuard_agg w .eql t x y _ _ h2,Result.andThen_ok,run_eql_struct,run_equalIn_agg w 9999 t _ _ (by rw [e3];exact e1) h1,e3,h4,Sem.run_pure]
end
end Go.E
namespace Go.E
open Go
section
variable {P:Program}{T:TT} [hT:TTab P T] {ty:TypeId}{env:Env}{ro:Ro}{own:Chs}{K:Value→Ro→Chs→Prop}
theorem OpOk.storePart {t:TypeId}{x y:Operand}{b o:Nat}{vs:List Value}{t0:TypeId}{cs cs':List Value}{f:Chunk→Chs}{z:Nat} (hx:ev env x=some (.pointer (some ⟨b,o,none⟩))) (hy:ev env y=some (.agg vs.toArray)) (ht:rowT T t=some z) (hz:vs.length=z) (h1:vs.all (fun u=>u.oneCell')=true)
  [hb:HasBlk own b t0 cs f] (hc:o+z≤cs.length) (he:Nf (zAW cs o vs) cs') (hk:K undef ro (f (.blk b t0 cs'))):OpOk P (.store t x y) ty env ro own K :=
 ⟨fun h hsat d pos af g=>by
  have he:=he.eq
  subst he
  obtain ⟨r,p1,p2⟩:=(hb.repl (.blk b t0 (zAW cs o vs))).perm
  have hsat:=hsat.perm p1
  refine (Eff.storeN0 hx hy ((rsz ht).trans (by simp [Value.cells,hz])) (by simpa [Value.cells] using List.all_eq_true.1 h1) hsat.cons.1 (by simp [Value.cells];omega)).mono ?_
  rintro _ h' ⟨rfl,g1,g2,g3⟩
  have g2':Row h' b t0 (zAW cs o vs):=by simpa [Value.cells] using g2
  exact ⟨ro,_,Le.refl _,(hsat.put (c':=.blk b t0 (zAW cs o vs)) (fun k _ hk=>g3 k (by simpa [Chunk.fp] using hk)) g2' (fun k hk=>.inl hk) (by simp [Chunk.fp])).perm p2.symm,hk⟩⟩
end
end Go.E
namespace Go.E
open Go
section
variable {P:Program}{T:TT} [hT:TTab P T] {ty:TypeId}{env:Env}{ro:Ro}{own:Chs}{K:Value→Ro→Chs→Prop}
end
structure KeyEnc (P:Program) (kt:TypeId) {κ:Type} (kv:κ→Value) (ok:κ→Prop):Prop where
 check:∀ k,ok k→∀ (w:World) (em:Bool),(Instr.checkKey em 10000 kt (kv k)).run P w=.ok () w
 search:∀ (w:World) (k:κ),ok k→∀ es:List MapEntry,(∀ e∈es,∃ j,ok j∧e.key=kv j)→((Instr.findKey kt (kv k) es).run P w=.ok none w∧∀ e∈es,e.key≠kv k)∨∃ j e,(Instr.findKey kt (kv k) es).run P w=.ok (some (j,e.val)) w∧es[j]?=some e∧e.key=kv k
 stays:∀ k,ok k→∀ w:World,(Instr.keyThatStays (kv k) (kv k)).run P w=.ok (kv k) w
 inj:∀ a b,kv a=kv b→a=b
theorem KeyEnc.ofLaw {P:Program}{kt:TypeId}{κ:Type}{kv:κ→Value}{ok:κ→Prop} (law:WideMaps.KeyLaw P kt) (is:∀ k,ok k→∃ l,keyOf P kt (kv k)=some l) (inj:∀ a b,kv a=kv b→a=b):KeyEnc P kt kv ok where
 check k hk w em:=by obtain ⟨l,hl⟩:=is k hk;exact law.check w em hl
 search w k hk es he:=by
  obtain ⟨l,hl⟩:=is k hk
  exact law.find w hl es fun e h=>by
   obtain ⟨j,hj,e2⟩:=he e h
   rw [e2];exact is j hj
 stays k hk w:=by obtain ⟨l,hl⟩:=is k hk;exact law.stays w hl
 inj:=inj
section
variable {κ ν:Type}
def entG (kv:κ→Value) (vv:ν→Value) (p:κ × ν × Nat):MapEntry:={ key:=kv p.1,val:=vv p.2.1,born:=p.2.2 }
def mapG (kv:κ→Value) (vv:ν→Value) (l:List (κ × ν × Nat)) (c:Nat):Obj:=.map (l.map (entG kv vv)).toArray c
structure MapOk (ok:κ→Prop) (l:List (κ × ν × Nat)):Prop where
 nodup:(l.map (·.1)).Nodup
 all:∀ p∈l,ok p.1
variable [DecidableEq κ]
def getG:List (κ × ν × Nat)→κ→Option ν
 | [],_=>none
 | p::r,k=>if k=p.1 then some p.2.1 else getG r k
def putG:List (κ × ν × Nat)→Nat→κ→ν→List (κ × ν × Nat)
 | [],c,k,v=>[(k,v,c)]
 | p::r,c,k,v=>if k=p.1 then (k,v,p.2.2)::r else p::putG r c k v
theorem get_none:∀ {l:List (κ × ν × Nat)}{k:κ},(∀ p∈l,p.1≠k)→getG l k=none∧∀ c v,putG l c k v=l++[(k,v,c)]
 | [],k,h=>⟨rfl,fun _ _=>rfl⟩
 | p::r,k,h=>by
   have hp:¬k=p.1:=fun e=>h p (by simp) e.symm
   obtain ⟨h1,h2⟩:=get_none (l:=r) (k:=k) (fun q hq=>h q (by simp [hq]))
   exact ⟨by rw [getG,if_neg hp];exact h1,fun c v=>by rw [putG,if_neg hp,h2];rfl⟩
theorem get_at:∀ {l:List (κ × ν × Nat)}{j:Nat}{p:κ × ν × Nat},(l.map (·.1)).Nodup→l[j]?=some p→getG l p.1=some p.2.1∧∀ c v,putG l c p.1 v=l.set j (p.1,v,p.2.2)
 | [],j,p,hn,h=>by simp at h
 | q::r,0,p,hn,h=>by
   simp at h;subst h
   exact ⟨by rw [getG,if_pos rfl],fun c v=>by rw [putG,if_pos rfl];rfl⟩
 | q::r,j+1,p,hn,h=>by
   have hn2:q.1∉r.map (·.1)∧(r.map (·.1)).Nodup:=by simpa using hn
   have h:r[j]?=some p:=by simpa using h
   have hne:¬p.1=q.1:=fun e=>hn2.1 (e▸List.mem_map_of_mem (List.mem_of_getElem? h))
   obtain ⟨h1,h2⟩:=get_at hn2.2 h
   exact ⟨by rw [getG,if_neg hne];exact h1,fun c v=>by rw [putG,if_neg hne,h2];rfl⟩
theorem zF3:∀ {l:List (κ × ν × Nat)}{c:Nat}{k:κ}{v:ν}{p:κ × ν × Nat},p∈putG l c k v→p.1=k∨p∈l
 | [],c,k,v,p,h=>by simp [putG] at h;exact .inl (by rw [h])
 | q::r,c,k,v,p,h=>by
   rw [putG] at h
   split at h
   ·rcases List.mem_cons.1 h with rfl|h
    ·exact .inl rfl
    ·exact .inr (by simp [h])
   ·rcases List.mem_cons.1 h with rfl|h
    ·exact .inr (by simp)
    ·rcases zF3 h with h|h
     ·exact .inl h
     ·exact .inr (by simp [h])
theorem MapOk.put {ok:κ→Prop}{l:List (κ × ν × Nat)} (h:MapOk ok l) {k:κ} (hk:ok k) (c:Nat) (v:ν):MapOk ok (putG l c k v):=by
 refine ⟨?_,fun p hp=>?_⟩
 ·obtain ⟨hn,ha⟩:=h
  clear ha
  induction l with
  | nil=>simp [putG]
  | cons q r ih =>
    have hn2:q.1∉r.map (·.1)∧(r.map (·.1)).Nodup:=by simpa using hn
    rw [putG]
    split
    ·rename_i e;subst e;simpa using hn
    ·rename_i e
     rw [List.map_cons,List.nodup_cons]
     refine ⟨fun hmo=>?_,ih hn2.2⟩
     obtain ⟨p,hp,hpe⟩:=List.mem_map.1 hmo
     rcases zF3 hp with h|h
     ·exact e (h.symm.trans hpe)
     ·exact hn2.1 (hpe▸List.mem_map_of_mem h)
 ·rcases zF3 hp with e|hp
  ·rw [e];exact hk
  ·exact h.all p hp
theorem MapOk.nil {ok:κ→Prop}:MapOk ok ([]:List (κ × ν × Nat)):=⟨by simp,by simp⟩
theorem zBF {l:List (κ × ν × Nat)}{c:Nat}{k j:κ}{v:ν}:getG (putG l c k v) j=if j=k then some v else getG l j:=by
 induction l with
 | nil=>simp only [putG,getG]
 | cons p r ih =>
   unfold putG
   split
   ·rename_i h
    simp only [getG]
    by_cases hj:j=k
    ·simp [hj]
    ·rw [if_neg hj,if_neg hj,if_neg (fun e=>hj (e.trans h.symm))]
   ·rename_i h
    simp only [getG]
    rw [ih]
    by_cases hj:j=p.1
    ·rw [if_pos hj,if_pos hj,if_neg (fun e=>h (e.symm.trans hj))]
    ·rw [if_neg hj,if_neg hj]
variable {P:Program}{T:TT} [hT:TTab P T] {ty:TypeId}{env:Env}{ro:Ro}{own:Chs}{K:Value→Ro→Chs→Prop}{kt:TypeId}{kv:κ→Value}{vv:ν→Value}{ok:κ→Prop}
theorem KeyEnc.find (E:KeyEnc P kt kv ok) {l:List (κ × ν × Nat)} (hmo:MapOk ok l) {k:κ} (hk:ok k) (w:World) :
  ((Instr.findKey kt (kv k) (l.map (entG kv vv))).run P w=.ok none w∧getG l k=none∧∀ c v,putG l c k v=l++[(k,v,c)]) ∨
  ∃ (j:Nat) (p:κ × ν × Nat),(Instr.findKey kt (kv k) (l.map (entG kv vv))).run P w=.ok (some (j,vv p.2.1)) w∧l[j]?=some p∧p.1=k∧getG l k=some p.2.1∧∀ c v,putG l c k v=l.set j (k,v,p.2.2):=by
 rcases E.search w k hk (l.map (entG kv vv)) (fun e he=>by
  obtain ⟨p,hp,rfl⟩:=List.mem_map.1 he
  exact ⟨p.1,hmo.all p hp,rfl⟩) with ⟨h1,h2⟩|⟨j,e,h1,h2,h3⟩
 ·obtain ⟨g1,g2⟩:=get_none (l:=l) (k:=k) (fun p hp e=>h2 (entG kv vv p) (List.mem_map_of_mem hp) (congrArg kv e))
  exact .inl ⟨h1,g1,g2⟩
 ·rw [List.getElem?_map] at h2
  obtain ⟨p,hp,rfl⟩:=Option.map_eq_some_iff.1 h2
  obtain rfl:=E.inj _ _ h3
  obtain ⟨g1,g2⟩:=get_at hmo.nodup hp
  exact .inr ⟨j,p,h1,hp,rfl,g1,g2⟩
theorem OpOk.lookupG {t et:TypeId}{x y:Operand}{b c:Nat}{k:κ}{l:List (κ × ν × Nat)}{z:Value}{f:Chunk→Chs} (hx:ev env x=some (.map (some b))) (hy:ev env y=some (kv k)) (ht:P.underlying t=some (.map kt et))
  (E:KeyEnc P kt kv ok) (hmo:MapOk ok l) (hkk:ok k) (hz:(P.info? et).map (fun i=>i.zero)=some (some z)) [hb:HasObj own b (mapG kv vv l c) f] (hk:K (((getG l k).map vv).getD z) ro own):OpOk P (.lookup t x y false) ty env ro own K :=
 OpOk.pu (fun h hs d pos af g=>.mk fun ρ w hρ hw=>by
  have hg:h[b]?=some (.map (l.map (entG kv vv)).toArray c):=(hb.repl (.obj 0 default)).get hs
  subst hw
  obtain ⟨i,hi,hi2⟩:=Option.map_eq_some_iff.1 hz
  have hc:=fun em=>E.check k hkk w em
  rcases E.find (vv:=vv) hmo hkk w with ⟨h1,h2,h3⟩|⟨j,q,h1,h2,h3,h4,h5⟩
  ·rw [h2]
   simp [execOp,hρ _ _ hx,hρ _ _ hy,Instr.lookup,run_underlying ht,MapKept.run_getObj_map hg,hc,h1,zeroValue,typeInfo,hi,hi2,Result.andThen]
  ·rw [h4]
   simp [execOp,hρ _ _ hx,hρ _ _ hy,Instr.lookup,run_underlying ht,MapKept.run_getObj_map hg,hc,h1,Result.andThen]) hk
theorem OpOk.lookupOkG {t et:TypeId}{x y:Operand}{b c:Nat}{k:κ}{l:List (κ × ν × Nat)}{z:Value}{f:Chunk→Chs} (hx:ev env x=some (.map (some b))) (hy:ev env y=some (kv k)) (ht:P.underlying t=some (.map kt et))
  (E:KeyEnc P kt kv ok) (hmo:MapOk ok l) (hkk:ok k) (hz:(P.info? et).map (fun i=>i.zero)=some (some z)) [hb:HasObj own b (mapG kv vv l c) f] (hk:K (.tuple #[((getG l k).map vv).getD z,.bool (getG l k).isSome]) ro own):OpOk P (.lookup t x y true) ty env ro own K :=
 OpOk.pu (fun h hs d pos af g=>.mk fun ρ w hρ hw=>by
  have hg:h[b]?=some (.map (l.map (entG kv vv)).toArray c):=(hb.repl (.obj 0 default)).get hs
  subst hw
  obtain ⟨i,hi,hi2⟩:=Option.map_eq_some_iff.1 hz
  have hc:=fun em=>E.check k hkk w em
  rcases E.find (vv:=vv) hmo hkk w with ⟨h1,h2,h3⟩|⟨j,q,h1,h2,h3,h4,h5⟩
  ·rw [h2]
   simp [execOp,hρ _ _ hx,hρ _ _ hy,Instr.lookup,run_underlying ht,MapKept.run_getObj_map hg,hc,h1,zeroValue,typeInfo,hi,hi2,Result.andThen]
  ·rw [h4]
   simp [execOp,hρ _ _ hx,hρ _ _ hy,Instr.lookup,run_underlying ht,MapKept.run_getObj_map hg,hc,h1,Result.andThen]) hk
theorem OpOk.mapUpdateG {t et:TypeId}{x y z:Operand}{b c:Nat}{k:κ}{v:ν}{l:List (κ × ν × Nat)}{f:Chunk→Chs} (hx:ev env x=some (.map (some b))) (hy:ev env y=some (kv k)) (hz:ev env z=some (vv v)) (ht:P.underlying t=some (.map kt et))
  (E:KeyEnc P kt kv ok) (hmo:MapOk ok l) (hkk:ok k) [hb:HasObj own b (mapG kv vv l c) f] (hk:∀ c',K undef ro (f (.obj b (mapG kv vv (putG l c k v) c')))):OpOk P (.mapUpdate t x y z) ty env ro own K :=
 ⟨fun h hs d pos af g=>⟨fun ρ w hρ hw=>by
  have hg:h[b]?=some (.map (l.map (entG kv vv)).toArray c):=(hb.repl (.obj 0 default)).get hs
  subst hw
  have hc:=fun em=>E.check k hkk w em
  have hst:=E.stays k hkk w
  have key:∃ c',(execOp ρ ⟨d,.mapUpdate t x y z,ty,pos,af,g⟩).run P w=.ok .skip { w with heap:=w.heap.setIfInBounds b (mapG kv vv (putG l c k v) c') }:=by
   rcases E.find (vv:=vv) hmo hkk w with ⟨h1,h2,h3⟩|⟨j,q,h1,h2,h3,h4,h5⟩
   ·refine ⟨c+1,?_⟩
    have e:mapG kv vv (putG l c k v) (c+1)=.map ((l.map (entG kv vv)).toArray.push { key:=kv k,val:=vv v,born:=c }) (c+1):=by
     rw [h3];simp [mapG,entG]
    rw [e]
    simp [execOp,hρ _ _ hx,hρ _ _ hy,hρ _ _ hz,Instr.mapUpdate,run_underlying ht,MapKept.run_getObj_map hg,MapKept.run_setObj_map _ hg,hc,h1,Result.andThen]
   ·refine ⟨c,?_⟩
    have hj:(l.map (entG kv vv)).toArray[j]?=some (entG kv vv q):=by simp [h2]
    have e:mapG kv vv (putG l c k v) c=.map ((l.map (entG kv vv)).toArray.modify j fun e=>{ e with key:=kv k,val:=vv v }) c:=by
     rw [h5]
     refine congrArg (fun z=>Obj.map z c) ?_
     apply Array.ext'
     rw [Array.toList_modify]
     apply List.ext_getElem?
     intro i
     by_cases hij:j=i
     ·subst hij
      have hlt:j<l.length:=(List.getElem?_eq_some_iff.1 h2).1
      have hq:=(List.getElem?_eq_some_iff.1 h2).2
      simp [List.getElem?_set,hlt,List.getElem?_modify,entG,hq]
     ·simp [List.getElem?_set,hij,List.getElem?_modify]
    rw [e]
    have hq:(entG kv vv q).key=kv k:=by rw [←h3];rfl
    simp [execOp,hρ _ _ hx,hρ _ _ hy,hρ _ _ hz,Instr.mapUpdate,run_underlying ht,MapKept.run_getObj_map hg,MapKept.run_setObj_map _ hg,hc,h1,Result.andThen,h2,hq,hst]
  obtain ⟨c',key⟩:=key
  obtain ⟨r,p1,p2⟩:=(hb.repl (.obj b (mapG kv vv (putG l c k v) c'))).perm
  have hsat:=hs.perm p1
  have hlt:b<w.heap.size:=by
   rcases Nat.lt_or_ge b w.heap.size with h|h
   ·exact h
   ·rw [Array.getElem?_eq_none h] at hg;cases hg
  refine ⟨undef,_,.inr ⟨key,rfl⟩,⟨rfl,rfl,rfl,rfl⟩,ro,_,Le.refl _,(hsat.put (c':=.obj b (mapG kv vv (putG l c k v) c')) (fun i _ hi=>?_) ?_ (fun k hk=>.inl hk) (by simp [Chunk.fp])).perm p2.symm,hk c'⟩
  ·have:b≠i:=by simpa [Chunk.fp,eq_comm] using hi
   simp [Array.getElem?_setIfInBounds,this]
  ·simp [Chunk.holds,hm,hlt]⟩⟩
theorem OpOk.makeMapG {t:TypeId} (hk:∀ b,K (.map (some b)) ro (.obj b (mapG kv vv ([]:List (κ × ν × Nat)) 0)::own)):OpOk P (.makeMap t none) ty env ro own K:=OpOk.makeMap hk
theorem OpOk.lenG {t et:TypeId}{x:Operand}{b c:Nat}{l:List (κ × ν × Nat)}{f:Chunk→Chs} (hx:ev env x=some (.map (some b))) (ht:P.underlying t=some (.map kt et))
  [hb:HasObj own b (mapG kv vv l c) f] (hk:K (.int .i64 (l.length:Int)) ro own):OpOk P (.call ⟨.builtin .len,#[x],#[t]⟩) ty env ro own K :=
 OpOk.pu (fun h hs d pos af g=>.mk fun ρ w hρ hw=>by
  have hg:h[b]?=some (.map (l.map (entG kv vv)).toArray c):=(hb.repl (.obj 0 default)).get hs
  subst hw
  simp [execOp,resolve,invoke,builtin,hρ _ _ hx,Builtin.len_,run_underlying ht,MapKept.run_getObj_map hg,Result.andThen,goInt]) hk
end
theorem KeyEnc.text {P:Program}{kt:TypeId} (hk:P.underlying kt=some .string):KeyEnc P kt str (fun l=>l.length≤maxLen) :=
 KeyEnc.ofLaw (WideMaps.string_law hk) (fun l h=>⟨_,WideMaps.keyOf_string_mk hk (by simpa [ByteArray.size] using h)⟩) (fun a b h=>by
  have h2:ByteArray.mk a.toArray=ByteArray.mk b.toArray:=by injection h
  have h3:a.toArray=b.toArray:=by injection h2
  exact congrArg Array.toList h3)
theorem KeyEnc.int {P:Program}{kt:TypeId} (hk:P.underlying kt=some (.int .i64)):KeyEnc P kt (Value.int .i64) (fun _=>True) where
 check k _ w em:=MapKept.run_checkKey hk (d:=.int .i64) (k:=.int .i64 k) rfl em 9999
 search w k _ es he:=by
  rcases MapKept.findNow_spec (d:=.int .i64) (k:=.int .i64 k) rfl es 0 (fun x hx=>by
   obtain ⟨j,_,e⟩:=he x hx
   rw [e];rfl) with ⟨h1,h2⟩|⟨j,e0,h1,h2,h3⟩
  ·exact .inl ⟨MapKept.run_findKey hk h1,h2⟩
  ·exact .inr ⟨j,e0,by simpa using MapKept.run_findKey hk h1,h2,h3⟩
 stays k _ w:=MapKept.run_keyThatStays (d:=.int .i64) (k:=.int .i64 k) rfl
 inj a b h:=by injection h
section
variable {κ ν:Type}{kv:κ→Value}{vv:ν→Value}
theorem nodup_inj {α β:Type}{f:α→β}:∀ {l:List α},(l.map f).Nodup→∀ p∈l,∀ q∈l,f p=f q→p=q
 | x::l,h,p,hp,q,hq,e=>by
   rw [List.map_cons,List.nodup_cons] at h
   rcases List.mem_cons.1 hp with e1|hp
   ·rcases List.mem_cons.1 hq with e2|hq
    ·rw [e1,e2]
    ·rw [e1] at e;exact absurd (List.mem_map.2 ⟨q,hq,e.symm⟩) h.1
   ·rcases List.mem_cons.1 hq with e2|hq
    ·rw [e2] at e;exact absurd (List.mem_map.2 ⟨p,hp,e⟩) h.1
    ·exact nodup_inj h.2 p hp q hq e
structure BornOk (l:List (κ × ν × Nat)) (c:Nat):Prop where
 nodup:(l.map (·.2.2)).Nodup
 lt:∀ p∈l,p.2.2<c
theorem BornOk.nil:BornOk ([]:List (κ × ν × Nat)) 0:=⟨List.nodup_nil,fun p h=>by cases h⟩
theorem BornOk.set {l:List (κ × ν × Nat)}{c:Nat} (h:BornOk l c) {j:Nat}{q:κ × ν × Nat} (hj:l[j]?=some q) (k:κ) (v:ν):BornOk (l.set j (k,v,q.2.2)) c:=by
 have e:(l.set j (k,v,q.2.2)).map (·.2.2)=l.map (·.2.2):=by
  rw [List.map_set]
  apply List.ext_getElem?
  intro i
  by_cases hi:j=i
  ·subst hi
   obtain ⟨h1,h2⟩:=List.getElem?_eq_some_iff.1 hj
   rw [List.getElem?_set_self (by simpa using h1),List.getElem?_map,hj];rfl
  ·rw [List.getElem?_set_ne hi]
 refine ⟨by rw [e];exact h.nodup,fun p hp=>?_⟩
 have hm:p.2.2∈(l.set j (k,v,q.2.2)).map (·.2.2):=List.mem_map.2 ⟨p,hp,rfl⟩
 rw [e] at hm
 obtain ⟨p',hp',e'⟩:=List.mem_map.1 hm
 rw [←e'];exact h.lt p' hp'
theorem BornOk.snoc {l:List (κ × ν × Nat)}{c:Nat} (h:BornOk l c) (k:κ) (v:ν):BornOk (l++[(k,v,c)]) (c+1):=by
 refine ⟨?_,fun p hp=>?_⟩
 ·rw [List.map_append,List.nodup_append]
  refine ⟨h.nodup,by simp,fun x hx y hy=>?_⟩
  obtain ⟨p,hp,rfl⟩:=List.mem_map.1 hx
  simp at hy
  have:=h.lt p hp
  omega
 ·rcases List.mem_append.1 hp with hp|hp
  ·have:=h.lt p hp;omega
  ·simp at hp;subst hp;exact Nat.lt_succ_self _
end
section
variable {P:Program}{T:TT} [hT:TTab P T] {ty:TypeId}{env:Env}{ro:Ro}{own:Chs}{K:Value→Ro→Chs→Prop}{κ ν:Type}{kv:κ→Value}{vv:ν→Value}
abbrev zCi (bm c:Nat) (S:List (κ × ν × Nat)):Obj:=.mapIter (some bm) c (S.map (·.2.2)).toArray c
theorem OpOk.rangeG {t kt et:TypeId}{x:Operand}{bm c:Nat}{l:List (κ × ν × Nat)}{f:Chunk→Chs} (hx:ev env x=some (.map (some bm))) (ht:P.underlying t=some (.map kt et)) [hb:HasObj own bm (mapG kv vv l c) f]
  (hk:∀ b,K (.pointer (some ⟨b,0,none⟩)) ro (.obj b (zCi bm c ([]:List (κ × ν × Nat)))::own)):OpOk P (.range t x) ty env ro own K :=
 ⟨fun h hs d pos af g=>⟨fun ρ w hρ hw=>by
  have hg:h[bm]?=some (.map (l.map (entG kv vv)).toArray c):=(hb.repl (.obj 0 default)).get hs
  subst hw
  have hrun:=run_range_map (P:=P) w t kt et bm _ c ht hg
  refine ⟨.pointer (some ⟨w.heap.size,0,none⟩),{ w with heap:=w.heap.push (.mapIter (some bm) c #[] c) },.inl ?_,⟨rfl,rfl,rfl,rfl⟩,?_⟩
  ·simp [execOp,hρ _ _ hx,hrun,Result.andThen]
  ·obtain ⟨n1,n2,n3⟩:=zBd w (.mapIter (some bm) c #[] c)
   exact ⟨ro,_,Le.refl _,hs.new (c':=.obj w.heap.size (zCi bm c ([]:List (κ × ν × Nat)))) n3 (by simp [Chunk.holds,hm,n2]) (by simp [Chunk.fp]) (by simp [Chunk.fp]),hk _⟩⟩⟩
theorem OpOk.nextG {x:Operand}{bi bm c:Nat}{l S:List (κ × ν × Nat)}{f g:Chunk→Chs} (hx:ev env x=some (.pointer (some ⟨bi,0,none⟩))) [hi:HasObj own bi (zCi bm c S) g] [hb:HasObj own bm (mapG kv vv l c) f] (hB:BornOk l c) (hS:∀ p∈S,p∈l)
  (hk0:(∀ p∈l,p∈S)→K (.tuple #[.bool false]) ro own) (hk1:∀ p∈l,p∉S→K (.tuple #[.bool true,kv p.1,vv p.2.1]) ro (g (.obj bi (zCi bm c (S++[p]))))):OpOk P (.next x false) ty env ro own K :=
 ⟨fun h hs d pos af gd=>⟨fun ρ w hρ hw=>by
  have hgi:h[bi]?=some (.mapIter (some bm) c (S.map (·.2.2)).toArray c):=(hi.repl (.obj 0 default)).get hs
  have hgm:h[bm]?=some (.map (l.map (entG kv vv)).toArray c):=(hb.repl (.obj 0 default)).get hs
  subst hw
  have hold:∀ e∈(l.map (entG kv vv)).toArray.toList,e.born<c:=fun e he=>by
   obtain ⟨p,hp,rfl⟩:=List.mem_map.1 (show e∈l.map (entG kv vv) from he)
   exact hB.lt p hp
  have hbn:∀ p∈l,p.2.2∈S.map (·.2.2)→p∈S:=fun p hp hm=>by
   obtain ⟨q,hq,e⟩:=List.mem_map.1 hm
   exact nodup_inj hB.nodup q (hS q hq) p hp e▸hq
  have hlt:bi<w.heap.size:=by
   rcases Nat.lt_or_ge bi w.heap.size with h|h
   ·exact h
   ·rw [Array.getElem?_eq_none h] at hgi;cases hgi
  have key:((∀ p∈l,p∈S)∧(Instr.next (.pointer (some ⟨bi,0,none⟩)) false ty).run P w=.ok (.tuple #[.bool false]) w) ∨
    ∃ p∈l,p∉S∧∃ w1:World,(w1=w∨w1=w.drew)∧(Instr.next (.pointer (some ⟨bi,0,none⟩)) false ty).run P w=.ok (.tuple #[.bool true,kv p.1,vv p.2.1]) { w1 with heap:=w1.heap.setIfInBounds bi (zCi bm c (S++[p])) }:=by
   simp only [Instr.next,getObj,Sem.run_bind,Sem.run,hgi,hgm,Result.andThen,next_test_false _ _ c c hold (Nat.le_refl _),Bool.false_eq_true,if_false]
   have hL:∀ e,e∈(Array.filter (fun e=>!(S.map (·.2.2)).toArray.contains e.born) (l.map (entG kv vv)).toArray).toList↔∃ p∈l,p∉S∧entG kv vv p=e:=fun e=>by
    simp only [Array.toList_filter,List.mem_filter,List.mem_map]
    constructor
    ·rintro ⟨⟨p,hp,rfl⟩,h2⟩
     refine ⟨p,hp,fun hm=>?_,rfl⟩
     simp [entG] at h2
     exact h2 p.1 p.2.1 hm
    ·rintro ⟨p,hp,hn,rfl⟩
     refine ⟨⟨p,hp,rfl⟩,?_⟩
     simp only [Bool.not_eq_true',List.contains_toArray,List.contains_iff_mem,Bool.eq_false_iff,ne_eq]
     exact fun hm=>hn (hbn p hp (by simpa [entG] using hm))
   generalize Array.filter (fun e=>!(S.map (·.2.2)).toArray.contains e.born) (l.map (entG kv vv)).toArray=L at hL ⊢
   have hLb:∀ e∈L.toList,e.born<c:=fun e he=>by
    obtain ⟨p,hp,_,rfl⟩:=(hL e).1 he
    exact hB.lt p hp
   have e1:L.filter (fun x=>decide (x.born<c))=L:=Array.filter_eq_self.2 (fun x hx=>by simpa using hLb x (by simpa using hx))
   have e2:L.filter (fun x=>decide (x.born ≥ c))=#[]:=by
    rw [Array.filter_eq_empty_iff]
    intro x hx
    have:=hLb x (by simpa using hx)
    simp
    omega
   simp only [e1,e2,Array.append_empty]
   by_cases h0:L.size=0
   ·left
    have:L=#[]:=Array.eq_empty_of_size_eq_zero h0
    subst this
    refine ⟨fun p hp=>Classical.byContradiction fun hn=>?_,?_⟩
    ·have:=(hL (entG kv vv p)).2 ⟨p,hp,hn,rfl⟩
     simp at this
    ·simp [choose,Sem.run,Question.forced]
   ·right
    have hne:L.isEmpty=false:=by simp [Array.isEmpty,h0]
    simp only [hne,Bool.false_eq_true,if_false,Array.empty_append,Array.size_map]
    have hch:∃ (j:Nat) (w1:World),j<L.size∧(w1=w∨w1=w.drew)∧(choose (Question.mapNext L.size)).run P w=.ok j w1:=by
     by_cases hf:L.size≤1
     ·exact ⟨0,w,by omega,.inl rfl,by simp [choose,Sem.run,Question.forced,hf]⟩
     ·exact ⟨_,w.drew,Nat.mod_lt _ (by omega),.inr rfl,by
       simp only [choose,Sem.run,Question.forced,decide_eq_true_eq,hf,if_false,Question.cut]
       rfl⟩
    obtain ⟨j,w1,hj,hal,hrun⟩:=hch
    obtain ⟨p,hp,hpn,hpe⟩:=(hL L[j]).1 (by simp)
    refine ⟨p,hp,hpn,w1,hal,?_⟩
    have hw1:w1.heap[bi]?=some (.mapIter (some bm) c (S.map (·.2.2)).toArray c):=by
     rcases hal with rfl|rfl
     ·exact hgi
     ·exact hgi
    have hset:∀ o':Obj,(setObj bi o').run P w1=.ok () { w1 with heap:=w1.heap.setIfInBounds bi o' }:=fun o'=>by
     simp only [setObj,Sem.run,hw1]
    simp only [hrun,Array.getElem?_map,Array.getElem?_eq_getElem hj,Option.map_some,Sem.run_bind,hset,Result.andThen,←hpe]
    simp [Sem.run,entG,zCi]
  rcases key with ⟨h1,h2⟩|⟨p,hp,hpn,w1,hal,hrun⟩
  ·exact ⟨.tuple #[.bool false],w,.inl (by simp [execOp,hρ _ _ hx,h2,Result.andThen]),Hp.self w,ro,own,Le.refl _,hs,hk0 h1⟩
  ·obtain ⟨r,p1,p2⟩:=(hi.repl (.obj bi (zCi bm c (S++[p])))).perm
   have hsat:=hs.perm p1
   have hw:w1.heap=w.heap:=by rcases hal with rfl|rfl<;>rfl
   refine ⟨.tuple #[.bool true,kv p.1,vv p.2.1],{ w1 with heap:=w1.heap.setIfInBounds bi (zCi bm c (S++[p])) },.inl (by simp [execOp,hρ _ _ hx,hrun,Result.andThen]),(by rcases hal with rfl|rfl<;>exact ⟨rfl,rfl,rfl,rfl⟩),ro,_,Le.refl _,(hsat.put (c':=.obj bi (zCi bm c (S++[p]))) (fun i _ hi=>?_) ?_ (fun k hk=>.inl hk) (by simp [Chunk.fp])).perm p2.symm,hk1 p hp hpn⟩
   ·have:bi≠i:=by simpa [Chunk.fp,eq_comm] using hi
    simp [Array.getElem?_setIfInBounds,this,hw]
   ·simp [Chunk.holds,hm,hlt,hw]⟩⟩
section
variable [DecidableEq κ] {ok:κ→Prop}
theorem OpOk.mapUpdateB {t kt et:TypeId}{x y z:Operand}{b c:Nat}{k:κ}{v:ν}{l:List (κ × ν × Nat)}{f:Chunk→Chs} (hx:ev env x=some (.map (some b))) (hy:ev env y=some (kv k)) (hz:ev env z=some (vv v)) (ht:P.underlying t=some (.map kt et))
  (E:KeyEnc P kt kv ok) (hmo:MapOk ok l) (hkk:ok k) [hb:HasObj own b (mapG kv vv l c) f] (hB:BornOk l c) (hk:∀ c',BornOk (putG l c k v) c'→K undef ro (f (.obj b (mapG kv vv (putG l c k v) c')))):OpOk P (.mapUpdate t x y z) ty env ro own K :=
 ⟨fun h hs d pos af g=>⟨fun ρ w hρ hw=>by
  have hg:h[b]?=some (.map (l.map (entG kv vv)).toArray c):=(hb.repl (.obj 0 default)).get hs
  subst hw
  have hc:=fun em=>E.check k hkk w em
  have hst:=E.stays k hkk w
  have key:∃ c',BornOk (putG l c k v) c'∧(execOp ρ ⟨d,.mapUpdate t x y z,ty,pos,af,g⟩).run P w=.ok .skip { w with heap:=w.heap.setIfInBounds b (mapG kv vv (putG l c k v) c') }:=by
   rcases E.find (vv:=vv) hmo hkk w with ⟨h1,h2,h3⟩|⟨j,q,h1,h2,h3,h4,h5⟩
   ·refine ⟨c+1,by rw [h3];exact hB.snoc k v,?_⟩
    have e:mapG kv vv (putG l c k v) (c+1)=.map ((l.map (entG kv vv)).toArray.push { key:=kv k,val:=vv v,born:=c }) (c+1):=by
     rw [h3];simp [mapG,entG]
    rw [e]
    simp [execOp,hρ _ _ hx,hρ _ _ hy,hρ _ _ hz,Instr.mapUpdate,run_underlying ht,MapKept.run_getObj_map hg,MapKept.run_setObj_map _ hg,hc,h1,Result.andThen]
   ·refine ⟨c,by rw [h5];exact hB.set h2 k v,?_⟩
    have hj:(l.map (entG kv vv)).toArray[j]?=some (entG kv vv q):=by simp [h2]
    have e:mapG kv vv (putG l c k v) c=.map ((l.map (entG kv vv)).toArray.modify j fun e=>{ e with key:=kv k,val:=vv v }) c:=by
     rw [h5]
     refine congrArg (fun z=>Obj.map z c) ?_
     apply Array.ext'
     rw [Array.toList_modify]
     apply List.ext_getElem?
     intro i
     by_cases hij:j=i
     ·subst hij
      have hlt:j<l.length:=(List.getElem?_eq_some_iff.1 h2).1
      have hq:=(List.getElem?_eq_some_iff.1 h2).2
      simp [List.getElem?_set,hlt,List.getElem?_modify,entG,hq]
     ·simp [List.getElem?_set,hij,List.getElem?_modify]
    rw [e]
    have hq:(entG kv vv q).key=kv k:=by rw [←h3];rfl
    simp [execOp,hρ _ _ hx,hρ _ _ hy,hρ _ _ hz,Instr.mapUpdate,run_underlying ht,MapKept.run_getObj_map hg,MapKept.run_setObj_map _ hg,hc,h1,Result.andThen,h2,hq,hst]
  obtain ⟨c',hBc,key⟩:=key
  obtain ⟨r,p1,p2⟩:=(hb.repl (.obj b (mapG kv vv (putG l c k v) c'))).perm
  have hsat:=hs.perm p1
  have hlt:b<w.heap.size:=by
   rcases Nat.lt_or_ge b w.heap.size with h|h
   ·exact h
   ·rw [Array.getElem?_eq_none h] at hg;cases hg
  refine ⟨undef,_,.inr ⟨key,rfl⟩,⟨rfl,rfl,rfl,rfl⟩,ro,_,Le.refl _,(hsat.put (c':=.obj b (mapG kv vv (putG l c k v) c')) (fun i _ hi=>?_) ?_ (fun k hk=>.inl hk) (by simp [Chunk.fp])).perm p2.symm,hk c' hBc⟩
  ·have:b≠i:=by simpa [Chunk.fp,eq_comm] using hi
   simp [Array.getElem?_setIfInBounds,this]
  ·simp [Chunk.holds,hm,hlt]⟩⟩
end
end
theorem zD8 {P:Program}{t:TypeId}{q:IntKind} (d:Nat) (hu:P.underlying t=some (.int q)) {z:Int} (hw:(Lit.int q z).wf=true):P.keyLits (d+1) t [.int q z]=some [.int q z]:=by
 unfold Program.keyLits
 rw [hu]
 dsimp only
 rw [if_pos ⟨rfl,hw⟩]
theorem zF9 {P:Program}{k e:TypeId}{q:IntKind} (d:Nat) (hk:P.underlying k=some (.array 2 e)) (he:P.underlying e=some (.int q)) (c1:P.cellsOf e=1) (c2:P.cellsOf k=2) {x y:Int} (hx:(Lit.int q x).wf=true) (hy:(Lit.int q y).wf=true) :
  P.keyLits (d+1+1) k [.int q x,.int q y]=some [.int q x,.int q y]:=by
 unfold Program.keyLits
 rw [hk]
 dsimp only
 rw [if_pos (by rw [c2];rfl),c1,show List.range 2=[0,1] from rfl]
 have e1:=zD8 d he hx
 have e2:=zD8 d he hy
 simp [List.mapM_cons,e1,e2]
theorem KeyEnc.two {P:Program}{k e:TypeId}{q:IntKind} (law:WideMaps.KeyLaw P k) (hkt:P.keyType k=true) (hp:0<P.types.size) (hk:P.underlying k=some (.array 2 e)) (he:P.underlying e=some (.int q)) (c1:P.cellsOf e=1) (c2:P.cellsOf k=2) :
  KeyEnc P k (fun p:Int × Int=>.agg #[.int q p.1,.int q p.2]) (fun p=>(Lit.int q p.1).wf=true∧(Lit.int q p.2).wf=true):=KeyEnc.ofLaw law
 (fun p h=>by
  obtain ⟨d,hd⟩:∃ d,P.types.size+1=d+1+1:=⟨P.types.size-1,by omega⟩
  have hl:=zF9 d hk he c1 c2 h.1 h.2
  rw [←hd] at hl
  unfold keyOf
  rw [hk]
  dsimp only
  rw [if_pos (by
   rw [Bool.and_eq_true]
   refine ⟨hkt,?_⟩
   unfold Value.formed
   rw [hk]
   dsimp only
   rw [c2];rfl)]
  rw [show (Value.agg #[.int q p.1,.int q p.2]).cells.toList=[.int q p.1,.int q p.2] from rfl,hl]
  exact ⟨_,rfl⟩)
 (fun a b h=>by
  obtain ⟨a1,a2⟩:=a
  obtain ⟨b1,b2⟩:=b
  simp at h
  rw [h.1,h.2])
section
variable {P:Program}{T:TT} [hT:TTab P T] {ty:TypeId}{env:Env}{ro:Ro}{own:Chs}{K:Value→Ro→Chs→Prop}
theorem Eff.appendFull {x y:Operand}{t e:TypeId}{i:TypeInfo}{z:Value}{size n m c2:Nat}{b:Addr}{a2:Option Addr}{xs news:List Value}{h:Heap}{d:Option Nat}{pos:String}{af:Array Edge}{g:Option (Nat × Bool)}
  (hx:ev env x=some (.slice (some b) n n)) (hy:ev env y=some (.slice a2 m c2)) (ht:P.underlying t=some (.slice e)) (hi:P.info? e=some i)
  (hz:i.zero=some z) (hsz:i.size=size) (hby:i.bytes≤1048576) (hzs:z.cells.size=size) (hpos:0<size) (hr:Rd h (.slice (some b) n n) n xs) (hs:Rd h (.slice a2 m c2) m news) (hlx:xs.length=n*size) (hl:news.length=m*size)
  (hm:0<m) (hle:n+m≤134217728) :
  Eff P ⟨d,.call { callee:=.builtin .append,args:=#[x,y],argTypes:=#[t,t] },ty,pos,af,g⟩ env h (fun v' h'=>Appended 0 e size (.slice none 0 0) (0+(n+m)) ([]++(xs++news)) h v' h'):=.mk fun ρ w hρ hw=>by
 subst hw
 have hbytes:(n+m)*i.bytes≤140737488355328:=Nat.le_trans (Nat.mul_le_mul hle hby) (by decide)
 have h63:n+m≤maxLen:=by unfold maxLen;omega
 have holds:∀ j u,xs[j]?=some u→w.cell? (b.add j)=some u:=fun j u hu=>by
  rcases hr with ⟨_,rfl,_⟩|⟨_,b',o,c,hv,_,_,_,hcs⟩
  ·simp at hu
  ·cases hv
   rw [Addr.add_mid,zCm];exact hcs j u hu
 obtain ⟨a,ha⟩:∃ a,a2=some a:=by
  rcases hs with ⟨h0,_⟩|⟨_,b',o,c,hv,_⟩
  ·omega
  ·cases hv;exact ⟨_,rfl⟩
 subst ha
 have hnews:∀ j u,news[j]?=some u→w.cell? (a.add j)=some u:=fun j u hu=>by
  rcases hs with ⟨_,rfl,_⟩|⟨_,b',o,c,hv,_,_,_,hcs⟩
  ·simp at hu
  ·cases hv
   rw [Addr.add_mid,zCm];exact hcs j u hu
 obtain ⟨v',w',hrun,hown,hgr⟩:=run_append_arg_grows (P:=P) w t ty e i z size i.bytes ht hi hz hsz rfl hzs hpos b n n xs hlx holds a m c2 news hl hnews (by omega) h63 hbytes
 have hrun':(execOp ρ ⟨d,.call { callee:=.builtin .append,args:=#[x,y],argTypes:=#[t,t] },ty,pos,af,g⟩).run P w=.ok (.value v') w':=by
  simp only [execOp,resolve,invoke,builtin,Sem.run_bind,Sem.run_pure,Result.andThen_ok]
  simp [hρ _ _ hx,hρ _ _ hy,hrun]
 have ho:Own w'.heap w.heap.size e size v' (n+m) (xs++news):=hown
 refine ⟨v',w',.inl hrun',⟨rfl,hgr.os,hgr.tape,hgr.output⟩,?_⟩
 rw [Nat.zero_add,List.nil_append]
 refine ⟨ho.mono (Nat.zero_le _),hgr.size,fun k hk _=>hgr.block k hk (fun e=>by cases e),fun hv=>?_,fun k hk=>.inr (ho.block hk).1⟩
 rcases ho.2 with ⟨_,h0⟩|⟨g',cap,cur,rfl,_⟩
 ·omega
 ·cases hv
theorem OpOk.appendFull {x y:Operand}{t t2 e:TypeId}{s:Nat}{a a2:Option Addr}{n c m c2:Nat}{cs ys:List Value} (hx:ev env x=some (.slice a n c)) (hy:ev env y=some (.slice a2 m c2)) (ht:zB6 T t=some (e,s)) (h2:Nat.beq t2 t=true)
  (hnc:c=n) (hr0:Rds ro own a n c s cs) (hr:Rds ro own a2 m c2 s ys) (h1:∀ u∈ys,u.oneCell'=true) (hm:0<m) (hle:n+m≤134217728)
  (hk:∀ a' c',n+m≤c'→c'≤maxLen→K (.slice a' (n+m) c') ro (.sl a' (n+m) c' e s (cs++ys)::own)):OpOk P (.call ⟨.builtin .append,#[x,y],#[t,t2]⟩) ty env ro own K:=by
 subst hnc
 have:=Nat.eq_of_beq_eq_true h2
 subst this
 have h00:=zAP ht
 clear ht
 obtain ⟨z1,z2,te,ht,he,rfl,hzs,hpos'⟩:=h00
 cases a with
 | none =>
   refine ⟨fun h hs d pos af g=>?_⟩
   have hrd:=hr0.run h hs
   have hc0:c=0∧cs=[]:=by
    rcases hrd with ⟨h0,h1,_⟩|⟨_,b',o,c',hv,_⟩
    ·exact ⟨h0,h1⟩
    ·cases hv
   obtain ⟨rfl,rfl⟩:=hc0
   exact (zCZ (n:=0) (cs:=[]) hx hy ht he hzs hpos' (Own.nil h 0 e te.size) (hr.run h hs) hr.len h1 (by omega)).mono (by
    intro v' h' ha
    have hs0:=hs.nilc e te.size
    obtain ⟨a',c',rfl,hs'⟩:=ha.sat (n:=0) (c:=0) hs0
    simp only [Nat.zero_add,List.nil_append] at hs' hk ⊢
    exact ⟨ro,_,Le.refl _,hs',hk a' c' hs'.cons.1.2.1 hs'.cons.1.2.2.1⟩)
 | some b =>
   obtain ⟨du,j,z,hi⟩:=tiOf.all (hT.ok.get he)
   exact ⟨fun h hs d pos af g=>(Eff.appendFull hx hy (hT.ok.slice ht) hi.info hi.zero hi.size.symm hi.bytes (by have:=hi.cells;rw [←hzs,this];simp) hpos' (hr0.run h hs) (hr.run h hs) hr0.len hr.len hm hle).mono (by
    intro v' h' ha
    have hs0:=hs.nilc e te.size
    obtain ⟨a',c',rfl,hs'⟩:=ha.sat (n:=0) (c:=0) hs0
    simp only [Nat.zero_add,List.nil_append] at hs' ⊢
    exact ⟨ro,_,Le.refl _,hs',hk a' c' hs'.cons.1.2.1 hs'.cons.1.2.2.1⟩)⟩
theorem OpOk.bytesOf {s t e:TypeId}{x:Operand}{l:List UInt8} (hx:ev env x=some (str l)) (hs:P.underlying s=some .string) (ht:P.underlying t=some (.slice e)) (he:P.underlying e=some (.int .u8)) (hl:l.length≤maxLen)
  (hk:∀ ro' b c,Le ro ro'→Rs ro' (some ⟨b,0,none⟩) l.length c 1 (l.map u8)→K (.slice (some ⟨b,0,none⟩) l.length c) ro' own):OpOk P (.convert s t x) ty env ro own K:=by
 refine ⟨fun g hg d pos af gd=>.mk fun ρ w hρ hw=>?_⟩
 subst hw
 obtain ⟨c,hc⟩:∃ c,c=grownCap w l.length 0 e:=⟨_,rfl⟩
 have hr:=run_bytes_of_string (P:=P) w s t e ⟨l.toArray⟩ hs ht he
 have hsz:(ByteArray.mk l.toArray).size=l.length:=by simp [ByteArray.size]
 rw [hsz,←hc] at hr
 have hcl:l.length≤c:=by rw [hc];exact grownCap_ge w l.length 0 e
 have hcm:c≤maxLen:=by rw [hc];exact grownCap_le_maxLen w l.length 0 e hl
 obtain ⟨R,hR⟩:∃ R,R=bytesRow ⟨l.toArray⟩ c:=⟨_,rfl⟩
 rw [←hR] at hr
 have hRl:R.toList=l.map u8++List.replicate (c-l.length) (.int .u8 0):=by
  rw [hR]
  simp only [bytesRow,hsz,Array.toList_append,Array.toList_map,Array.toList_replicate]
  rfl
 obtain ⟨w',hw'⟩:∃ w',w'=w.drew.alloc (.cells R e (R.size,R.size+1)):=⟨_,rfl⟩
 rw [←hw'] at hr
 have hheap:w'.heap=w.heap.push (.cells R e (R.size,R.size+1)):=by rw [hw'];rfl
 have hnew:w'.heap[w.heap.size]?=some (.cells R e (R.size,R.size+1)):=by rw [hheap];simp
 have hold:∀ j,j<w.heap.size→w'.heap[j]?=w.heap[j]?:=fun j hj=>by
  rw [hheap,Array.getElem?_push]
  rw [if_neg (by omega)]
 have hput:=hg.new (c':=.obj w.heap.size (.cells R e (R.size,R.size+1))) (h':=w'.heap) hold hnew (by simp [Chunk.fp]) (by simp [Chunk.fp])
 obtain ⟨ro',hle,hh,hs'⟩:=hput.freeze
 refine ⟨_,w',.inl ?_,⟨by rw [hw']<;>rfl,by rw [hw']<;>rfl,by rw [hw']<;>rfl,by rw [hw']<;>rfl⟩,ro',own,hle,hs',hk ro' w.heap.size c hle ⟨fun h own2 hsat=>?_,by simp,hcl,hcm⟩⟩
 ·simp only [execOp,hρ _ _ hx,Sem.run_bind]
  show Result.andThen ((convert s t (.string ⟨l.toArray⟩)).run P w) _=_
  rw [hr]
  simp
 ·have hb2:=hsat.last _ _ hh
  rcases Nat.eq_zero_or_pos l.length with h0|h0
  ·have:l=[]:=List.eq_nil_of_length_eq_zero h0
   subst this
   exact .inl ⟨rfl,rfl,_,_,rfl,hcm⟩
  ·refine .inr ⟨h0,w.heap.size,0,c,rfl,hcl,hcm,(Array.getElem?_eq_some_iff.1 hb2).1,fun j v hv=>?_⟩
   simp only [zB7,hb2,Nat.zero_add]
   rw [←Array.getElem?_toList,hRl]
   have hj:=(List.getElem?_eq_some_iff.1 hv).1
   rw [List.getElem?_append_left hj]
   exact hv
end
section
variable {κ ν:Type} [DecidableEq κ]
variable {P:Program}{T:TT} [hT:TTab P T] {ty:TypeId}{env:Env}{ro:Ro}{own:Chs}{K:Value→Prop}{kt:TypeId}{kv:κ→Value}{vv:ν→Value}{ok:κ→Prop}
theorem QOk.lookupOkG {t et:TypeId}{x y:Operand}{b c:Nat}{k:κ}{l:List (κ × ν × Nat)}{z:Value}{f:Chunk→Chs} (hx:ev env x=some (.map (some b))) (hy:ev env y=some (kv k)) (ht:P.underlying t=some (.map kt et))
  (E:KeyEnc P kt kv ok) (hmo:MapOk ok l) (hkk:ok k) (hz:(P.info? et).map (fun i=>i.zero)=some (some z)) [hb:HasObj own b (mapG kv vv l c) f] (hk:K (.tuple #[((getG l k).map vv).getD z,.bool (getG l k).isSome])):QOk P (.lookup t x y true) ty env ro own K :=
 QOk.pu (fun h hs d pos af g=>.mk fun ρ w hρ hw=>by
  have hg:h[b]?=some (.map (l.map (entG kv vv)).toArray c):=(hb.repl (.obj 0 default)).get hs
  subst hw
  obtain ⟨i,hi,hi2⟩:=Option.map_eq_some_iff.1 hz
  have hc:=fun em=>E.check k hkk w em
  rcases E.find (vv:=vv) hmo hkk w with ⟨h1,h2,h3⟩|⟨j,q,h1,h2,h3,h4,h5⟩
  ·rw [h2]
   simp [execOp,hρ _ _ hx,hρ _ _ hy,Instr.lookup,run_underlying ht,MapKept.run_getObj_map hg,hc,h1,zeroValue,typeInfo,hi,hi2,Result.andThen]
  ·rw [h4]
   simp [execOp,hρ _ _ hx,hρ _ _ hy,Instr.lookup,run_underlying ht,MapKept.run_getObj_map hg,hc,h1,Result.andThen]) hk
end
section
variable {P:Program}{T:TT} [hT:TTab P T] {ty:TypeId}{env:Env}{ro:Ro}{own:Chs}{K:Value→Ro→Chs→Prop}{κ ν:Type}{kv:κ→Value}{vv:ν→Value}
theorem OpOk.entryG {x:Operand}{bi bm c:Nat}{l S:List (κ × ν × Nat)}{p:κ × ν × Nat}{f g:Chunk→Chs} (hx:ev env x=some (.pointer (some ⟨bi,0,none⟩))) [hi:HasObj own bi (zCi bm c (S++[p])) g] [hb:HasObj own bm (mapG kv vv l c) f] (hB:BornOk l c) (hp:p∈l)
  (hk:K (.tuple #[kv p.1,vv p.2.1]) ro own):OpOk P (.entry x) ty env ro own K :=
 OpOk.pu (fun h hs d pos af gd=>.mk fun ρ w hρ hw=>by
  have hgi:h[bi]?=some (zCi bm c (S++[p])):=(hi.repl (.obj 0 default)).get hs
  have hgm:h[bm]?=some (.map (l.map (entG kv vv)).toArray c):=(hb.repl (.obj 0 default)).get hs
  subst hw
  have e:zCi bm c (S++[p])=.mapIter (some bm) c ((S.map (·.2.2)).toArray.push p.2.2) c:=by simp [zCi]
  rw [e] at hgi
  have hf:(l.map (entG kv vv)).toArray.find? (·.born == p.2.2)=some (entG kv vv p):=by
   rw [←Array.find?_toList]
   have hn:((l.map (entG kv vv)).map (·.born)).Nodup:=by
    rw [List.map_map]
    exact hB.nodup
   exact find_born (entG kv vv p) (l.map (entG kv vv)) hn (List.mem_map.2 ⟨p,hp,rfl⟩)
  simp only [execOp,hρ _ _ hx,Instr.entry,getObj,Sem.run_bind,Sem.run,hgi,hgm,Result.andThen,Array.back?_push,bne_self_eq_false,Bool.false_eq_true,if_false,hf]
  rfl) hk
end
section
variable {P:Program}{T:TT} [hT:TTab P T] {ty:TypeId}{env:Env}{ro:Ro}{own:Chs}{K:Value→Ro→Chs→Prop}{κ ν:Type} [DecidableEq κ] {kt:TypeId}{kv:κ→Value}{vv:ν→Value}{ok:κ→Prop}
theorem OpOk.mapPut {op:Op}{b c c':Nat}{l l':List (κ × ν × Nat)}{v:Value}{f:Chunk→Chs} [hb:HasObj own b (mapG kv vv l c) f]
  (hrun:∀ ρ w d pos af g,Agree env ρ→w.heap[b]?=some (.map (l.map (entG kv vv)).toArray c)→((execOp ρ ⟨d,op,ty,pos,af,g⟩).run P w=.ok (.value v) { w with heap:=w.heap.setIfInBounds b (mapG kv vv l' c') }∨((execOp ρ ⟨d,op,ty,pos,af,g⟩).run P w=.ok .skip { w with heap:=w.heap.setIfInBounds b (mapG kv vv l' c') }∧v=undef)))
  (hk:K v ro (f (.obj b (mapG kv vv l' c')))):OpOk P op ty env ro own K :=
 ⟨fun h hs d pos af g=>⟨fun ρ w hρ hw=>by
  have hg:h[b]?=some (.map (l.map (entG kv vv)).toArray c):=(hb.repl (.obj 0 default)).get hs
  subst hw
  have key:=hrun ρ w d pos af g hρ hg
  obtain ⟨r,p1,p2⟩:=(hb.repl (.obj b (mapG kv vv l' c'))).perm
  have hsat:=hs.perm p1
  have hlt:b<w.heap.size:=by
   rcases Nat.lt_or_ge b w.heap.size with h|h
   ·exact h
   ·rw [Array.getElem?_eq_none h] at hg;cases hg
  refine ⟨v,_,key,⟨rfl,rfl,rfl,rfl⟩,ro,_,Le.refl _,(hsat.put (c':=.obj b (mapG kv vv l' c')) (fun i _ hi=>?_) ?_ (fun k hk=>.inl hk) (by simp [Chunk.fp])).perm p2.symm,hk⟩
  ·have:b≠i:=by simpa [Chunk.fp,eq_comm] using hi
   simp [Array.getElem?_setIfInBounds,this]
  ·simp [Chunk.holds,hm,hlt]⟩⟩
theorem OpOk.mapEntryG {t et:TypeId}{x y:Operand}{b c:Nat}{k:κ}{z0:ν}{l:List (κ × ν × Nat)}{f:Chunk→Chs} (hx:ev env x=some (.map (some b))) (hy:ev env y=some (kv k)) (ht:P.underlying t=some (.map kt et))
  (E:KeyEnc P kt kv ok) (hmo:MapOk ok l) (hkk:ok k) (hz:(P.info? et).map (fun i=>i.zero)=some (some (vv z0))) [hb:HasObj own b (mapG kv vv l c) f]
  (hk0:getG l k=none→K (.tuple #[vv z0,.int .i64 (c:Int)]) ro (f (.obj b (mapG kv vv (l++[(k,z0,c)]) (c+1)))))
  (hk1:∀ (j:Nat) (q:κ × ν × Nat),l[j]?=some q→q.1=k→getG l k=some q.2.1→K (.tuple #[vv q.2.1,.int .i64 (q.2.2:Int)]) ro (f (.obj b (mapG kv vv l c)))):OpOk P (.mapEntry t x y) ty env ro own K:=by
 obtain ⟨i,hi,hi2⟩:=Option.map_eq_some_iff.1 hz
 cases hgl:getG l k with
 | none =>
   refine OpOk.mapPut (l:=l) (c:=c) (hb:=hb) (fun ρ w d pos af g hρ hg=>.inl ?_) (hk0 hgl)
   have hc:=fun em=>E.check k hkk w em
   rcases E.find (vv:=vv) hmo hkk w with ⟨h1,h2,h3⟩|⟨j,q,h1,h2,h3,h4,h5⟩
   ·have e:mapG kv vv (l++[(k,z0,c)]) (c+1)=.map ((l.map (entG kv vv)).toArray.push { key:=kv k,val:=vv z0,born:=c }) (c+1):=by
     simp [mapG,entG]
    rw [e]
    simp [execOp,hρ _ _ hx,hρ _ _ hy,Instr.mapEntry,run_underlying ht,MapKept.run_getObj_map hg,MapKept.run_setObj_map _ hg,hc,h1,zeroValue,typeInfo,hi,hi2,Result.andThen,goInt]
   ·rw [h4] at hgl;cases hgl
 | some v0 =>
   have hfind:∃ (j:Nat) (q:κ × ν × Nat),l[j]?=some q∧q.1=k∧getG l k=some q.2.1:=by
    by_cases hall:∀ p∈l,p.1≠k
    ·rw [(get_none hall).1] at hgl;cases hgl
    ·have:∃ p,p∈l∧p.1=k:=by
      refine Classical.byContradiction fun hn=>hall fun p hp hpk=>hn ⟨p,hp,hpk⟩
     obtain ⟨p,hp,hpk⟩:=this
     obtain ⟨j,hj⟩:=List.getElem?_of_mem hp
     exact ⟨j,p,hj,hpk,by rw [←hpk];exact (get_at hmo.nodup hj).1⟩
   obtain ⟨j,q,hj,hq,hgq⟩:=hfind
   refine OpOk.mapPut (l:=l) (c:=c) (hb:=hb) (fun ρ w d pos af g hρ hg=>.inl ?_) (hk1 j q hj hq hgq)
   have hc:=fun em=>E.check k hkk w em
   have hst:=E.stays k hkk w
   rcases E.find (vv:=vv) hmo hkk w with ⟨h1,h2,h3⟩|⟨j2,q2,h1,h2,h3,h4,h5⟩
   ·rw [h2] at hgq;cases hgq
   ·have hjj:j2=j:=by
     have hn:=hmo.nodup
     have a1:(l.map (·.1))[j2]?=some k:=by rw [List.getElem?_map,h2];exact congrArg some h3
     have a2:(l.map (·.1))[j]?=some k:=by rw [List.getElem?_map,hj];exact congrArg some hq
     exact (List.getElem?_inj (List.getElem?_eq_some_iff.1 a1).1 hn).1 (a1.trans a2.symm)
    subst hjj
    rw [h2] at hj;cases hj
    have hje:(l.map (entG kv vv)).toArray[j2]?=some (entG kv vv q):=by simp [h2]
    have hsame:(l.map (entG kv vv)).modify j2 (fun e=>{ e with key:=kv k })=l.map (entG kv vv):=by
     apply List.ext_getElem?
     intro i
     by_cases hij:j2=i
     ·subst hij
      simp [List.getElem?_modify,entG,h2,hq]
     ·simp [hij,List.getElem?_modify]
    have hqk:(entG kv vv q).key=kv k:=by rw [←hq];rfl
    have hqb:(entG kv vv q).born=q.2.2:=rfl
    have e:mapG kv vv l c=.map (l.map (entG kv vv)).toArray c:=rfl
    rw [e]
    simp [execOp,hρ _ _ hx,hρ _ _ hy,Instr.mapEntry,run_underlying ht,MapKept.run_getObj_map hg,MapKept.run_setObj_map _ hg,hc,h1,hje,hqk,hst,hqb,hsame,Result.andThen,goInt,h2]
theorem OpOk.entryStoreG {t:TypeId}{x y z:Operand}{b c j st:Nat}{v:ν}{l:List (κ × ν × Nat)}{q:κ × ν × Nat}{f:Chunk→Chs} (hx:ev env x=some (.map (some b))) (hy:ev env y=some (.int .i64 (st:Int))) (hz:ev env z=some (vv v))
  (hB:BornOk l c) (hj:l[j]?=some q) (hst:st=q.2.2) [hb:HasObj own b (mapG kv vv l c) f]
  (hk:K undef ro (f (.obj b (mapG kv vv (l.set j (q.1,v,q.2.2)) c)))):OpOk P (.entryStore t x y z) ty env ro own K:=by
 refine OpOk.mapPut (l:=l) (c:=c) (hb:=hb) (fun ρ w d pos af g hρ hg=>.inr ⟨?_,rfl⟩) hk
 subst hst
 have hn:((l.map (entG kv vv)).map (·.born)).Nodup:=by
  rw [List.map_map]
  exact hB.nodup
 have hje:(l.map (entG kv vv))[j]?=some (entG kv vv q):=by rw [List.getElem?_map,hj];rfl
 have hidx:(l.map (entG kv vv)).toArray.findIdx? (fun e=>((e.born:Nat):Int) == ((q.2.2:Nat):Int))=some j:=by
  rw [WideElems.findIdx_arr]
  exact WideElems.findIdx_born hn hje
 have e:mapG kv vv (l.set j (q.1,v,q.2.2)) c=.map ((l.map (entG kv vv)).toArray.modify j fun e=>{ e with val:=vv v }) c:=by
  refine congrArg (fun z=>Obj.map z c) ?_
  apply Array.ext'
  rw [Array.toList_modify]
  apply List.ext_getElem?
  intro i
  by_cases hij:j=i
  ·subst hij
   have hlt:j<l.length:=(List.getElem?_eq_some_iff.1 hj).1
   have hq:=(List.getElem?_eq_some_iff.1 hj).2
   simp [List.getElem?_set,hlt,List.getElem?_modify,entG,hq]
  ·simp [List.getElem?_set,hij,List.getElem?_modify]
 rw [e]
 simp [execOp,hρ _ _ hx,hρ _ _ hy,hρ _ _ hz,Instr.entryStore,asInt,asIntOf,MapKept.run_getObj_map hg,MapKept.run_setObj_map _ hg,hidx,Result.andThen]
end
def zH0 (d k:Nat) (l:List Oper):List Oper→Nat→List Tk
 | [],_=>[]
 | _::f,i=>bif Nat.blt i k then .look i::zH0 d k l f (i+1) else .rest (foOf l d (Nat.sub (Nat.pow 2 k) 1))::looks f
theorem CodeOk.drawnK (dd n:Nat) {P:Program}{T:TT} [hT:TTab P T] {env:Env}{ro:Ro}{own:Chs}{id:Nat}{l:List Oper}{k:Exit→Kt}{plan:List Tk} (_hnf:NfT (zH0 dd n l l 0) plan) (hm:P.follows .mixedOrders=true) (hns:Region.noSelect l.toArray=true) (hlen:Nat.beq plan.length l.length=true) (hp:zBS l.toArray plan (Array.replicate l.length false)=true)
  (hv:nextB plan (vH P T l plan []) (k .normal) env ro own):CodeOk P (.region id l.toArray true) k env ro own:=CodeOk.drawn _ hm hns hlen hp hv
theorem vFo.leafK {P:Program}{T:TT}{all:List Oper}{B:Chs}{Φ:Kt}{env:Env}{ro:Ro}{own:Chs} (h:Φ env ro own):vFo P T all B Φ .leaf env ro own:=h
theorem AllOk.keepK {P:Program}{T:TT}{all:List Oper}{B:Chs}{fo:Fo}{env:Env}{ro:Ro}{own:Chs}{k:Kt}{ι:Type} (f:ι→Env) (O:ι→Chs) (I:ι→Ro→Prop)
  (h:vFo P T all B (fun env' ro' own'=>∃ i,I i ro'∧Sub (f i++env) env'∧Sup own' (O i)) fo env ro own) (hk:∀ i ro',Le ro ro'→I i ro'→k (f i++env) ro' (O i)):AllOk (fun Φ=>vFo P T all B Φ fo env ro own) k ro :=
 ⟨_,h,fun _ ro' _ hl ⟨i,h3,h1,h2⟩=>⟨f i++env,O i,fun t v hv=>h1.look hv,h2,hk i ro' hl h3⟩⟩
section
variable {P:Program}{T:TT} [hT:TTab P T] {ty:TypeId}{env:Env}{ro:Ro}{own:Chs}{K:Value→Ro→Chs→Prop}{κ ν:Type}{kv:κ→Value}{vv:ν→Value}
inductive HasMo (kv:κ→Value) (vv:ν→Value) (own:Chs):Option Nat→List (κ × ν × Nat)→Nat→Prop
 | nil:HasMo kv vv own none [] 0
 | some {b c:Nat}{l:List (κ × ν × Nat)}{f:Chunk→Chs} (h:HasObj own b (mapG kv vv l c) f):HasMo kv vv own (some b) l c
def moC (kv:κ→Value) (vv:ν→Value) (mo:Option Nat) (l:List (κ × ν × Nat)) (c:Nat):Chs:=match mo with
 | none=>[]
 | some b=>[.obj b (mapG kv vv l c)]
def MoOk (mo:Option Nat) (l:List (κ × ν × Nat)) (c:Nat):Prop:=mo=none→l=[]∧c=0
theorem HasMo.here {mo:Option Nat}{l:List (κ × ν × Nat)}{c:Nat}{G:Chs} (h:MoOk mo l c):HasMo kv vv (moC kv vv mo l c++G) mo l c:=by
 cases mo with
 | none=>obtain ⟨rfl,rfl⟩:=h rfl;exact .nil
 | some b=>exact .some (f:=fun x=>x::G) (show HasObj (.obj b _::G) b _ _ from inferInstance)
theorem HasMo.miss {mo:Option Nat}{l:List (κ × ν × Nat)}{c:Nat}{x:Chunk} (h:HasMo kv vv own mo l c):HasMo kv vv (x::own) mo l c:=by
 cases h with
 | nil=>exact .nil
 | some h=>exact .some (h:=HasObj.miss x _ _ _ _ (h:=h))
theorem HasMo.app {mo:Option Nat}{l:List (κ × ν × Nat)}{c:Nat}:∀ {G:Chs},HasMo kv vv own mo l c→HasMo kv vv (G++own) mo l c
 | [],h=>h
 | x::G,h=>(HasMo.app (G:=G) h).miss
theorem HasMo.last {mo:Option Nat}{l:List (κ × ν × Nat)}{c:Nat}{G:Chs} (h:MoOk mo l c):HasMo kv vv (G++moC kv vv mo l c) mo l c:=by
 have:=HasMo.here (kv:=kv) (vv:=vv) (G:=[]) h
 rw [List.append_nil] at this
 exact this.app
theorem CallOk.swap {P:Program}{q:FuncId}{args:Array Value}{own own2:Chs} (p:own.Perm own2) (h:CallOk P q args ro own2 (fun v ro' o=>o=own2∧K v ro' own)):CallOk P q args ro own K :=
 h.post (fun _ hs=>hs.perm p) (fun v ro' own' h' hl hs hK=>⟨ro',own,hl,by obtain ⟨e,_⟩:=hK;subst e;exact hs.perm p.symm,hK.2⟩)
variable [DecidableEq κ] {ok:κ→Prop}
theorem OpOk.lookupOkM {t kt et:TypeId}{x y:Operand}{mo:Option Nat}{c:Nat}{k:κ}{l:List (κ × ν × Nat)}{z:Value} (hx:ev env x=some (.map mo)) (hy:ev env y=some (kv k)) (ht:P.underlying t=some (.map kt et))
  (E:KeyEnc P kt kv ok) (hmo:MapOk ok l) (hkk:ok k) (hz:(P.info? et).map (fun i=>i.zero)=some (some z)) (hb:HasMo kv vv own mo l c) (hk:K (.tuple #[((getG l k).map vv).getD z,.bool (getG l k).isSome]) ro own):OpOk P (.lookup t x y true) ty env ro own K:=by
 cases hb with
 | some h=>exact OpOk.lookupOkG (hb:=h) hx hy ht E hmo hkk hz hk
 | nil =>
   refine OpOk.pu (fun h hs d pos af g=>.mk fun ρ w hρ hw=>?_) hk
   obtain ⟨i,hi,hi2⟩:=Option.map_eq_some_iff.1 hz
   have hc:=fun em=>E.check k hkk w em
   rcases E.find (vv:=vv) hmo hkk w with ⟨h1,h2,h3⟩|⟨j,q,h1,h2,h3,h4,h5⟩
   ·rw [h2]
    simp at h1
    simp [execOp,hρ _ _ hx,hρ _ _ hy,Instr.lookup,run_underlying ht,hc,h1,zeroValue,typeInfo,hi,hi2,Result.andThen]
   ·simp at h2
abbrev zHL (mo:Option Nat) (c:Nat) (S:List (κ × ν × Nat)):Obj:=match mo with
 | none=>.mapIter none 0 #[] 0
 | some bm=>zCi bm c S
theorem OpOk.rangeM {t kt et:TypeId}{x:Operand}{mo:Option Nat}{c:Nat}{l:List (κ × ν × Nat)} (hx:ev env x=some (.map mo)) (ht:P.underlying t=some (.map kt et)) (hb:HasMo kv vv own mo l c)
  (hk:∀ b,K (.pointer (some ⟨b,0,none⟩)) ro (.obj b (zHL mo c ([]:List (κ × ν × Nat)))::own)):OpOk P (.range t x) ty env ro own K:=by
 cases hb with
 | some h=>exact OpOk.rangeG (hb:=h) hx ht hk
 | nil =>
   exact ⟨fun h hs d pos af g=>⟨fun ρ w hρ hw=>by
    subst hw
    refine ⟨.pointer (some ⟨w.heap.size,0,none⟩),{ w with heap:=w.heap.push (.mapIter none 0 #[] 0) },.inl ?_,⟨rfl,rfl,rfl,rfl⟩,?_⟩
    ·simp [execOp,hρ _ _ hx,Instr.range,run_underlying ht,Result.andThen,newObj,Sem.run]
    ·obtain ⟨n1,n2,n3⟩:=zBd w (.mapIter none 0 #[] 0)
     exact ⟨ro,_,Le.refl _,hs.new (c':=.obj w.heap.size (.mapIter none 0 #[] 0)) n3 (by simp [Chunk.holds,hm,n2]) (by simp [Chunk.fp]) (by simp [Chunk.fp]),hk _⟩⟩⟩
theorem OpOk.nextM {x:Operand}{bi c:Nat}{mo:Option Nat}{l S:List (κ × ν × Nat)}{g:Chunk→Chs} (hx:ev env x=some (.pointer (some ⟨bi,0,none⟩))) [hi:HasObj own bi (zHL mo c S) g] (hb:HasMo kv vv own mo l c) (hB:BornOk l c) (hS:∀ p∈S,p∈l)
  (hk0:(∀ p∈l,p∈S)→K (.tuple #[.bool false]) ro own) (hk1:∀ p∈l,p∉S→K (.tuple #[.bool true,kv p.1,vv p.2.1]) ro (g (.obj bi (zHL mo c (S++[p]))))):OpOk P (.next x false) ty env ro own K:=by
 cases hb with
 | some h=>exact OpOk.nextG (hb:=h) (hi:=hi) hx hB hS hk0 hk1
 | nil =>
   exact OpOk.pu (fun h hs d pos af gd=>.mk fun ρ w hρ hw=>by
    have hgi:h[bi]?=some (.mapIter none 0 #[] 0):=(hi.repl (.obj 0 default)).get hs
    subst hw
    simp [execOp,hρ _ _ hx,Instr.next,getObj,Sem.run,hgi,Result.andThen]) (hk0 (fun p hp=>by cases hp))
theorem OpOk.entryM {x:Operand}{bi c:Nat}{mo:Option Nat}{l S:List (κ × ν × Nat)}{p:κ × ν × Nat}{g:Chunk→Chs} (hx:ev env x=some (.pointer (some ⟨bi,0,none⟩))) [hi:HasObj own bi (zHL mo c (S++[p])) g] (hb:HasMo kv vv own mo l c) (hB:BornOk l c) (hp:p∈l)
  (hk:K (.tuple #[kv p.1,vv p.2.1]) ro own):OpOk P (.entry x) ty env ro own K:=by
 cases hb with
 | some h=>exact OpOk.entryG (hb:=h) (hi:=hi) hx hB hp hk
 | nil=>cases hp
end
end Go.E
end
section
namespace Go.Proofs.YtnapjcnfgdkmcaaGreatDoor
open Go Go.E
def T:TT:=[
 (2,⟨ .int .i64,1,[.int .i64 0]⟩),
 (3,⟨ .int .i64,1,[.int .i64 0]⟩),
 (4,⟨ .bool,1,[.bool false]⟩),
 (5,⟨ .int .u8,1,[.int .u8 0]⟩),
 (9,⟨ .str,1,[str []]⟩),
 (12,⟨ .int .u64,1,[.int .u64 0]⟩),
 (13,⟨ .struct [(9,0,1),(12,1,1)],2,[str [],.int .u64 0]⟩),
 (15,⟨ .ptr 237,1,[.pointer none]⟩),
 (16,⟨ .ptr 240,1,[.pointer none]⟩),
 (19,⟨ .struct [(17,0,1)],1,[.pointer none]⟩),
 (21,⟨ .int .i32,1,[.int .i32 0]⟩),
 (22,⟨ .slice 40,1,[.slice none 0 0]⟩),
 (23,⟨ .slice 44,1,[.slice none 0 0]⟩),
 (24,⟨ .struct [(22,0,1),(23,1,1)],2,[.slice none 0 0,.slice none 0 0]⟩),
 (25,⟨ .struct [(22,0,1),(23,1,1)],2,[.slice none 0 0,.slice none 0 0]⟩),
 (28,⟨ .int .i64,1,[.int .i64 0]⟩),
 (31,⟨ .slice 3,1,[.slice none 0 0]⟩),
 (33,⟨ .int .u64,1,[.int .u64 0]⟩),
 (34,⟨ .struct [(9,0,1),(33,1,1),(33,2,1)],3,[str [],.int .u64 0,.int .u64 0]⟩),
 (35,⟨ .struct [(9,0,1),(33,1,1),(33,2,1)],3,[str [],.int .u64 0,.int .u64 0]⟩),
 (36,⟨ .slice 4,1,[.slice none 0 0]⟩),
 (37,⟨ .slice 47,1,[.slice none 0 0]⟩),
 (38,⟨ .slice 97,1,[.slice none 0 0]⟩),
 (39,⟨ .struct [(3,0,1),(3,1,1),(4,2,1),(4,3,1),(4,4,1),(33,5,1),(33,6,1),(9,7,1),(35,8,3),(31,11,1),(36,12,1),(37,13,1),(9,14,1),(33,15,1),(38,16,1),(3,17,1)],18,[.int .i64 0,.int .i64 0,.bool false,.bool false,.bool false,.int .u64 0,.int .u64 0,str [],str [],.int .u64 0,.int .u64 0,.slice none 0 0,.slice none 0 0,.slice none 0 0,str [],.int .u64 0,.slice none 0 0,.int .i64 0]⟩),
 (40,⟨ .struct [(3,0,1),(3,1,1),(4,2,1),(4,3,1),(4,4,1),(33,5,1),(33,6,1),(9,7,1),(35,8,3),(31,11,1),(36,12,1),(37,13,1),(9,14,1),(33,15,1),(38,16,1),(3,17,1)],18,[.int .i64 0,.int .i64 0,.bool false,.bool false,.bool false,.int .u64 0,.int .u64 0,str [],str [],.int .u64 0,.int .u64 0,.slice none 0 0,.slice none 0 0,.slice none 0 0,str [],.int .u64 0,.slice none 0 0,.int .i64 0]⟩),
 (43,⟨ .struct [(9,0,1),(3,1,1)],2,[str [],.int .i64 0]⟩),
 (44,⟨ .struct [(9,0,1),(3,1,1)],2,[str [],.int .i64 0]⟩),
 (46,⟨ .struct [(9,0,1),(3,1,1),(3,2,1),(9,3,1),(9,4,1)],5,[str [],.int .i64 0,.int .i64 0,str [],str []]⟩),
 (47,⟨ .struct [(9,0,1),(3,1,1),(3,2,1),(9,3,1),(9,4,1)],5,[str [],.int .i64 0,.int .i64 0,str [],str []]⟩),
 (53,⟨ .map 3 9,1,[.map none]⟩),
 (57,⟨ .struct [(28,0,1),(3,1,1)],2,[.int .i64 0,.int .i64 0]⟩),
 (58,⟨ .struct [(28,0,1),(3,1,1)],2,[.int .i64 0,.int .i64 0]⟩),
 (66,⟨ .slice 70,1,[.slice none 0 0]⟩),
 (69,⟨ .struct [(3,0,1),(3,1,1),(3,2,1)],3,[.int .i64 0,.int .i64 0,.int .i64 0]⟩),
 (70,⟨ .struct [(3,0,1),(3,1,1),(3,2,1)],3,[.int .i64 0,.int .i64 0,.int .i64 0]⟩),
 (75,⟨ .map 78 3,1,[.map none]⟩),
 (78,⟨ .arr 2 3,2,[.int .i64 0,.int .i64 0]⟩),
 (79,⟨ .slice 81,1,[.slice none 0 0]⟩),
 (81,⟨ .arr 3 3,3,[.int .i64 0,.int .i64 0,.int .i64 0]⟩),
 (82,⟨ .map 3 4,1,[.map none]⟩),
 (86,⟨ .ptr 92,1,[.pointer none]⟩),
 (87,⟨ .ptr 90,1,[.pointer none]⟩),
 (88,⟨ .slice 5,1,[.slice none 0 0]⟩),
 (89,⟨ .struct [(87,0,1),(88,1,1)],2,[.pointer none,.slice none 0 0]⟩),
 (90,⟨ .struct [(87,0,1),(88,1,1)],2,[.pointer none,.slice none 0 0]⟩),
 (91,⟨ .struct [(90,0,2),(25,2,2)],4,[.pointer none,.slice none 0 0,.slice none 0 0,.slice none 0 0]⟩),
 (92,⟨ .struct [(90,0,2),(25,2,2)],4,[.pointer none,.slice none 0 0,.slice none 0 0,.slice none 0 0]⟩),
 (96,⟨ .struct [(33,0,1),(3,1,1)],2,[.int .u64 0,.int .i64 0]⟩),
 (97,⟨ .struct [(33,0,1),(3,1,1)],2,[.int .u64 0,.int .i64 0]⟩),
 (102,⟨ .slice 111,1,[.slice none 0 0]⟩),
 (105,⟨ .ptr 109,1,[.pointer none]⟩),
 (106,⟨ .struct [(25,0,2)],2,[.slice none 0 0,.slice none 0 0]⟩),
 (107,⟨ .struct [(25,0,2)],2,[.slice none 0 0,.slice none 0 0]⟩),
 (108,⟨ .struct [(102,0,1),(3,1,1),(107,2,2),(58,4,2)],6,[.slice none 0 0,.int .i64 0,.slice none 0 0,.slice none 0 0,.int .i64 0,.int .i64 0]⟩),
 (109,⟨ .struct [(102,0,1),(3,1,1),(107,2,2),(58,4,2)],6,[.slice none 0 0,.int .i64 0,.slice none 0 0,.slice none 0 0,.int .i64 0,.int .i64 0]⟩),
 (110,⟨ .struct [(3,0,1),(3,1,1),(9,2,1)],3,[.int .i64 0,.int .i64 0,str []]⟩),
 (111,⟨ .struct [(3,0,1),(3,1,1),(9,2,1)],3,[.int .i64 0,.int .i64 0,str []]⟩),
 (116,⟨ .slice 9,1,[.slice none 0 0]⟩),
 (121,⟨ .ptr 138,1,[.pointer none]⟩),
 (124,⟨ .ptr 127,1,[.pointer none]⟩),
 (125,⟨ .map 9 3,1,[.map none]⟩),
 (126,⟨ .struct [(25,0,2),(125,2,1)],3,[.slice none 0 0,.slice none 0 0,.map none]⟩),
 (127,⟨ .struct [(25,0,2),(125,2,1)],3,[.slice none 0 0,.slice none 0 0,.map none]⟩),
 (130,⟨ .map 9 132,1,[.map none]⟩),
 (131,⟨ .struct [(3,0,1),(3,1,1)],2,[.int .i64 0,.int .i64 0]⟩),
 (132,⟨ .struct [(3,0,1),(3,1,1)],2,[.int .i64 0,.int .i64 0]⟩),
 (136,⟨ .map 3 70,1,[.map none]⟩),
 (137,⟨ .struct [(25,0,2),(136,2,1)],3,[.slice none 0 0,.slice none 0 0,.map none]⟩),
 (138,⟨ .struct [(25,0,2),(136,2,1)],3,[.slice none 0 0,.slice none 0 0,.map none]⟩),
 (142,⟨ .ptr 5,1,[.pointer none]⟩),
 (147,⟨ .arr 20 5,20,[.int .u8 0,.int .u8 0,.int .u8 0,.int .u8 0,.int .u8 0,.int .u8 0,.int .u8 0,.int .u8 0,.int .u8 0,.int .u8 0,.int .u8 0,.int .u8 0,.int .u8 0,.int .u8 0,.int .u8 0,.int .u8 0,.int .u8 0,.int .u8 0,.int .u8 0,.int .u8 0]⟩),
 (148,⟨ .ptr 150,1,[.pointer none]⟩),
 (149,⟨ .struct [(9,0,1),(3,1,1),(102,2,1)],3,[str [],.int .i64 0,.slice none 0 0]⟩),
 (150,⟨ .struct [(9,0,1),(3,1,1),(102,2,1)],3,[str [],.int .i64 0,.slice none 0 0]⟩),
 (157,⟨ .ptr 107,1,[.pointer none]⟩),
 (163,⟨ .map 4 9,1,[.map none]⟩),
 (164,⟨ .int .u64,1,[.int .u64 0]⟩),
 (173,⟨ .slice 176,1,[.slice none 0 0]⟩),
 (174,⟨ .arr 2 9,2,[str [],str []]⟩),
 (175,⟨ .struct [(9,0,1),(3,1,1),(3,2,1),(4,3,1)],4,[str [],.int .i64 0,.int .i64 0,.bool false]⟩),
 (176,⟨ .struct [(9,0,1),(3,1,1),(3,2,1),(4,3,1)],4,[str [],.int .i64 0,.int .i64 0,.bool false]⟩),
 (180,⟨ .int .u32,1,[.int .u32 0]⟩),
 (185,⟨ .arr 24 5,24,[.int .u8 0,.int .u8 0,.int .u8 0,.int .u8 0,.int .u8 0,.int .u8 0,.int .u8 0,.int .u8 0,.int .u8 0,.int .u8 0,.int .u8 0,.int .u8 0,.int .u8 0,.int .u8 0,.int .u8 0,.int .u8 0,.int .u8 0,.int .u8 0,.int .u8 0,.int .u8 0,.int .u8 0,.int .u8 0,.int .u8 0,.int .u8 0]⟩),
 (190,⟨ .arr 256 5,256,List.replicate 256 (.int .u8 0)⟩),
 (204,⟨ .arr 20 33,20,[.int .u64 0,.int .u64 0,.int .u64 0,.int .u64 0,.int .u64 0,.int .u64 0,.int .u64 0,.int .u64 0,.int .u64 0,.int .u64 0,.int .u64 0,.int .u64 0,.int .u64 0,.int .u64 0,.int .u64 0,.int .u64 0,.int .u64 0,.int .u64 0,.int .u64 0,.int .u64 0]⟩),
 (205,⟨ .arr 65 5,65,List.replicate 65 (.int .u8 0)⟩),
 (207,⟨ .slice 209,1,[.slice none 0 0]⟩),
 (208,⟨ .struct [(3,0,1),(3,1,1)],2,[.int .i64 0,.int .i64 0]⟩),
 (209,⟨ .struct [(3,0,1),(3,1,1)],2,[.int .i64 0,.int .i64 0]⟩),
 (211,⟨ .ptr 218,1,[.pointer none]⟩),
 (215,⟨ .slice 221,1,[.slice none 0 0]⟩),
 (216,⟨ .slice 224,1,[.slice none 0 0]⟩),
 (217,⟨ .struct [(215,0,1),(216,1,1),(3,2,1)],3,[.slice none 0 0,.slice none 0 0,.int .i64 0]⟩),
 (218,⟨ .struct [(215,0,1),(216,1,1),(3,2,1)],3,[.slice none 0 0,.slice none 0 0,.int .i64 0]⟩),
 (219,⟨ .int .u16,1,[.int .u16 0]⟩),
 (220,⟨ .struct [(219,0,1),(219,1,1),(219,2,1)],3,[.int .u16 0,.int .u16 0,.int .u16 0]⟩),
 (221,⟨ .struct [(219,0,1),(219,1,1),(219,2,1)],3,[.int .u16 0,.int .u16 0,.int .u16 0]⟩),
 (223,⟨ .struct [(180,0,1),(180,1,1),(180,2,1)],3,[.int .u32 0,.int .u32 0,.int .u32 0]⟩),
 (224,⟨ .struct [(180,0,1),(180,1,1),(180,2,1)],3,[.int .u32 0,.int .u32 0,.int .u32 0]⟩),
 (228,⟨ .arr 32 5,32,[.int .u8 0,.int .u8 0,.int .u8 0,.int .u8 0,.int .u8 0,.int .u8 0,.int .u8 0,.int .u8 0,.int .u8 0,.int .u8 0,.int .u8 0,.int .u8 0,.int .u8 0,.int .u8 0,.int .u8 0,.int .u8 0,.int .u8 0,.int .u8 0,.int .u8 0,.int .u8 0,.int .u8 0,.int .u8 0,.int .u8 0,.int .u8 0,.int .u8 0,.int .u8 0,.int .u8 0,.int .u8 0,.int .u8 0,.int .u8 0,.int .u8 0,.int .u8 0]⟩),
 (229,⟨ .arr 64 5,64,List.replicate 64 (.int .u8 0)⟩),
 (230,⟨ .ptr 221,1,[.pointer none]⟩),
 (231,⟨ .ptr 224,1,[.pointer none]⟩),
 (238,⟨ .arr 0 16,0,[]⟩),
 (239,⟨ .struct [(238,0,0)],0,[]⟩)]
set_option maxRecDepth 100000 in
theorem T_ok:TOk Tryz.prog T:=by
 repeat (first|exact trivial|refine ⟨by kernel_rfl,?_⟩)
instance T_tab:TTab Tryz.prog T:=⟨T_ok⟩
end Go.Proofs.YtnapjcnfgdkmcaaGreatDoor
end
section
namespace Go.E
open Go
section
variable {P:Program}{T:TT} [hT:TTab P T]
theorem CodeOk.scope {a:Code}{k:Exit→Kt}{env:Env}{ro:Ro}{own:Chs} (hv:V P T a (fun e=>match e with
  | .goto _=>fun _ _ _=>False
  | e=>k e) env ro own):CodeOk P (.scope a) k env ro own :=
 ⟨fun n σ Q hok hk h hs a' w hf hw=>wp_scope_straight ((zCo hT.ok hv).run n σ (Exit.noGoto Q) (by simpa [okS] using hok) (fun e env' ro' own' D h' hl hk' hs' hm=>by
  cases e<;>first|exact hk'.elim|exact fun a2 w2 hf2 hw2=>hk _ env' ro' own' D h' hl hk' hs' hm a2 w2 hf2 hw2) h hs a' w hf hw)⟩
end
end Go.E
namespace Go.Proofs.YtnapjcnfgdkmcaaGreatDoor
open Go Go.E
def letB (u:UInt8):Bool:=(decide (97≤u.toNat)&&decide (u.toNat≤122))||(decide (65≤u.toNat)&&decide (u.toNat≤90))||decide (u.toNat=95)
def digB (u:UInt8):Bool:=decide (48≤u.toNat)&&decide (u.toNat≤57)
def nlB (u:UInt8):Bool:=decide (u.toNat≠10)
def zBn (u:UInt8):Bool:=letB u||digB u
def patB (u:UInt8):Bool:=decide (u.toNat≠47)&&(decide (32≤u.toNat)&&decide (u.toNat<127))
def zEl (f:FuncId) (S:UInt8→Bool):Prop:=∀ (u:UInt8) (ro:Ro) (own:Chs) (K:Value→Ro→Chs→Prop),K (.bool (S u)) ro own→CallOk Tryz.prog f #[.int .u8 ((u.toNat:Nat):Int)] ro own K
theorem zEV:zEl 105 letB:=fun u ro own K hk=>by
 have hu:=u.toNat_lt
 have hl:letB u=((decide (97≤u.toNat)&&decide (u.toNat≤122))||(decide (65≤u.toNat)&&decide (u.toNat≤90))||decide (u.toNat=95)):=rfl
 generalize letB u=q at hl hk
 refine CallOk.intro (args:=[_]) (rs:=[_]) T_ok Tryz.func105 Tryz.call105 rfl rfl (by kernel_rfl) rfl rfl ?_
 by_cases h1:97≤u.toNat<;>by_cases h2:u.toNat≤122<;>by_cases h3:65≤u.toNat<;>by_cases h4:u.toNat≤90
 all_goals
  try omega
 all_goals
  repeat first|exact zE|refine wkT ?_|refine zB fun b=>?_|refine zC fun a' c' hc1 hc2=>?_|(apply GJ.a;exact rfl;intro hg)|(apply GJ.o;exact rfl;intro hg)
  refine Wk.outV Sup.z hk (congrArg Value.bool ?_)
  rw [hl]
  simp [h1,h2,h3,h4]
  try omega
theorem zE0:zEl 107 digB:=fun u ro own K hk=>by
 have hu:=u.toNat_lt
 have hl:digB u=(decide (48≤u.toNat)&&decide (u.toNat≤57)):=rfl
 generalize digB u=q at hl hk
 refine CallOk.intro (args:=[_]) (rs:=[_]) T_ok Tryz.func107 Tryz.call107 rfl rfl (by kernel_rfl) rfl rfl ?_
 by_cases h1:48≤u.toNat<;>by_cases h2:u.toNat≤57
 all_goals
  try omega
 all_goals
  repeat first|exact zE|refine wkT ?_|refine zB fun b=>?_|refine zC fun a' c' hc1 hc2=>?_|(apply GJ.a;exact rfl;intro hg)|(apply GJ.o;exact rfl;intro hg)
  refine Wk.outV Sup.z hk (congrArg Value.bool ?_)
  rw [hl]
  simp [h1,h2]
  try omega
theorem nl_ok:zEl 104 nlB:=fun u ro own K hk=>by
 have hu:=u.toNat_lt
 refine CallOk.intro (args:=[_]) (rs:=[_]) T_ok Tryz.func104 Tryz.call104 rfl rfl (by kernel_rfl) rfl rfl ?_
 repeat first|exact zE|refine wkT ?_|refine zB fun b=>?_|refine zC fun a' c' hc1 hc2=>?_|(apply GJ.a;exact rfl;intro hg)|(apply GJ.o;exact rfl;intro hg)
 refine Wk.outV Sup.z hk (congrArg Value.bool ?_)
 unfold nlB
 rw [decide_eq_decide]
 omega
theorem word_ok:zEl 106 zBn:=fun u ro own K hk=>by
 have hu:=u.toNat_lt
 have hw:zBn u=(letB u||digB u):=rfl
 generalize zBn u=q at hw hk
 refine CallOk.intro (args:=[_]) (rs:=[_]) T_ok Tryz.func106 Tryz.call106 rfl rfl (by kernel_rfl) rfl rfl ?_
 repeat first|exact zE|refine wkT ?_|refine zB fun b=>?_|refine zC fun a' c' hc1 hc2=>?_|(apply GJ.a;exact rfl;intro hg)|(apply GJ.o;exact rfl;intro hg)
 refine zEV u _ _ _ ?_
 obtain ⟨x,hx⟩:∃ x,letB u=x:=⟨_,rfl⟩
 rw [hx] at hw ⊢
 cases x with
 | true =>
   repeat first|exact zE|refine wkT ?_|refine zB fun b=>?_|refine zC fun a' c' hc1 hc2=>?_|(apply GJ.a;exact rfl;intro hg)|(apply GJ.o;exact rfl;intro hg)
   exact Wk.outV Sup.z hk (by rw [hw];rfl)
 | false =>
   repeat first|exact zE|refine wkT ?_|refine zB fun b=>?_|refine zC fun a' c' hc1 hc2=>?_|(apply GJ.a;exact rfl;intro hg)|(apply GJ.o;exact rfl;intro hg)
   refine zE0 u _ _ _ ?_
   repeat first|exact zE|refine wkT ?_|refine zB fun b=>?_|refine zC fun a' c' hc1 hc2=>?_|(apply GJ.a;exact rfl;intro hg)|(apply GJ.o;exact rfl;intro hg)
   exact Wk.outV Sup.z hk (by rw [hw];rfl)
theorem pat_ok:zEl 128 patB:=fun u ro own K hk=>by
 have hu:=u.toNat_lt
 have hl:patB u=(decide (u.toNat≠47)&&(decide (32≤u.toNat)&&decide (u.toNat<127))):=rfl
 generalize patB u=q at hl hk
 refine CallOk.intro (args:=[_]) (rs:=[_]) T_ok Tryz.func128 Tryz.call128 rfl rfl (by kernel_rfl) rfl rfl ?_
 by_cases h1:u.toNat=47<;>by_cases h2:32≤u.toNat<;>by_cases h3:u.toNat<127
 all_goals
  try omega
 all_goals
  repeat first|exact zE|refine wkT ?_|refine zB fun b=>?_|refine zC fun a' c' hc1 hc2=>?_|(apply GJ.a;exact rfl;intro hg)|(apply GJ.o;exact rfl;intro hg)
  refine Wk.outV Sup.z hk (congrArg Value.bool ?_)
  rw [hl]
  simp [h1,h2,h3]
  try omega
theorem zDd {α:Type}{S:α→Bool}:∀ {l:List α}{i:Nat}{u:α},l[i]?=some u→(i<(l.takeWhile S).length→S u=true)∧(i=(l.takeWhile S).length→S u=false)
 | [],i,u,h=>by simp at h
 | x::l,0,u,h=>by
   simp at h;subst h
   rw [List.takeWhile_cons]
   cases hx:S x<;>simp [hx]
 | x::l,i+1,u,h=>by
   have ih:=zDd (S:=S) (l:=l) (i:=i) (u:=u) (by simpa using h)
   rw [List.takeWhile_cons]
   cases hx:S x with
   | false=>simp
   | true=>simp;exact ih
theorem zBk {α:Type} (S:α→Bool) (l:List α):(l.takeWhile S).length≤l.length:=(List.takeWhile_sublist S).length_le
theorem zDL {α:Type} (S:α→Bool) (l:List α):l.takeWhile S=l.take (l.takeWhile S).length:=List.prefix_iff_eq_take.1 (List.takeWhile_prefix S)
theorem cutW {S:UInt8→Bool}{tx:List UInt8}{a i:Nat} (h:((tx.drop a).takeWhile S).length=i):(tx.drop a).takeWhile S=List.take (((a+i:Nat):Int).toNat-(a:Int).toNat) (List.drop (a:Int).toNat tx):=by
 rw [Int.toNat_natCast,Int.toNat_natCast,show a+i-a=i by omega,←h]
 exact zDL S _
section
variable {ro:Ro}{own r:Chs}{K:Value→Ro→Chs→Prop}{g:Chunk→Chs}
theorem zDk {fid:FuncId}{S:UInt8→Bool}{b a:Nat}{tx:List UInt8}{o:Value} (hS:zEl fid S) (hat:a≤tx.length) (hl:tx.length≤100000)
  (hk:K (str ((tx.drop a).takeWhile S)) ro (.blk b 150 [str tx,.int .i64 ((a+((tx.drop a).takeWhile S).length:Nat):Int),o]::r)):CallOk Tryz.prog 103 #[ptr' b,.func (.func fid) #[] #[]] ro (.blk b 150 [str tx,.int .i64 (a:Int),o]::r) K:=by
 obtain ⟨m,hm⟩:∃ m,((tx.drop a).takeWhile S).length=m:=⟨_,rfl⟩
 have hml:m≤tx.length-a:=by rw [←hm];exact Nat.le_trans (zBk _ _) (by simp)
 rw [hm] at hk
 refine CallOk.intro (args:=[_,_]) (rs:=[_]) T_ok Tryz.func103 Tryz.call103 rfl rfl (by kernel_rfl) rfl rfl ?_
 repeat first|exact zE|refine wkT ?_|refine zB fun b=>?_|refine zC fun a' c' hc1 hc2=>?_|(apply GJ.a;exact rfl;intro hg)|(apply GJ.o;exact rfl;intro hg)
 refine LoopOk.at (ι:=Nat) Keep.z (fun i=>[]) (fun i=>.blk b 150 [str tx,.int .i64 ((a+i:Nat):Int),o]::r) (fun i=>i≤m) (fun i=>m-i) 0 ?_ Sub.z Sup.z ?_
 ·exact Nat.zero_le _
 rintro i i1
 dsimp only [List.cons_append,List.nil_append] at i1 ⊢
 by_cases hb:a+i<tx.length
 ·obtain ⟨u,hu⟩:∃ u,tx[a+i]?=some u:=⟨_,List.getElem?_eq_getElem hb⟩
  have hu2:tx[((a+i:Nat):Int).toNat]! = u:=by
   rw [Int.toNat_natCast,List.getElem!_eq_getElem?_getD,hu];rfl
  have hw:=zDd (S:=S) (l:=tx.drop a) (i:=i) (u:=u) (by rw [List.getElem?_drop];exact hu)
  rw [hm] at hw
  repeat first|exact zE|refine wkA ?_|refine zB fun b=>?_|refine zC fun a' c' hc1 hc2=>?_|(apply GJ.a;exact rfl;intro hg)|(apply GJ.o;exact rfl;intro hg)
  try rw [hu2]
  refine hS u _ _ _ ?_
  cases hs:S u with
  | true =>
    repeat first|exact zE|refine wkA ?_|refine zB fun b=>?_|refine zC fun a' c' hc1 hc2=>?_|(apply GJ.a;exact rfl;intro hg)|(apply GJ.o;exact rfl;intro hg)
    refine Wk.id ⟨i+1,⟨rfl,?_⟩,?_,Sub.z,Sup.z⟩
    all_goals try dsimp only
    ·have:i≠m:=fun e=>by have:=hw.2 e;rw [hs] at this;cases this
     omega
    ·have:i≠m:=fun e=>by have:=hw.2 e;rw [hs] at this;cases this
     omega
  | false =>
    have him:i=m:=by
     apply Classical.byContradiction
     intro e
     have:=hw.1 (by omega)
     rw [hs] at this;cases this
    subst him
    repeat first|exact zE|refine wkA ?_|refine zB fun b=>?_|refine zC fun a' c' hc1 hc2=>?_|(apply GJ.a;exact rfl;intro hg)|(apply GJ.o;exact rfl;intro hg)
    exact Wk.outV Sup.z hk (congrArg str (cutW hm))
 ·obtain rfl:i=m:=by omega
  repeat first|exact zE|refine wkA ?_|refine zB fun b=>?_|refine zC fun a' c' hc1 hc2=>?_|(apply GJ.a;exact rfl;intro hg)|(apply GJ.o;exact rfl;intro hg)
  exact Wk.outV Sup.z hk (congrArg str (cutW hm))
end
def gapD:Bool→List UInt8→Nat
 | _,[]=>0
 | n,c::r=>if c.toNat=10 then 1+gapD false r else if n=true∨c.toNat=32∨c.toNat=9∨c.toNat=13 then 1+gapD n r else if c.toNat=35 then 1+gapD true r else 0
theorem zCU:∀ (l:List UInt8) (n:Bool),gapD n l≤l.length
 | [],n=>by cases n<;>simp [gapD]
 | c::r,n=>by
   have h1:=zCU r false
   have h2:=zCU r true
   have h3:=zCU r n
   rw [gapD,List.length_cons]
   split
   ·omega
   ·split
    ·omega
    ·split
     ·omega
     ·omega
theorem zFf:∀ (r:List UInt8),gapD true r=(r.takeWhile nlB).length+gapD false (r.drop (r.takeWhile nlB).length)
 | []=>rfl
 | c::r=>by
   rw [List.takeWhile_cons]
   by_cases h:c.toNat=10
   ·have:nlB c=false:=by unfold nlB;simp [h]
    rw [this]
    simp [gapD,h]
   ·have:nlB c=true:=by unfold nlB;simp [h]
    rw [this,gapD,if_neg h,if_pos (.inl rfl),zFf r]
    simp
    omega
theorem zHP {c:UInt8} (r:List UInt8) (h:c.toNat=35):gapD false (c::r)=((c::r).takeWhile nlB).length+gapD false ((c::r).drop ((c::r).takeWhile nlB).length):=by
 have h1:nlB c=true:=by unfold nlB;simp [h]
 rw [List.takeWhile_cons,h1,gapD,if_neg (by omega),if_neg (by simp;omega),if_pos h,zFf r]
 simp
 omega
section
variable {ro:Ro}{own r:Chs}{K:Value→Ro→Chs→Prop}{g:Chunk→Chs}
theorem gap_ok {b a:Nat}{tx:List UInt8}{o:Value} (hat:a≤tx.length) (hl:tx.length≤100000)
  (hk:K (.tuple #[]) ro (.blk b 150 [str tx,.int .i64 ((a+gapD false (tx.drop a):Nat):Int),o]::r)):CallOk Tryz.prog 83 #[ptr' b] ro (.blk b 150 [str tx,.int .i64 (a:Int),o]::r) K:=by
 refine CallOk.intro (args:=[_]) (rs:=[]) T_ok Tryz.func83 Tryz.call83 rfl rfl (by kernel_rfl) rfl rfl ?_
 repeat first|exact zE|refine wkT ?_|refine zB fun b=>?_|refine zC fun a' c' hc1 hc2=>?_|(apply GJ.a;exact rfl;intro hg)|(apply GJ.o;exact rfl;intro hg)
 refine CodeOk.scope ?_
 repeat first|exact zE|refine wkT ?_|refine zB fun b=>?_|refine zC fun a' c' hc1 hc2=>?_|(apply GJ.a;exact rfl;intro hg)|(apply GJ.o;exact rfl;intro hg)
 refine LoopOk.at (ι:=Nat) Keep.z (fun i=>[]) (fun i=>.blk b 150 [str tx,.int .i64 ((a+i:Nat):Int),o]::r) (fun i=>a+i≤tx.length∧i+gapD false (tx.drop (a+i))=gapD false (tx.drop a)) (fun i=>tx.length-(a+i)) 0 ?_ Sub.z Sup.z ?_
 ·exact ⟨by omega,by simp⟩
 rintro i ⟨i1,i2⟩
 dsimp only [List.cons_append,List.nil_append] at i1 i2 ⊢
 by_cases hb:a+i<tx.length
 ·obtain ⟨u,hu⟩:∃ u,tx[a+i]?=some u:=⟨_,List.getElem?_eq_getElem hb⟩
  have hu2:tx[((a+i:Nat):Int).toNat]! = u:=by
   rw [Int.toNat_natCast,List.getElem!_eq_getElem?_getD,hu];rfl
  have hd:tx.drop (a+i)=u::tx.drop (a+(i+1)):=by
   rw [List.drop_eq_getElem_cons hb]
   congr 1
   rw [List.getElem?_eq_getElem hb] at hu
   exact Option.some.inj hu
  have hun:=u.toNat_lt
  rw [hd,gapD] at i2
  repeat first|exact zE|refine wkA ?_|refine zB fun b=>?_|refine zC fun a' c' hc1 hc2=>?_|(apply GJ.a;exact rfl;intro hg)|(apply GJ.o;exact rfl;intro hg)
  try rw [hu2]
  refine SeqOk.pass ?_
  by_cases h1:u.toNat=32
  ·rw [if_neg (by omega),if_pos (.inr (.inl h1))] at i2
   repeat first|exact zE|refine wkA ?_|refine zB fun b=>?_|refine zC fun a' c' hc1 hc2=>?_|(apply GJ.a;exact rfl;intro hg)|(apply GJ.o;exact rfl;intro hg)
   refine Wk.id ⟨i+1,⟨rfl,?_⟩,?_,Sub.z,Sup.z⟩
   all_goals try dsimp only
   ·exact ⟨by omega,by omega⟩
   ·omega
  ·by_cases h2:u.toNat=9
   ·rw [if_neg (by omega),if_pos (.inr (.inr (.inl h2)))] at i2
    repeat first|exact zE|refine wkA ?_|refine zB fun b=>?_|refine zC fun a' c' hc1 hc2=>?_|(apply GJ.a;exact rfl;intro hg)|(apply GJ.o;exact rfl;intro hg)
    refine Wk.id ⟨i+1,⟨rfl,?_⟩,?_,Sub.z,Sup.z⟩
    all_goals try dsimp only
    ·exact ⟨by omega,by omega⟩
    ·omega
   ·by_cases h3:u.toNat=10
    ·rw [if_pos h3] at i2
     repeat first|exact zE|refine wkA ?_|refine zB fun b=>?_|refine zC fun a' c' hc1 hc2=>?_|(apply GJ.a;exact rfl;intro hg)|(apply GJ.o;exact rfl;intro hg)
     refine Wk.id ⟨i+1,⟨rfl,?_⟩,?_,Sub.z,Sup.z⟩
     all_goals try dsimp only
     ·exact ⟨by omega,by omega⟩
     ·omega
    ·by_cases h4:u.toNat=13
     ·rw [if_neg h3,if_pos (.inr (.inr (.inr h4)))] at i2
      repeat first|exact zE|refine wkA ?_|refine zB fun b=>?_|refine zC fun a' c' hc1 hc2=>?_|(apply GJ.a;exact rfl;intro hg)|(apply GJ.o;exact rfl;intro hg)
      refine Wk.id ⟨i+1,⟨rfl,?_⟩,?_,Sub.z,Sup.z⟩
      all_goals try dsimp only
      ·exact ⟨by omega,by omega⟩
      ·omega
     ·by_cases h5:u.toNat=35
      ·have hh:=zHP (tx.drop (a+(i+1))) h5
       rw [gapD] at hh
       rw [hh,←hd] at i2
       have hwl:=zBk nlB (tx.drop (a+i))
       rw [List.length_drop] at hwl
       have hw1:1≤((tx.drop (a+i)).takeWhile nlB).length:=by
        have:nlB u=true:=by unfold nlB;simp [h5]
        rw [hd,List.takeWhile_cons,this];simp
       repeat first|exact zE|refine wkA ?_|refine zB fun b=>?_|refine zC fun a' c' hc1 hc2=>?_|(apply GJ.a;exact rfl;intro hg)|(apply GJ.o;exact rfl;intro hg)
       refine zDk nl_ok (by omega) hl ?_
       generalize ((tx.drop (a+i)).takeWhile nlB).length=w at *
       rw [show a+i+w=a+(i+w) by omega]
       repeat first|exact zE|refine wkA ?_|refine zB fun b=>?_|refine zC fun a' c' hc1 hc2=>?_|(apply GJ.a;exact rfl;intro hg)|(apply GJ.o;exact rfl;intro hg)
       refine Wk.id ⟨i+w,⟨rfl,?_⟩,?_,Sub.z,Sup.z⟩
       all_goals try dsimp only
       ·refine ⟨by omega,?_⟩
        rw [List.drop_drop] at i2
        rw [show a+(i+w)=a+i+w by omega]
        omega
       ·omega
      ·rw [if_neg h3,if_neg (by simp;omega),if_neg h5] at i2
       have e:gapD false (tx.drop a)=i:=by omega
       rw [e] at hk
       repeat first|exact zE|refine wkA ?_|refine zB fun b=>?_|refine zC fun a' c' hc1 hc2=>?_|(apply GJ.a;exact rfl;intro hg)|(apply GJ.o;exact rfl;intro hg)
       exact Wk.outS Sup.z (.refl _) hk
 ·have:a+i=tx.length:=by omega
  have h0:tx.drop (a+i)=[]:=List.drop_eq_nil_of_le (by omega)
  rw [h0] at i2
  have e:gapD false (tx.drop a)=i:=by rw [←i2];simp [gapD]
  rw [e] at hk
  repeat first|exact zE|refine wkA ?_|refine zB fun b=>?_|refine zC fun a' c' hc1 hc2=>?_|(apply GJ.a;exact rfl;intro hg)|(apply GJ.o;exact rfl;intro hg)
  exact Wk.outS Sup.z (.refl _) hk
end
def tokV (k a:Nat) (x:List UInt8):List Value:=[.int .i64 (k:Int),.int .i64 (a:Int),str x]
def patD (l:List UInt8):Option (List UInt8):=match (l.drop (l.takeWhile patB).length) with
 | []=>none
 | x::_=>if x.toNat=47 then some (l.takeWhile patB) else none
section
variable {ro:Ro}{own r:Chs}{K:Value→Ro→Chs→Prop}{g:Chunk→Chs}
theorem zG6 {p a:Nat}{tx:List UInt8}{o:Value} (hat:a<tx.length) (hl:tx.length≤100000)
  (hk1:∀ w,patD (tx.drop (a+1))=some w→a+w.length+2≤tx.length→K (.tuple #[.agg (tokV 3 0 w).toArray,.int .i64 0]) ro (.blk p 150 [str tx,.int .i64 ((a+w.length+2:Nat):Int),o]::r))
  (hk2:patD (tx.drop (a+1))=none→∀ a':Nat,a'≤tx.length→K (.tuple #[.agg (tokV 0 0 []).toArray,.int .i64 5]) ro (.blk p 150 [str tx,.int .i64 (a':Int),o]::r)) :
  CallOk Tryz.prog 108 #[ptr' p] ro (.blk p 150 [str tx,.int .i64 (a:Int),o]::r) K:=by
 have hwl:=zBk patB (tx.drop (a+1))
 rw [List.length_drop] at hwl
 refine CallOk.intro (args:=[_]) (rs:=[_,_]) T_ok Tryz.func108 Tryz.call108 rfl rfl (by kernel_rfl) rfl rfl ?_
 repeat first|exact zE|refine wkT ?_|refine zB fun b=>?_|refine zC fun a' c' hc1 hc2=>?_|(apply GJ.a;exact rfl;intro hg)|(apply GJ.o;exact rfl;intro hg)
 refine CallOk.sup (own0:=.blk p 150 [str tx,.int .i64 ((a+1:Nat):Int),o]::.blk b 111 [.int .i64 0,.int .i64 0,str []]::r) Sup.z ?_
 refine zDk pat_ok (by omega) hl ?_
 have hpd:patD (tx.drop (a+1))=(match tx.drop (a+1+((tx.drop (a+1)).takeWhile patB).length) with
  | []=>none
  | x::_=>if x.toNat=47 then some ((tx.drop (a+1)).takeWhile patB) else none):=by unfold patD;rw [List.drop_drop]
 generalize (tx.drop (a+1)).takeWhile patB=w at *
 by_cases hb:a+1+w.length<tx.length
 ·obtain ⟨u,hu⟩:∃ u,tx[a+1+w.length]?=some u:=⟨_,List.getElem?_eq_getElem hb⟩
  have hu2:tx[((a+1+w.length:Nat):Int).toNat]! = u:=by
   rw [Int.toNat_natCast,List.getElem!_eq_getElem?_getD,hu];rfl
  have hd:tx.drop (a+1+w.length)=u::tx.drop (a+1+w.length+1):=by
   rw [List.drop_eq_getElem_cons hb]
   congr 1
   rw [List.getElem?_eq_getElem hb] at hu
   exact Option.some.inj hu
  rw [hd] at hpd
  simp only at hpd
  repeat first|exact zE|refine wkA ?_|refine zB fun b=>?_|refine zC fun a' c' hc1 hc2=>?_|(apply GJ.a;exact rfl;intro hg)|(apply GJ.o;exact rfl;intro hg)
  try rw [hu2]
  by_cases h47:u.toNat=47
  ·rw [if_pos h47] at hpd
   have hk:=hk1 w hpd (by omega)
   rw [show a+w.length+2=a+1+w.length+1 by omega] at hk
   repeat first|exact zE|refine wkA ?_|refine zB fun b=>?_|refine zC fun a' c' hc1 hc2=>?_|(apply GJ.a;exact rfl;intro hg)|(apply GJ.o;exact rfl;intro hg)
   exact Wk.outS Sup.z (.refl _) hk
  ·rw [if_neg h47] at hpd
   have hk:=hk2 hpd _ (Nat.le_of_lt hb)
   repeat first|exact zE|refine wkA ?_|refine zB fun b=>?_|refine zC fun a' c' hc1 hc2=>?_|(apply GJ.a;exact rfl;intro hg)|(apply GJ.o;exact rfl;intro hg)
   exact Wk.outS Sup.z (.refl _) hk
 ·have h0:tx.drop (a+1+w.length)=[]:=List.drop_eq_nil_of_le (by omega)
  rw [h0] at hpd
  have hk:=hk2 hpd (a+1+w.length) (by omega)
  repeat first|exact zE|refine wkA ?_|refine zB fun b=>?_|refine zC fun a' c' hc1 hc2=>?_|(apply GJ.a;exact rfl;intro hg)|(apply GJ.o;exact rfl;intro hg)
  exact Wk.outS Sup.z (.refl _) hk
theorem zGu {x y:List UInt8} (hx:x.length≤1000000) (hy:y.length≤1000000) (hk:K (.bool (y.isPrefixOf x)) ro own):CallOk Tryz.prog 54 #[str x,str y] ro own K:=by
 have hp:y.isPrefixOf x=decide (x.take y.length=y):=by
  rw [Bool.eq_iff_iff,List.isPrefixOf_iff_prefix,decide_eq_true_iff,List.prefix_iff_eq_take]
  exact eq_comm
 rw [hp] at hk
 refine CallOk.intro (args:=[_,_]) (rs:=[_]) T_ok Tryz.func54 Tryz.call54 rfl rfl (by kernel_rfl) rfl rfl ?_
 by_cases hl:y.length≤x.length
 ·repeat first|exact zE|refine wkT ?_|refine zB fun b=>?_|refine zC fun a' c' hc1 hc2=>?_|(apply GJ.a;exact rfl;intro hg)|(apply GJ.o;exact rfl;intro hg)
  exact Wk.outV Sup.z hk (congrArg Value.bool (by rw [Int.toNat_natCast]))
 ·have:decide (x.take y.length=y)=false:=by
   rw [decide_eq_false_iff_not]
   intro e
   have:=congrArg List.length e
   rw [List.length_take] at this
   omega
  rw [this] at hk
  repeat first|exact zE|refine wkT ?_|refine zB fun b=>?_|refine zC fun a' c' hc1 hc2=>?_|(apply GJ.a;exact rfl;intro hg)|(apply GJ.o;exact rfl;intro hg)
  exact Wk.outV Sup.z hk rfl
theorem zHx {x y:List UInt8} (hx:x.length≤1000000) (hy:y.length≤1000000) (hk:K (.bool (y.isPrefixOf x)) ro own):CallOk Tryz.prog 25 #[str x,str y] ro own K:=by
 refine CallOk.intro (args:=[_,_]) (rs:=[_]) T_ok Tryz.func25 Tryz.call25 rfl rfl (by kernel_rfl) rfl rfl ?_
 repeat first|exact zE|refine wkT ?_|refine zB fun b=>?_|refine zC fun a' c' hc1 hc2=>?_|(apply GJ.a;exact rfl;intro hg)|(apply GJ.o;exact rfl;intro hg)
 refine zGu hx hy ?_
 repeat first|exact zE|refine wkT ?_|refine zB fun b=>?_|refine zC fun a' c' hc1 hc2=>?_|(apply GJ.a;exact rfl;intro hg)|(apply GJ.o;exact rfl;intro hg)
 exact Wk.outS Sup.z (.refl _) hk
end
def spI (i:Nat):Int:=if 9≤i∧i≤13∨i=32 then 1 else 0
def spL:List Int:=(List.range 256).map spI
structure SpOk (ro:Ro):Prop where
 cells:∃ cs t fr,ro 1=some (.cells cs t fr)∧∀ i,i<256→cs[i]?=some (.int .u8 (spI i))
theorem SpOk.le {ro ro':Ro} (h:SpOk ro) (hl:Le ro ro'):SpOk ro':=by
 obtain ⟨cs,t,fr,h1,h2⟩:=h.cells
 exact ⟨cs,t,fr,hl.le _ _ h1,h2⟩
theorem SpOk.ld {ro:Ro}{own:Chs}{o i:Nat} (h:SpOk ro) (ho:o=i) (hi:i<256):Ld ro own 1 o (.int .u8 (spI i)):=fun hp hs=>by
 subst ho
 obtain ⟨cs,t,fr,h1,h2⟩:=h.cells
 have:=hs.last _ _ h1
 rw [zBI this];exact h2 o hi
theorem SpOk.ofLaid {W : World} {x : String × DataW Unit} {rest : List (String × DataW Unit)} (h : laidMet Tryz.prog (x :: ("strings.asciiSpace", Lib.tabData .u8 spL) :: rest) W) : SpOk (hm W.heap) := by
 have hg : Tryz.prog.globalNamed "strings.asciiSpace" = some 1 := by kernel_rfl
 have hT:=Lib.tabIs_of_head (n:=256) hg (by kernel_rfl) Tryz.underlying190 Tryz.underlying5 (by kernel_rfl) (by kernel_rfl) h.tail
 unfold Lib.TabIs World.var? at hT
 rw [hg] at hT
 simp only [Option.bind_some] at hT
 split at hT
 ·rename_i cs t fr he
  cases hT
  refine ⟨⟨_,_,_,he,fun i hi=>?_⟩⟩
  simp [spL,hi]
 ·cases hT
def sgB:List UInt8:=[46,46,32,61,32,59,32,123,32,125,32,91,32,93,32,40,32,41,32,58,32,124,32,42,32,43,32,37]
def sgU (i:Nat):UInt8:=sgB.getD i 0
def spU (u:UInt8):Int:=spI u.toNat
def wF:Nat→Int
 | 0=>1
 | i+1=>spU (sgU i)
def nF:Nat→Int
 | 0=>0
 | i+1=>nF i+iand (wF i) (ixor (-1) (spU (sgU i)))
def bF:Nat→Nat
 | 0=>0
 | i+1=>bF i ||| (sgU i).toNat
def naF:Nat→Nat
 | 0=>0
 | i+1=>if spU (sgU i)=0 then naF i else naF i+1
def fsF:Nat→Nat
 | 0=>0
 | i+1=>if spU (sgU i)=0 then fsF i else i+1
def tbF:Nat→List (List UInt8)
 | 0=>List.replicate 14 []
 | i+1=>if spU (sgU i)=0 then tbF i else (tbF i).set (naF i) ((sgB.drop (fsF i)).take (i-fsF i))
def signsL:List (List UInt8):=[[46,46],[61],[59],[123],[125],[91],[93],[40],[41],[58],[124],[42],[43],[37]]
theorem zFQ:∀ i,i≤28→0≤nF i∧nF i≤28∧(wF i=0∨wF i=1)∧bF i<128:=by decide +kernel
theorem sg_get:∀ i,i<28→sgB[i]?=some (sgU i):=by decide +kernel
theorem sg_n:nF 28=14:=by decide +kernel
theorem sg_two:∀ i,i≤28→naF i≤13∧fsF i≤i∧(tbF i).length=14:=by decide +kernel
theorem sg_next:∀ i,i<27→spU (sgU i)≠0→spU (sgU (i+1))=0:=by decide +kernel
theorem sg_end:fsF 28=27∧naF 28=13∧(tbF 28).set 13 (sgB.drop 27)=signsL∧spU (sgU 27)=0:=by decide +kernel
section
variable {ro:Ro}{own r:Chs}{K:Value→Ro→Chs→Prop}{g:Chunk→Chs}
set_option maxHeartbeats 2000000 in
theorem zHU (hS:SpOk ro) (hk:∀ b:Nat,K (.slice (some ⟨b,0,none⟩) 14 14) ro (.sl (some ⟨b,0,none⟩) 14 14 9 1 (signsL.map str)::own)):CallOk Tryz.prog 109 #[str sgB] ro own K:=by
 have hlen:sgB.length=28:=rfl
 obtain ⟨sg,hsg⟩:∃ x,sgB=x:=⟨_,rfl⟩
 rw [hsg] at hlen ⊢
 have hget:=sg_get
 rw [hsg] at hget
 refine CallOk.intro (args:=[_]) (rs:=[_]) T_ok Tryz.func109 Tryz.call109 rfl rfl (by kernel_rfl) rfl rfl ?_
 repeat first|exact zE|refine wkT ?_|refine zB fun b=>?_|refine zC fun a' c' hc1 hc2=>?_|(apply GJ.a;exact rfl;intro hg)|(apply GJ.o;exact rfl;intro hg)
 refine LoopOk.at (ι:=Nat) Keep.z (fun i=>[(6,.int .i64 (i:Int)),(3,.int .i64 (nF i)),(4,.int .i64 (wF i)),(5,.int .u8 ((bF i:Nat):Int))]) (fun i=>own) (fun i=>i≤28) (fun i=>28-i) 0 ?_ Sub.z Sup.z ?_
 ·exact Nat.zero_le _
 rintro i i1
 dsimp only [List.cons_append,List.nil_append] at i1 ⊢
 by_cases hb:i<28
 ·have hu:=hget i hb
  have h1:=zFQ i i1
  have h2:=zFQ (i+1) hb
  have hn:nF (i+1)=nF i+iand (wF i) (ixor (-1) (spU (sgU i))):=rfl
  have hw:wF (i+1)=spU (sgU i):=rfl
  have hbb:bF (i+1)=bF i ||| (sgU i).toNat:=rfl
  have hsp:spU (sgU i)=spI (sgU i).toNat:=rfl
  generalize hn2:nF (i+1)=n2 at hn h2
  generalize hw2:wF (i+1)=w2 at hw h2
  generalize hb2:bF (i+1)=b2 at hbb h2
  generalize hn1:nF i=n1 at h1 hn ⊢
  generalize hw1:wF i=w1 at h1 hn ⊢
  generalize hb1:bF i=b1 at h1 hbb ⊢
  generalize sgU i=u at hu hn hw hbb hsp
  generalize spU u=s at hn hw hsp
  have hun:=u.toNat_lt
  have hu2:sg[(i:Int).toNat]! = u:=by
   rw [Int.toNat_natCast,List.getElem!_eq_getElem?_getD,hu];rfl
  have hor:nor2 ((b1:Nat):Int) ((u.toNat:Nat):Int)=((b2:Nat):Int):=by rw [hbb];rfl
  repeat first|exact zE|refine wkT ?_|refine zB fun b=>?_|refine zC fun a' c' hc1 hc2=>?_|(apply GJ.a;exact rfl;intro hg)|(apply GJ.o;exact rfl;intro hg)
  rw [hu2,hor]
  refine ⟨by omega,?_⟩
  repeat first|exact zE|refine wkT ?_|refine zB fun b=>?_|refine zC fun a' c' hc1 hc2=>?_|(apply GJ.a;exact rfl;intro hg)|(apply GJ.o;exact rfl;intro hg)
  refine OpOk.load rfl rfl (hS.ld (i:=u.toNat) (by omega) (by omega)) ?_
  rw [←hsp]
  repeat first|exact zE|refine wkT ?_|refine zB fun b=>?_|refine zC fun a' c' hc1 hc2=>?_|(apply GJ.a;exact rfl;intro hg)|(apply GJ.o;exact rfl;intro hg)
  refine OpOk.notI rfl ?_
  generalize ixor (-1) s=x at hn ⊢
  repeat first|exact zE|refine wkT ?_|refine zB fun b=>?_|refine zC fun a' c' hc1 hc2=>?_|(apply GJ.a;exact rfl;intro hg)|(apply GJ.o;exact rfl;intro hg)
  refine OpOk.andI rfl rfl ?_
  generalize iand w1 x=y at hn ⊢
  repeat first|exact zE|refine wkT ?_|refine zB fun b=>?_|refine zC fun a' c' hc1 hc2=>?_|(apply GJ.a;exact rfl;intro hg)|(apply GJ.o;exact rfl;intro hg)
  try rw [←hn]
  repeat first|exact zE|refine wkT ?_|refine zB fun b=>?_|refine zC fun a' c' hc1 hc2=>?_|(apply GJ.a;exact rfl;intro hg)|(apply GJ.o;exact rfl;intro hg)
  try rw [←hn]
  try rw [←hw]
  subst hn2
  subst hw2
  subst hb2
  refine Wk.id ⟨i+1,⟨rfl,?_⟩,?_,Sub.z,Sup.z⟩
  all_goals try dsimp only
  ·omega
  ·omega
 ·obtain rfl:i=28:=by omega
  have h1:=zFQ 28 (Nat.le_refl _)
  rw [sg_n] at h1 ⊢
  generalize wF 28=w at h1 ⊢
  generalize bF 28=bb at h1 ⊢
  repeat first|exact zE|refine wkT ?_|refine zB fun b=>?_|refine zC fun a' c' hc1 hc2=>?_|(apply GJ.a;exact rfl;intro hg)|(apply GJ.o;exact rfl;intro hg)
  have hu0:sg[Int.toNat 0]! = 46:=by rw [←hsg];rfl
  have hs46:spI 46=0:=by decide
  have hx46:(46:UInt8).toNat=46:=rfl
  refine LoopOk.at (ι:=Unit) Keep.z (fun _u=>[(12,.int .i64 0)]) (fun _u=>.sl (some ⟨b,0,none⟩) 14 14 9 1 (List.replicate 14 (str []))::own) (fun _u=>True) (fun _u=>0) () ?_ Sub.z Sup.z ?_
  ·trivial
  rintro _u -
  dsimp only [List.cons_append,List.nil_append]
  repeat first|exact zE|refine wkA ?_|refine zB fun b=>?_|refine zC fun a' c' hc1 hc2=>?_|(apply GJ.a;exact rfl;intro hg)|(apply GJ.o;exact rfl;intro hg)
  try rw [hu0]
  repeat first|exact zE|refine wkA ?_|refine zB fun b=>?_|refine zC fun a' c' hc1 hc2=>?_|(apply GJ.a;exact rfl;intro hg)|(apply GJ.o;exact rfl;intro hg)
  refine OpOk.load rfl rfl (hS.ld (i:=46) (by omega) (by omega)) ?_
  rw [hs46]
  repeat first|exact zE|refine wkA ?_|refine zB fun b=>?_|refine zC fun a' c' hc1 hc2=>?_|(apply GJ.a;exact rfl;intro hg)|(apply GJ.o;exact rfl;intro hg)
  refine LoopOk.at (ι:=Nat) Keep.z (fun i=>[(12,.int .i64 (i:Int)),(10,.int .i64 ((naF i:Nat):Int)),(11,.int .i64 ((fsF i:Nat):Int))]) (fun i=>.sl (some ⟨b,0,none⟩) 14 14 9 1 ((tbF i).map str)::own) (fun i=>i≤28) (fun i=>28-i) 0 ?_ Sub.z Sup.z ?_
  ·exact Nat.zero_le _
  rintro i i1
  dsimp only [List.cons_append,List.nil_append] at i1 ⊢
  have h2:=sg_two i i1
  by_cases hb:i<28
  ·have hu:=hget i hb
   have h3:=sg_next i
   have h4:=sg_end.2.2.2
   have hna:naF (i+1)=if spU (sgU i)=0 then naF i else naF i+1:=rfl
   have hfs:fsF (i+1)=if spU (sgU i)=0 then fsF i else i+1:=rfl
   have htb:tbF (i+1)=if spU (sgU i)=0 then tbF i else (tbF i).set (naF i) ((sg.drop (fsF i)).take (i-fsF i)):=by rw [←hsg];rfl
   have hsp:spU (sgU i)=spI (sgU i).toNat:=rfl
   have hs1:=(zFQ (i+1) hb).2.2.1
   have hw:wF (i+1)=spU (sgU i):=rfl
   rw [hw] at hs1
   have hi27:spU (sgU i)≠0→i<27:=fun hne=>by
    rcases Nat.lt_or_ge i 27 with h|h
    ·exact h
    ·obtain rfl:i=27:=by omega
     exact absurd h4 hne
   clear hw h4
   generalize hn1:naF i=na at hna htb h2 ⊢
   generalize hf1:fsF i=fs at hfs htb h2 ⊢
   generalize ht1:tbF i=tb at htb h2 ⊢
   generalize hui:sgU i=u at hu h3 hna hfs htb hsp hs1 hi27
   generalize hsu:spU u=s at h3 hna hfs htb hsp hs1 hi27
   have hun:=u.toNat_lt
   have hu2:sg[(i:Int).toNat]! = u:=by
    rw [Int.toNat_natCast,List.getElem!_eq_getElem?_getD,hu];rfl
   repeat first|exact zE|refine wkA ?_|refine zB fun b=>?_|refine zC fun a' c' hc1 hc2=>?_|(apply GJ.a;exact rfl;intro hg)|(apply GJ.o;exact rfl;intro hg)
   try rw [hu2]
   repeat first|exact zE|refine wkA ?_|refine zB fun b=>?_|refine zC fun a' c' hc1 hc2=>?_|(apply GJ.a;exact rfl;intro hg)|(apply GJ.o;exact rfl;intro hg)
   refine OpOk.load rfl rfl (hS.ld (i:=u.toNat) (by omega) (by omega)) ?_
   rw [←hsp]
   by_cases hs0:s=0
   ·rw [if_pos hs0] at hna hfs htb
    repeat first|exact zE|refine wkA ?_|refine zB fun b=>?_|refine zC fun a' c' hc1 hc2=>?_|(apply GJ.a;exact rfl;intro hg)|(apply GJ.o;exact rfl;intro hg)
    rw [←htb]
    refine Wk.id ⟨i+1,⟨rfl,?_⟩,?_,Sub.z,Sup.z⟩
    all_goals try dsimp only
    ·omega
    ·omega
   ·rw [if_neg hs0] at hna hfs htb
    have hi:=hi27 hs0
    have h5:=h3 hi hs0
    have hu3:=hget (i+1) (by omega)
    have hsp3:spU (sgU (i+1))=spI (sgU (i+1)).toNat:=rfl
    generalize sgU (i+1)=u3 at h5 hu3 hsp3
    have hun3:=u3.toNat_lt
    have hu4:sg[((i:Int)+1).toNat]! = u3:=by
     rw [show ((i:Int)+1).toNat=i+1 by omega,List.getElem!_eq_getElem?_getD,hu3];rfl
    have hml:(List.map str tb).length=14:=by rw [List.length_map];exact h2.2.2
    have hset:(List.map str tb).set na (str (List.take ((i:Int).toNat-(fs:Int).toNat) (List.drop (fs:Int).toNat sg)))=List.map str (tbF (i+1)):=by
     rw [htb,List.map_set];rfl
    repeat first|exact zE|refine wkA ?_|refine zB fun b=>?_|refine zC fun a' c' hc1 hc2=>?_|(apply GJ.a;exact rfl;intro hg)|(apply GJ.o;exact rfl;intro hg)
    refine OpOk.storeSl (k:=na) rfl rfl rfl rfl (by omega) ?_
    rw [hset]
    repeat first|exact zE|refine wkA ?_|refine zB fun b=>?_|refine zC fun a' c' hc1 hc2=>?_|(apply GJ.a;exact rfl;intro hg)|(apply GJ.o;exact rfl;intro hg)
    refine LoopOk.at (ι:=Unit) Keep.z (fun _u=>[(12,.int .i64 ((i:Int)+1))]) (fun _u=>.sl (some ⟨b,0,none⟩) 14 14 9 1 (List.map str (tbF (i+1)))::own) (fun _u=>True) (fun _u=>0) () ?_ Sub.z Sup.z ?_
    ·trivial
    rintro _u -
    dsimp only [List.cons_append,List.nil_append]
    repeat first|exact zE|refine wkA ?_|refine zB fun b=>?_|refine zC fun a' c' hc1 hc2=>?_|(apply GJ.a;exact rfl;intro hg)|(apply GJ.o;exact rfl;intro hg)
    try rw [hu4]
    repeat first|exact zE|refine wkA ?_|refine zB fun b=>?_|refine zC fun a' c' hc1 hc2=>?_|(apply GJ.a;exact rfl;intro hg)|(apply GJ.o;exact rfl;intro hg)
    refine OpOk.load rfl rfl (hS.ld (i:=u3.toNat) (by omega) (by omega)) ?_
    rw [←hsp3,h5]
    repeat first|exact zE|refine wkA ?_|refine zB fun b=>?_|refine zC fun a' c' hc1 hc2=>?_|(apply GJ.a;exact rfl;intro hg)|(apply GJ.o;exact rfl;intro hg)
    refine Wk.id ⟨i+1,⟨rfl,?_⟩,?_,Sub.z,Sup.z⟩
    all_goals try dsimp only
    ·omega
    ·omega
  ·obtain rfl:i=28:=by omega
   obtain ⟨e1,e2,e3,_⟩:=sg_end
   rw [hsg] at e3
   rw [e1,e2]
   generalize tbF 28=tb at e3 h2 ⊢
   have hml:(List.map str tb).length=14:=by rw [List.length_map];exact h2.2.2
   have hset:(List.map str tb).set 13 (str (List.drop ((27:Nat):Int).toNat sg))=List.map str signsL:=by
    rw [←e3,List.map_set];rfl
   repeat first|exact zE|refine wkA ?_|refine zB fun b=>?_|refine zC fun a' c' hc1 hc2=>?_|(apply GJ.a;exact rfl;intro hg)|(apply GJ.o;exact rfl;intro hg)
   refine SeqOk.pass ?_
   repeat first|exact zE|refine wkA ?_|refine zB fun b=>?_|refine zC fun a' c' hc1 hc2=>?_|(apply GJ.a;exact rfl;intro hg)|(apply GJ.o;exact rfl;intro hg)
   refine OpOk.storeSl (k:=13) rfl rfl rfl rfl (by omega) ?_
   rw [hset]
   repeat first|exact zE|refine wkA ?_|refine zB fun b=>?_|refine zC fun a' c' hc1 hc2=>?_|(apply GJ.a;exact rfl;intro hg)|(apply GJ.o;exact rfl;intro hg)
   exact Wk.outS Sup.z (.refl _) (hk b)
end
def zAE (l:List UInt8):Nat × List UInt8 × Nat × Nat:=match l with
 | []=>(0,[],0,100)
 | c::r=>if letB c=true then (if 24<(l.takeWhile zBn).length then (0,[],0,2) else (1,l.takeWhile zBn,(l.takeWhile zBn).length,0))
   else if digB c=true then (if 20<(l.takeWhile digB).length then (0,[],0,2) else if 1<(l.takeWhile digB).length∧c.toNat=48 then (0,[],0,5) else (2,l.takeWhile digB,(l.takeWhile digB).length,0))
   else if c.toNat=47 then (match patD r with
    | none=>(0,[],0,5)
    | some w=>(3,w,w.length+2,0))
   else match signsL.find? (·.isPrefixOf l) with
    | some s=>(4,s,s.length,0)
    | none=>(0,[],0,100)
theorem zHj:∀ j,j<14→(signsL[j]!).length≤2∧1≤(signsL[j]!).length:=by decide +kernel
theorem zHR {α:Type}{f:α→Bool}{l:List α} (h:∀ x∈l,f x=false):l.find? f=none:=by
 rw [List.find?_eq_none];intro x hx;simp [h x hx]
theorem zHS {α:Type} [Inhabited α] {f:α→Bool}:∀ {l:List α}{j:Nat},j<l.length→f l[j]! = true→(∀ i,i<j→f l[i]! = false)→l.find? f=some l[j]!
 | [],j,h,_,_=>by simp at h
 | x::l,0,_,h1,_=>by rw [List.find?_cons];have:f x=true:=h1;rw [this];rfl
 | x::l,j+1,h,h1,h2=>by
   have h0:f x=false:=h2 0 (by omega)
   rw [List.find?_cons,h0]
   exact zHS (l:=l) (j:=j) (by simpa using h) h1 (fun i hi=>h2 (i+1) (by omega))
section
variable {ro:Ro}{own r:Chs}{K:Value→Ro→Chs→Prop}{g:Chunk→Chs}
set_option maxHeartbeats 4000000 in
theorem next_ok {p a:Nat}{tx:List UInt8}{o:Value} (hS:SpOk ro) (hat:a<tx.length) (hl:tx.length≤100000)
  (hk1:∀ k w n,zAE (tx.drop a)=(k,w,n,0)→a+n≤tx.length→1≤n→K (.tuple #[.agg (tokV k 0 w).toArray,.int .i64 0]) ro (.blk p 150 [str tx,.int .i64 ((a+n:Nat):Int),o]::r))
  (hk2:∀ code:Nat,zAE (tx.drop a)=(0,[],0,code)→code≠0→code≤1000→∀ a':Nat,a'≤tx.length→K (.tuple #[.agg (tokV 0 0 []).toArray,.int .i64 (code:Int)]) ro (.blk p 150 [str tx,.int .i64 (a':Int),o]::r)) :
  CallOk Tryz.prog 84 #[ptr' p] ro (.blk p 150 [str tx,.int .i64 (a:Int),o]::r) K:=by
 obtain ⟨u,hu⟩:∃ u,tx[a]?=some u:=⟨_,List.getElem?_eq_getElem hat⟩
 have hu2:tx[(a:Int).toNat]! = u:=by
  rw [Int.toNat_natCast,List.getElem!_eq_getElem?_getD,hu];rfl
 have hd:tx.drop a=u::tx.drop (a+1):=by
  rw [List.drop_eq_getElem_cons hat]
  congr 1
  rw [List.getElem?_eq_getElem hat] at hu
  exact Option.some.inj hu
 have hun:=u.toNat_lt
 have hfr:zAE (tx.drop a)=if letB u=true then (if 24<((tx.drop a).takeWhile zBn).length then (0,[],0,2) else (1,(tx.drop a).takeWhile zBn,((tx.drop a).takeWhile zBn).length,0))
  else if digB u=true then (if 20<((tx.drop a).takeWhile digB).length then (0,[],0,2) else if 1<((tx.drop a).takeWhile digB).length∧u.toNat=48 then (0,[],0,5) else (2,(tx.drop a).takeWhile digB,((tx.drop a).takeWhile digB).length,0))
  else if u.toNat=47 then (match patD (tx.drop (a+1)) with
   | none=>(0,[],0,5)
   | some w=>(3,w,w.length+2,0))
  else match signsL.find? (·.isPrefixOf (tx.drop a)) with
   | some s=>(4,s,s.length,0)
   | none=>(0,[],0,100):=by rw [hd];rfl
 have hw1:=zBk zBn (tx.drop a)
 have hw2:=zBk digB (tx.drop a)
 rw [List.length_drop] at hw1 hw2
 have hp1:letB u=true→1≤((tx.drop a).takeWhile zBn).length:=fun h=>by
  rw [hd,List.takeWhile_cons,show zBn u=true by unfold zBn;rw [h];rfl];simp
 have hp2:digB u=true→1≤((tx.drop a).takeWhile digB).length∧((tx.drop a).takeWhile digB)[0]! = u:=fun h=>by
  rw [hd,List.takeWhile_cons,h];simp
 refine CallOk.intro (args:=[_]) (rs:=[_,_]) T_ok Tryz.func84 Tryz.call84 rfl rfl (by kernel_rfl) rfl rfl ?_
 repeat first|exact zE|refine wkA ?_|refine zB fun b=>?_|refine zC fun a' c' hc1 hc2=>?_|(apply GJ.a;exact rfl;intro hg)|(apply GJ.o;exact rfl;intro hg)
 try rw [hu2]
 repeat first|exact zE|refine wkA ?_|refine zB fun b=>?_|refine zC fun a' c' hc1 hc2=>?_|(apply GJ.a;exact rfl;intro hg)|(apply GJ.o;exact rfl;intro hg)
 refine zEV u _ _ _ ?_
 obtain ⟨x,hx⟩:∃ x,letB u=x:=⟨_,rfl⟩
 rw [hx] at hfr hp1 ⊢
 cases x with
 | true =>
   rw [if_pos rfl] at hfr
   have hp1:=hp1 rfl
   repeat first|exact zE|refine wkA ?_|refine zB fun b=>?_|refine zC fun a' c' hc1 hc2=>?_|(apply GJ.a;exact rfl;intro hg)|(apply GJ.o;exact rfl;intro hg)
   refine CallOk.sup (own0:=.blk p 150 [str tx,.int .i64 (a:Int),o]::.blk b 111 [.int .i64 0,.int .i64 0,str []]::r) Sup.z ?_
   refine zDk word_ok (by omega) hl ?_
   generalize (tx.drop a).takeWhile zBn=w at *
   by_cases hg:24<w.length
   ·rw [if_pos hg] at hfr
    have hk:=hk2 2 hfr (by omega) (by omega) (a+w.length) (by omega)
    repeat first|exact zE|refine wkA ?_|refine zB fun b=>?_|refine zC fun a' c' hc1 hc2=>?_|(apply GJ.a;exact rfl;intro hg)|(apply GJ.o;exact rfl;intro hg)
    exact Wk.outS Sup.z (.refl _) hk
   ·rw [if_neg hg] at hfr
    have hk:=hk1 _ _ _ hfr (by omega) hp1
    repeat first|exact zE|refine wkA ?_|refine zB fun b=>?_|refine zC fun a' c' hc1 hc2=>?_|(apply GJ.a;exact rfl;intro hg)|(apply GJ.o;exact rfl;intro hg)
    exact Wk.outS Sup.z (.refl _) hk
 | false =>
   rw [if_neg (by simp)] at hfr
   repeat first|exact zE|refine wkA ?_|refine zB fun b=>?_|refine zC fun a' c' hc1 hc2=>?_|(apply GJ.a;exact rfl;intro hg)|(apply GJ.o;exact rfl;intro hg)
   refine zE0 u _ _ _ ?_
   obtain ⟨y,hy⟩:∃ y,digB u=y:=⟨_,rfl⟩
   rw [hy] at hfr hp2 ⊢
   cases y with
   | true =>
     rw [if_pos rfl] at hfr
     have hp2:=hp2 rfl
     repeat first|exact zE|refine wkA ?_|refine zB fun b=>?_|refine zC fun a' c' hc1 hc2=>?_|(apply GJ.a;exact rfl;intro hg)|(apply GJ.o;exact rfl;intro hg)
     refine CallOk.sup (own0:=.blk p 150 [str tx,.int .i64 (a:Int),o]::.blk b 111 [.int .i64 0,.int .i64 0,str []]::r) Sup.z ?_
     refine zDk zE0 (by omega) hl ?_
     generalize (tx.drop a).takeWhile digB=w at *
     obtain ⟨hp2,hp3⟩:=hp2
     by_cases hg:20<w.length
     ·rw [if_pos hg] at hfr
      have hk:=hk2 2 hfr (by omega) (by omega) (a+w.length) (by omega)
      repeat first|exact zE|refine wkA ?_|refine zB fun b=>?_|refine zC fun a' c' hc1 hc2=>?_|(apply GJ.a;exact rfl;intro hg)|(apply GJ.o;exact rfl;intro hg)
      exact Wk.outS Sup.z (.refl _) hk
     ·rw [if_neg hg] at hfr
      have hp4:w[Int.toNat 0]! = u:=hp3
      by_cases hg1:1<w.length
      ·by_cases h48:u.toNat=48
       ·rw [if_pos ⟨hg1,h48⟩] at hfr
        have hk:=hk2 5 hfr (by omega) (by omega) (a+w.length) (by omega)
        repeat first|exact zE|refine wkA ?_|refine zB fun b=>?_|refine zC fun a' c' hc1 hc2=>?_|(apply GJ.a;exact rfl;intro hg)|(apply GJ.o;exact rfl;intro hg)
        try rw [hp4]
        repeat first|exact zE|refine wkA ?_|refine zB fun b=>?_|refine zC fun a' c' hc1 hc2=>?_|(apply GJ.a;exact rfl;intro hg)|(apply GJ.o;exact rfl;intro hg)
        exact Wk.outS Sup.z (.refl _) hk
       ·rw [if_neg (fun h=>h48 h.2)] at hfr
        have hk:=hk1 _ _ _ hfr (by omega) hp2
        repeat first|exact zE|refine wkA ?_|refine zB fun b=>?_|refine zC fun a' c' hc1 hc2=>?_|(apply GJ.a;exact rfl;intro hg)|(apply GJ.o;exact rfl;intro hg)
        try rw [hp4]
        repeat first|exact zE|refine wkA ?_|refine zB fun b=>?_|refine zC fun a' c' hc1 hc2=>?_|(apply GJ.a;exact rfl;intro hg)|(apply GJ.o;exact rfl;intro hg)
        exact Wk.outS Sup.z (.refl _) hk
      ·rw [if_neg (fun h=>hg1 h.1)] at hfr
       have hk:=hk1 _ _ _ hfr (by omega) hp2
       repeat first|exact zE|refine wkA ?_|refine zB fun b=>?_|refine zC fun a' c' hc1 hc2=>?_|(apply GJ.a;exact rfl;intro hg)|(apply GJ.o;exact rfl;intro hg)
       exact Wk.outS Sup.z (.refl _) hk
   | false =>
     rw [if_neg (by simp)] at hfr
     by_cases h47:u.toNat=47
     ·rw [if_pos h47] at hfr
      repeat first|exact zE|refine wkA ?_|refine zB fun b=>?_|refine zC fun a' c' hc1 hc2=>?_|(apply GJ.a;exact rfl;intro hg)|(apply GJ.o;exact rfl;intro hg)
      refine CallOk.sup (own0:=.blk p 150 [str tx,.int .i64 (a:Int),o]::.blk b 111 [.int .i64 0,.int .i64 0,str []]::r) Sup.z ?_
      refine zG6 hat hl (fun w hw hwl=>?_) (fun hw a' ha'=>?_)
      ·rw [hw] at hfr
       have hk:=hk1 _ _ _ hfr (by omega) (by omega)
       rw [show a+(w.length+2)=a+w.length+2 by omega] at hk
       repeat first|exact zE|refine wkA ?_|refine zB fun b=>?_|refine zC fun a' c' hc1 hc2=>?_|(apply GJ.a;exact rfl;intro hg)|(apply GJ.o;exact rfl;intro hg)
       exact Wk.outS Sup.z (.refl _) hk
      ·rw [hw] at hfr
       have hk:=hk2 5 hfr (by omega) (by omega) a' ha'
       repeat first|exact zE|refine wkA ?_|refine zB fun b=>?_|refine zC fun a' c' hc1 hc2=>?_|(apply GJ.a;exact rfl;intro hg)|(apply GJ.o;exact rfl;intro hg)
       exact Wk.outS Sup.z (.refl _) hk
     ·rw [if_neg h47] at hfr
      repeat first|exact zE|refine wkA ?_|refine zB fun b=>?_|refine zC fun a' c' hc1 hc2=>?_|(apply GJ.a;exact rfl;intro hg)|(apply GJ.o;exact rfl;intro hg)
      refine zHU hS (fun bf=>?_)
      have hsl:=zHj
      have hs14:signsL.length=14:=rfl
      have hnn:(∀ i,i<14→(signsL[i]!).isPrefixOf (tx.drop a)=false)→signsL.find? (·.isPrefixOf (tx.drop a))=none:=fun h=>by
       refine zHR fun x hx=>?_
       obtain ⟨i,hi,rfl⟩:=List.getElem_of_mem hx
       have:=h i hi
       rwa [getElem!_pos signsL i hi] at this
      have hff:∀ j,j<14→(signsL[j]!).isPrefixOf (tx.drop a)=true→(∀ i,i<j→(signsL[i]!).isPrefixOf (tx.drop a)=false)→signsL.find? (·.isPrefixOf (tx.drop a))=some signsL[j]!:=fun j hj h1 h2=>zHS (by omega) h1 h2
      generalize signsL.find? (·.isPrefixOf (tx.drop a))=fo at hfr hnn hff
      generalize signsL=sl at *
      have hml:(List.map str sl).length=14:=by rw [List.length_map];exact hs14
      repeat first|exact zE|refine wkA ?_|refine zB fun b=>?_|refine zC fun a' c' hc1 hc2=>?_|(apply GJ.a;exact rfl;intro hg)|(apply GJ.o;exact rfl;intro hg)
      refine LoopOk.at (ι:=Nat) Keep.z (fun j=>[(58,.int .i64 (j:Int))]) (fun j=>.sl (some ⟨bf,0,none⟩) 14 14 9 1 (sl.map str)::.blk b 111 [.int .i64 0,.int .i64 0,str []]::.blk p 150 [str tx,.int .i64 (a:Int),o]::r) (fun j=>j≤14∧∀ i,i<j→(sl[i]!).isPrefixOf (tx.drop a)=false) (fun j=>14-j) 0 ?_ Sub.z Sup.z ?_
      ·exact ⟨Nat.zero_le _,fun i hi=>absurd hi (by omega)⟩
      rintro j ⟨j1,j2⟩
      dsimp only [List.cons_append,List.nil_append] at j1 j2 ⊢
      by_cases hj:j<14
      ·have hsj:=hsl j hj
       have hfj:=hff j hj
       have hgm:(sl.map str)[j]?=some (str sl[j]!):=zEf (by omega)
       have hjj:sl[j]! = sl[j]!:=rfl
       have hj2:∀ i,i<j+1→i≠j→(sl[i]!).isPrefixOf (tx.drop a)=false:=fun i hi hne=>j2 i (by omega)
       generalize hsv:sl[j]! = s at hsj hfj hgm
       have hpre:s.isPrefixOf (tx.drop a)=true→s.length≤tx.length-a:=fun h=>by
        have:=(List.isPrefixOf_iff_prefix.1 h).length_le
        rwa [List.length_drop] at this
       have ej:sl[((j:Nat):Int).toNat]! = s:=by rw [Int.toNat_natCast];exact hsv
       repeat first|exact zE|refine wkA ?_|refine zB fun b=>?_|refine zC fun a' c' hc1 hc2=>?_|(apply GJ.a;exact rfl;intro hg)|(apply GJ.o;exact rfl;intro hg)
       rw [ej,Int.toNat_natCast a]
       refine zHx (by rw [List.length_drop];omega) (by omega) ?_
       obtain ⟨q,hq⟩:∃ q,s.isPrefixOf (tx.drop a)=q:=⟨_,rfl⟩
       rw [hq] at hfj hpre ⊢
       cases q with
       | true =>
         have hpl:=hpre rfl
         have hk:=hk1 4 s s.length (by rw [hfr,hfj rfl j2]) (by omega) (by omega)
         repeat first|exact zE|refine wkA ?_|refine zB fun b=>?_|refine zC fun a' c' hc1 hc2=>?_|(apply GJ.a;exact rfl;intro hg)|(apply GJ.o;exact rfl;intro hg)
         exact Wk.outS Sup.z (.refl _) hk
       | false =>
         repeat first|exact zE|refine wkA ?_|refine zB fun b=>?_|refine zC fun a' c' hc1 hc2=>?_|(apply GJ.a;exact rfl;intro hg)|(apply GJ.o;exact rfl;intro hg)
         refine Wk.id ⟨j+1,⟨rfl,?_⟩,?_,Sub.z,Sup.z⟩
         all_goals try dsimp only
         ·refine ⟨by omega,fun i hi=>?_⟩
          by_cases hij:i=j
          ·rw [hij,hsv,hq]
          ·exact hj2 i hi hij
         ·omega
      ·have hk:=hk2 100 (by rw [hfr,hnn (fun i hi=>j2 i (by omega))]) (by omega) (by omega) a (by omega)
       repeat first|exact zE|refine wkA ?_|refine zB fun b=>?_|refine zC fun a' c' hc1 hc2=>?_|(apply GJ.a;exact rfl;intro hg)|(apply GJ.o;exact rfl;intro hg)
       exact Wk.outS Sup.z (.refl _) hk
end
structure TokD where
 kind:Nat
 a:Nat
 text:List UInt8
deriving DecidableEq
def TokD.v (t:TokD):List Value:=tokV t.kind t.a t.text
def zDh (l:List TokD):List Value:=l.flatMap TokD.v
theorem zDR (l:List TokD) (t:TokD):zDh (l++[t])=zDh l++t.v:=by simp [zDh]
theorem zDS:∀ (l:List TokD) (i:Nat) (t:TokD),l[i]?=some t→((zDh l).drop (i*3)).take 3=t.v
 | [],i,t,h=>by simp at h
 | x::l,0,t,h=>by simp at h;subst h;rfl
 | x::l,i+1,t,h=>by
   rw [show (i+1)*3=3+i*3 by omega]
   show List.take 3 (List.drop (3+i*3) (x.v++zDh l))=_
   rw [←List.drop_drop,List.drop_left' (by rfl)]
   exact zDS l i t (by simpa using h)
def zF1:Nat→Nat→List TokD→List UInt8→List TokD × Nat × Nat
 | 0,_,_,_=>([],0,0)
 | k+1,a,out,l=>if l.drop (gapD false l)=[] then (out++[⟨5,a+gapD false l,[]⟩],0,0)
   else if out.length=8192 then ([],a+gapD false l,2)
   else if (zAE (l.drop (gapD false l))).2.2.2≠0 then ([],a+gapD false l,(zAE (l.drop (gapD false l))).2.2.2)
   else zF1 k (a+gapD false l+(zAE (l.drop (gapD false l))).2.2.1) (out++[⟨(zAE (l.drop (gapD false l))).1,a+gapD false l,(zAE (l.drop (gapD false l))).2.1⟩]) ((l.drop (gapD false l)).drop (zAE (l.drop (gapD false l))).2.2.1)
def zBW (tx:List UInt8):List TokD × Nat × Nat:=if 65536<tx.length then ([],0,2) else zF1 (tx.length+1) 0 [] tx
def zHW (code a:Nat):Value:=.agg #[.int .i64 (code:Int),.int .i64 (a:Int)]
section
variable {ro:Ro}{own r:Chs}{K:Value→Ro→Chs→Prop}{g:Chunk→Chs}
set_option maxHeartbeats 4000000 in
theorem scan_ok {tx:List UInt8} (hS:SpOk ro) (hl:tx.length≤100000)
  (hk:∀ l a code a' c',zBW tx=(l,a,code)→l.length≤8193→code≤1000→a≤tx.length→l.length≤c'→c'≤maxLen→K (.tuple #[.slice a' l.length c',zHW code a]) ro (.sl a' l.length c' 111 3 (zDh l)::own)) :
  CallOk Tryz.prog 56 #[str tx] ro own K:=by
 refine CallOk.intro (args:=[_]) (rs:=[_,_]) T_ok Tryz.func56 Tryz.call56 rfl rfl (by kernel_rfl) rfl rfl ?_
 by_cases hbig:65536<tx.length
 ·have hk:=hk [] 0 2 none 0 (by rw [zBW,if_pos hbig]) (by simp) (by omega) (by omega) (by simp) (Nat.zero_le _)
  repeat first|exact zE|refine wkA ?_|refine zB fun b=>?_|refine zC fun a' c' hc1 hc2=>?_|(apply GJ.a;exact rfl;intro hg)|(apply GJ.o;exact rfl;intro hg)
  exact Wk.outS (Sup.nilc Sup.z) (.refl _) hk
 ·have hsc:zBW tx=zF1 (tx.length+1) 0 [] tx:=by rw [zBW,if_neg hbig]
  repeat first|exact zE|refine wkA ?_|refine zB fun b=>?_|refine zC fun a' c' hc1 hc2=>?_|(apply GJ.a;exact rfl;intro hg)|(apply GJ.o;exact rfl;intro hg)
  obtain ⟨q,hq⟩:∃ q:Nat,q=b:=⟨_,rfl⟩
  subst hq
  obtain ⟨bf,hbf⟩:∃ x:Nat,x=b:=⟨_,rfl⟩
  subst hbf
  refine LoopOk.at (ι:=Nat × Nat × List TokD × Option Addr × Nat) Keep.z (fun (k,a,o,ad,cp)=>[]) (fun (k,a,o,ad,cp)=>.sl ad o.length cp 111 3 (zDh o)::.blk q 150 [str tx,.int .i64 (a:Int),.slice ad o.length cp]::.blk bf 58 [.int .i64 0,.int .i64 0]::own) (fun (k,a,o,ad,cp)=>a≤tx.length∧o.length≤8192∧o.length≤cp∧cp≤maxLen∧tx.length-a<k∧zF1 k a o (tx.drop a)=zBW tx) (fun (k,a,o,ad,cp)=>tx.length+1-a) (tx.length+1,0,[],none,0) ?_ Sub.z (Sup.nilc Sup.z) ?_
  ·exact ⟨by omega,by simp,by simp,Nat.zero_le _,by omega,by rw [hsc];rfl⟩
  rintro ⟨k,a,o,ad,cp⟩ ⟨i1,i2,i3,i4,i5,i6⟩
  dsimp only [List.cons_append,List.nil_append] at i1 i2 i3 i4 i5 i6 ⊢
  obtain ⟨k,rfl⟩:∃ j,k=j+1:=⟨k-1,by omega⟩
  have hgl:=zCU (tx.drop a) false
  rw [List.length_drop] at hgl
  rw [zF1] at i6
  have hdd:(tx.drop a).drop (gapD false (tx.drop a))=tx.drop (a+gapD false (tx.drop a)):=by rw [List.drop_drop]
  rw [hdd] at i6
  repeat first|exact zE|refine wkA ?_|refine zB fun b=>?_|refine zC fun a' c' hc1 hc2=>?_|(apply GJ.a;exact rfl;intro hg)|(apply GJ.o;exact rfl;intro hg)
  refine CallOk.sup (own0:=.blk q 150 [str tx,.int .i64 (a:Int),.slice ad o.length cp]::.sl ad o.length cp 111 3 (zDh o)::.blk bf 58 [.int .i64 0,.int .i64 0]::own) Sup.z ?_
  refine gap_ok i1 hl ?_
  obtain ⟨a2,ha2⟩:∃ a2,a+gapD false (tx.drop a)=a2:=⟨_,rfl⟩
  rw [ha2] at i6 ⊢
  by_cases hend:a2=tx.length
  ·have h0:tx.drop a2=[]:=List.drop_eq_nil_of_le (by omega)
   rw [if_pos h0] at i6
   have hk:=hk (o++[⟨5,a2,[]⟩]) 0 0
   repeat first|exact zE|refine wkT ?_|refine zB fun b=>?_|refine zC fun a' c' hc1 hc2=>?_|(apply GJ.a;exact rfl;intro hg)|(apply GJ.o;exact rfl;intro hg)
   refine Bs.mk ⟨[.blk q 150 [str tx,.int .i64 (a2:Int),.slice ad o.length cp]],Sup.z,?_⟩
   repeat (first|exact zE|refine wkU ?_|(show QOk _ _ _ _ _ _ _;refine QOk.build rfl rfl Nf.auto ?_)|(show GJ _ _ _ _ _ _ _;first|with_reducible refine GJ.neF ?_|with_reducible refine GJ.neT ?_)|(show Br _ _ _;with_reducible refine Br.ne ?_)|refine zB (fun b=>?_)|refine zC (fun a' c' hc1 hc2=>?_)|(apply GJ.a;exact rfl;intro hg)|(apply GJ.o;exact rfl;intro hg))
   have hk:=hk a' c' i6.symm (by simp;omega) (by omega) (by omega) (by simp;exact hc1) hc2
   rw [zDR,List.length_append] at hk
   exact Wk.outS Sup.z (.refl _) hk
  ·have h0:tx.drop a2≠[]:=fun e=>by
    have:=congrArg List.length e
    rw [List.length_drop] at this
    simp at this
    omega
   rw [if_neg h0] at i6
   by_cases hmany:o.length=8192
   ·rw [if_pos hmany] at i6
    have hk:=hk [] a2 2 none 0 i6.symm (by simp) (by omega) (by omega) (by simp) (Nat.zero_le _)
    repeat first|exact zE|refine wkA ?_|refine zB fun b=>?_|refine zC fun a' c' hc1 hc2=>?_|(apply GJ.a;exact rfl;intro hg)|(apply GJ.o;exact rfl;intro hg)
    exact Wk.outS (Sup.nilc Sup.z) (.refl _) hk
   ·rw [if_neg hmany] at i6
    repeat first|exact zE|refine wkA ?_|refine zB fun b=>?_|refine zC fun a' c' hc1 hc2=>?_|(apply GJ.a;exact rfl;intro hg)|(apply GJ.o;exact rfl;intro hg)
    refine CallOk.sup (own0:=.blk q 150 [str tx,.int .i64 (a2:Int),.slice ad o.length cp]::.sl ad o.length cp 111 3 (zDh o)::.blk bf 58 [.int .i64 0,.int .i64 0]::own) Sup.z ?_
    refine next_ok hS (by omega) hl (fun kd w n hf hn1 hn2=>?_) (fun code hf hc1 hc2 a3 ha3=>?_)
    ·rw [hf] at i6
     rw [if_neg (by simp)] at i6
     dsimp only at i6
     rw [List.drop_drop] at i6
     repeat first|exact zE|refine wkT ?_|refine zB fun b=>?_|refine zC fun a' c' hc1 hc2=>?_|(apply GJ.a;exact rfl;intro hg)|(apply GJ.o;exact rfl;intro hg)
     refine Bs.mk ⟨[.blk b 111 (tokV kd 0 w),.blk q 150 [str tx,.int .i64 ((a2+n:Nat):Int),.slice ad o.length cp]],Sup.z,?_⟩
     repeat (first|exact zE|refine wkU ?_|(show QOk _ _ _ _ _ _ _;refine QOk.build rfl rfl Nf.auto ?_)|(show GJ _ _ _ _ _ _ _;first|with_reducible refine GJ.neF ?_|with_reducible refine GJ.neT ?_)|(show Br _ _ _;with_reducible refine Br.ne ?_)|refine zB (fun b=>?_)|refine zC (fun a' c' hc1 hc2=>?_)|(apply GJ.a;exact rfl;intro hg)|(apply GJ.o;exact rfl;intro hg))
     rw [show o.length+1=(o++[(⟨kd,a2,w⟩:TokD)]).length by simp] at hc1 ⊢
     rw [show flat [.agg #[.int .i64 (kd:Int),.int .i64 (a2:Int),str w]]=TokD.v ⟨kd,a2,w⟩ from rfl,←zDR]
     repeat first|exact zE|refine wkT ?_|refine zB fun b=>?_|refine zC fun a' c' hc1 hc2=>?_|(apply GJ.a;exact rfl;intro hg)|(apply GJ.o;exact rfl;intro hg)
     refine Wk.id ⟨(k,a2+n,o++[⟨kd,a2,w⟩],a',c'),⟨rfl,?_⟩,?_,Sub.z,Sup.z⟩
     all_goals try dsimp only
     ·exact ⟨hn1,by simp;omega,hc1,hc2,by omega,i6⟩
     ·omega
    ·rw [hf] at i6
     rw [if_pos hc1] at i6
     have hk:=hk [] a2 code none 0 i6.symm (by simp) hc2 (by omega) (by simp) (Nat.zero_le _)
     repeat first|exact zE|refine wkA ?_|refine zB fun b=>?_|refine zC fun a' c' hc1 hc2=>?_|(apply GJ.a;exact rfl;intro hg)|(apply GJ.o;exact rfl;intro hg)
     exact Wk.outS (Sup.nilc Sup.z) (.refl _) hk
end
end Go.Proofs.YtnapjcnfgdkmcaaGreatDoor
end
