/- Texts of a walk, one behind the other. -/
import Derived.Test.YtficlekgjbnniaaGreatDoorMg3
import Derived.Test.YtficlekgjbnniaaGreatDoorMg4
set_option linter.unusedVariables false
set_option linter.unusedSimpArgs false
set_option linter.unusedSectionVars false
set_option maxRecDepth 10000
section
namespace Go.Proofs.YtficlekgjbnniaaGreatDoor
open Go Go.E
abbrev Lg:=List UInt8→Prop
def emptyW:Lg:=fun w=>w=[]
def thenW (A B:Lg):Lg:=fun w=>∃ u v,w=u++v∧A u∧B v
def powW (A:Lg):Nat→Lg
 | 0=>emptyW
 | k+1=>thenW A (powW A k)
def repW (A:Lg) (a b:Int):Lg:=fun w=>∃ k:Nat,a≤(k:Int)∧(b<0∨(k:Int)≤b)∧powW A k w
mutual
def langN:RgD→Lg
 | .mk k s l a b=>fun w=>if k=1 then w=[] else if k=2 then ∃ c,w=[c]∧s.has c.toNat=true else if k=3 then catW l w else if k=4 then altW l w else if k=5 then repW (fun u=>kidW l u) a b w else False
def catW:List RgD→Lg
 | []=>fun w=>w=[]
 | x::r=>fun w=>∃ u v,w=u++v∧langN x u∧catW r v
def altW:List RgD→Lg
 | []=>fun _=>False
 | x::r=>fun w=>langN x w∨altW r w
def kidW:List RgD→Lg
 | []=>fun _=>False
 | x::_=>fun w=>langN x w
end
theorem lang_eq (k:Int) (s:SetD) (l:List RgD) (a b:Int) (w:List UInt8):langN (.mk k s l a b) w=(if k=1 then w=[] else if k=2 then ∃ c,w=[c]∧s.has c.toNat=true else if k=3 then catW l w else if k=4 then altW l w else if k=5 then repW (fun u=>kidW l u) a b w else False):=by rw [langN]
abbrev RelE:=Nat→EdgeD→Prop
inductive PathE (E:RelE):Nat→List UInt8→Nat→Prop
 | nil (s:Nat):PathE E s [] s
 | free {s:Nat}{x:EdgeD}{w:List UInt8}{u:Nat} (h:E s x) (hf:x.free=true) (hp:PathE E x.to w u):PathE E s w u
 | byte {s:Nat}{x:EdgeD}{c:UInt8}{w:List UInt8}{u:Nat} (h:E s x) (hf:x.free=false) (hc:x.set.has c.toNat=true) (hp:PathE E x.to w u):PathE E s (c::w) u
theorem PathE.app {E:RelE}{s m t:Nat}{u v:List UInt8} (h:PathE E s u m) (h2:PathE E m v t):PathE E s (u++v) t:=by
 induction h with
 | nil s=>exact h2
 | free h hf _ ih=>exact .free h hf (ih h2)
 | byte h hf hc _ ih=>exact .byte h hf hc (ih h2)
theorem PathE.mono {E F:RelE} (hm:∀ i x,E i x→F i x) {s t:Nat}{w:List UInt8} (h:PathE E s w t):PathE F s w t:=by
 induction h with
 | nil s=>exact .nil s
 | free h hf _ ih=>exact .free (hm _ _ h) hf ih
 | byte h hf hc _ ih=>exact .byte (hm _ _ h) hf hc ih
theorem PathE.none {E:RelE}{s t:Nat}{w:List UInt8} (hn:∀ x,¬E s x) (h:PathE E s w t):w=[]∧t=s:=by
 cases h with
 | nil=>exact ⟨rfl,rfl⟩
 | free h=>exact absurd h (hn _)
 | byte h=>exact absurd h (hn _)
theorem PathE.split {E E1 E2:RelE}{m:Nat} (A B:Nat→Prop) (hE:∀ i x,E i x→E1 i x∨E2 i x) (h1:∀ i x,E1 i x→A i∧(A x.to∨x.to=m)) (h2:∀ i x,E2 i x→B i∧B x.to)
  (hd:∀ i,A i→¬B i) (hm:B m) {s t:Nat}{w:List UInt8} (h:PathE E s w t) (ht:B t) :
  (A s→∃ u v,w=u++v∧PathE E1 s u m∧PathE E2 m v t)∧(B s→PathE E2 s w t):=by
 induction h with
 | nil s=>exact ⟨fun ha=>absurd ht (hd _ ha),fun _=>.nil s⟩
 | @free s x w u h hf hp ih =>
   have ih:=ih ht
   rcases hE _ _ h with e|e
   ·obtain ⟨a1,a2⟩:=h1 _ _ e
    refine ⟨fun _=>?_,fun hb=>absurd hb (hd _ a1)⟩
    rcases a2 with a2|a2
    ·obtain ⟨u1,v1,e1,p1,p2⟩:=ih.1 a2
     exact ⟨u1,v1,e1,.free e hf p1,p2⟩
    ·rw [a2] at ih
     exact ⟨[],w,rfl,.free e hf (a2▸.nil _),ih.2 hm⟩
   ·obtain ⟨b1,b2⟩:=h2 _ _ e
    exact ⟨fun ha=>absurd b1 (hd _ ha),fun _=>.free e hf (ih.2 b2)⟩
 | @byte s x c w u h hf hc hp ih =>
   have ih:=ih ht
   rcases hE _ _ h with e|e
   ·obtain ⟨a1,a2⟩:=h1 _ _ e
    refine ⟨fun _=>?_,fun hb=>absurd hb (hd _ a1)⟩
    rcases a2 with a2|a2
    ·obtain ⟨u1,v1,e1,p1,p2⟩:=ih.1 a2
     exact ⟨c::u1,v1,by rw [e1];rfl,.byte e hf hc p1,p2⟩
    ·rw [a2] at ih
     exact ⟨[c],w,rfl,.byte e hf hc (a2▸.nil _),ih.2 hm⟩
   ·obtain ⟨b1,b2⟩:=h2 _ _ e
    exact ⟨fun ha=>absurd b1 (hd _ ha),fun _=>.byte e hf hc (ih.2 b2)⟩
def rowN (st:StD) (i:Nat):List EdgeD:=st.rows[i]?.getD []
def PreN (st st2:StD):Prop:=∀ i,∃ e,rowN st2 i=rowN st i++e
def NewE (st st2:StD):RelE:=fun i x=>x∈(rowN st2 i).drop (rowN st i).length
theorem PreN.refl (st:StD):PreN st st:=fun i=>⟨[],by simp⟩
theorem PreN.trans {a b c:StD} (h1:PreN a b) (h2:PreN b c):PreN a c:=fun i=>by
 obtain ⟨e,he⟩:=h1 i
 obtain ⟨f,hf⟩:=h2 i
 exact ⟨e++f,by rw [hf,he,List.append_assoc]⟩
theorem new_refl (st:StD) (i:Nat) (x:EdgeD):¬NewE st st i x:=by unfold NewE;simp
theorem new_trans {a b c:StD} (h1:PreN a b) (h2:PreN b c) (i:Nat) (x:EdgeD):NewE a c i x↔NewE a b i x∨NewE b c i x:=by
 obtain ⟨e,he⟩:=h1 i
 obtain ⟨f,hf⟩:=h2 i
 unfold NewE
 rw [hf,he,List.append_assoc,List.drop_left,List.drop_left,←List.append_assoc,List.drop_left,List.mem_append]
theorem row_state (st:StD) (i:Nat):rowN (stateN st).2 i=rowN st i:=by
 unfold stateN rowN
 split
 ·rfl
 ·dsimp only
  by_cases h:i<st.rows.length
  ·rw [List.getElem?_append_left h]
  ·rw [List.getElem?_append_right (by omega),List.getElem?_eq_none (show st.rows.length≤i by omega)]
   by_cases h2:i-st.rows.length=0
   ·rw [h2];rfl
   ·rw [List.getElem?_eq_none (by simp;omega)]
theorem pre_state (st:StD):PreN st (stateN st).2:=fun i=>⟨[],by rw [row_state];simp⟩
theorem new_state (st:StD) (i:Nat) (x:EdgeD):¬NewE st (stateN st).2 i x:=by unfold NewE;rw [row_state];simp
theorem row_edge {st:StD}{f:Nat} (hf:f<st.rows.length) (y:EdgeD) (i:Nat):rowN (edgeN f y st) i=if i=f then rowN st i++[y] else rowN st i:=by
 unfold edgeN rowN
 dsimp only
 by_cases h:i=f
 ·subst h
  rw [if_pos rfl,List.getElem?_set_self hf];rfl
 ·rw [if_neg h,List.getElem?_set_ne (fun e=>h e.symm)]
theorem pre_edge {st:StD}{f:Nat} (hf:f<st.rows.length) (y:EdgeD):PreN st (edgeN f y st):=fun i=>by
 rw [row_edge hf]
 split
 ·exact ⟨[y],rfl⟩
 ·exact ⟨[],by simp⟩
theorem new_edge {st:StD}{f:Nat} (hf:f<st.rows.length) (y:EdgeD) (i:Nat) (x:EdgeD):NewE st (edgeN f y st) i x↔i=f∧x=y:=by
 unfold NewE
 rw [row_edge hf]
 split
 ·rename_i h;rw [List.drop_left,List.mem_singleton];simp [h]
 ·rename_i h;simp [h]
structure Frag (st:StD) (f t:Nat) (st2:StD) (L:Lg):Prop where
 grow:st.rows.length≤st2.rows.length
 pre:PreN st st2
 src:∀ i x,NewE st st2 i x→i=f∨(st.rows.length≤i∧i<st2.rows.length)
 tgt:∀ i x,NewE st st2 i x→st.rows.length≤x.to∧x.to<st2.rows.length
 tin:(t=f∧∀ i x,¬NewE st st2 i x)∨(st.rows.length≤t∧t<st2.rows.length)
 tout:∀ x,¬NewE st st2 t x
 lang:∀ w,PathE (NewE st st2) f w t↔L w
theorem Frag.congr {st st2:StD}{f t:Nat}{L M:Lg} (h:Frag st f t st2 L) (hl:∀ w,L w↔M w):Frag st f t st2 M:=⟨h.grow,h.pre,h.src,h.tgt,h.tin,h.tout,fun w=>(h.lang w).trans (hl w)⟩
theorem Frag.refl (st:StD) (f:Nat):Frag st f f st emptyW where
 grow:=Nat.le_refl _
 pre:=.refl st
 src i x h:=absurd h (new_refl st i x)
 tgt i x h:=absurd h (new_refl st i x)
 tin:=.inl ⟨rfl,new_refl st⟩
 tout:=new_refl st f
 lang w:=⟨fun h=>(h.none (new_refl st f)).1,fun h=>by rw [show w=[] from h];exact .nil f⟩
theorem Frag.then {st st1 st2:StD}{f t1 t2:Nat}{L1 L2:Lg} (h1:Frag st f t1 st1 L1) (h2:Frag st1 t1 t2 st2 L2) (hf:f<st.rows.length):Frag st f t2 st2 (thenW L1 L2):=by
 have g1:=h1.grow
 have g2:=h2.grow
 have hnew:=new_trans h1.pre h2.pre
 refine ⟨by omega,h1.pre.trans h2.pre,fun i x h=>?_,fun i x h=>?_,?_,fun x h=>?_,fun w=>⟨fun h=>?_,fun h=>?_⟩⟩
 ·rcases (hnew i x).1 h with h|h
  ·rcases h1.src i x h with h|h
   ·exact .inl h
   ·exact .inr (by omega)
  ·rcases h2.src i x h with h|h
   ·rcases h1.tin with ⟨h3,_⟩|h3
    ·exact .inl (h.trans h3)
    ·exact .inr (by omega)
   ·exact .inr (by omega)
 ·rcases (hnew i x).1 h with h|h
  ·have:=h1.tgt i x h;omega
  ·have:=h2.tgt i x h;omega
 ·rcases h2.tin with ⟨h3,h4⟩|h3
  ·rcases h1.tin with ⟨h5,h6⟩|h5
   ·exact .inl ⟨h3.trans h5,fun i x h=>((hnew i x).1 h).elim (h6 i x) (h4 i x)⟩
   ·exact .inr (by omega)
  ·exact .inr (by omega)
 ·rcases (hnew t2 x).1 h with h|h
  ·rcases h2.tin with ⟨h3,_⟩|h3
   ·rw [h3] at h;exact h1.tout x h
   ·rcases h1.src t2 x h with h4|h4<;>omega
  ·exact h2.tout x h
 ·-- a path is cut at t1
  have hB:t2=t1∨(st1.rows.length≤t2∧t2<st2.rows.length):=h2.tin.imp (fun h=>h.1) id
  have key:=PathE.split (E1:=NewE st st1) (E2:=NewE st1 st2) (m:=t1) (fun i=>(i=f∨(st.rows.length≤i∧i<st1.rows.length))∧i≠t1) (fun i=>i=t1∨(st1.rows.length≤i∧i<st2.rows.length))
   (fun i x h=>(hnew i x).1 h)
   (fun i x h=>by
    refine ⟨⟨h1.src i x h,fun e=>h1.tout x (e▸h)⟩,?_⟩
    by_cases e:x.to=t1
    ·exact .inr e
    ·exact .inl ⟨.inr (h1.tgt i x h),e⟩)
   (fun i x h=>⟨(h2.src i x h).imp id id,.inr (h2.tgt i x h)⟩)
   (fun i hi hb=>by
    rcases hb with hb|hb
    ·exact hi.2 hb
    ·rcases hi.1 with h|h<;>omega)
   (.inl rfl) h hB
  by_cases e:f=t1
  ·have:=key.2 (.inl e)
   refine ⟨[],w,rfl,(h1.lang []).1 (e▸.nil f),(h2.lang w).1 (e▸this)⟩
  ·obtain ⟨u,v,e1,p1,p2⟩:=key.1 ⟨.inl rfl,e⟩
   exact ⟨u,v,e1,(h1.lang u).1 p1,(h2.lang v).1 p2⟩
 ·obtain ⟨u,v,rfl,a,b⟩:=h
  exact (((h1.lang u).2 a).mono fun i x h=>(hnew i x).2 (.inl h)).app (((h2.lang v).2 b).mono fun i x h=>(hnew i x).2 (.inr h))
structure FragTo (st:StD) (f to:Nat) (st2:StD) (L:Lg):Prop where
 grow:st.rows.length≤st2.rows.length
 pre:PreN st st2
 src:∀ i x,NewE st st2 i x→i=f∨(st.rows.length≤i∧i<st2.rows.length)
 tgt:∀ i x,NewE st st2 i x→x.to=to∨(st.rows.length≤x.to∧x.to<st2.rows.length)
 lang:∀ w,PathE (NewE st st2) f w to↔L w
theorem FragTo.congr {st st2:StD}{f t:Nat}{L M:Lg} (h:FragTo st f t st2 L) (hl:∀ w,L w↔M w):FragTo st f t st2 M:=⟨h.grow,h.pre,h.src,h.tgt,fun w=>(h.lang w).trans (hl w)⟩
theorem FragTo.tout {st st2:StD}{f to:Nat}{L:Lg} (h:FragTo st f to st2 L) (ht:to<st.rows.length) (hne:to≠f) (x:EdgeD):¬NewE st st2 to x:=fun hx=>by
 rcases h.src to x hx with h|h
 ·exact hne h
 ·omega
theorem state_new {st:StD} (h:(stateN st).2.full=false):(stateN st).1=st.rows.length∧(stateN st).2.rows.length=st.rows.length+1∧st.full=false:=by
 have hl:=state_len st
 rw [state_full] at h
 split at h
 ·cases h
 ·rename_i h1
  rw [if_neg h1] at hl
  exact ⟨by unfold stateN;rw [if_neg h1],hl,h⟩
theorem frag_new {st:StD}{f:Nat} (hf:f<st.rows.length) (h:(stateN st).2.full=false) (y:EdgeD) (hy:y.to=(stateN st).1):Frag st f (stateN st).1 (edgeN f y (stateN st).2) (fun w=>if y.free then w=[] else ∃ c,w=[c]∧y.set.has c.toNat=true):=by
 obtain ⟨e1,e2,e3⟩:=state_new h
 have hnew:∀ i x,NewE st (edgeN f y (stateN st).2) i x↔i=f∧x=y:=fun i x=>by
  rw [new_trans (pre_state st) (pre_edge (by omega) y),new_edge (by omega)]
  exact ⟨fun h=>h.elim (fun h=>absurd h (new_state st i x)) id,.inr⟩
 have hno:∀ x,¬NewE st (edgeN f y (stateN st).2) (stateN st).1 x:=fun x hx=>by have:=((hnew _ x).1 hx).1;omega
 refine ⟨by rw [edge_len];omega,(pre_state st).trans (pre_edge (by omega) y),fun i x hx=>.inl ((hnew i x).1 hx).1,fun i x hx=>?_,.inr (by rw [edge_len];omega),hno,fun w=>⟨fun hp=>?_,fun hw=>?_⟩⟩
 ·rw [((hnew i x).1 hx).2,hy,edge_len];omega
 ·generalize ht:(stateN st).1=t at hp
  cases hp with
  | nil=>omega
  | free hx hfr hp2 =>
    obtain ⟨_,rfl⟩:=(hnew _ _).1 hx
    rw [hy,ht] at hp2
    rw [if_pos hfr]
    exact (hp2.none (ht▸hno)).1
  | byte hx hfr hc hp2 =>
    obtain ⟨_,rfl⟩:=(hnew _ _).1 hx
    rw [hy,ht] at hp2
    rw [if_neg (by rw [hfr];decide)]
    have:=(hp2.none (ht▸hno)).1
    subst this
    exact ⟨_,rfl,hc⟩
 ·have he:NewE st (edgeN f y (stateN st).2) f y:=(hnew f y).2 ⟨rfl,rfl⟩
  cases hfr:y.free with
  | true =>
    rw [if_pos hfr] at hw
    rw [hw]
    exact .free he hfr (hy▸.nil _)
  | false =>
    rw [if_neg (by rw [hfr];decide)] at hw
    obtain ⟨c,rfl,hc⟩:=hw
    exact .byte he hfr hc (hy▸.nil _)
theorem frag_first {st:StD}{f:Nat} (hf:f<st.rows.length) (h:(stateN st).2.full=false):Frag st f (stateN st).1 (edgeN f (freeE (stateN st).1) (stateN st).2) emptyW :=
 (frag_new hf h (freeE (stateN st).1) rfl).congr fun w=>by rw [if_pos (show (freeE (stateN st).1).free=true from rfl)];exact Iff.rfl
theorem fragTo_edge {st:StD}{f to:Nat} (hf:f<st.rows.length) (hne:to≠f):FragTo st f to (edgeN f (freeE to) st) emptyW:=by
 have hnew:=new_edge hf (freeE to)
 refine ⟨by rw [edge_len];omega,pre_edge hf _,fun i x hx=>.inl ((hnew i x).1 hx).1,fun i x hx=>.inl (by rw [((hnew i x).1 hx).2];rfl),fun w=>⟨fun hp=>?_,fun hw=>?_⟩⟩
 ·cases hp with
  | nil=>exact absurd rfl hne
  | free hx _ hp2 =>
    obtain ⟨_,rfl⟩:=(hnew _ _).1 hx
    exact (hp2.none (fun x hx=>hne ((hnew _ x).1 hx).1)).1
  | byte hx hfr _ _ =>
    obtain ⟨_,rfl⟩:=(hnew _ _).1 hx
    cases hfr
 ·rw [show w=[] from hw]
  exact .free ((hnew f _).2 ⟨rfl,rfl⟩) rfl (.nil _)
theorem Frag.thenTo {st st1 st2:StD}{f t to:Nat}{L1 L2:Lg} (h1:Frag st f t st1 L1) (h2:FragTo st1 t to st2 L2) (hf:f<st.rows.length) (ht:to<st.rows.length) (hne:to≠f):FragTo st f to st2 (thenW L1 L2):=by
 have g1:=h1.grow
 have g2:=h2.grow
 have hnew:=new_trans h1.pre h2.pre
 have htt:to≠t:=by rcases h1.tin with ⟨h,_⟩|h<;>omega
 refine ⟨by omega,h1.pre.trans h2.pre,fun i x h=>?_,fun i x h=>?_,fun w=>⟨fun h=>?_,fun h=>?_⟩⟩
 ·rcases (hnew i x).1 h with h|h
  ·rcases h1.src i x h with h|h
   ·exact .inl h
   ·exact .inr (by omega)
  ·rcases h2.src i x h with h|h
   ·rcases h1.tin with ⟨h3,_⟩|h3
    ·exact .inl (h.trans h3)
    ·exact .inr (by omega)
   ·exact .inr (by omega)
 ·rcases (hnew i x).1 h with h|h
  ·have:=h1.tgt i x h;exact .inr (by omega)
  ·rcases h2.tgt i x h with h|h
   ·exact .inl h
   ·exact .inr (by omega)
 ·have key:=PathE.split (E1:=NewE st st1) (E2:=NewE st1 st2) (m:=t) (fun i=>(i=f∨(st.rows.length≤i∧i<st1.rows.length))∧i≠t) (fun i=>i=t∨i=to∨(st1.rows.length≤i∧i<st2.rows.length))
   (fun i x h=>(hnew i x).1 h)
   (fun i x h=>by
    refine ⟨⟨h1.src i x h,fun e=>h1.tout x (e▸h)⟩,?_⟩
    by_cases e:x.to=t
    ·exact .inr e
    ·exact .inl ⟨.inr (h1.tgt i x h),e⟩)
   (fun i x h=>⟨(h2.src i x h).imp id .inr,.inr ((h2.tgt i x h).imp id id)⟩)
   (fun i hi hb=>by
    rcases hb with hb|hb|hb
    ·exact hi.2 hb
    ·rcases hi.1 with h|h<;>omega
    ·rcases hi.1 with h|h<;>omega)
   (.inl rfl) h (.inr (.inl rfl))
  by_cases e:f=t
  ·have:=key.2 (.inl e)
   refine ⟨[],w,rfl,(h1.lang []).1 (e▸.nil f),(h2.lang w).1 (e▸this)⟩
  ·obtain ⟨u,v,e1,p1,p2⟩:=key.1 ⟨.inl rfl,e⟩
   exact ⟨u,v,e1,(h1.lang u).1 p1,(h2.lang v).1 p2⟩
 ·obtain ⟨u,v,rfl,a,b⟩:=h
  exact (((h1.lang u).2 a).mono fun i x h=>(hnew i x).2 (.inl h)).app (((h2.lang v).2 b).mono fun i x h=>(hnew i x).2 (.inr h))
theorem PathE.stay {E F:RelE} (A:Nat→Prop) (h:∀ i x,A i→E i x→F i x∧A x.to) {s t:Nat}{w:List UInt8} (hp:PathE E s w t) (hs:A s):PathE F s w t:=by
 induction hp with
 | nil s=>exact .nil s
 | free hx hf _ ih=>obtain ⟨a,b⟩:=h _ _ hs hx;exact .free a hf (ih b)
 | byte hx hf hc _ ih=>obtain ⟨a,b⟩:=h _ _ hs hx;exact .byte a hf hc (ih b)
theorem FragTo.or {st st1 st2:StD}{f to:Nat}{L1 L2:Lg} (h1:FragTo st f to st1 L1) (h2:FragTo st1 f to st2 L2) (hf:f<st.rows.length) (ht:to<st.rows.length) (hne:to≠f):FragTo st f to st2 (fun w=>L1 w∨L2 w):=by
 have g1:=h1.grow
 have g2:=h2.grow
 have hnew:=new_trans h1.pre h2.pre
 refine ⟨by omega,h1.pre.trans h2.pre,fun i x h=>?_,fun i x h=>?_,fun w=>⟨fun h=>?_,fun h=>?_⟩⟩
 ·rcases (hnew i x).1 h with h|h
  ·rcases h1.src i x h with h|h
   ·exact .inl h
   ·exact .inr (by omega)
  ·rcases h2.src i x h with h|h
   ·exact .inl h
   ·exact .inr (by omega)
 ·rcases (hnew i x).1 h with h|h
  ·rcases h1.tgt i x h with h|h
   ·exact .inl h
   ·exact .inr (by omega)
  ·rcases h2.tgt i x h with h|h
   ·exact .inl h
   ·exact .inr (by omega)
 ·-- behind the first edge it stays in one of both
  have stay1:∀ {s:Nat}{w:List UInt8},PathE (NewE st st2) s w to→(s=to∨(st.rows.length≤s∧s<st1.rows.length))→PathE (NewE st st1) s w to:=fun hp hs =>
   hp.stay (fun i=>i=to∨(st.rows.length≤i∧i<st1.rows.length)) (fun i x hi hx=>by
    rcases (hnew i x).1 hx with hx|hx
    ·exact ⟨hx,h1.tgt i x hx⟩
    ·rcases h2.src i x hx with h3|h3
     ·rcases hi with h4|h4<;>omega
     ·rcases hi with h4|h4<;>omega) hs
  have stay2:∀ {s:Nat}{w:List UInt8},PathE (NewE st st2) s w to→(s=to∨(st1.rows.length≤s∧s<st2.rows.length))→PathE (NewE st1 st2) s w to:=fun hp hs =>
   hp.stay (fun i=>i=to∨(st1.rows.length≤i∧i<st2.rows.length)) (fun i x hi hx=>by
    rcases (hnew i x).1 hx with hx|hx
    ·rcases h1.src i x hx with h3|h3
     ·rcases hi with h4|h4<;>omega
     ·rcases hi with h4|h4<;>omega
    ·exact ⟨hx,h2.tgt i x hx⟩) hs
  cases h with
  | nil=>exact absurd rfl hne
  | free hx hfr hp =>
    rcases (hnew _ _).1 hx with hx|hx
    ·exact .inl ((h1.lang _).1 (.free hx hfr (stay1 hp (h1.tgt _ _ hx))))
    ·exact .inr ((h2.lang _).1 (.free hx hfr (stay2 hp (h2.tgt _ _ hx))))
  | byte hx hfr hc hp =>
    rcases (hnew _ _).1 hx with hx|hx
    ·exact .inl ((h1.lang _).1 (.byte hx hfr hc (stay1 hp (h1.tgt _ _ hx))))
    ·exact .inr ((h2.lang _).1 (.byte hx hfr hc (stay2 hp (h2.tgt _ _ hx))))
 ·rcases h with h|h
  ·exact ((h1.lang w).2 h).mono fun i x h=>(hnew i x).2 (.inl h)
  ·exact ((h2.lang w).2 h).mono fun i x h=>(hnew i x).2 (.inr h)
theorem FragTo.frag {st st2:StD}{f:Nat}{L:Lg} (hf:f<st.rows.length) (h:(stateN st).2.full=false) (h1:FragTo (stateN st).2 f (stateN st).1 st2 L):Frag st f (stateN st).1 st2 L:=by
 obtain ⟨e1,e2,e3⟩:=state_new h
 have g:=h1.grow
 have hnew:∀ i x,NewE st st2 i x↔NewE (stateN st).2 st2 i x:=fun i x=>by
  rw [new_trans (pre_state st) h1.pre]
  exact ⟨fun h=>h.elim (fun h=>absurd h (new_state st i x)) id,.inr⟩
 refine ⟨by omega,(pre_state st).trans h1.pre,fun i x hx=>?_,fun i x hx=>?_,.inr (by omega),fun x hx=>h1.tout (by omega) (by omega) x ((hnew _ x).1 hx),fun w=>?_⟩
 ·rcases h1.src i x ((hnew i x).1 hx) with h|h
  ·exact .inl h
  ·exact .inr (by omega)
 ·rcases h1.tgt i x ((hnew i x).1 hx) with h|h<;>omega
 ·rw [←h1.lang w]
  exact ⟨fun hp=>hp.mono fun i x hx=>(hnew i x).1 hx,fun hp=>hp.mono fun i x hx=>(hnew i x).2 hx⟩
def starW (L:Lg):Lg:=fun w=>∃ k,powW L k w
theorem fragTo_loop {st:StD}{f0 to:Nat}{f:NodeF}{c s:Nat}{L:Lg} (hm:MadeF c s f) (hF:∀ (f1:Nat) (s1:StD),StOk s1→f1<s1.rows.length→(f f1 s1).2.full=false→Frag s1 f1 (f f1 s1).1 (f f1 s1).2 L)
  (ho:StOk st) (hf:f0<st.rows.length) (ht:to<st.rows.length) (hne:to≠f0) (hfull:(loopN f to f0 st).full=false):FragTo st f0 to (loopN f to f0 st) (starW L):=by
 unfold loopN at hfull ⊢
 dsimp only at hfull ⊢
 have m1:=made_state ho
 have hsl:=state_lt ho
 have hfn:(stateN st).2.full=false→(stateN st).1=st.rows.length∧(stateN st).2.rows.length=st.rows.length+1:=fun h=>⟨(state_new h).1,(state_new h).2.1⟩
 have fr1:=fun h=>frag_first (st:=st) (f:=f0) hf h
 have hpre1:=pre_state st
 have hns:=new_state st
 generalize stateN st=r at *
 have o3:StOk (edgeN f0 (freeE r.1) r.2):=m1.ok.edge hsl
 have hL3:=edge_len f0 (freeE r.1) r.2
 have hF3:=edge_full f0 (freeE r.1) r.2
 generalize hs3:edgeN f0 (freeE r.1) r.2=s3 at *
 have o4:StOk (edgeN r.1 (freeE to) s3):=o3.edge (show to<s3.rows.length by have:=m1.grow;omega)
 have hL4:=edge_len r.1 (freeE to) s3
 have hF4:=edge_full r.1 (freeE to) s3
 have hp4:=pre_edge (st:=s3) (f:=r.1) (by omega) (freeE to)
 have hn4:=new_edge (st:=s3) (f:=r.1) (by omega) (freeE to)
 generalize edgeN r.1 (freeE to) s3=s4 at *
 have a:=(hm r.1 s4 o4 (by omega)).1
 have hFr:=hF r.1 s4 o4 (by omega)
 generalize f r.1 s4=p at *
 have hL5:=edge_len p.1 (freeE r.1) p.2
 have hF5:=edge_full p.1 (freeE r.1) p.2
 have hp5:=pre_edge (st:=p.2) a.lt (freeE r.1)
 have hn5:=new_edge (st:=p.2) a.lt (freeE r.1)
 generalize edgeN p.1 (freeE r.1) p.2=s5 at *
 have hpf:p.2.full=false:=hF5.symm.trans hfull
 have h4f:s4.full=false:=by cases hh:s4.full with
  | false=>rfl
  | true=>rw [a.keep hh] at hpf;cases hpf
 have hrf:r.2.full=false:=by rw [←hF3,←hF4];exact h4f
 obtain ⟨e1,e2⟩:=hfn hrf
 have fr1:=fr1 hrf
 have fr:=hFr hpf
 have g2:=fr.grow
 -- all edges that came
 have hall:∀ i x,NewE st s5 i x↔(NewE st s3 i x∨(i=r.1∧x=freeE to)∨NewE s4 p.2 i x∨(i=p.1∧x=freeE r.1)):=fun i x=>by
  rw [new_trans fr1.pre (hp4.trans (fr.pre.trans hp5)),new_trans hp4 (fr.pre.trans hp5),new_trans fr.pre hp5,hn4,hn5]
 have hE0:∀ i x,NewE st s3 i x→i=f0∧x=freeE r.1:=fun i x h=>by
  rw [←hs3,new_trans hpre1 (pre_edge (by omega) _),new_edge (by omega)] at h
  exact h.elim (fun h=>absurd h (hns i x)) id
 have hE0':NewE st s3 f0 (freeE r.1):=by
  rw [←hs3,new_trans hpre1 (pre_edge (by omega) _),new_edge (by omega)]
  exact .inr ⟨rfl,rfl⟩
 have hpin:p.1=r.1∨(s4.rows.length≤p.1∧p.1<p.2.rows.length):=fr.tin.imp (fun h=>h.1) id
 have hto:∀ x,¬NewE st s5 to x:=fun x h=>by
  rcases (hall to x).1 h with h|h|h|h
  ·exact hne (hE0 _ _ h).1
  ·omega
  ·rcases fr.src _ _ h with h|h<;>omega
  ·omega
 -- paths within the loop
 have key:∀ {i:Nat}{w:List UInt8}{t:Nat},PathE (NewE st s5) i w t→t=to→(i=r.1→starW L w)∧(s4.rows.length≤i→∃ u v,w=u++v∧PathE (NewE s4 p.2) i u p.1∧starW L v):=by
  intro i w t hp
  induction hp with
  | nil i=>exact fun e=>⟨fun h=>by omega,fun h=>by omega⟩
  | @free i x w u hx hfr hp ih =>
    intro e
    have ih:=ih e
    refine ⟨fun hi=>?_,fun hi=>?_⟩
    ·subst hi
     rcases (hall _ x).1 hx with h|h|h|h
     ·have:=(hE0 _ _ h).1;omega
     ·rw [h.2,e] at hp
      have:=(hp.none hto).1
      exact ⟨0,this⟩
     ·obtain ⟨u1,v,e3,p1,k,hk⟩:=ih.2 (fr.tgt _ _ h).1
      refine ⟨k+1,u1,v,e3,(fr.lang u1).1 (.free h hfr p1),hk⟩
     ·rw [h.2] at ih
      exact ih.1 rfl
    ·rcases (hall _ x).1 hx with h|h|h|h
     ·have:=(hE0 _ _ h).1;omega
     ·omega
     ·obtain ⟨u1,v,e3,p1,hk⟩:=ih.2 (fr.tgt _ _ h).1
      exact ⟨u1,v,e3,.free h hfr p1,hk⟩
     ·rw [h.2] at ih
      rw [h.1]
      exact ⟨[],w,rfl,.nil _,ih.1 rfl⟩
  | @byte i x c w u hx hfr hc hp ih =>
    intro e
    have ih:=ih e
    refine ⟨fun hi=>?_,fun hi=>?_⟩
    ·subst hi
     rcases (hall _ x).1 hx with h|h|h|h
     ·have:=(hE0 _ _ h).1;omega
     ·rw [h.2] at hfr;cases hfr
     ·obtain ⟨u1,v,e3,p1,k,hk⟩:=ih.2 (fr.tgt _ _ h).1
      refine ⟨k+1,c::u1,v,by rw [e3];rfl,(fr.lang _).1 (.byte h hfr hc p1),hk⟩
     ·rw [h.2] at hfr;cases hfr
    ·rcases (hall _ x).1 hx with h|h|h|h
     ·have:=(hE0 _ _ h).1;omega
     ·omega
     ·obtain ⟨u1,v,e3,p1,hk⟩:=ih.2 (fr.tgt _ _ h).1
      exact ⟨c::u1,v,by rw [e3];rfl,.byte h hfr hc p1,hk⟩
     ·rw [h.2] at hfr;cases hfr
 have back:∀ (k:Nat) (w:List UInt8),powW L k w→PathE (NewE st s5) r.1 w to:=by
  intro k
  induction k with
  | zero=>intro w hw;rw [show w=[] from hw];exact .free ((hall _ _).2 (.inr (.inl ⟨rfl,rfl⟩))) rfl (.nil _)
  | succ k ih =>
    rintro w ⟨u,v,rfl,hu,hv⟩
    have p1:=((fr.lang u).2 hu).mono (F:=NewE st s5) fun i x h=>(hall i x).2 (.inr (.inr (.inl h)))
    have p2:PathE (NewE st s5) p.1 [] r.1:=.free ((hall _ _).2 (.inr (.inr (.inr ⟨rfl,rfl⟩)))) rfl (.nil _)
    exact p1.app (p2.app (ih v hv))
 refine ⟨by omega,fr1.pre.trans (hp4.trans (fr.pre.trans hp5)),fun i x h=>?_,fun i x h=>?_,fun w=>⟨fun h=>?_,fun h=>?_⟩⟩
 ·rcases (hall i x).1 h with h|h|h|h
  ·exact .inl (hE0 _ _ h).1
  ·exact .inr (by omega)
  ·rcases fr.src _ _ h with h|h
   ·exact .inr (by omega)
   ·exact .inr (by omega)
  ·rcases hpin with h2|h2
   ·exact .inr (by omega)
   ·exact .inr (by omega)
 ·rcases (hall i x).1 h with h|h|h|h
  ·rw [(hE0 _ _ h).2];exact .inr (show st.rows.length≤r.1∧r.1<_ by omega)
  ·rw [h.2];exact .inl rfl
  ·have:=fr.tgt _ _ h;exact .inr (by omega)
  ·rw [h.2];exact .inr (show st.rows.length≤r.1∧r.1<_ by omega)
 ·generalize ht2:to=t at h
  cases h with
  | nil=>exact absurd ht2 hne
  | free hx hfr hp =>
    rcases (hall _ _).1 hx with h|h|h|h
    ·rw [(hE0 _ _ h).2] at hp
     exact (key hp ht2.symm).1 rfl
    ·omega
    ·rcases fr.src _ _ h with h|h<;>omega
    ·rcases hpin with h2|h2<;>omega
  | byte hx hfr hc hp =>
    rcases (hall _ _).1 hx with h|h|h|h
    ·rw [(hE0 _ _ h).2] at hfr;cases hfr
    ·omega
    ·rcases fr.src _ _ h with h|h<;>omega
    ·rcases hpin with h2|h2<;>omega
 ·obtain ⟨k,hk⟩:=h
  exact .free ((hall _ _).2 (.inl hE0')) rfl (back k w hk)
def FragF (f:NodeF) (L:Lg):Prop:=∀ (f1:Nat) (s1:StD),StOk s1→f1<s1.rows.length→(f f1 s1).2.full=false→Frag s1 f1 (f f1 s1).1 (f f1 s1).2 L
theorem then_empty (A:Lg) (w:List UInt8):thenW emptyW A w↔A w:=⟨fun ⟨u,v,e,hu,hv⟩=>by rw [show u=[] from hu,List.nil_append] at e;exact e▸hv,fun h=>⟨[],w,rfl,rfl,h⟩⟩
theorem then_assoc (A B C:Lg) (w:List UInt8):thenW (thenW A B) C w↔thenW A (thenW B C) w :=
 ⟨fun ⟨u,v,e,⟨x,y,e2,hx,hy⟩,hv⟩=>⟨x,y++v,by rw [e,e2,List.append_assoc],hx,y,v,rfl,hy,hv⟩,
  fun ⟨u,v,e,hu,x,y,e2,hx,hy⟩=>⟨u++x,y,by rw [e,e2,List.append_assoc],⟨u,x,rfl,hu,hx⟩,hy⟩⟩
theorem fragTo_max {f:NodeF}{c s:Nat}{L:Lg} (hm:MadeF c s f) (hF:FragF f L) {to:Nat}:∀ (k:Nat) (f0:Nat) (st:StD),StOk st→f0<st.rows.length→to<st.rows.length→to≠f0→(maxN f to k f0 st).2.2.full=false →
  (maxN f to k f0 st).1=false∧FragTo st f0 to (edgeN (maxN f to k f0 st).2.1 (freeE to) (maxN f to k f0 st).2.2) (fun w=>∃ j,j≤k∧powW L j w)
 | 0,f0,st,ho,hf,ht,hne,hfull=>by
   rw [maxN]
   exact ⟨rfl,(fragTo_edge hf hne).congr fun w=>⟨fun h=>⟨0,Nat.le_refl _,h⟩,fun ⟨j,hj,h⟩=>by
    obtain rfl:j=0:=by omega
    exact h⟩⟩
 | k+1,f0,st,ho,hf,ht,hne,hfull=>by
   rw [maxN] at hfull ⊢
   cases hst:st.full with
   | true=>rw [if_pos hst] at hfull;have h2:st.full=false:=hfull;rw [hst] at h2;cases h2
   | false =>
     rw [if_neg (by rw [hst];decide)] at hfull
     rw [if_neg (show ¬(false=true) by decide)]
     have a1:=hm.one ho hf ht
     have a2:=(hm.max to k (oneN f to f0 st).1 (oneN f to f0 st).2 a1.ok a1.lt (by have:=a1.grow;omega)).1
     have h1:(oneN f to f0 st).2.full=false:=by cases hh:(oneN f to f0 st).2.full with
      | false=>rfl
      | true=>rw [a2.keep hh] at hfull;cases hfull
     -- the first one
     have o1:StOk (edgeN f0 (freeE to) st):=ho.edge ht
     have hL1:=edge_len f0 (freeE to) st
     have fe:=fragTo_edge (st:=st) hf hne
     unfold oneN at h1 hfull a1 ⊢
     generalize edgeN f0 (freeE to) st=s1 at *
     have m1:=made_state o1
     have hsl:=state_lt o1
     have fr1:=fun h=>frag_first (st:=s1) (f:=f0) (by omega) h
     generalize stateN s1=r at *
     have o3:StOk (edgeN f0 (freeE r.1) r.2):=m1.ok.edge hsl
     have hL3:=edge_len f0 (freeE r.1) r.2
     have hF3:=edge_full f0 (freeE r.1) r.2
     generalize edgeN f0 (freeE r.1) r.2=s3 at *
     have b1:=(hm r.1 s3 o3 (by omega)).1
     have h3:s3.full=false:=by cases hh:s3.full with
      | false=>rfl
      | true=>rw [b1.keep hh] at h1;cases h1
     have fr1:=fr1 (hF3.symm.trans h3)
     have fr2:=hF r.1 s3 o3 (by omega) h1
     have g1:=fr1.grow
     have g2:=fr2.grow
     generalize hp:f r.1 s3=p at *
     have hpin:p.1≠to:=by
      rcases fr2.tin with ⟨h,_⟩|h
      ·rcases fr1.tin with ⟨h4,_⟩|h4<;>omega
      ·omega
     obtain ⟨q1,q2⟩:=fragTo_max hm hF k p.1 p.2 a1.ok a1.lt (by omega) (fun e=>hpin e.symm) hfull
     refine ⟨q1,?_⟩
     have w1:=fr1.then fr2 (by omega)
     have w2:=w1.thenTo q2 (by omega) (by omega) hne
     refine (fe.or w2 hf ht hne).congr fun w=>⟨fun h=>?_,fun h=>?_⟩
     ·rcases h with h|⟨u,v,e,hu,j,hj,hv⟩
      ·exact ⟨0,by omega,h⟩
      ·exact ⟨j+1,by omega,u,v,e,(then_empty L u).1 hu,hv⟩
     ·obtain ⟨j,hj,h⟩:=h
      cases j with
      | zero=>exact .inl h
      | succ j =>
        obtain ⟨u,v,e,hu,hv⟩:=h
        exact .inr ⟨u,v,e,(then_empty L u).2 hu,j,by omega,hv⟩
theorem frag_min {f:NodeF}{c s:Nat}{L:Lg} (hm:MadeF c s f) (hF:FragF f L):∀ (k:Nat) (f0:Nat) (st:StD),StOk st→f0<st.rows.length→(minN f k f0 st).2.2.full=false→(minN f k f0 st).1=false∧Frag st f0 (minN f k f0 st).2.1 (minN f k f0 st).2.2 (powW L k)
 | 0,f0,st,ho,hf,hfull=>by rw [minN];exact ⟨rfl,Frag.refl st f0⟩
 | k+1,f0,st,ho,hf,hfull=>by
   rw [minN] at hfull ⊢
   cases hst:st.full with
   | true=>rw [if_pos hst] at hfull;have h2:st.full=false:=hfull;rw [hst] at h2;cases h2
   | false =>
     rw [if_neg (by rw [hst];decide)] at hfull
     rw [if_neg (show ¬(false=true) by decide)]
     have a1:=(hm f0 st ho hf).1
     have a2:=(hm.min k (f f0 st).1 (f f0 st).2 a1.ok a1.lt).1
     have h1:(f f0 st).2.full=false:=by cases hh:(f f0 st).2.full with
      | false=>rfl
      | true=>rw [a2.keep hh] at hfull;cases hfull
     obtain ⟨q1,q2⟩:=frag_min hm hF k (f f0 st).1 (f f0 st).2 a1.ok a1.lt hfull
     exact ⟨q1,(hF f0 st ho hf h1).then q2 hf⟩
theorem pow_add (L:Lg):∀ (i j:Nat) (w:List UInt8),thenW (powW L i) (powW L j) w↔powW L (i+j) w
 | 0,j,w=>by rw [Nat.zero_add];exact then_empty _ w
 | i+1,j,w=>by
   rw [show i+1+j=(i+j)+1 by omega]
   exact (then_assoc L (powW L i) (powW L j) w).trans ⟨fun ⟨u,v,e,hu,hv⟩=>⟨u,v,e,hu,(pow_add L i j v).1 hv⟩,fun ⟨u,v,e,hu,hv⟩=>⟨u,v,e,hu,(pow_add L i j v).2 hv⟩⟩
theorem frag_repeat {f:NodeF}{c s:Nat}{L:Lg} (hm:MadeF c s f) (hF:FragF f L) {a b:Int} (h0:0≤a) (hab:b<0∨a≤b) {f0:Nat}{st:StD} (ho:StOk st) (hf:f0<st.rows.length) (hfull:(repeatN f a b f0 st).2.full=false) :
  Frag st f0 (repeatN f a b f0 st).1 (repeatN f a b f0 st).2 (repW L a b):=by
 unfold repeatN at hfull ⊢
 obtain ⟨m1,m2,_⟩:=hm.min a.toNat f0 st ho hf
 have fm:=frag_min hm hF a.toNat f0 st ho hf
 generalize minN f a.toNat f0 st=M at *
 obtain ⟨stop,f1,s1⟩:=M
 have o1:StOk s1:=m1.ok
 have hlt1:f1<s1.rows.length:=m1.lt
 have g1:st.rows.length≤s1.rows.length:=m1.grow
 dsimp only at m1 m2 fm
 cases stop with
 | true =>
   have:s1.full=true:=m2 rfl
   have h2:s1.full=false:=hfull
   rw [this] at h2;cases h2
 | false =>
   dsimp only at hfull ⊢
   have t1:=made_state o1
   have hlt2:=t1.lt
   have g2:=t1.grow
   have hsnew:=fun h=>state_new (st:=s1) h
   by_cases hb:b<0
   ·rw [if_pos hb] at hfull ⊢
    have hl:=made_loop hm t1.ok (f0:=f1) (to:=(stateN s1).1) (by omega) hlt2
    have ht:(stateN s1).2.full=false:=by cases hh:(stateN s1).2.full with
     | false=>rfl
     | true=>rw [(hl.2.2.1 hh).1] at hfull;cases hfull
    obtain ⟨n1,n2,n3⟩:=hsnew ht
    obtain ⟨_,fm⟩:=fm n3
    have fl:=fragTo_loop hm hF t1.ok (f0:=f1) (to:=(stateN s1).1) (by omega) hlt2 (by omega) hfull
    refine (fm.then (fl.frag hlt1 ht) hf).congr fun w=>⟨fun ⟨u,v,e,hu,k,hv⟩=>⟨a.toNat+k,by omega,.inl hb,(pow_add L _ _ w).1 ⟨u,v,e,hu,hv⟩⟩,fun ⟨k,h1,_,hk⟩=>?_⟩
    rw [show k=a.toNat+(k-a.toNat) by omega] at hk
    obtain ⟨u,v,e,hu,hv⟩:=(pow_add L _ _ w).2 hk
    exact ⟨u,v,e,hu,_,hv⟩
   ·rw [if_neg hb] at hfull ⊢
    obtain ⟨x1,x2,_⟩:=hm.max (stateN s1).1 (b-a).toNat f1 (stateN s1).2 t1.ok (by omega) hlt2
    have fx:=fun h=>fragTo_max hm hF (to:=(stateN s1).1) (b-a).toNat f1 (stateN s1).2 t1.ok (by omega) hlt2 h
    generalize maxN f (stateN s1).1 (b-a).toNat f1 (stateN s1).2=M2 at *
    obtain ⟨stop,f2,s2⟩:=M2
    dsimp only at x1 x2 fx
    have hs2:s2.full=false:=by cases stop with
     | true=>exact hfull
     | false=>exact hfull
    have ht:(stateN s1).2.full=false:=by cases hh:(stateN s1).2.full with
     | false=>rfl
     | true=>have h3:s2.full=true:=x1.keep hh;rw [hs2] at h3;cases h3
    obtain ⟨n1,n2,n3⟩:=hsnew ht
    obtain ⟨_,fm⟩:=fm n3
    obtain ⟨y1,y2⟩:=fx (by omega) hs2
    subst y1
    refine (fm.then (y2.frag hlt1 ht) hf).congr fun w=>⟨fun ⟨u,v,e,hu,j,hj,hv⟩=>⟨a.toNat+j,by omega,.inr (by omega),(pow_add L _ _ w).1 ⟨u,v,e,hu,hv⟩⟩,fun ⟨k,h1,h2,hk⟩=>?_⟩
    rw [show k=a.toNat+(k-a.toNat) by omega] at hk
    obtain ⟨u,v,e,hu,hv⟩:=(pow_add L _ _ w).2 hk
    exact ⟨u,v,e,hu,_,by omega,hv⟩
theorem fragTo_alt:∀ (l:List RgD),l≠[]→(∀ x∈l,MadeF (cntN x) (sizeD x) (nodeN x))→(∀ x∈l,FragF (nodeN x) (langN x))→∀ (f0 to:Nat) (st:StD),StOk st→f0<st.rows.length→to<st.rows.length→to≠f0→(altN l f0 to st).full=false→FragTo st f0 to (altN l f0 to st) (altW l)
 | [],h,_,_,_,_,_,_,_,_,_,_=>absurd rfl h
 | x::l,_,hM,hF,f0,to,st,ho,hf,ht,hne,hfull=>by
   rw [altN] at hfull ⊢
   dsimp only at hfull ⊢
   have m1:=made_state ho
   have hsl:=state_lt ho
   have fr1:=fun h=>frag_first (st:=st) (f:=f0) hf h
   generalize stateN st=r at *
   have o3:StOk (edgeN f0 (freeE r.1) r.2):=m1.ok.edge hsl
   have hL3:=edge_len f0 (freeE r.1) r.2
   have hF3:=edge_full f0 (freeE r.1) r.2
   generalize edgeN f0 (freeE r.1) r.2=s3 at *
   have g0:=m1.grow
   have b1:=(hM x (by simp) r.1 s3 o3 (by omega)).1
   have fr2:=fun h=>hF x (by simp) r.1 s3 o3 (by omega) h
   generalize nodeN x r.1 s3=p at *
   have g2:=b1.grow
   have o5:StOk (edgeN p.1 (freeE to) p.2):=b1.ok.edge (show to<p.2.rows.length by omega)
   have hL5:=edge_len p.1 (freeE to) p.2
   have hF5:=edge_full p.1 (freeE to) p.2
   have fe:=fun h=>fragTo_edge (st:=p.2) (f:=p.1) (to:=to) b1.lt h
   generalize edgeN p.1 (freeE to) p.2=s5 at *
   have hal:=made_alt l (fun y hy=>hM y (by simp [hy])) f0 to s5 o5 (by omega) (by omega)
   have h5:s5.full=false:=by cases hh:s5.full with
    | false=>rfl
    | true=>have h2:(altN l f0 to s5).full=true:=hal.keep hh;rw [h2] at hfull;cases hfull
   have hp:p.2.full=false:=hF5.symm.trans h5
   have h3:s3.full=false:=by cases hh:s3.full with
    | false=>rfl
    | true=>rw [b1.keep hh] at hp;cases hp
   have fr1:=fr1 (hF3.symm.trans h3)
   have fr2:=fr2 hp
   have hpne:to≠p.1:=by
    rcases fr2.tin with ⟨h,_⟩|h
    ·rcases fr1.tin with ⟨h4,_⟩|h4<;>omega
    ·omega
   have w1:=((fr1.then fr2 hf).thenTo (fe hpne) hf ht hne).congr (M:=langN x) fun w=>⟨fun ⟨u,v,e,hu,hv⟩=>by
    rw [show v=[] from hv,List.append_nil] at e
    exact (then_empty _ w).1 (e▸hu),fun h=>⟨w,[],by simp,(then_empty _ w).2 h,rfl⟩⟩
   cases l with
   | nil =>
     rw [altN]
     exact w1.congr fun w=>⟨fun h=>by rw [altW];exact .inl h,fun h=>by
      rw [altW] at h
      rcases h with h|h
      ·exact h
      ·rw [altW] at h;exact h.elim⟩
   | cons y l =>
     have w2:=fragTo_alt (y::l) (by simp) (fun z hz=>hM z (by simp [hz])) (fun z hz=>hF z (by simp [hz])) f0 to s5 o5 (by omega) (by omega) hne hfull
     refine (w1.or w2 hf ht hne).congr fun w=>?_
     conv=>rhs;rw [altW]
theorem frag_cat:∀ (l:List RgD),(∀ x∈l,MadeF (cntN x) (sizeD x) (nodeN x))→(∀ x∈l,FragF (nodeN x) (langN x))→FragF (catN l) (catW l)
 | [],_,_=>fun f0 st ho hf hfull=>by
   rw [catN]
   exact (Frag.refl st f0).congr fun w=>by rw [catW];exact Iff.rfl
 | x::l,hM,hF=>fun f0 st ho hf hfull=>by
   rw [catN] at hfull ⊢
   have a1:=(hM x (by simp) f0 st ho hf).1
   have a2:=((made_cat l (fun y hy=>hM y (by simp [hy]))) (nodeN x f0 st).1 (nodeN x f0 st).2 a1.ok a1.lt).1
   have h1:(nodeN x f0 st).2.full=false:=by cases hh:(nodeN x f0 st).2.full with
    | false=>rfl
    | true=>rw [a2.keep hh] at hfull;cases hfull
   refine ((hF x (by simp) f0 st ho hf h1).then (frag_cat l (fun y hy=>hM y (by simp [hy])) (fun y hy=>hF y (by simp [hy])) _ _ a1.ok a1.lt hfull) hf).congr fun w=>?_
   conv=>rhs;rw [catW]
   exact Iff.rfl
theorem frag_node:∀ n:RgD,wrongD n=0→FragF (nodeN n) (langN n):=RgD.ind fun k s l a b ih hw f0 st ho hf hfull=>by
 obtain ⟨hform,hk⟩:=wrongD_parts hw
 have hk:wrongK l=0:=hk
 have hF:=form_cases hform
 have hM:∀ x∈l,MadeF (cntN x) (sizeD x) (nodeN x):=fun x hx=>made_node x (wrongK_all hk x hx)
 have hI:∀ x∈l,FragF (nodeN x) (langN x):=fun x hx=>ih x hx (wrongK_all hk x hx)
 rw [nodeN] at hfull ⊢
 dsimp only at hfull ⊢
 have hst:st.full=false:=by cases hh:st.full with
  | false=>rfl
  | true=>rw [if_pos hh] at hfull;have h2:st.full=false:=hfull;rw [hh] at h2;cases h2
 rw [if_neg (by rw [hst];decide)] at hfull ⊢
 cases hF with
 | none s a b =>
   rw [if_neg (by decide),if_neg (by decide),if_neg (by decide),if_neg (by decide)]
   refine (Frag.refl st f0).congr fun w=>?_
   rw [lang_eq,if_pos rfl];exact Iff.rfl
 | one s a b h =>
   rw [if_pos rfl] at hfull ⊢
   refine (frag_new hf hfull (setE (stateN st).1 s) rfl).congr fun w=>?_
   rw [if_neg (show ¬(setE (stateN st).1 s).free=true from (by intro h;cases h)),lang_eq,if_neg (show ¬(2:Int)=1 by decide),if_pos rfl];exact Iff.rfl
 | cat s x y l a b =>
   rw [if_neg (by decide),if_pos rfl] at hfull ⊢
   refine (frag_cat (x::y::l) hM hI f0 st ho hf hfull).congr fun w=>?_
   rw [lang_eq,if_neg (by decide),if_neg (by decide),if_pos rfl]
 | alt s x y l a b =>
   rw [if_neg (by decide),if_neg (by decide),if_pos rfl] at hfull ⊢
   have m1:=made_state ho
   have g1:=m1.grow
   have hal:=made_alt (x::y::l) hM f0 (stateN st).1 (stateN st).2 m1.ok (by omega) m1.lt
   have h1:(stateN st).2.full=false:=by cases hh:(stateN st).2.full with
    | false=>rfl
    | true=>have h2:(altN (x::y::l) f0 (stateN st).1 (stateN st).2).full=true:=hal.keep hh;rw [h2] at hfull;cases hfull
   obtain ⟨n1,n2,_⟩:=state_new h1
   refine ((fragTo_alt (x::y::l) (by simp) hM hI f0 (stateN st).1 (stateN st).2 m1.ok (by omega) m1.lt (by omega) hfull).frag hf h1).congr fun w=>?_
   rw [lang_eq,if_neg (by decide),if_neg (by decide),if_neg (by decide),if_pos rfl]
 | rep s x a b h =>
   rw [if_neg (by decide),if_neg (by decide),if_neg (by decide),if_pos rfl] at hfull ⊢
   have hkid:kidN [x]=nodeN x:=by rw [kidN]
   rw [hkid] at hfull ⊢
   refine (frag_repeat (hM x (by simp)) (hI x (by simp)) (by omega) (by omega) ho hf hfull).congr fun w=>?_
   rw [lang_eq,if_neg (by decide),if_neg (by decide),if_neg (by decide),if_neg (by decide),if_pos rfl]
   have:(fun u=>kidW [x] u)=langN x:=by funext u;rw [kidW]
   rw [this]
def EdgeAt (rows:RowsN):RelE:=fun i x=>x∈rows[i]?.getD []
theorem path_snoc {E:RelE}{s t:Nat}{w:List UInt8} (h:PathE E s w t):∀ {x:EdgeD}{c:UInt8},E t x→x.free=false→x.set.has c.toNat=true→PathE E s (w++[c]) x.to:=by
 induction h with
 | nil s=>intro x c h1 h2 h3;exact .byte h1 h2 h3 (.nil _)
 | free h hf _ ih=>intro x c h1 h2 h3;exact .free h hf (ih h1 h2 h3)
 | byte h hf hc _ ih=>intro x c h1 h2 h3;exact .byte h hf hc (ih h1 h2 h3)
theorem path_free {E:RelE}{s t:Nat}{w:List UInt8} (h:PathE E s w t) {x:EdgeD} (h1:E t x) (h2:x.free=true):PathE E s w x.to:=by
 have:=h.app (.free h1 h2 (.nil x.to))
 rwa [List.append_nil] at this
theorem rch_iff {rows:RowsN}{list:List Int}{j:Nat}:Rch rows list j↔∃ i:Nat,(i:Int)∈list∧i<rows.length∧PathE (EdgeAt rows) i [] j:=by
 constructor
 ·intro h
  induction h with
  | base h hj=>exact ⟨_,h,hj,.nil _⟩
  | step h hj ih =>
    obtain ⟨i,h1,h2,h3⟩:=ih
    unfold freeTo at hj
    obtain ⟨x,hx,rfl⟩:=List.mem_map.1 hj
    obtain ⟨hx1,hx2⟩:=List.mem_filter.1 hx
    exact ⟨i,h1,h2,path_free h3 hx1 hx2⟩
 ·rintro ⟨i,h1,h2,h3⟩
  have:∀ {s t:Nat}{w:List UInt8},PathE (EdgeAt rows) s w t→w=[]→Rch rows list s→Rch rows list t:=by
   intro s t w hp
   induction hp with
   | nil=>exact fun _ h=>h
   | @free s x w u h hf _ ih =>
     intro e hs
     exact ih e (.step hs (List.mem_map.2 ⟨x,List.mem_filter.2 ⟨h,hf⟩,rfl⟩))
   | byte=>intro e;cases e
  exact this h3 rfl (.base h1 h2)
theorem path_cut {E:RelE}{s t:Nat}{w:List UInt8}{c:UInt8} (h:PathE E s (w++[c]) t):∃ m x,PathE E s w m∧E m x∧x.free=false∧x.set.has c.toNat=true∧PathE E x.to [] t:=by
 generalize hw:w++[c]=w2 at h
 induction h generalizing w with
 | nil s=>cases w<;>simp at hw
 | free h hf hp ih =>
   obtain ⟨m,x,h1,h2⟩:=ih hw
   exact ⟨m,x,.free h hf h1,h2⟩
 | @byte s x d v u h hf hc hp ih =>
   cases w with
   | nil =>
     simp at hw
     obtain ⟨rfl,rfl⟩:=hw
     exact ⟨s,x,.nil s,h,hf,hc,hp⟩
   | cons y w =>
     simp at hw
     obtain ⟨rfl,hw⟩:=hw
     obtain ⟨m,z,h1,h2⟩:=ih hw
     exact ⟨m,z,.byte h hf hc h1,h2⟩
theorem run_snoc (a:NfaD) (b:List UInt8) (c:UInt8):runN a (b++[c])=stepN a.rows (intsN (runN a b)) c.toNat:=by
 unfold runN;rw [List.foldl_append];rfl
theorem edge_src {rows:RowsN}{i:Nat}{x:EdgeD} (h:EdgeAt rows i x):i<rows.length:=by
 apply Classical.byContradiction
 intro hn
 unfold EdgeAt at h
 rw [List.getElem?_eq_none (by omega)] at h
 cases h
theorem byteTo_iff {rows:RowsN}{c:Nat}{s:Int}{j:Nat}:(j:Int)∈byteTo rows c s↔∃ (i:Nat) (x:EdgeD),s=(i:Int)∧EdgeAt rows i x∧x.free=false∧x.set.has c=true∧x.to=j:=by
 unfold byteTo
 constructor
 ·intro h
  split at h
  ·rename_i hs
   obtain ⟨x,hx,e⟩:=List.mem_map.1 h
   obtain ⟨h1,h2⟩:=List.mem_filter.1 hx
   rw [Bool.and_eq_true] at h2
   exact ⟨s.toNat,x,by omega,h1,by simpa using h2.1,h2.2,Int.ofNat.inj e⟩
  ·cases h
 ·rintro ⟨i,x,rfl,h1,h2,h3,rfl⟩
  have:=edge_src h1
  rw [if_pos (by omega)]
  refine List.mem_map.2 ⟨x,List.mem_filter.2 ⟨?_,by rw [h2,h3];rfl⟩,rfl⟩
  rw [Int.toNat_natCast];exact h1
theorem run_iff {a:NfaD} (ha:ToIn a.rows) (h0:a.rows≠[]):∀ (n:Nat) (b:List UInt8),b.length=n→∀ j:Nat,j∈runN a b↔PathE (EdgeAt a.rows) 0 b j
 | 0,b,hb,j=>by
   have:b=[]:=List.eq_nil_of_length_eq_zero hb
   subst this
   have hs:runN a []=reachN a.rows [0]:=by unfold runN startN;rw [if_neg h0];rfl
   rw [hs,reach_iff ha,rch_iff]
   constructor
   ·rintro ⟨i,h1,_,h3⟩
    rw [List.mem_singleton] at h1
    obtain rfl:i=0:=by omega
    exact h3
   ·intro h;exact ⟨0,by simp,List.length_pos_iff.2 h0,h⟩
 | n+1,b,hb,j=>by
   obtain ⟨w,c,rfl⟩:∃ w c,b=w++[c]:=⟨b.dropLast,b.getLast (by intro e;subst e;cases hb),(List.dropLast_concat_getLast _).symm⟩
   have ih:=run_iff ha h0 n w (by simpa using hb)
   rw [run_snoc]
   unfold stepN
   rw [reach_iff ha,rch_iff]
   constructor
   ·rintro ⟨i,h1,h2,h3⟩
    obtain ⟨s,hs,hi⟩:=List.mem_flatMap.1 h1
    obtain ⟨m,x,rfl,h4,h5,h6,rfl⟩:=byteTo_iff.1 hi
    have:=path_snoc ((ih m).1 (mem_ints.1 hs)) h4 h5 h6
    have h7:=this.app h3
    rwa [List.append_nil] at h7
   ·intro hp
    obtain ⟨m,x,h1,h2,h3,h4,h5⟩:=path_cut hp
    refine ⟨x.to,List.mem_flatMap.2 ⟨(m:Int),mem_ints.2 ((ih m).2 h1),byteTo_iff.2 ⟨m,x,rfl,h2,h3,h4,rfl⟩⟩,?_,h5⟩
    have:=edge_src h2
    cases hr:a.rows[m]? with
    | none=>unfold EdgeAt at h2;rw [hr] at h2;cases h2
    | some row=>unfold EdgeAt at h2;rw [hr] at h2;exact ha row (List.mem_of_getElem? hr) x h2
theorem new_st0 (st:StD) (i:Nat) (x:EdgeD):NewE st0 st i x↔EdgeAt st.rows i x:=by
 unfold NewE EdgeAt
 have:rowN st0 i=[]:=by
  unfold rowN st0
  cases i with
  | zero=>rfl
  | succ i=>rfl
 rw [this];rfl
theorem match_lang {n:RgD} (hw:wrongD n=0) (h:(makeN n).1=0) (b:List UInt8):matchN (makeN n).2 b=true↔langN n b:=by
 have hok:=make_ok hw
 have hlen:=make_rows hw h
 have hm:(nodeN n 0 st0).2.full=false∧(makeN n).2=⟨(nodeN n 0 st0).2.rows,(nodeN n 0 st0).1⟩:=by
  unfold makeN at h ⊢
  split
  ·rename_i h1;rw [if_pos h1] at h;exact absurd h h1
  ·rename_i h1
   rw [if_neg h1] at h
   split
   ·rename_i h2;rw [if_pos h2] at h;cases h
   ·rename_i h2;exact ⟨by simpa using h2,rfl⟩
 obtain ⟨hfull,he⟩:=hm
 have hf:=frag_node n hw 0 st0 st0_ok (by decide) hfull
 have hne:(makeN n).2.rows≠[]:=fun e=>by rw [e] at hlen;simp at hlen;omega
 rw [←hf.lang b]
 unfold matchN endsN
 rw [Bool.and_eq_true,decide_eq_true_iff,List.contains_iff_mem]
 rw [he] at hne hok ⊢
 dsimp only at hne hok ⊢
 have hr:=run_iff hok.to hne b.length b rfl (nodeN n 0 st0).1
 rw [mem_ints,hr]
 constructor
 ·rintro ⟨_,hp⟩
  exact hp.mono fun i x hx=>(new_st0 _ i x).2 hx
 ·intro hp
  exact ⟨List.length_pos_iff.2 hne,hp.mono fun i x hx=>(new_st0 _ i x).1 hx⟩
theorem pow_less {L:Lg}:∀ (k:Nat) (w:List UInt8),powW L (k+1) w→w.length≤k→powW L k w
 | 0,w,⟨u,v,e,hu,hv⟩,hl=>by
   have:w=[]:=List.eq_nil_of_length_eq_zero (by omega)
   exact this
 | k+1,w,⟨u,v,e,hu,hv⟩,hl=>by
   cases u with
   | nil=>rw [List.nil_append] at e;rw [e];exact hv
   | cons c u =>
     have hvl:v.length≤k:=by rw [e] at hl;simp at hl;omega
     exact ⟨c::u,v,e,hu,pow_less k v hv hvl⟩
theorem pow_cap {L:Lg}{w:List UInt8}{m:Nat} (hw:w.length≤m):∀ (j:Nat),powW L (m+j) w→powW L m w
 | 0,h=>h
 | j+1,h=>pow_cap hw j (pow_less (m+j) w h (by omega))
theorem rep_cap {L:Lg}{w:List UInt8}{a k n:Nat} (hw:w.length≤n) (hk:a≤k) (h:powW L k w):∃ j,j≤n∧powW L (a+j) w:=by
 by_cases hle:k≤a+n
 ·exact ⟨k-a,by omega,by rw [show a+(k-a)=k by omega];exact h⟩
 ·refine ⟨n,Nat.le_refl _,pow_cap (m:=a+n) (by omega) (k-(a+n)) ?_⟩
  rw [show a+n+(k-(a+n))=k by omega];exact h
def addS (o:List SetD) (x:EdgeD):List SetD:=if x.free=true∨x.set∈o then o else o++[x.set]
def setsN (rows:RowsN):List SetD:=rows.foldl (fun o l=>l.foldl addS o) []
theorem adds_mem {s:SetD}:∀ (l:List EdgeD) (o:List SetD),s∈l.foldl addS o↔s∈o∨∃ x∈l,x.free=false∧x.set=s
 | [],o=>by simp
 | x::l,o=>by
   rw [List.foldl_cons,adds_mem l]
   have h:s∈addS o x↔s∈o∨(x.free=false∧x.set=s):=by
    unfold addS
    split
    ·rename_i h
     constructor
     ·exact .inl
     ·rintro (h1|⟨h1,h2⟩)
      ·exact h1
      ·rcases h with h|h
       ·rw [h1] at h;cases h
       ·exact h2▸h
    ·rename_i h
     rw [List.mem_append,List.mem_singleton]
     have hf:x.free=false:=by cases hh:x.free with
      | false=>rfl
      | true=>exact absurd (.inl hh) h
     exact ⟨fun h1=>h1.imp id (fun e=>⟨hf,e.symm⟩),fun h1=>h1.imp id (fun e=>e.2.symm)⟩
   rw [h]
   constructor
   ·rintro ((h1|h1)|⟨y,hy,h1⟩)
    ·exact .inl h1
    ·exact .inr ⟨x,by simp,h1⟩
    ·exact .inr ⟨y,by simp [hy],h1⟩
   ·rintro (h1|⟨y,hy,h1⟩)
    ·exact .inl (.inl h1)
    ·rcases List.mem_cons.1 hy with rfl|hy
     ·exact .inl (.inr h1)
     ·exact .inr ⟨y,hy,h1⟩
theorem adds_nodup:∀ (l:List EdgeD) (o:List SetD),o.Nodup→(l.foldl addS o).Nodup
 | [],o,h=>h
 | x::l,o,h=>by
   rw [List.foldl_cons]
   refine adds_nodup l _ ?_
   unfold addS
   split
   ·exact h
   ·rename_i hn
    exact List.nodup_append.2 ⟨h,by simp,fun a ha b hb e=>by
     rw [List.mem_singleton] at hb
     subst hb;subst e
     exact hn (.inr ha)⟩
theorem rowsS_mem {s:SetD}:∀ (rows:RowsN) (o:List SetD),s∈rows.foldl (fun o l=>l.foldl addS o) o↔s∈o∨∃ l∈rows,∃ x∈l,x.free=false∧x.set=s
 | [],o=>by simp
 | l::rows,o=>by
   rw [List.foldl_cons,rowsS_mem rows,adds_mem]
   constructor
   ·rintro ((h|⟨x,h⟩)|⟨m,hm,h⟩)
    ·exact .inl h
    ·exact .inr ⟨l,by simp,x,h⟩
    ·exact .inr ⟨m,by simp [hm],h⟩
   ·rintro (h|⟨m,hm,h⟩)
    ·exact .inl (.inl h)
    ·rcases List.mem_cons.1 hm with rfl|hm
     ·exact .inl (.inr h)
     ·exact .inr ⟨m,hm,h⟩
theorem sets_mem {rows:RowsN}{s:SetD}:s∈setsN rows↔∃ l∈rows,∃ x∈l,x.free=false∧x.set=s:=by
 unfold setsN;rw [rowsS_mem];simp
theorem sets_nodup (rows:RowsN):(setsN rows).Nodup:=by
 unfold setsN
 have:∀ (rows:RowsN) (o:List SetD),o.Nodup→(rows.foldl (fun o l=>l.foldl addS o) o).Nodup:=by
  intro rows
  induction rows with
  | nil=>exact fun o h=>h
  | cons l rows ih=>intro o h;rw [List.foldl_cons];exact ih _ (adds_nodup l o h)
 exact this rows [] List.nodup_nil
theorem byteTo_like {rows:RowsN}{c d:Nat} (h:∀ s∈setsN rows,s.has c=s.has d) (i:Int):byteTo rows c i=byteTo rows d i:=by
 unfold byteTo
 split
 ·congr 1
  cases hr:rows[i.toNat]? with
  | none=>rfl
  | some row =>
    simp only [Option.getD_some]
    apply List.filter_congr
    intro x hx
    cases hf:x.free with
    | true=>rfl
    | false =>
      have:=h x.set (sets_mem.2 ⟨row,List.mem_of_getElem? hr,x,hx,hf,rfl⟩)
      rw [this]
 ·rfl
theorem step_like {rows:RowsN}{c d:Nat} (h:∀ s∈setsN rows,s.has c=s.has d) (list:List Int):stepN rows list c=stepN rows list d:=by
 unfold stepN
 congr 1
 rw [show byteTo rows c=byteTo rows d from funext fun i=>byteTo_like h i]
mutual
def onesN:RgD→List SetD
 | .mk k s l a b=>if k=2 then [s] else onesK l
def onesK:List RgD→List SetD
 | []=>[]
 | x::r=>onesN x++onesK r
end
mutual
theorem ones_len:∀ n:RgD,(onesN n).length≤sizeD n
 | .mk k s l a b=>by
   rw [onesN,sizeD]
   split
   ·simp
   ·have:=onesK_len l;omega
theorem onesK_len:∀ l:List RgD,(onesK l).length≤sizeK l
 | []=>Nat.le_refl _
 | x::r=>by rw [onesK,sizeK,List.length_append];have:=ones_len x;have:=onesK_len r;omega
end
theorem onesK_mem {l:List RgD}{x:RgD} (hx:x∈l) {s:SetD} (hs:s∈onesN x):s∈onesK l:=by
 induction l with
 | nil=>cases hx
 | cons y l ih =>
   rw [onesK,List.mem_append]
   rcases List.mem_cons.1 hx with rfl|hx
   ·exact .inl hs
   ·exact .inr (ih hx)
def SetsIn (O:SetD→Prop) (st:StD):Prop:=∀ row∈st.rows,∀ x∈row,x.free=true∨O x.set
theorem SetsIn.state {O:SetD→Prop}{st:StD} (h:SetsIn O st):SetsIn O (stateN st).2:=by
 unfold stateN
 split
 ·exact h
 ·intro row hr x hx
  rcases List.mem_append.1 hr with hr|hr
  ·exact h row hr x hx
  ·rw [List.mem_singleton] at hr;subst hr;cases hx
theorem SetsIn.edge {O:SetD→Prop}{st:StD} (h:SetsIn O st) {f:Nat}{y:EdgeD} (hy:y.free=true∨O y.set):SetsIn O (edgeN f y st):=by
 intro row hr x hx
 unfold edgeN at hr
 rcases List.mem_or_eq_of_mem_set hr with hr|rfl
 ·exact h row hr x hx
 ·rcases List.mem_append.1 hx with hx|hx
  ·cases hg:st.rows[f]? with
   | none=>rw [hg] at hx;cases hx
   | some r0=>rw [hg] at hx;exact h r0 (List.mem_of_getElem? hg) x hx
  ·rw [List.mem_singleton] at hx;subst hx;exact hy
def SetsF (O:SetD→Prop) (f:NodeF):Prop:=∀ (f0:Nat) (st:StD),SetsIn O st→SetsIn O (f f0 st).2
theorem SetsF.min {O:SetD→Prop}{f:NodeF} (h:SetsF O f):∀ (k f0:Nat) (st:StD),SetsIn O st→SetsIn O (minN f k f0 st).2.2
 | 0,f0,st,hs=>hs
 | k+1,f0,st,hs=>by
   rw [minN]
   split
   ·exact hs
   ·exact SetsF.min h k _ _ (h f0 st hs)
theorem SetsF.max {O:SetD→Prop}{f:NodeF} (h:SetsF O f) (to:Nat):∀ (k f0:Nat) (st:StD),SetsIn O st→SetsIn O (maxN f to k f0 st).2.2
 | 0,f0,st,hs=>hs
 | k+1,f0,st,hs=>by
   rw [maxN]
   split
   ·exact hs
   ·exact SetsF.max h to k _ _ (h _ _ ((hs.edge (.inl rfl)).state.edge (.inl rfl)))
theorem sets_repeat {O:SetD→Prop}{f:NodeF} (h:SetsF O f) (a b:Int):SetsF O (repeatN f a b):=by
 intro f0 st hs
 unfold repeatN
 have h1:=h.min a.toNat f0 st hs
 generalize minN f a.toNat f0 st=M at *
 obtain ⟨stop,f1,s1⟩:=M
 cases stop with
 | true=>exact h1
 | false =>
   dsimp only at h1 ⊢
   split
   ·unfold loopN
    exact (h _ _ ((h1.state.state.edge (.inl rfl)).edge (.inl rfl))).edge (.inl rfl)
   ·have h2:=h.max (stateN s1).1 (b-a).toNat f1 (stateN s1).2 h1.state
    generalize maxN f (stateN s1).1 (b-a).toNat f1 (stateN s1).2=M2 at *
    obtain ⟨stop,f2,s2⟩:=M2
    cases stop with
    | true=>exact h2
    | false=>exact SetsIn.edge h2 (.inl rfl)
theorem sets_alt {O:SetD→Prop}:∀ (l:List RgD),(∀ x∈l,SetsF O (nodeN x))→∀ (f0 to:Nat) (st:StD),SetsIn O st→SetsIn O (altN l f0 to st)
 | [],_,f0,to,st,hs=>by rw [altN];exact hs
 | x::l,h,f0,to,st,hs=>by
   rw [altN]
   exact sets_alt l (fun y hy=>h y (by simp [hy])) _ _ _ (SetsIn.edge (h x (by simp) _ _ (hs.state.edge (.inl rfl))) (.inl rfl))
theorem sets_cat {O:SetD→Prop}:∀ (l:List RgD),(∀ x∈l,SetsF O (nodeN x))→SetsF O (catN l)
 | [],_=>fun f0 st hs=>by rw [catN];exact hs
 | x::l,h=>fun f0 st hs=>by
   rw [catN]
   exact sets_cat l (fun y hy=>h y (by simp [hy])) _ _ (h x (by simp) f0 st hs)
theorem sets_node {O:SetD→Prop}:∀ n:RgD,(∀ s∈onesN n,O s)→SetsF O (nodeN n):=RgD.ind fun k s l a b ih hO f0 st hs=>by
 rw [nodeN]
 dsimp only
 split
 ·exact hs
 split
 ·rename_i h2
  rw [onesN,if_pos h2] at hO
  exact hs.state.edge (.inr (hO s (by simp)))
 rename_i h2
 rw [onesN,if_neg h2] at hO
 have hall:∀ x∈l,SetsF O (nodeN x):=fun x hx=>ih x hx fun z hz=>hO z (onesK_mem hx hz)
 split
 ·exact sets_cat l hall f0 st hs
 split
 ·exact sets_alt l hall _ _ _ hs.state
 split
 ·refine sets_repeat ?_ a b f0 st hs
  cases l with
  | nil=>rw [kidN];exact fun _ _ h=>h
  | cons x l=>rw [kidN];exact hall x (by simp)
 ·exact hs
theorem sets_few {n:RgD}:∀ s∈setsN (makeN n).2.rows,s∈onesN n:=by
 intro s hs
 obtain ⟨l,hl,x,hx,hf,rfl⟩:=sets_mem.1 hs
 have h0:SetsIn (fun s=>s∈onesN n) st0:=fun row hr x hx=>by simp [st0] at hr;subst hr;cases hx
 have h:=sets_node n (O:=fun s=>s∈onesN n) (fun s h=>h) 0 st0 h0
 unfold makeN at hl
 split at hl
 ·cases hl
 split at hl
 ·cases hl
 ·rcases h l hl x hx with h1|h1
  ·rw [hf] at h1;cases h1
  ·exact h1
theorem nodup_le {α:Type} [DecidableEq α]:∀ {a b:List α},a.Nodup→(∀ x∈a,x∈b)→a.length≤b.length
 | [],b,_,_=>Nat.zero_le _
 | x::a,b,hn,h=>by
   obtain ⟨h1,h2⟩:=List.nodup_cons.1 hn
   have hx:=h x (by simp)
   have:=nodup_le (a:=a) (b:=b.erase x) h2 (fun y hy=>(List.mem_erase_of_ne (show y≠x from fun e=>h1 (e▸hy))).2 (h y (by simp [hy])))
   rw [List.length_erase_of_mem hx] at this
   have hp:=List.length_pos_of_mem hx
   rw [List.length_cons];omega
theorem sets_len (n:RgD):(setsN (makeN n).2.rows).length≤sizeD n:=Nat.le_trans (nodup_le (sets_nodup _) sets_few) (ones_len n)
theorem ne_has {s:SetD} (hs:SetIn s) (h:s≠⟨0,0,0,0⟩):∃ c,c<256∧s.has c=true:=by
 apply Classical.byContradiction
 intro hn
 exact h (SetD.ext hs SetIn.zero fun c hc=>by
  rw [SetD.has_zero]
  cases e:s.has c with
  | false=>rfl
  | true=>exact absurd ⟨c,hc,e⟩ hn)
theorem firstIs_has {s:SetD}{c:Nat} (h:s.firstIs c=true):c<256∧s.has c=true∧∀ j,j<c→s.has j=false:=by
 unfold SetD.firstIs at h
 rw [beq_iff_eq,List.find?_range_eq_some] at h
 obtain ⟨h1,h2,h3⟩:=h
 exact ⟨List.mem_range.1 h2,h1,fun j hj=>by simpa using h3 j hj⟩
theorem first_ex {s:SetD} (hs:SetIn s) (h:s≠⟨0,0,0,0⟩):∃ c,c<256∧s.firstIs c=true:=by
 obtain ⟨c,hc,e⟩:=ne_has hs h
 cases hf:(List.range 256).find? s.has with
 | none=>rw [List.find?_eq_none] at hf;exact absurd e (hf c (List.mem_range.2 hc))
 | some d=>exact ⟨d,List.mem_range.1 (List.mem_of_find?_eq_some hf),by unfold SetD.firstIs;rw [hf];simp⟩
def sig (l:List SetD) (c:Nat):List Bool:=l.map (·.has c)
structure Cut (o l:List SetD):Prop where
 each:∀ q∈o,SetIn q∧q≠⟨0,0,0,0⟩
 all:∀ c,c<256→∃ p∈o,p.has c=true
 like:∀ p∈o,∀ c d,c<256→d<256→p.has c=true→(p.has d=true↔sig l c=sig l d)
 apart:o.Pairwise fun p q=>∀ c,c<256→¬(p.has c=true∧q.has c=true)
theorem Cut.one:Cut [allD] []:=⟨fun q hq=>by simp at hq;subst hq;exact ⟨SetIn.all,by decide⟩,fun c _=>⟨allD,by simp,SetD.has_all c⟩,fun p hp c d _ _ _=>by simp at hp;subst hp;simp [SetD.has_all,sig],by simp⟩
theorem mem_cutD {s p q:SetD} (h:q∈cutD s p):q≠⟨0,0,0,0⟩∧(q=p.and s∨q=p.and s.not):=by
 unfold cutD at h
 obtain ⟨h1,h2⟩:=List.mem_filter.1 h
 exact ⟨by simpa using h2,by simpa using h1⟩
theorem has_cutD {s p q:SetD} (hs:SetIn s) (h:q∈cutD s p):∃ b,∀ c,q.has c=(p.has c&&(s.has c == b)):=by
 rcases (mem_cutD h).2 with rfl|rfl
 ·exact ⟨true,fun c=>by rw [SetD.has_and];cases p.has c<;>cases s.has c<;>rfl⟩
 ·exact ⟨false,fun c=>by rw [SetD.has_and,SetD.has_not hs];cases p.has c<;>cases s.has c<;>rfl⟩
theorem Cut.step {o l:List SetD}{s:SetD} (h:Cut o l) (hs:SetIn s):Cut (stepD o s) (l++[s]):=by
 have sg:∀ c,sig (l++[s]) c=sig l c++[s.has c]:=fun c=>by simp [sig]
 refine ⟨fun q hq=>?_,fun c hc=>?_,fun q hq c d hc hd hqc=>?_,?_⟩
 ·obtain ⟨p,hp,hq⟩:=List.mem_flatMap.1 hq
  exact cutD_in (h.each p hp).1 q hq
 ·obtain ⟨p,hp,hpc⟩:=h.all c hc
  have key:∀ q:SetD,q∈[p.and s,p.and s.not]→q.has c=true→∃ q∈stepD o s,q.has c=true:=fun q hq hqc=>by
   refine ⟨q,List.mem_flatMap.2 ⟨p,hp,?_⟩,hqc⟩
   unfold cutD
   refine List.mem_filter.2 ⟨hq,?_⟩
   have:q≠⟨0,0,0,0⟩:=fun e=>by rw [e,SetD.has_zero] at hqc;cases hqc
   simpa using this
  cases e:s.has c with
  | true=>exact key (p.and s) (by simp) (by rw [SetD.has_and,hpc,e];rfl)
  | false=>exact key (p.and s.not) (by simp) (by rw [SetD.has_and,SetD.has_not hs,hpc,e];rfl)
 ·obtain ⟨p,hp,hq⟩:=List.mem_flatMap.1 hq
  obtain ⟨b,hb⟩:=has_cutD hs hq
  rw [hb] at hqc ⊢
  rw [Bool.and_eq_true,beq_iff_eq] at hqc
  have hl:=h.like p hp c d hc hd hqc.1
  rw [sg,sg,Bool.and_eq_true,beq_iff_eq,hl]
  constructor
  ·rintro ⟨h1,h2⟩;rw [h1,h2,hqc.2]
  ·intro e
   obtain ⟨e1,e2⟩:=List.append_inj' e rfl
   rw [List.cons.injEq] at e2
   exact ⟨e1,by rw [←e2.1,hqc.2]⟩
 ·refine List.pairwise_flatMap.2 ⟨fun p hp=>?_,h.apart.imp fun {p q} hpq x hx y hy c hc hxy=>?_⟩
  ·unfold cutD
   refine List.Pairwise.filter _ ?_
   refine List.pairwise_cons.2 ⟨fun q hq c hc hpq=>?_,by simp⟩
   simp at hq
   subst hq
   rw [SetD.has_and,SetD.has_and,SetD.has_not hs,Bool.and_eq_true,Bool.and_eq_true] at hpq
   have h1:=hpq.1.2
   have h2:=hpq.2.2
   rw [h1] at h2
   cases h2
  ·obtain ⟨b1,hb1⟩:=has_cutD hs hx
   obtain ⟨b2,hb2⟩:=has_cutD hs hy
   rw [hb1,hb2,Bool.and_eq_true,Bool.and_eq_true] at hxy
   exact hpq c hc ⟨hxy.1.1,hxy.2.1⟩
theorem Cut.fold:∀ (l k:List SetD) (o:List SetD),Cut o k→(∀ s∈l,SetIn s)→Cut (l.foldl stepD o) (k++l)
 | [],k,o,h,_=>by simpa using h
 | s::l,k,o,h,hs=>by
   have:=Cut.fold l (k++[s]) (stepD o s) (h.step (hs s (by simp))) (fun x hx=>hs x (by simp [hx]))
   simpa using this
theorem mem_sortD {o:List SetD} (h:∀ q∈o,SetIn q∧q≠⟨0,0,0,0⟩) {p:SetD}:p∈sortD o↔p∈o:=by
 unfold sortD
 constructor
 ·intro hp
  obtain ⟨c,_,hp⟩:=List.mem_flatMap.1 hp
  exact (List.mem_filter.1 hp).1
 ·intro hp
  obtain ⟨c,hc,hf⟩:=first_ex (h p hp).1 (h p hp).2
  exact List.mem_flatMap.2 ⟨c,List.mem_range.2 hc,List.mem_filter.2 ⟨hp,hf⟩⟩
theorem sortD_rises {o:List SetD} (ha:o.Pairwise fun p q=>∀ c,c<256→¬(p.has c=true∧q.has c=true)):(sortD o).Pairwise fun p q=>∃ c d,p.firstIs c=true∧q.firstIs d=true∧c<d:=by
 unfold sortD
 refine List.pairwise_flatMap.2 ⟨fun c hc=>?_,?_⟩
 ·refine (List.Pairwise.filter _ ha).imp_of_mem fun {p q} hp hq hpq=>?_
  have h1:=firstIs_has (List.mem_filter.1 hp).2
  have h2:=firstIs_has (List.mem_filter.1 hq).2
  exact absurd ⟨h1.2.1,h2.2.1⟩ (hpq c h1.1)
 ·exact List.pairwise_lt_range.imp fun {c d} hcd x hx y hy=>⟨c,d,(List.mem_filter.1 hx).2,(List.mem_filter.1 hy).2,hcd⟩
structure Cuts (o l:List SetD):Prop where
 each:∀ q∈o,SetIn q∧q≠⟨0,0,0,0⟩
 all:∀ c,c<256→∃ p∈o,p.has c=true
 like:∀ p∈o,∀ c d,c<256→d<256→p.has c=true→(p.has d=true↔sig l c=sig l d)
 rises:o.Pairwise fun p q=>∃ c d,p.firstIs c=true∧q.firstIs d=true∧c<d
theorem splitD_cuts {l:List SetD} (hs:∀ s∈l,SetIn s):Cuts (splitD l) l:=by
 have h:=Cut.fold l [] [allD] Cut.one hs
 rw [List.nil_append] at h
 rw [splitD_eq]
 refine ⟨fun q hq=>h.each q ((mem_sortD h.each).1 hq),fun c hc=>?_,fun p hp=>h.like p ((mem_sortD h.each).1 hp),sortD_rises h.apart⟩
 obtain ⟨p,hp,hpc⟩:=h.all c hc
 exact ⟨p,(mem_sortD h.each).2 hp,hpc⟩
theorem Cuts.same {o l:List SetD} (h:Cuts o l) {p q:SetD} (hp:p∈o) (hq:q∈o) {c:Nat} (hc:c<256) (h1:p.has c=true) (h2:q.has c=true):p=q :=
 SetD.ext (h.each p hp).1 (h.each q hq).1 fun d hd=>by
  rw [Bool.eq_iff_iff,h.like p hp c d hc hd h1,h.like q hq c d hc hd h2]
theorem firstIs_eq {p:SetD}{c d:Nat} (h1:p.firstIs c=true) (h2:p.firstIs d=true):c=d:=by
 unfold SetD.firstIs at h1 h2
 rw [beq_iff_eq] at h1 h2
 rw [h1] at h2
 exact Option.some.inj h2
theorem Cuts.at {o l:List SetD} (h:Cuts o l) {i j:Nat}{p q:SetD} (hij:i<j) (hp:o[i]?=some p) (hq:o[j]?=some q):(∃ c d,p.firstIs c=true∧q.firstIs d=true∧c<d)∧∀ c,c<256→¬(p.has c=true∧q.has c=true):=by
 obtain ⟨hi,ei⟩:=List.getElem?_eq_some_iff.1 hp
 obtain ⟨hj,ej⟩:=List.getElem?_eq_some_iff.1 hq
 have hr:=List.pairwise_iff_getElem.1 h.rises i j hi hj hij
 rw [ei,ej] at hr
 refine ⟨hr,fun c hc hpq=>?_⟩
 have:=h.same (List.mem_of_getElem? hp) (List.mem_of_getElem? hq) hc hpq.1 hpq.2
 subst this
 obtain ⟨x,y,hx,hy,hxy⟩:=hr
 have:=firstIs_eq hx hy
 omega
theorem Cuts.rank {o l:List SetD} (h:Cuts o l):∀ (i:Nat) (p:SetD) (c:Nat),o[i]?=some p→p.firstIs c=true→i≤c
 | 0,_,_,_,_=>Nat.zero_le _
 | i+1,p,c,hp,hc=>by
   have hi:i<o.length:=by have:=(List.getElem?_eq_some_iff.1 hp).1;omega
   obtain ⟨x,y,hx,hy,hxy⟩:=(h.at (Nat.lt_succ_self i) (List.getElem?_eq_getElem hi) hp).1
   have h1:=h.rank i _ x (List.getElem?_eq_getElem hi) hx
   have:=firstIs_eq hy hc
   omega
theorem Cuts.len {o l:List SetD} (h:Cuts o l):o.length≤256:=by
 rcases Nat.lt_or_ge 256 o.length with hl|hl
 ·have hg:o[256]?=some o[256]:=List.getElem?_eq_getElem hl
  obtain ⟨c,hc,hf⟩:=first_ex (h.each _ (List.mem_of_getElem? hg)).1 (h.each _ (List.mem_of_getElem? hg)).2
  have:=h.rank 256 _ c hg hf
  omega
 ·exact hl
theorem sig_at {l:List SetD}{c d:Nat} (h:sig l c=sig l d) {s:SetD} (hs:s∈l):s.has c=s.has d:=by
 unfold sig at h
 exact List.map_inj_left.1 h s hs
structure DfaA where
 cls:List Nat
 next:List (List Int)
 acc:List Bool
deriving DecidableEq
def stepA (a:DfaA) (s:Int) (c:Nat):Int:=if s<0∨(a.next.length:Int)≤s then -1 else ((a.next[s.toNat]?.getD [])[a.cls[c]?.getD 0]?).getD (-1)
def endsA (a:DfaA) (s:Int):Bool:=decide (0≤s)&&decide (s<a.acc.length)&&a.acc[s.toNat]?.getD false
def runA (a:DfaA) (b:List UInt8):Int:=b.foldl (fun s c=>stepA a s c.toNat) 0
def matchA (a:DfaA) (b:List UInt8):Bool:=endsA a (runA a b)
structure DfaOk (w:Nat) (a:DfaA):Prop where
 cls:a.cls.length=256
 low:∀ k∈a.cls,k<w
 acc:a.acc.length=a.next.length
 row:∀ r∈a.next,r.length=w
 to:∀ r∈a.next,∀ z∈r,z=-1∨(0≤z∧z<a.next.length)
def firstC (p:SetD):Nat:=((List.range 256).find? p.has).getD 0
def rowG (rows:RowsN) (cur:List Nat):List SetD→List (List Nat)→List Int→Option (List (List Nat) × List Int)
 | [],sets,row=>some (sets,row)
 | p::ps,sets,row =>
   if stepN rows (intsN cur) (firstC p)=[] then rowG rows cur ps sets (row++[-1])
   else match sets.idxOf? (stepN rows (intsN cur) (firstC p)) with
    | some k=>rowG rows cur ps sets (row++[(k:Int)])
    | none=>if sets.length=1024 then none else rowG rows cur ps (sets++[stepN rows (intsN cur) (firstC p)]) (row++[(sets.length:Int)])
def subG (a:NfaD) (P:List SetD):Nat→List (List Nat)→List (List Int)→List Bool→Option (List (List Nat) × List (List Int) × List Bool)
 | 0,sets,next,acc=>some (sets,next,acc)
 | k+1,sets,next,acc =>
   match sets[next.length]? with
   | none=>some (sets,next,acc)
   | some cur =>
     match rowG a.rows cur P sets [] with
     | none=>none
     | some r=>subG a P k r.1 (next++[r.2]) (acc++[endsN a (intsN cur)])
def clsG (P:List SetD):List Nat:=(List.range 256).map fun c=>(P.findIdx? fun p=>p.has c).getD 0
def nilA:DfaA:=⟨List.replicate 256 0,[],[]⟩
def piecesG (a:NfaD):List SetD:=splitD (setsN a.rows)
def makeA (a:NfaD):Nat × DfaA :=
 if a.rows=[] then (160,nilA) else
 match subG a (piecesG a) 1025 [startN a.rows] [] [] with
 | none=>(80,nilA)
 | some r=>(0,⟨clsG (piecesG a),r.2.1,r.2.2⟩)
structure SubOk (a:NfaD) (P:List SetD) (sets:List (List Nat)) (next:List (List Int)) (acc:List Bool):Prop where
 start:sets[0]?=some (startN a.rows)
 le:sets.length≤1024
 nlen:next.length≤sets.length
 alen:acc.length=next.length
 nodup:sets.Nodup
 some':∀ t∈sets,t≠[]
 row:∀ (s:Nat) (r:List Int) (cur:List Nat),next[s]?=some r→sets[s]?=some cur→r.length=P.length∧∀ (k:Nat) (p:SetD),P[k]?=some p →
  (stepN a.rows (intsN cur) (firstC p)=[]∧r[k]?=some (-1))∨∃ i:Nat,sets[i]?=some (stepN a.rows (intsN cur) (firstC p))∧r[k]?=some (i:Int)
 acc:∀ (s:Nat) (cur:List Nat),s<next.length→sets[s]?=some cur→acc[s]?=some (endsN a (intsN cur))
 met:∀ (i:Nat),0<i→i<sets.length→∃ (s k:Nat) (r:List Int),s<i∧next[s]?=some r∧r[k]?=some (i:Int)
theorem row_ok {rows:RowsN}{cur:List Nat}:∀ (ps:List SetD) (sets:List (List Nat)) (row:List Int) (sets2:List (List Nat)) (row2:List Int),rowG rows cur ps sets row=some (sets2,row2)→sets.length≤1024→sets.Nodup→(∀ t∈sets,t≠[]) →
  (∃ e,sets2=sets++e)∧sets2.length≤1024∧sets2.Nodup∧(∀ t∈sets2,t≠[])∧(∃ f:List Int,row2=row++f∧f.length=ps.length∧(∀ (k:Nat) (p:SetD),ps[k]?=some p→(stepN rows (intsN cur) (firstC p)=[]∧f[k]?=some (-1))∨∃ i:Nat,sets2[i]?=some (stepN rows (intsN cur) (firstC p))∧f[k]?=some (i:Int)) ∧
   (∀ i:Nat,sets.length≤i→i<sets2.length→∃ k:Nat,f[k]?=some (i:Int)))
 | [],sets,row,sets2,row2,h,hl,hn,hs=>by
   rw [rowG] at h
   cases h
   exact ⟨⟨[],by simp⟩,hl,hn,hs,[],by simp,rfl,(fun k p hp=>by simp at hp),fun i h1 h2=>by omega⟩
 | p::ps,sets,row,sets2,row2,h,hl,hn,hs=>by
   rw [rowG] at h
   split at h
   ·rename_i h0
    obtain ⟨a1,a2,a3,a4,f,f1,f2,f3,f4⟩:=row_ok ps sets _ _ _ h hl hn hs
    refine ⟨a1,a2,a3,a4,-1::f,by rw [f1];simp,by simp [f2],fun k q hq=>?_,fun i h1 h2=>by obtain ⟨k,hk⟩:=f4 i h1 h2;exact ⟨k+1,hk⟩⟩
    cases k with
    | zero=>simp at hq;subst hq;exact .inl ⟨h0,rfl⟩
    | succ k=>exact f3 k q hq
   ·rename_i h0
    split at h
    ·rename_i k0 hk0
     obtain ⟨a1,a2,a3,a4,f,f1,f2,f3,f4⟩:=row_ok ps sets _ _ _ h hl hn hs
     refine ⟨a1,a2,a3,a4,(k0:Int)::f,by rw [f1];simp,by simp [f2],fun k q hq=>?_,fun i h1 h2=>by obtain ⟨k,hk⟩:=f4 i h1 h2;exact ⟨k+1,hk⟩⟩
     cases k with
     | zero =>
       simp at hq;subst hq
       refine .inr ⟨k0,?_,rfl⟩
       obtain ⟨e,he⟩:=a1
       obtain ⟨hlt,h1,_⟩:=List.findIdx?_eq_some_iff_getElem.1 hk0
       rw [he,List.getElem?_append_left hlt,List.getElem?_eq_getElem hlt,eq_of_beq h1]
     | succ k=>exact f3 k q hq
    ·rename_i hk0
     split at h
     ·cases h
     ·rename_i hne
      have hnm:stepN rows (intsN cur) (firstC p)∉sets:=fun hm=>by
       have:=List.findIdx?_eq_none_iff.1 hk0 _ hm
       simp at this
      have hn2:(sets++[stepN rows (intsN cur) (firstC p)]).Nodup:=List.nodup_append.2 ⟨hn,by simp,fun x hx y hy e=>by
       rw [List.mem_singleton] at hy;subst hy;subst e;exact hnm hx⟩
      obtain ⟨a1,a2,a3,a4,f,f1,f2,f3,f4⟩:=row_ok ps (sets++[stepN rows (intsN cur) (firstC p)]) _ _ _ h (by simp;omega) hn2 (fun t ht=>by
       rcases List.mem_append.1 ht with ht|ht
       ·exact hs t ht
       ·rw [List.mem_singleton] at ht;rw [ht];exact h0)
      obtain ⟨e,he⟩:=a1
      refine ⟨⟨stepN rows (intsN cur) (firstC p)::e,by rw [he];simp⟩,a2,a3,a4,(sets.length:Int)::f,by rw [f1];simp,by simp [f2],fun k q hq=>?_,fun i h1 h2=>?_⟩
      ·cases k with
       | zero =>
         simp at hq;subst hq
         refine .inr ⟨sets.length,?_,rfl⟩
         rw [he,List.getElem?_append_left (by simp),List.getElem?_append_right (Nat.le_refl _),Nat.sub_self];rfl
       | succ k=>exact f3 k q hq
      ·by_cases e2:i=sets.length
       ·exact ⟨0,by rw [e2];rfl⟩
       ·obtain ⟨k,hk⟩:=f4 i (by simp;omega) h2
        exact ⟨k+1,hk⟩
theorem sub_ok {a:NfaD}{P:List SetD}:∀ (fuel:Nat) (sets:List (List Nat)) (next:List (List Int)) (acc:List Bool) (r:List (List Nat) × List (List Int) × List Bool),subG a P fuel sets next acc=some r→SubOk a P sets next acc→1024<fuel+next.length→SubOk a P r.1 r.2.1 r.2.2∧r.2.1.length=r.1.length
 | 0,sets,next,acc,r,h,ho,hf=>by have:=ho.nlen;have:=ho.le;omega
 | fuel+1,sets,next,acc,r,h,ho,hf=>by
   rw [subG] at h
   split at h
   ·rename_i hn
    cases h
    have:=List.getElem?_eq_none_iff.1 hn
    exact ⟨ho,by have:=ho.nlen;dsimp only;omega⟩
   ·rename_i cur hcur
    split at h
    ·cases h
    ·rename_i r2 hr2
     obtain ⟨sets2,row2⟩:=r2
     obtain ⟨⟨e,he⟩,a2,a3,a4,f,f1,f2,f3,f4⟩:=row_ok P sets [] sets2 row2 hr2 ho.le ho.nodup ho.some'
     rw [List.nil_append] at f1
     subst f1
     have hlt:=(List.getElem?_eq_some_iff.1 hcur).1
     have hold:∀ (i:Nat) (t:List Nat),sets[i]?=some t→sets2[i]?=some t:=fun i t h=>by
      have:=(List.getElem?_eq_some_iff.1 h).1
      rw [he,List.getElem?_append_left this,h]
     have hold2:∀ (i:Nat) (t:List Nat),i<sets.length→sets2[i]?=some t→sets[i]?=some t:=fun i t h1 h=>by
      rw [he,List.getElem?_append_left h1] at h;exact h
     refine sub_ok fuel sets2 (next++[row2]) (acc++[endsN a (intsN cur)]) r h ⟨hold _ _ ho.start,a2,?_,by simp [ho.alen],a3,a4,?_,?_,?_⟩ (by simp;omega)
     ·rw [he];simp;omega
     ·intro s r cs hs hcs
      by_cases e1:s<next.length
      ·rw [List.getElem?_append_left e1] at hs
       obtain ⟨q1,q2⟩:=ho.row s r cs hs (hold2 s cs (by have:=ho.nlen;omega) hcs)
       refine ⟨q1,fun k p hp=>?_⟩
       rcases q2 k p hp with h3|⟨i,h3,h4⟩
       ·exact .inl h3
       ·exact .inr ⟨i,hold _ _ h3,h4⟩
      ·have e2:s=next.length:=by have:=(List.getElem?_eq_some_iff.1 hs).1;simp at this;omega
       subst e2
       rw [List.getElem?_append_right (Nat.le_refl _),Nat.sub_self] at hs
       have hs:row2=r:=by simpa using hs
       subst hs
       have hcc:=hold2 _ _ hlt hcs
       rw [hcur] at hcc
       cases hcc
       exact ⟨f2,f3⟩
     ·intro s cs hs hcs
      rw [List.length_append,List.length_singleton] at hs
      by_cases e1:s<next.length
      ·rw [List.getElem?_append_left (by rw [ho.alen];exact e1)]
       exact ho.acc s cs e1 (hold2 s cs (by have:=ho.nlen;omega) hcs)
      ·have e2:s=next.length:=by omega
       subst e2
       have hcc:=hold2 _ _ hlt hcs
       rw [hcur] at hcc
       cases hcc
       rw [List.getElem?_append_right (by rw [ho.alen];exact Nat.le_refl _),ho.alen,Nat.sub_self];rfl
     ·intro i h0 h1
      by_cases e1:i<sets.length
      ·obtain ⟨s,k,r,q1,q2,q3⟩:=ho.met i h0 e1
       exact ⟨s,k,r,q1,by rw [List.getElem?_append_left (List.getElem?_eq_some_iff.1 q2).1];exact q2,q3⟩
      ·obtain ⟨k,hk⟩:=f4 i (by omega) h1
       exact ⟨next.length,k,row2,by omega,by rw [List.getElem?_append_right (Nat.le_refl _),Nat.sub_self];rfl,hk⟩
theorem firstC_is {p:SetD}{c:Nat} (h:p.firstIs c=true):firstC p=c:=by
 unfold SetD.firstIs at h
 rw [beq_iff_eq] at h
 unfold firstC;rw [h];rfl
theorem cls_at {P l:List SetD} (h:Cuts P l) {c:Nat} (hc:c<256):∃ (k:Nat) (p:SetD),(clsG P)[c]?=some k∧P[k]?=some p∧p.has c=true:=by
 obtain ⟨p,hp,hpc⟩:=h.all c hc
 unfold clsG
 rw [List.getElem?_map,List.getElem?_range hc]
 cases hf:P.findIdx? (fun p=>p.has c) with
 | none=>have:=List.findIdx?_eq_none_iff.1 hf p hp;rw [hpc] at this;cases this
 | some k =>
   obtain ⟨h1,h2,_⟩:=List.findIdx?_eq_some_iff_getElem.1 hf
   refine ⟨k,P[k],?_,List.getElem?_eq_getElem h1,h2⟩
   show some ((P.findIdx? fun p=>p.has c).getD 0)=some k
   rw [hf];rfl
theorem cls_len (P:List SetD):(clsG P).length=256:=by simp [clsG]
structure Subs (a:NfaD) (d:DfaA) (sets:List (List Nat)):Prop where
 ok:SubOk a (piecesG a) sets d.next d.acc
 len:d.next.length=sets.length
 cls:d.cls=clsG (piecesG a)
theorem makeA_subs {a:NfaD} (ha:ToIn a.rows) (h:(makeA a).1=0):∃ sets,Subs a (makeA a).2 sets∧a.rows≠[]:=by
 unfold makeA at h ⊢
 split at h
 ·cases h
 ·rename_i hne
  rw [if_neg hne]
  split at h
  ·cases h
  ·rename_i r hr
   have hst:startN a.rows≠[]:=by
    unfold startN
    rw [if_neg hne]
    intro e
    have:(0:Nat)∈reachN a.rows [0]:=(reach_iff ha 0).2 (.base (by simp) (List.length_pos_iff.2 hne))
    rw [e] at this;cases this
   obtain ⟨h1,h2⟩:=sub_ok 1025 _ _ _ r hr ⟨rfl,by simp,by simp,rfl,by simp,(fun t ht=>by rw [List.mem_singleton] at ht;rw [ht];exact hst),(fun s r cur hs=>by simp at hs),(fun s cur hs=>by simp at hs),(fun i h0 h1=>by simp at h1;omega)⟩ (by simp)
   exact ⟨r.1,⟨h1,h2,rfl⟩,hne⟩
def resA (a:DfaA) (s:Int) (b:List UInt8):Bool:=endsA a (b.foldl (fun s c=>stepA a s c.toNat) s)
theorem res_match (a:DfaA) (b:List UInt8):matchA a b=resA a 0 b:=rfl
theorem res_cons (a:DfaA) (s:Int) (c:UInt8) (b:List UInt8):resA a s (c::b)=resA a (stepA a s c.toNat) b:=rfl
theorem step_dead {a:DfaA}{s:Int} (h:s<0) (c:Nat):stepA a s c=-1:=by unfold stepA;rw [if_pos (.inl h)]
theorem res_dead {a:DfaA}:∀ (b:List UInt8) {s:Int},s<0→resA a s b=false
 | [],s,h=>by
   unfold resA endsA
   rw [List.foldl_nil,decide_eq_false (show ¬0≤s by omega)];rfl
 | c::b,s,h=>by rw [res_cons,step_dead h];exact res_dead b (by omega)
def widthA (a:DfaA):Nat:=(a.next[0]?.getD []).length
def SurA (w:Nat) (a:DfaA):Prop:=∀ k,k<w→∃ c:Nat,c<256∧a.cls[c]?=some k
theorem step_at {w:Nat}{a:DfaA} (h:DfaOk w a) {s:Nat} (hs:s<a.next.length) {c:Nat} (hc:c<256):∃ (k:Nat) (r:List Int),a.cls[c]?=some k∧k<w∧a.next[s]?=some r∧r[k]?=some (stepA a (s:Int) c):=by
 have hcl:c<a.cls.length:=by rw [h.cls];exact hc
 have hk:=h.low _ (List.getElem_mem hcl)
 have hr:=h.row _ (List.getElem_mem hs)
 refine ⟨a.cls[c],a.next[s],List.getElem?_eq_getElem hcl,hk,List.getElem?_eq_getElem hs,?_⟩
 unfold stepA
 rw [if_neg (by omega),Int.toNat_natCast,List.getElem?_eq_getElem hs,List.getElem?_eq_getElem hcl]
 simp only [Option.getD_some]
 rw [List.getElem?_eq_getElem (show a.cls[c] < a.next[s].length by omega)];rfl
theorem step_to {w:Nat}{a:DfaA} (h:DfaOk w a) (s:Int) {c:Nat} (hc:c<256):stepA a s c=-1∨∃ t:Nat,stepA a s c=(t:Int)∧t<a.next.length:=by
 by_cases hs:0≤s∧s<a.next.length
 ·obtain ⟨n,rfl⟩:∃ n:Nat,s=(n:Int):=⟨s.toNat,by omega⟩
  obtain ⟨k,r,h1,h2,h3,h4⟩:=step_at h (s:=n) (by omega) hc
  rcases h.to r (List.mem_of_getElem? h3) _ (List.mem_of_getElem? h4) with h5|h5
  ·exact .inl h5
  ·exact .inr ⟨(stepA a (n:Int) c).toNat,by omega,by omega⟩
 ·unfold stepA
  rw [if_pos (by omega)];exact .inl rfl
def LiveA (a:DfaA) (s:Nat):Prop:=∃ b,resA a (s:Int) b=true
def liveR (a:DfaA) (m:List Bool):List Bool:=(List.range a.next.length).map fun s=>getB m s||(a.next[s]?.getD []).any fun z=>decide (0≤z)&&getB m z.toNat
def liveL (a:DfaA):Nat→List Bool→List Bool
 | 0,m=>m
 | k+1,m=>liveL a k (liveR a m)
def liveA (a:DfaA):List Bool:=liveL a a.next.length a.acc
def ClosedA (a:DfaA) (m:List Bool):Prop:=∀ (s:Nat) (z:Int),z∈a.next[s]?.getD []→0≤z→getB m z.toNat=true→getB m s=true
theorem liveR_get {a:DfaA} (m:List Bool) (s:Nat):getB (liveR a m) s=true↔s<a.next.length∧(getB m s=true∨∃ z∈a.next[s]?.getD [],0≤z∧getB m z.toNat=true):=by
 unfold liveR
 rw [getB_map,Bool.and_eq_true,decide_eq_true_iff,Bool.or_eq_true,List.any_eq_true]
 simp only [Bool.and_eq_true,decide_eq_true_iff]
theorem getB_lt {m:List Bool}{i:Nat} (h:getB m i=true):i<m.length:=by
 apply Classical.byContradiction
 intro hn
 unfold getB at h
 rw [List.getElem?_eq_none (by omega)] at h;cases h
theorem next_lt {a:DfaA}{s:Nat}{z:Int} (h:z∈a.next[s]?.getD []):s<a.next.length:=by
 apply Classical.byContradiction
 intro hn
 rw [List.getElem?_eq_none (by omega)] at h;cases h
theorem liveR_len (a:DfaA) (m:List Bool):(liveR a m).length=a.next.length:=by simp [liveR]
theorem liveR_keeps {a:DfaA}{m:List Bool} (hl:m.length=a.next.length) (i:Nat) (hi:getB m i=true):getB (liveR a m) i=true :=
 (liveR_get m i).2 ⟨by rw [←hl];exact getB_lt hi,.inl hi⟩
theorem liveR_more {a:DfaA}{m:List Bool} (hl:m.length=a.next.length):ClosedA a m∨cntB m+1≤cntB (liveR a m):=by
 by_cases hc:ClosedA a m
 ·exact .inl hc
 ·refine .inr ?_
  have hex:∃ (s:Nat) (z:Int),z∈a.next[s]?.getD []∧0≤z∧getB m z.toNat=true∧getB m s=false:=by
   apply Classical.byContradiction
   intro hn
   exact hc fun s z h1 h2 h3=>by
    cases h4:getB m s with
    | true=>rfl
    | false=>exact absurd ⟨s,z,h1,h2,h3,h4⟩ hn
  obtain ⟨s,z,h1,h2,h3,h4⟩:=hex
  exact cnt_lt m _ (by rw [hl,liveR_len]) (liveR_keeps hl) ⟨s,h4,(liveR_get m s).2 ⟨next_lt h1,.inr ⟨z,h1,h2,h3⟩⟩⟩
theorem closedA_round {a:DfaA}{m:List Bool} (hl:m.length=a.next.length) (hc:ClosedA a m):ClosedA a (liveR a m):=by
 intro s z h1 h2 h3
 have hz:getB m z.toNat=true:=by
  rcases ((liveR_get m z.toNat).1 h3).2 with h4|⟨y,h4,h5,h6⟩
  ·exact h4
  ·exact hc _ y h4 h5 h6
 exact liveR_keeps hl s (hc s z h1 h2 hz)
theorem live_closed {a:DfaA}:∀ (k:Nat) (m:List Bool),m.length=a.next.length→(ClosedA a m∨a.next.length≤k+cntB m)→ClosedA a (liveL a k m)
 | 0,m,hl,hc=>by
   rcases hc with hc|hc
   ·exact hc
   ·intro s z h1 h2 h3
    exact cnt_max m (by omega) s (by rw [hl];exact next_lt h1)
 | k+1,m,hl,hc=>by
   rw [liveL]
   refine live_closed k _ (liveR_len a m) ?_
   rcases hc with hc|hc
   ·exact .inl (closedA_round hl hc)
   ·rcases liveR_more hl with h1|h1
    ·exact .inl (closedA_round hl h1)
    ·exact .inr (by omega)
theorem live_keeps {a:DfaA}:∀ (k:Nat) (m:List Bool),m.length=a.next.length→∀ i,getB m i=true→getB (liveL a k m) i=true
 | 0,m,hl,i,hi=>hi
 | k+1,m,hl,i,hi=>live_keeps k _ (liveR_len a m) i (liveR_keeps hl i hi)
theorem live_len {a:DfaA}:∀ (k:Nat) (m:List Bool),m.length=a.next.length→(liveL a k m).length=a.next.length
 | 0,m,hl=>hl
 | k+1,m,hl=>live_len k _ (liveR_len a m)
theorem live_sound {a:DfaA}{Q:Nat→Prop} (hstep:∀ (s:Nat) (z:Int),z∈a.next[s]?.getD []→0≤z→Q z.toNat→Q s):∀ (k:Nat) (m:List Bool),(∀ i,getB m i=true→Q i)→∀ i,getB (liveL a k m) i=true→Q i
 | 0,m,hs,i,hi=>hs i hi
 | k+1,m,hs,i,hi=>live_sound hstep k _ (fun j hj=>by
   rcases ((liveR_get m j).1 hj).2 with h1|⟨z,h1,h2,h3⟩
   ·exact hs j h1
   ·exact hstep j z h1 h2 (hs _ h3)) i hi
theorem ends_nat {a:DfaA} (s:Nat):endsA a (s:Int)=getB a.acc s:=by
 unfold endsA getB
 by_cases h:s<a.acc.length
 ·rw [decide_eq_true (by omega),decide_eq_true (by omega),Int.toNat_natCast];simp
 ·rw [decide_eq_false (show ¬((s:Int)<a.acc.length) by omega),List.getElem?_eq_none (show a.acc.length≤s by omega)];simp
theorem live_iff {w:Nat}{a:DfaA} (h:DfaOk w a) (hs:SurA w a) (s:Nat):getB (liveA a) s=true↔LiveA a s:=by
 have hcl:=live_closed a.next.length a.acc h.acc (.inr (by omega))
 unfold liveA
 constructor
 ·refine live_sound (fun s z h1 h2 h3=>?_) _ _ (fun i hi=>⟨[],by unfold resA;rw [List.foldl_nil,ends_nat];exact hi⟩) s
  obtain ⟨b,hb⟩:=h3
  have hlt:=next_lt h1
  rw [List.getElem?_eq_getElem hlt,Option.getD_some] at h1
  obtain ⟨k,hk,e⟩:=List.getElem_of_mem h1
  have hw:k<w:=by rw [←h.row _ (List.getElem_mem hlt)];exact hk
  obtain ⟨c,hc,hck⟩:=hs k hw
  obtain ⟨k2,r,g1,g2,g3,g4⟩:=step_at h hlt hc
  rw [hck] at g1;cases g1
  rw [List.getElem?_eq_getElem hlt] at g3;cases g3
  rw [List.getElem?_eq_getElem hk,e] at g4
  have hst:stepA a (s:Int) c=z:=(Option.some.inj g4).symm
  refine ⟨UInt8.ofNat c::b,?_⟩
  rw [res_cons,UInt8.toNat_ofNat_of_lt' hc,hst,show z=((z.toNat:Nat):Int) by omega]
  exact hb
 ·rintro ⟨b,hb⟩
  induction b generalizing s with
  | nil =>
    unfold resA at hb
    rw [List.foldl_nil,ends_nat] at hb
    exact live_keeps _ _ h.acc s hb
  | cons c b ih =>
    rw [res_cons] at hb
    rcases step_to h (s:Int) c.toNat_lt with h1|⟨t,h1,h2⟩
    ·rw [h1,res_dead b (by omega)] at hb;cases hb
    ·rw [h1] at hb
     have hlt:s<a.next.length:=by
      apply Classical.byContradiction
      intro hn
      unfold stepA at h1
      rw [if_pos (by omega)] at h1;omega
     obtain ⟨k,r,g1,g2,g3,g4⟩:=step_at h hlt c.toNat_lt
     rw [h1] at g4
     exact hcl s (t:Int) (by rw [g3];exact List.mem_of_getElem? g4) (by omega) (by rw [Int.toNat_natCast];exact ih t hb)
def getI' (g:List Int) (s:Nat):Int:=g[s]?.getD (-1)
def grpAt (g:List Int) (z:Int):Int:=if 0≤z then getI' g z.toNat else z
def keyA (a:DfaA) (g:List Int) (s:Nat):List Int:=(getI' g s+1)::(a.next[s]?.getD []).map fun z=>grpAt g z+1
def refA (a:DfaA) (g:List Int):Nat→Nat→List (List Int)→List Int→List (List Int) × List Int
 | 0,_,seen,out=>(seen,out)
 | k+1,i,seen,out =>
   if getI' g i=-1 then refA a g k (i+1) seen (out++[-1])
   else match seen.idxOf? (keyA a g i) with
    | some j=>refA a g k (i+1) seen (out++[(j:Int)])
    | none=>refA a g k (i+1) (seen++[keyA a g i]) (out++[(seen.length:Int)])
def grpL (a:DfaA):Nat→Nat→List Int→List Int
 | 0,_,g=>g
 | f+1,m,g=>if (refA a g a.next.length 0 [] []).1.length=m then (refA a g a.next.length 0 [] []).2 else grpL a f (refA a g a.next.length 0 [] []).1.length (refA a g a.next.length 0 [] []).2
def grp0 (a:DfaA):List Int:=(List.range a.next.length).map fun s=>if getB (liveA a) s then (if getB a.acc s then 1 else 0) else -1
def grpA (a:DfaA):List Int:=grpL a (a.next.length+1) 0 (grp0 a)
structure Numb (a:DfaA) (g:List Int) (i:Nat) (seen:List (List Int)) (out:List Int):Prop where
 len:out.length=i
 nodup:seen.Nodup
 dead:∀ s,s<i→getI' g s=-1→getI' out s=-1
 at':∀ s,s<i→getI' g s≠-1→∃ k:Nat,getI' out s=(k:Int)∧seen[k]?=some (keyA a g s)
 from':∀ (k:Nat) (key:List Int),seen[k]?=some key→∃ s,s<i∧getI' g s≠-1∧key=keyA a g s∧getI' out s=(k:Int)
theorem getI_snoc {out:List Int}{v:Int}{s:Nat}:getI' (out++[v]) s=if s=out.length then v else getI' out s:=by
 unfold getI'
 by_cases h:s<out.length
 ·rw [List.getElem?_append_left h,if_neg (by omega)]
 ·rw [List.getElem?_append_right (by omega)]
  by_cases e:s=out.length
  ·rw [if_pos e,e,Nat.sub_self];rfl
  ·rw [if_neg e,List.getElem?_eq_none (by simp;omega),List.getElem?_eq_none (by omega)]
theorem ref_ok {a:DfaA}{g:List Int}:∀ (k i:Nat) (seen:List (List Int)) (out:List Int),Numb a g i seen out→Numb a g (i+k) (refA a g k i seen out).1 (refA a g k i seen out).2
 | 0,i,seen,out,h=>h
 | k+1,i,seen,out,h=>by
   rw [refA]
   have e:i+(k+1)=i+1+k:=by omega
   split
   ·rename_i h0
    rw [e]
    refine ref_ok k (i+1) seen _ ⟨by simp [h.len],h.nodup,fun s hs hd=>?_,fun s hs hd=>?_,fun j key hj=>?_⟩
    ·rw [getI_snoc];split
     ·rfl
     ·rename_i h1;exact h.dead s (by have:=h.len;omega) hd
    ·rw [getI_snoc];split
     ·rename_i h1;rw [h1,h.len] at hd;exact absurd h0 hd
     ·rename_i h1;exact h.at' s (by have:=h.len;omega) hd
    ·obtain ⟨s,h1,h2,h3,h4⟩:=h.from' j key hj
     exact ⟨s,by omega,h2,h3,by rw [getI_snoc,if_neg (by have:=h.len;omega)];exact h4⟩
   ·rename_i h0
    split
    ·rename_i j0 hj0
     rw [e]
     obtain ⟨hlt,hk,_⟩:=List.findIdx?_eq_some_iff_getElem.1 hj0
     have hk:seen[j0]=keyA a g i:=eq_of_beq hk
     refine ref_ok k (i+1) seen _ ⟨by simp [h.len],h.nodup,fun s hs hd=>?_,fun s hs hd=>?_,fun j key hj=>?_⟩
     ·rw [getI_snoc];split
      ·rename_i h1;rw [h1,h.len] at hd;exact absurd hd h0
      ·rename_i h1;exact h.dead s (by have:=h.len;omega) hd
     ·rw [getI_snoc];split
      ·rename_i h1
       refine ⟨j0,rfl,?_⟩
       rw [List.getElem?_eq_getElem hlt,hk,h1,h.len]
      ·rename_i h1;exact h.at' s (by have:=h.len;omega) hd
     ·obtain ⟨s,h1,h2,h3,h4⟩:=h.from' j key hj
      exact ⟨s,by omega,h2,h3,by rw [getI_snoc,if_neg (by have:=h.len;omega)];exact h4⟩
    ·rename_i hj0
     rw [e]
     have hnm:keyA a g i∉seen:=fun hm=>by
      have:=List.findIdx?_eq_none_iff.1 hj0 _ hm
      simp at this
     refine ref_ok k (i+1) _ _ ⟨by simp [h.len],List.nodup_append.2 ⟨h.nodup,by simp,fun x hx y hy e=>by
      rw [List.mem_singleton] at hy;subst hy;subst e;exact hnm hx⟩,fun s hs hd=>?_,fun s hs hd=>?_,fun j key hj=>?_⟩
     ·rw [getI_snoc];split
      ·rename_i h1;rw [h1,h.len] at hd;exact absurd hd h0
      ·rename_i h1;exact h.dead s (by have:=h.len;omega) hd
     ·rw [getI_snoc];split
      ·rename_i h1
       refine ⟨seen.length,rfl,?_⟩
       rw [List.getElem?_append_right (Nat.le_refl _),Nat.sub_self,h1,h.len];rfl
      ·rename_i h1
       obtain ⟨k1,h2,h3⟩:=h.at' s (by have:=h.len;omega) hd
       exact ⟨k1,h2,by rw [List.getElem?_append_left (List.getElem?_eq_some_iff.1 h3).1];exact h3⟩
     ·by_cases hjl:j<seen.length
      ·rw [List.getElem?_append_left hjl] at hj
       obtain ⟨s,h1,h2,h3,h4⟩:=h.from' j key hj
       exact ⟨s,by omega,h2,h3,by rw [getI_snoc,if_neg (by have:=h.len;omega)];exact h4⟩
      ·have hje:j=seen.length:=by have:=(List.getElem?_eq_some_iff.1 hj).1;simp at this;omega
       subst hje
       rw [List.getElem?_append_right (Nat.le_refl _),Nat.sub_self] at hj
       have hj:keyA a g i=key:=by simpa using hj
       exact ⟨i,by omega,h0,hj.symm,by rw [getI_snoc,if_pos h.len.symm]⟩
theorem numb0 (a:DfaA) (g:List Int):Numb a g 0 [] []:=⟨rfl,List.nodup_nil,fun s h=>by omega,fun s h=>by omega,fun k key h=>by simp at h⟩
theorem ref_all (a:DfaA) (g:List Int):Numb a g a.next.length (refA a g a.next.length 0 [] []).1 (refA a g a.next.length 0 [] []).2:=by
 have:=ref_ok a.next.length 0 [] [] (numb0 a g)
 rwa [Nat.zero_add] at this
structure GrpOk (a:DfaA) (g:List Int):Prop where
 len:g.length=a.next.length
 dead:∀ s,s<a.next.length→(getI' g s=-1↔¬LiveA a s)
 low:∀ s,s<a.next.length→-1≤getI' g s
 same:∀ s t,s<a.next.length→t<a.next.length→LiveA a s→(∀ b,resA a (s:Int) b=resA a (t:Int) b)→getI' g s=getI' g t
 acc:∀ s t,s<a.next.length→t<a.next.length→LiveA a s→getI' g s=getI' g t→getB a.acc s=getB a.acc t
structure FullG (a:DfaA) (m:Nat) (g:List Int):Prop where
 lt:∀ s,s<a.next.length→getI' g s<(m:Int)
 all:∀ k,k<m→∃ s,s<a.next.length∧LiveA a s∧getI' g s=(k:Int)
theorem live_like {a:DfaA}{s t:Nat} (h:LiveA a s) (hr:∀ b,resA a (s:Int) b=resA a (t:Int) b):LiveA a t:=by
 obtain ⟨b,hb⟩:=h
 exact ⟨b,by rw [←hr];exact hb⟩
theorem not_live_res {a:DfaA}{s:Nat} (h:¬LiveA a s) (b:List UInt8):resA a (s:Int) b=false:=by
 cases hb:resA a (s:Int) b with
 | false=>rfl
 | true=>exact absurd ⟨b,hb⟩ h
theorem grpAt_same {w:Nat}{a:DfaA} (h:DfaOk w a) {g:List Int} (hg:GrpOk a g) {y z:Int} (hy:y=-1∨(0≤y∧y<a.next.length)) (hz:z=-1∨(0≤z∧z<a.next.length)) (hr:∀ b,resA a y b=resA a z b):grpAt g y=grpAt g z:=by
 have key:∀ {y z:Int},y=-1→(0≤z∧z<a.next.length)→(∀ b,resA a y b=resA a z b)→grpAt g y=grpAt g z:=by
  intro y z h1 h2 hr
  unfold grpAt
  rw [if_neg (by omega),if_pos h2.1,h1]
  refine ((hg.dead z.toNat (by omega)).2 fun hl=>?_).symm
  obtain ⟨b,hb⟩:=hl
  rw [show ((z.toNat:Nat):Int)=z by omega,←hr,res_dead b (by omega)] at hb;cases hb
 rcases hy with hy|hy
 ·rcases hz with hz|hz
  ·rw [hy,hz]
  ·exact key hy hz hr
 ·rcases hz with hz|hz
  ·exact (key hz hy (fun b=>(hr b).symm)).symm
  ·unfold grpAt
   rw [if_pos hy.1,if_pos hz.1]
   have e1:((y.toNat:Nat):Int)=y:=by omega
   have e2:((z.toNat:Nat):Int)=z:=by omega
   by_cases hl:LiveA a y.toNat
   ·exact hg.same _ _ (by omega) (by omega) hl (fun b=>by rw [e1,e2];exact hr b)
   ·rw [(hg.dead y.toNat (by omega)).2 hl]
    refine ((hg.dead z.toNat (by omega)).2 fun h2=>hl ?_).symm
    exact live_like h2 (fun b=>by rw [e1,e2];exact (hr b).symm)
theorem key_same {w:Nat}{a:DfaA} (h:DfaOk w a) (hs:SurA w a) {g:List Int} (hg:GrpOk a g) {s t:Nat} (h1:s<a.next.length) (h2:t<a.next.length) (hl:LiveA a s) (hr:∀ b,resA a (s:Int) b=resA a (t:Int) b):keyA a g s=keyA a g t:=by
 unfold keyA
 rw [hg.same s t h1 h2 hl hr]
 congr 1
 rw [List.getElem?_eq_getElem h1,List.getElem?_eq_getElem h2,Option.getD_some,Option.getD_some]
 apply List.ext_getElem?
 intro k
 rw [List.getElem?_map,List.getElem?_map]
 by_cases hk:k<w
 ·obtain ⟨c,hc,hck⟩:=hs k hk
  obtain ⟨k1,r1,p1,p2,p3,p4⟩:=step_at h h1 hc
  obtain ⟨k2,r2,q1,q2,q3,q4⟩:=step_at h h2 hc
  rw [hck] at p1 q1
  cases p1;cases q1
  rw [List.getElem?_eq_getElem h1] at p3
  rw [List.getElem?_eq_getElem h2] at q3
  cases p3;cases q3
  rw [p4,q4]
  simp only [Option.map_some]
  congr 2
  have t1:=h.to _ (List.getElem_mem h1) _ (List.mem_of_getElem? p4)
  have t2:=h.to _ (List.getElem_mem h2) _ (List.mem_of_getElem? q4)
  refine grpAt_same h hg t1 t2 fun b=>?_
  have:=hr (UInt8.ofNat c::b)
  rw [res_cons,res_cons,UInt8.toNat_ofNat_of_lt' hc] at this
  exact this
 ·rw [List.getElem?_eq_none (by rw [h.row _ (List.getElem_mem h1)];omega),List.getElem?_eq_none (by rw [h.row _ (List.getElem_mem h2)];omega)]
theorem key_head {a:DfaA}{g:List Int}{s t:Nat} (h:keyA a g s=keyA a g t):getI' g s=getI' g t:=by
 unfold keyA at h
 have:=(List.cons.inj h).1
 omega
theorem GrpOk.ref {w:Nat}{a:DfaA} (h:DfaOk w a) (hs:SurA w a) {g:List Int} (hg:GrpOk a g) {seen:List (List Int)}{out:List Int} (hn:Numb a g a.next.length seen out) :
  GrpOk a out∧FullG a seen.length out∧∀ s t,s<a.next.length→t<a.next.length→LiveA a s→LiveA a t→(getI' out s=getI' out t↔keyA a g s=keyA a g t):=by
 have hiff:∀ s t,s<a.next.length→t<a.next.length→LiveA a s→LiveA a t→(getI' out s=getI' out t↔keyA a g s=keyA a g t):=by
  intro s t h1 h2 l1 l2
  obtain ⟨k1,p1,p2⟩:=hn.at' s h1 (fun e=>((hg.dead s h1).1 e) l1)
  obtain ⟨k2,q1,q2⟩:=hn.at' t h2 (fun e=>((hg.dead t h2).1 e) l2)
  rw [p1,q1]
  constructor
  ·intro e
   have:k1=k2:=by omega
   subst this
   rw [p2] at q2;exact Option.some.inj q2
  ·intro e
   rw [e] at p2
   have:=(List.getElem?_inj (List.getElem?_eq_some_iff.1 p2).1 hn.nodup).1 (p2.trans q2.symm)
   omega
 have hdead:∀ s,s<a.next.length→(getI' out s=-1↔¬LiveA a s):=fun s h1=>by
  constructor
  ·intro e hl
   obtain ⟨k1,p1,_⟩:=hn.at' s h1 (fun e=>((hg.dead s h1).1 e) hl)
   omega
  ·intro hl;exact hn.dead s h1 ((hg.dead s h1).2 hl)
 have hlow:∀ s,s<a.next.length→-1≤getI' out s:=fun s h1=>by
  by_cases hl:LiveA a s
  ·obtain ⟨k1,p1,_⟩:=hn.at' s h1 (fun e=>((hg.dead s h1).1 e) hl)
   omega
  ·have:=(hdead s h1).2 hl;omega
 refine ⟨⟨hn.len,hdead,hlow,fun s t h1 h2 hl hr=>(hiff s t h1 h2 hl (live_like hl hr)).2 (key_same h hs hg h1 h2 hl hr),fun s t h1 h2 hl e=>?_⟩,⟨fun s h1=>?_,fun k hk=>?_⟩,hiff⟩
 ·have hl2:LiveA a t:=Classical.byContradiction fun hn2=>by
   have h3:=(hdead t h2).2 hn2
   exact ((hdead s h1).1 (e.trans h3)) hl
  exact hg.acc s t h1 h2 hl (key_head ((hiff s t h1 h2 hl hl2).1 e))
 ·by_cases hl:LiveA a s
  ·obtain ⟨k1,p1,p2⟩:=hn.at' s h1 (fun e=>((hg.dead s h1).1 e) hl)
   have:=(List.getElem?_eq_some_iff.1 p2).1
   omega
  ·have:=(hdead s h1).2 hl;omega
 ·obtain ⟨s,h1,h2,_,h4⟩:=hn.from' k _ (List.getElem?_eq_getElem hk)
  exact ⟨s,h1,Classical.byContradiction fun hn2=>h2 ((hg.dead s h1).2 hn2),h4⟩
theorem surj_nodup {α:Type} [DecidableEq α]:∀ {U H:List α},U.Nodup→(∀ x∈U,x∈H)→H.length≤U.length→H.Nodup
 | U,[],_,_,_=>List.nodup_nil
 | U,x::H,hu,hm,hl=>by
   have hx:x∉H:=fun hx=>by
    have:U.length≤H.length:=nodup_le hu fun y hy=>by
     rcases List.mem_cons.1 (hm y hy) with rfl|h
     ·exact hx
     ·exact h
    simp at hl;omega
   have he:∀ y∈U.erase x,y∈H:=fun y hy=>by
    have hne:y≠x:=fun e=>by subst e;exact (List.Nodup.not_mem_erase hu) hy
    rcases List.mem_cons.1 (hm y (List.mem_of_mem_erase hy)) with h|h
    ·exact absurd h hne
    ·exact h
   refine List.nodup_cons.2 ⟨hx,surj_nodup (hu.erase x) he ?_⟩
   have:=List.length_erase_le (a:=x) (l:=U)
   by_cases hxu:x∈U
   ·rw [List.length_erase_of_mem hxu];simp at hl;omega
   ·rw [List.erase_of_not_mem hxu];simp at hl;omega
theorem stable_round {a:DfaA}{g:List Int} (hg:GrpOk a g) {m:Nat} (hf:FullG a m g) {seen:List (List Int)}{out:List Int} (hn:Numb a g a.next.length seen out) :
  m≤seen.length∧(seen.length=m→∀ s t,s<a.next.length→t<a.next.length→LiveA a s→LiveA a t→getI' g s=getI' g t→keyA a g s=keyA a g t):=by
 have hU:((List.range m).map fun k:Nat=>(k:Int)+1).Nodup:=by
  refine List.pairwise_map.2 (List.nodup_range.imp fun {x y} h e=>h (by omega))
 have hmem:∀ x∈(List.range m).map fun k:Nat=>(k:Int)+1,x∈seen.map fun l=>l.headD 0:=fun x hx=>by
  obtain ⟨k,hk,rfl⟩:=List.mem_map.1 hx
  obtain ⟨s,h1,hl,h2⟩:=hf.all k (List.mem_range.1 hk)
  obtain ⟨j,_,h4⟩:=hn.at' s h1 (fun e=>((hg.dead s h1).1 e) hl)
  exact List.mem_map.2 ⟨keyA a g s,List.mem_of_getElem? h4,by unfold keyA;rw [h2];rfl⟩
 have hle:=nodup_le hU hmem
 rw [List.length_map,List.length_map,List.length_range] at hle
 refine ⟨hle,fun e s t h1 h2 l1 l2 hst=>?_⟩
 have hH:=surj_nodup hU hmem (by rw [List.length_map,List.length_map,List.length_range];omega)
 obtain ⟨j1,_,p2⟩:=hn.at' s h1 (fun e=>((hg.dead s h1).1 e) l1)
 obtain ⟨j2,_,q2⟩:=hn.at' t h2 (fun e=>((hg.dead t h2).1 e) l2)
 have hj:j1=j2:=by
  refine (List.getElem?_inj (by rw [List.length_map];exact (List.getElem?_eq_some_iff.1 p2).1) hH).1 ?_
  rw [List.getElem?_map,List.getElem?_map,p2,q2]
  unfold keyA;rw [hst];rfl
 subst hj
 rw [p2] at q2;exact Option.some.inj q2
structure GrpFin (a:DfaA) (g:List Int):Prop where
 ok:GrpOk a g
 iff:∀ s t,s<a.next.length→t<a.next.length→LiveA a s→LiveA a t→(getI' g s=getI' g t↔∀ b,resA a (s:Int) b=resA a (t:Int) b)
theorem grpAt_res {w:Nat}{a:DfaA} (h:DfaOk w a) {g:List Int} (hg:GrpOk a g)
  (hst:∀ s t,s<a.next.length→t<a.next.length→LiveA a s→LiveA a t→getI' g s=getI' g t→∀ c,c<256→grpAt g (stepA a (s:Int) c)=grpAt g (stepA a (t:Int) c)) :
  ∀ (b:List UInt8) (s t:Nat),s<a.next.length→t<a.next.length→LiveA a s→LiveA a t→getI' g s=getI' g t→resA a (s:Int) b=resA a (t:Int) b
 | [],s,t,h1,h2,l1,l2,e=>by unfold resA;rw [List.foldl_nil,List.foldl_nil,ends_nat,ends_nat];exact hg.acc s t h1 h2 l1 e
 | c::b,s,t,h1,h2,l1,l2,e=>by
   rw [res_cons,res_cons]
   have hgr:=hst s t h1 h2 l1 l2 e c.toNat c.toNat_lt
   have dead:∀ {y:Int},(y=-1∨∃ n:Nat,y=(n:Int)∧n<a.next.length)→grpAt g y=-1→resA a y b=false:=by
    intro y hy hd
    rcases hy with hy|⟨n,rfl,hn⟩
    ·exact res_dead b (by omega)
    ·unfold grpAt at hd
     rw [if_pos (by omega),Int.toNat_natCast] at hd
     exact not_live_res ((hg.dead n hn).1 hd) b
   have t1:=step_to h (s:Int) c.toNat_lt
   have t2:=step_to h (t:Int) c.toNat_lt
   generalize stepA a (s:Int) c.toNat=y at *
   generalize stepA a (t:Int) c.toNat=z at *
   by_cases hd:grpAt g y=-1
   ·rw [dead t1 hd,dead t2 (hgr.symm.trans hd)]
   ·have lv:∀ {y:Int},(y=-1∨∃ n:Nat,y=(n:Int)∧n<a.next.length)→grpAt g y≠-1→∃ n:Nat,y=(n:Int)∧n<a.next.length∧LiveA a n∧grpAt g y=getI' g n:=by
     intro y hy hd
     rcases hy with hy|⟨n,rfl,hn⟩
     ·exact absurd (by unfold grpAt;rw [if_neg (by omega)];exact hy) hd
     ·have e:grpAt g (n:Int)=getI' g n:=by unfold grpAt;rw [if_pos (by omega),Int.toNat_natCast]
      exact ⟨n,rfl,hn,Classical.byContradiction fun hl=>hd (e.trans ((hg.dead n hn).2 hl)),e⟩
    obtain ⟨n1,rfl,p1,p2,p3⟩:=lv t1 hd
    obtain ⟨n2,rfl,q1,q2,q3⟩:=lv t2 (fun e=>hd (hgr.trans e))
    exact grpAt_res h hg hst b n1 n2 p1 q1 p2 q2 (by rw [←p3,←q3];exact hgr)
theorem key_step {w:Nat}{a:DfaA} (h:DfaOk w a) {g:List Int}{s t:Nat} (h1:s<a.next.length) (h2:t<a.next.length) (e:keyA a g s=keyA a g t) {c:Nat} (hc:c<256):grpAt g (stepA a (s:Int) c)=grpAt g (stepA a (t:Int) c):=by
 obtain ⟨k1,r1,p1,p2,p3,p4⟩:=step_at h h1 hc
 obtain ⟨k2,r2,q1,q2,q3,q4⟩:=step_at h h2 hc
 rw [p1] at q1;cases q1
 unfold keyA at e
 rw [p3,q3] at e
 have e2:=congrArg (fun l:List Int=>l[k1]?) (List.cons.inj e).2
 simp only [Option.getD_some] at e2
 rw [List.getElem?_map,List.getElem?_map,p4,q4] at e2
 simp only [Option.map_some,Option.some.injEq] at e2
 omega
theorem grpL_fin {w:Nat}{a:DfaA} (h:DfaOk w a) (hs:SurA w a):∀ (f m:Nat) (g:List Int),GrpOk a g→(m=0∨FullG a m g)→a.next.length<f+m→GrpFin a (grpL a f m g)
 | 0,m,g,hg,hm,hf=>by
   rcases hm with hm|hm
   ·omega
   ·-- more groups than states: none
    exfalso
    have hU:(List.range m).Nodup:=List.nodup_range
    have:m≤a.next.length:=by
     have h1:∀ x∈(List.range m).map (fun k:Nat=>(k:Int)),x∈g:=fun x hx=>by
      obtain ⟨k,hk,rfl⟩:=List.mem_map.1 hx
      obtain ⟨s,h1,_,h2⟩:=hm.all k (List.mem_range.1 hk)
      unfold getI' at h2
      rw [List.getElem?_eq_getElem (by rw [hg.len];exact h1),Option.getD_some] at h2
      exact h2▸List.getElem_mem _
     have h3:((List.range m).map (fun k:Nat=>(k:Int))).Nodup:=List.pairwise_map.2 (List.nodup_range.imp fun {x y} h e=>h (by omega))
     have:=nodup_le h3 h1
     rw [List.length_map,List.length_range,hg.len] at this;exact this
    omega
 | f+1,m,g,hg,hm,hf=>by
   rw [grpL]
   have hn:=ref_all a g
   generalize refA a g a.next.length 0 [] []=r at *
   obtain ⟨o1,o2,o3⟩:=hg.ref h hs hn
   split
   ·rename_i he
    -- no more groups
    have hkey:∀ s t,s<a.next.length→t<a.next.length→LiveA a s→LiveA a t→getI' g s=getI' g t→keyA a g s=keyA a g t:=by
     rcases hm with hm|hm
     ·intro s t h1 h2 l1 l2 _
      obtain ⟨k,_,p2⟩:=hn.at' s h1 (fun e=>((hg.dead s h1).1 e) l1)
      have:=(List.getElem?_eq_some_iff.1 p2).1
      omega
     ·exact (stable_round hg hm hn).2 he
    have hgg:∀ s t,s<a.next.length→t<a.next.length→LiveA a s→LiveA a t→(getI' r.2 s=getI' r.2 t↔getI' g s=getI' g t):=fun s t h1 h2 l1 l2 =>
     (o3 s t h1 h2 l1 l2).trans ⟨key_head,hkey s t h1 h2 l1 l2⟩
    have hat:∀ {y z:Int},(y=-1∨∃ n:Nat,y=(n:Int)∧n<a.next.length)→(z=-1∨∃ n:Nat,z=(n:Int)∧n<a.next.length)→grpAt g y=grpAt g z→grpAt r.2 y=grpAt r.2 z:=by
     intro y z hy hz e
     have val:∀ (g:List Int) (n:Nat),grpAt g (n:Int)=getI' g n:=fun g n=>by unfold grpAt;rw [if_pos (by omega),Int.toNat_natCast]
     have neg:∀ (g:List Int),grpAt g (-1)=-1:=fun g=>by unfold grpAt;rw [if_neg (by omega)]
     rcases hy with rfl|⟨n,rfl,hn1⟩
     ·rcases hz with rfl|⟨k,rfl,hk1⟩
      ·rfl
      ·rw [neg,val] at e ⊢
       exact ((o1.dead k hk1).2 ((hg.dead k hk1).1 e.symm)).symm
     ·rcases hz with rfl|⟨k,rfl,hk1⟩
      ·rw [neg,val] at e ⊢
       exact (o1.dead n hn1).2 ((hg.dead n hn1).1 e)
      ·rw [val,val] at e ⊢
       by_cases l1:LiveA a n
       ·have l2:LiveA a k:=Classical.byContradiction fun hh=>((hg.dead n hn1).1 (e.trans ((hg.dead k hk1).2 hh))) l1
        exact (hgg n k hn1 hk1 l1 l2).2 e
       ·have l2:¬LiveA a k:=(hg.dead k hk1).1 (e.symm.trans ((hg.dead n hn1).2 l1))
        rw [(o1.dead n hn1).2 l1,(o1.dead k hk1).2 l2]
    refine ⟨o1,fun s t h1 h2 l1 l2=>⟨fun e b=>?_,fun hr=>o1.same s t h1 h2 l1 hr⟩⟩
    refine grpAt_res h o1 (fun s t h1 h2 l1 l2 e c hc=>?_) b s t h1 h2 l1 l2 e
    exact hat (step_to h _ hc) (step_to h _ hc) (key_step h h1 h2 ((o3 s t h1 h2 l1 l2).1 e) hc)
   ·rename_i he
    refine grpL_fin h hs f r.1.length r.2 o1 (.inr o2) ?_
    rcases hm with hm|hm
    ·omega
    ·have:=(stable_round hg hm hn).1;omega
theorem grp0_ok {w:Nat}{a:DfaA} (h:DfaOk w a) (hs:SurA w a):GrpOk a (grp0 a):=by
 have hv:∀ s,s<a.next.length→getI' (grp0 a) s=if getB (liveA a) s then (if getB a.acc s then 1 else 0) else -1:=fun s h1=>by
  unfold getI' grp0
  rw [List.getElem?_map,List.getElem?_range h1];rfl
 have hacc:∀ s t,s<a.next.length→t<a.next.length→LiveA a s→LiveA a t→(getI' (grp0 a) s=getI' (grp0 a) t↔getB a.acc s=getB a.acc t):=fun s t h1 h2 l1 l2=>by
  rw [hv s h1,hv t h2,(live_iff h hs s).2 l1,(live_iff h hs t).2 l2,if_pos rfl,if_pos rfl]
  cases getB a.acc s<;>cases getB a.acc t<;>simp
 have hdead:∀ s,s<a.next.length→(getI' (grp0 a) s=-1↔¬LiveA a s):=fun s h1=>by
  rw [hv s h1,←live_iff h hs s]
  cases getB (liveA a) s with
  | false=>simp
  | true=>simp;split<;>omega
 refine ⟨by simp [grp0],hdead,fun s h1=>by rw [hv s h1];split;split<;>omega;omega,fun s t h1 h2 hl hr=>?_,fun s t h1 h2 hl e=>?_⟩
 ·refine (hacc s t h1 h2 hl (live_like hl hr)).2 ?_
  have:=hr []
  unfold resA at this
  rwa [List.foldl_nil,List.foldl_nil,ends_nat,ends_nat] at this
 ·have l2:LiveA a t:=Classical.byContradiction fun hh=>((hdead s h1).1 (e.trans ((hdead t h2).2 hh))) hl
  exact (hacc s t h1 h2 hl l2).1 e
theorem grp_fin {w:Nat}{a:DfaA} (h:DfaOk w a) (hs:SurA w a):GrpFin a (grpA a):=grpL_fin h hs _ 0 _ (grp0_ok h hs) (.inl rfl) (by omega)
def Bef (s c s2 c2:Nat):Prop:=s<s2∨(s=s2∧c<c2)
structure Canon (w:Nat) (a:DfaA):Prop where
 ok:DfaOk w a
 sur:SurA w a
 pos:0<a.next.length
 live:∀ s,s<a.next.length→LiveA a s
 diff:∀ s t,s<a.next.length→t<a.next.length→(∀ b,resA a (s:Int) b=resA a (t:Int) b)→s=t
 met:∀ t,0<t→t<a.next.length→∃ s c,s<t∧c<256∧stepA a (s:Int) c=(t:Int)
 order:∀ (s c t:Nat),s<a.next.length→c<256→stepA a (s:Int) c=(t:Int)→∀ u,0<u→u<t→∃ s2 c2,s2<a.next.length∧c2<256∧Bef s2 c2 s c∧stepA a (s2:Int) c2=(u:Int)
 like:∀ c d k,c<256→d<256→a.cls[c]?=some k→(a.cls[d]?=some k↔∀ s:Nat,s<a.next.length→stepA a (s:Int) c=stepA a (s:Int) d)
 first:∀ c k,c<256→a.cls[c]?=some k→∀ j,j<k→∃ d,d<c∧a.cls[d]?=some j
theorem bef_trans {s c s2 c2 s3 c3:Nat} (h:Bef s c s2 c2) (h2:Bef s2 c2 s3 c3):Bef s c s3 c3:=by unfold Bef at *;omega
theorem first_pair {n:Nat}{f:Nat→Nat→Int}{t:Int} (h:∃ s c,s<n∧c<256∧f s c=t):∃ s c,s<n∧c<256∧f s c=t∧∀ s2 c2,s2<n→c2<256→Bef s2 c2 s c→f s2 c2≠t:=by
 -- by the number 256 s+c
 have key:∀ m:Nat,∀ s c,s*256+c=m→s<n→c<256→f s c=t→∃ s c,s<n∧c<256∧f s c=t∧∀ s2 c2,s2<n→c2<256→Bef s2 c2 s c→f s2 c2≠t:=by
  intro m
  induction m using Nat.strongRecOn with
  | _ m ih =>
    intro s c hm hs hc hf
    by_cases hex:∃ s2 c2,s2<n∧c2<256∧Bef s2 c2 s c∧f s2 c2=t
    ·obtain ⟨s2,c2,h1,h2,h3,h4⟩:=hex
     refine ih (s2*256+c2) ?_ s2 c2 rfl h1 h2 h4
     unfold Bef at h3;omega
    ·exact ⟨s,c,hs,hc,hf,fun s2 c2 h1 h2 h3 h4=>hex ⟨s2,c2,h1,h2,h3,h4⟩⟩
 obtain ⟨s,c,h1,h2,h3⟩:=h
 exact key _ s c rfl h1 h2 h3
theorem step_res {a:DfaA} (s:Int) {c:Nat} (hc:c<256) (b:List UInt8):resA a (stepA a s c) b=resA a s (UInt8.ofNat c::b):=by rw [res_cons,UInt8.toNat_ofNat_of_lt' hc]
theorem live_to {w:Nat}{a:DfaA} (h:DfaOk w a) {s:Int}{c:Nat} (hc:c<256) {b:List UInt8} (hb:resA a (stepA a s c) b=true):∃ t:Nat,stepA a s c=(t:Int)∧t<a.next.length:=by
 rcases step_to h s hc with h1|h1
 ·rw [h1,res_dead b (by omega)] at hb;cases hb
 ·exact h1
theorem canon_states {w v:Nat}{a b:DfaA} (ha:Canon w a) (hb:Canon v b) (h0:∀ x,resA a 0 x=resA b 0 x):∀ i:Nat,i<a.next.length→i<b.next.length∧∀ x,resA a (i:Int) x=resA b (i:Int) x:=by
 intro i
 induction i using Nat.strongRecOn with
 | _ i ih =>
   intro hi
   by_cases hz:i=0
   ·subst hz;exact ⟨hb.pos,h0⟩
   ·obtain ⟨s0,c0,hs0,hc0,hf0⟩:=ha.met i (by omega) hi
    obtain ⟨s,c,hs,hc,hf,hmin⟩:=first_pair (n:=a.next.length) (f:=fun s c=>stepA a (s:Int) c) (t:=(i:Int)) ⟨s0,c0,by omega,hc0,hf0⟩
    have hsi:s<i:=by
     apply Classical.byContradiction
     intro hn
     exact hmin s0 c0 (by omega) hc0 (.inl (by omega)) hf0
    obtain ⟨hsb,hsr⟩:=ih s hsi hs
    have hres:∀ x,resA b (stepA b (s:Int) c) x=resA a (i:Int) x:=fun x=>by rw [step_res _ hc,←hsr,←step_res _ hc,hf]
    obtain ⟨x0,hx0⟩:=ha.live i hi
    obtain ⟨j,hj,hjn⟩:=live_to hb.ok hc (by rw [hres];exact hx0)
    rw [hj] at hres
    have hij:j=i:=by
     rcases Nat.lt_trichotomy j i with h|h|h
     ·obtain ⟨_,hjr⟩:=ih j h (by omega)
      exact ha.diff j i (by omega) hi fun x=>by rw [hjr,hres]
     ·exact h
     ·-- i is met ahead of j in b
      exfalso
      obtain ⟨s2,c2,h2,hc2,hbef,hf2⟩:=hb.order s c j hsb hc hj i (by omega) h
      have hs2:s2≤s:=by unfold Bef at hbef;omega
      obtain ⟨_,hr2⟩:=ih s2 (by omega) (by omega)
      have hres2:∀ x,resA a (stepA a (s2:Int) c2) x=resA b (i:Int) x:=fun x=>by rw [step_res _ hc2,hr2,←step_res _ hc2,hf2]
      have hib:i<b.next.length:=by omega
      obtain ⟨x1,hx1⟩:=hb.live i hib
      obtain ⟨t,ht,htn⟩:=live_to ha.ok hc2 (by rw [hres2];exact hx1)
      rw [ht] at hres2
      rcases Nat.lt_trichotomy t i with h3|h3|h3
      ·obtain ⟨htb,htr⟩:=ih t h3 htn
       have:=hb.diff t i htb hib fun x=>by rw [←htr,hres2]
       omega
      ·subst h3
       exact hmin s2 c2 (by omega) hc2 hbef ht
      ·obtain ⟨s3,c3,h4,hc3,hb3,hf3⟩:=ha.order s2 c2 t (by omega) hc2 ht i (by omega) h3
       exact hmin s3 c3 h4 hc3 (bef_trans hb3 hbef) hf3
    subst hij
    exact ⟨hjn,fun x=>(hres x).symm⟩
theorem canon_steps {w v:Nat}{a b:DfaA} (ha:Canon w a) (hb:Canon v b) (h0:∀ x,resA a 0 x=resA b 0 x) {s c:Nat} (hs:s<a.next.length) (hc:c<256):stepA a (s:Int) c=stepA b (s:Int) c:=by
 have hA:=canon_states ha hb h0
 have hB:=canon_states hb ha (fun x=>(h0 x).symm)
 obtain ⟨hsb,hsr⟩:=hA s hs
 have hres:∀ x,resA a (stepA a (s:Int) c) x=resA b (stepA b (s:Int) c) x:=fun x=>by rw [step_res _ hc,step_res _ hc,hsr]
 rcases step_to ha.ok (s:Int) hc with h1|⟨t,h1,h2⟩
 ·rcases step_to hb.ok (s:Int) hc with h3|⟨u,h3,h4⟩
  ·rw [h1,h3]
  ·obtain ⟨x,hx⟩:=hb.live u h4
   rw [h1,h3] at hres
   rw [←hres,res_dead x (by omega)] at hx;cases hx
 ·obtain ⟨x,hx⟩:=ha.live t h2
  rw [h1] at hres
  obtain ⟨u,h3,h4⟩:=live_to hb.ok hc (by rw [←hres];exact hx)
  rw [h3] at hres
  obtain ⟨h5,h6⟩:=hA t h2
  rw [h1,h3,hb.diff t u h5 h4 fun x=>by rw [←h6,hres]]
theorem canon_unique {w v:Nat}{a b:DfaA} (ha:Canon w a) (hb:Canon v b) (h0:∀ x,resA a 0 x=resA b 0 x):a=b:=by
 have hA:=canon_states ha hb h0
 have hB:=canon_states hb ha (fun x=>(h0 x).symm)
 have hlen:a.next.length=b.next.length:=by
  have h1:a.next.length≤b.next.length:=by have:=(hA (a.next.length-1) (by have:=ha.pos;omega)).1;have:=ha.pos;omega
  have h2:b.next.length≤a.next.length:=by have:=(hB (b.next.length-1) (by have:=hb.pos;omega)).1;have:=hb.pos;omega
  omega
 have hst:∀ s c,s<a.next.length→c<256→stepA a (s:Int) c=stepA b (s:Int) c:=fun s c hs hc=>canon_steps ha hb h0 hs hc
 have hcls:∀ c,c<256→a.cls[c]?=b.cls[c]?:=by
  intro c
  induction c using Nat.strongRecOn with
  | _ c ih =>
    intro hc
    obtain ⟨k,e1⟩:∃ k,a.cls[c]?=some k:=⟨_,List.getElem?_eq_getElem (by rw [ha.ok.cls];exact hc)⟩
    obtain ⟨m,e2⟩:∃ m,b.cls[c]?=some m:=⟨_,List.getElem?_eq_getElem (by rw [hb.ok.cls];exact hc)⟩
    rw [e1,e2]
    congr 1
    have same:∀ d,d<c→(a.cls[d]?=some k↔b.cls[d]?=some m):=fun d hd=>by
     rw [ha.like c d k hc (by omega) e1,hb.like c d m hc (by omega) e2]
     constructor
     ·intro h s hs;rw [←hst s c (by omega) hc,←hst s d (by omega) (by omega)];exact h s (by omega)
     ·intro h s hs;rw [hst s c hs hc,hst s d hs (by omega)];exact h s (by omega)
    rcases Nat.lt_trichotomy k m with h|h|h
    ·obtain ⟨d,hd,hdk⟩:=hb.first c m hc e2 k h
     have:a.cls[d]?=some k:=by rw [ih d hd (by omega)];exact hdk
     have:=(same d hd).1 this
     rw [hdk] at this
     exact Option.some.inj this
    ·exact h
    ·obtain ⟨d,hd,hdk⟩:=ha.first c k hc e1 m h
     have:b.cls[d]?=some m:=by rw [←ih d hd (by omega)];exact hdk
     have:=(same d hd).2 this
     rw [hdk] at this
     exact (Option.some.inj this).symm
 have hcl:a.cls=b.cls:=by
  apply List.ext_getElem?
  intro c
  by_cases hc:c<256
  ·exact hcls c hc
  ·rw [List.getElem?_eq_none (by rw [ha.ok.cls];omega),List.getElem?_eq_none (by rw [hb.ok.cls];omega)]
 have hw:w=v:=by
  rcases Nat.lt_trichotomy w v with h|h|h
  ·obtain ⟨c,hc,hk⟩:=hb.sur w h
   rw [←hcl] at hk
   have:=ha.ok.low w (List.mem_of_getElem? hk);omega
  ·exact h
  ·obtain ⟨c,hc,hk⟩:=ha.sur v h
   rw [hcl] at hk
   have:=hb.ok.low v (List.mem_of_getElem? hk);omega
 have hnext:a.next=b.next:=by
  apply List.ext_getElem?
  intro s
  by_cases hs:s<a.next.length
  ·have hsb:s<b.next.length:=by omega
   rw [List.getElem?_eq_getElem hs,List.getElem?_eq_getElem hsb]
   congr 1
   apply List.ext_getElem?
   intro k
   have r1:=ha.ok.row _ (List.getElem_mem hs)
   have r2:=hb.ok.row _ (List.getElem_mem hsb)
   by_cases hk:k<w
   ·obtain ⟨c,hc,hck⟩:=ha.sur k hk
    obtain ⟨k1,x1,p1,p2,p3,p4⟩:=step_at ha.ok hs hc
    obtain ⟨k2,x2,q1,q2,q3,q4⟩:=step_at hb.ok hsb hc
    rw [hck] at p1;cases p1
    rw [←hcl,hck] at q1;cases q1
    rw [List.getElem?_eq_getElem hs] at p3;cases p3
    rw [List.getElem?_eq_getElem hsb] at q3;cases q3
    rw [p4,q4,hst s c hs hc]
   ·rw [List.getElem?_eq_none (by omega),List.getElem?_eq_none (by omega)]
  ·rw [List.getElem?_eq_none (by omega),List.getElem?_eq_none (by omega)]
 have hacc:a.acc=b.acc:=by
  apply List.ext_getElem?
  intro s
  by_cases hs:s<a.next.length
  ·have h1:=(hA s hs).2 []
   unfold resA at h1
   rw [List.foldl_nil,List.foldl_nil,ends_nat,ends_nat] at h1
   unfold getB at h1
   have s1:s<a.acc.length:=by rw [ha.ok.acc];exact hs
   have s2:s<b.acc.length:=by rw [hb.ok.acc];omega
   rw [List.getElem?_eq_getElem s1,List.getElem?_eq_getElem s2] at h1 ⊢
   exact congrArg some h1
  ·rw [List.getElem?_eq_none (by rw [ha.ok.acc];omega),List.getElem?_eq_none (by rw [hb.ok.acc];omega)]
 obtain ⟨c1,n1,k1⟩:=a
 obtain ⟨c2,n2,k2⟩:=b
 dsimp only at hcl hnext hacc
 rw [hcl,hnext,hacc]
def colA (a:DfaA) (c:Nat):List Int:=a.next.map fun r=>(r[a.cls[c]?.getD 0]?).getD (-1)+1
def narL (a:DfaA):Nat→Nat→List (List Int)→List Nat→List (List Int) × List Nat
 | 0,_,seen,out=>(seen,out)
 | k+1,c,seen,out =>
   match seen.idxOf? (colA a c) with
   | some j=>narL a k (c+1) seen (out++[j])
   | none=>narL a k (c+1) (seen++[colA a c]) (out++[seen.length])
def narrowA (a:DfaA):DfaA:=⟨(narL a 256 0 [] []).2,(List.range a.next.length).map fun s=>(narL a 256 0 [] []).1.map fun col=>(col[s]?.getD 0)-1,a.acc⟩
structure NumC (a:DfaA) (i:Nat) (seen:List (List Int)) (out:List Nat):Prop where
 len:out.length=i
 nodup:seen.Nodup
 at':∀ c,c<i→∃ k,out[c]?=some k∧seen[k]?=some (colA a c)
 from':∀ k,k<seen.length→∃ c,c<i∧out[c]?=some k
 first:∀ c k,c<i→out[c]?=some k→∀ j,j<k→∃ d,d<c∧out[d]?=some j
theorem snoc_get {α:Type}{l:List α}{v x:α}{i:Nat} (h:(l++[v])[i]?=some x):(i<l.length∧l[i]?=some x)∨(i=l.length∧x=v):=by
 by_cases hi:i<l.length
 ·rw [List.getElem?_append_left hi] at h;exact .inl ⟨hi,h⟩
 ·have:=(List.getElem?_eq_some_iff.1 h).1
  have e:i=l.length:=by simp at this;omega
  subst e
  rw [List.getElem?_append_right (Nat.le_refl _),Nat.sub_self] at h
  exact .inr ⟨rfl,(Option.some.inj h).symm⟩
theorem snoc_old {α:Type}{l:List α}{v x:α}{i:Nat} (h:l[i]?=some x):(l++[v])[i]?=some x:=by
 rw [List.getElem?_append_left (List.getElem?_eq_some_iff.1 h).1];exact h
theorem snoc_new {α:Type} (l:List α) (v:α):(l++[v])[l.length]?=some v:=by
 rw [List.getElem?_append_right (Nat.le_refl _),Nat.sub_self];rfl
theorem nar_ok {a:DfaA}:∀ (k i:Nat) (seen:List (List Int)) (out:List Nat),NumC a i seen out→NumC a (i+k) (narL a k i seen out).1 (narL a k i seen out).2
 | 0,i,seen,out,h=>h
 | k+1,i,seen,out,h=>by
   rw [narL,show i+(k+1)=i+1+k by omega]
   have hl:=h.len
   split
   ·rename_i j0 hj0
    obtain ⟨hlt,hk,_⟩:=List.findIdx?_eq_some_iff_getElem.1 hj0
    have hk:seen[j0]=colA a i:=eq_of_beq hk
    refine nar_ok k (i+1) seen _ ⟨by simp [hl],h.nodup,fun c hc=>?_,fun j hj=>?_,fun c m hc hm j hj=>?_⟩
    ·by_cases e:c=i
     ·subst e
      exact ⟨j0,by rw [←hl];exact snoc_new out j0,by rw [List.getElem?_eq_getElem hlt,hk]⟩
     ·obtain ⟨m,h1,h2⟩:=h.at' c (by omega)
      exact ⟨m,snoc_old h1,h2⟩
    ·obtain ⟨c,h1,h2⟩:=h.from' j hj
     exact ⟨c,by omega,snoc_old h2⟩
    ·rcases snoc_get hm with ⟨h1,h2⟩|⟨h1,h2⟩
     ·obtain ⟨d,h3,h4⟩:=h.first c m (by omega) h2 j hj
      exact ⟨d,h3,snoc_old h4⟩
     ·obtain ⟨d,h3,h4⟩:=h.from' j (by omega)
      exact ⟨d,by omega,snoc_old h4⟩
   ·rename_i hj0
    have hnm:colA a i∉seen:=fun hm=>by
     have:=List.findIdx?_eq_none_iff.1 hj0 _ hm
     simp at this
    refine nar_ok k (i+1) _ _ ⟨by simp [hl],List.nodup_append.2 ⟨h.nodup,by simp,fun x hx y hy e=>by
     rw [List.mem_singleton] at hy;subst hy;subst e;exact hnm hx⟩,fun c hc=>?_,fun j hj=>?_,fun c m hc hm j hj=>?_⟩
    ·by_cases e:c=i
     ·subst e
      exact ⟨seen.length,by rw [←hl];exact snoc_new out seen.length,snoc_new _ _⟩
     ·obtain ⟨m,h1,h2⟩:=h.at' c (by omega)
      exact ⟨m,snoc_old h1,snoc_old h2⟩
    ·by_cases e:j=seen.length
     ·exact ⟨i,by omega,by rw [e,←hl];exact snoc_new out seen.length⟩
     ·obtain ⟨c,h1,h2⟩:=h.from' j (by simp at hj;omega)
      exact ⟨c,by omega,snoc_old h2⟩
    ·rcases snoc_get hm with ⟨h1,h2⟩|⟨h1,h2⟩
     ·obtain ⟨d,h3,h4⟩:=h.first c m (by omega) h2 j hj
      exact ⟨d,h3,snoc_old h4⟩
     ·obtain ⟨d,h3,h4⟩:=h.from' j (by omega)
      exact ⟨d,by omega,snoc_old h4⟩
theorem nar_all (a:DfaA):NumC a 256 (narL a 256 0 [] []).1 (narL a 256 0 [] []).2:=by
 have:=nar_ok 256 0 [] [] (a:=a) ⟨rfl,List.nodup_nil,fun c h=>by omega,fun k h=>by simp at h,fun c k h=>by omega⟩
 rwa [Nat.zero_add] at this
structure Narrow (a m:DfaA) (w:Nat):Prop where
 ok:DfaOk w m
 sur:SurA w m
 nlen:m.next.length=a.next.length
 acc:m.acc=a.acc
 step:∀ (s c:Nat),s<a.next.length→c<256→stepA m (s:Int) c=stepA a (s:Int) c
 like:∀ c d k,c<256→d<256→m.cls[c]?=some k→(m.cls[d]?=some k↔∀ s:Nat,s<a.next.length→stepA a (s:Int) c=stepA a (s:Int) d)
 first:∀ c k,c<256→m.cls[c]?=some k→∀ j,j<k→∃ d,d<c∧m.cls[d]?=some j
theorem col_get {w:Nat}{a:DfaA} (h:DfaOk w a) {s c:Nat} (hs:s<a.next.length) (hc:c<256):(colA a c)[s]?=some (stepA a (s:Int) c+1):=by
 obtain ⟨k,r,h1,h2,h3,h4⟩:=step_at h hs hc
 unfold colA
 rw [List.getElem?_map,h3,h1]
 simp only [Option.map_some,Option.getD_some]
 rw [h4];rfl
theorem narrow_ok {w:Nat}{a:DfaA} (h:DfaOk w a) (hpos:0<a.next.length):∃ v,Narrow a (narrowA a) v∧v≤256:=by
 have hn:=nar_all a
 unfold narrowA
 generalize narL a 256 0 [] []=r at *
 obtain ⟨seen,out⟩:=r
 dsimp only at hn ⊢
 have hseen:∀ k,k<seen.length→∃ c,c<256∧out[c]?=some k∧seen[k]?=some (colA a c):=fun k hk=>by
  obtain ⟨c,h1,h2⟩:=hn.from' k hk
  obtain ⟨m,h3,h4⟩:=hn.at' c h1
  rw [h2] at h3;cases h3
  exact ⟨c,h1,h2,h4⟩
 have hlow:∀ k∈out,k<seen.length:=fun k hk=>by
  obtain ⟨i,hi,e⟩:=List.getElem_of_mem hk
  obtain ⟨m,h3,h4⟩:=hn.at' i (by have:=hn.len;omega)
  rw [List.getElem?_eq_getElem hi,e] at h3;cases h3
  exact (List.getElem?_eq_some_iff.1 h4).1
 have hrow:∀ s,s<a.next.length→∀ k c,c<256→out[c]?=some k→((seen.map fun col=>(col[s]?.getD 0)-1)[k]?)=some (stepA a (s:Int) c):=fun s hs k c hc hk=>by
  obtain ⟨m,h3,h4⟩:=hn.at' c hc
  rw [hk] at h3;cases h3
  rw [List.getElem?_map,h4,Option.map_some,col_get h hs hc,Option.getD_some,Int.add_sub_cancel]
 have hstep:∀ (s c:Nat),s<a.next.length→c<256→stepA ⟨out,(List.range a.next.length).map fun s=>seen.map fun col=>(col[s]?.getD 0)-1,a.acc⟩ (s:Int) c=stepA a (s:Int) c:=fun s c hs hc=>by
  obtain ⟨k,h1,h2⟩:=hn.at' c hc
  show (if _ then _ else _)=_
  rw [if_neg (by simp;omega),Int.toNat_natCast]
  dsimp only
  rw [List.getElem?_map,List.getElem?_range hs,h1]
  simp only [Option.map_some,Option.getD_some]
  rw [hrow s hs k c hc h1];rfl
 refine ⟨seen.length,⟨⟨hn.len,hlow,by simp [h.acc],fun r hr=>?_,fun r hr z hz=>?_⟩,fun k hk=>?_,by simp,rfl,hstep,fun c d k hc hd hk=>?_,fun c k hc hk=>hn.first c k hc hk⟩,?_⟩
 ·obtain ⟨s,_,rfl⟩:=List.mem_map.1 hr
  simp
 ·obtain ⟨s,hs,rfl⟩:=List.mem_map.1 hr
  have hs:=List.mem_range.1 hs
  obtain ⟨k,hk,e⟩:=List.getElem_of_mem hz
  have hk2:k<seen.length:=by simpa using hk
  obtain ⟨c,h1,h2,_⟩:=hseen k hk2
  have h3:=hrow s hs k c h1 h2
  rw [List.getElem?_eq_getElem hk,e] at h3
  rw [Option.some.inj h3]
  rcases step_to h (s:Int) h1 with h4|⟨t,h4,h5⟩
  ·exact .inl h4
  ·refine .inr ⟨by omega,?_⟩
   simp;omega
 ·obtain ⟨c,h1,h2,_⟩:=hseen k hk
  exact ⟨c,h1,h2⟩
 ·obtain ⟨k1,p1,p2⟩:=hn.at' c hc
  obtain ⟨k2,q1,q2⟩:=hn.at' d hd
  have hk:out[c]?=some k:=hk
  have hkk:k1=k:=by rw [p1] at hk;exact Option.some.inj hk
  rw [hkk] at p1 p2
  have hcol:(out[d]?=some k)↔colA a c=colA a d:=by
   rw [q1]
   constructor
   ·intro e;cases e;rw [p2] at q2;exact Option.some.inj q2
   ·intro e
    rw [e] at p2
    have:=(List.getElem?_inj (List.getElem?_eq_some_iff.1 p2).1 hn.nodup).1 (p2.trans q2.symm)
    rw [this]
  show out[d]?=some k↔_
  rw [hcol]
  constructor
  ·intro e s hs
   have h1:=col_get h hs hc
   rw [e,col_get h hs hd] at h1
   have:=Option.some.inj h1
   omega
  ·intro e
   apply List.ext_getElem?
   intro s
   by_cases hs:s<a.next.length
   ·rw [col_get h hs hc,col_get h hs hd,e s hs]
   ·rw [List.getElem?_eq_none (by simp [colA];omega),List.getElem?_eq_none (by simp [colA];omega)]
 ·-- no more classes than bytes
  have h1:∀ x∈List.range seen.length,x∈out:=fun x hx=>by
   obtain ⟨c,_,h2,_⟩:=hseen x (List.mem_range.1 hx)
   exact List.mem_of_getElem? h2
  have:=nodup_le List.nodup_range h1
  rw [List.length_range,hn.len] at this;exact this
end Go.Proofs.YtficlekgjbnniaaGreatDoor
end
