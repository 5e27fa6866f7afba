/- Texts of a walk, one behind the other. -/
import Derived.OrdersIn
import Derived.RangeFuncNested
import Derived.RangeFuncBound
import Derived.RangeFuncCalls
import Derived.RangeFuncLeaves
import Derived.Laws.IdiomRangeMap
import Derived.Test.YtficlekgjbnniaaGreatDoorMg2
import Derived.Test.YtficlekgjbnniaaGreatDoorMg3
import Derived.Test.YtficlekgjbnniaaGreatDoorMg4
import Derived.Test.YtficlekgjbnniaaGreatDoorMg6
import Derived.Test.YtficlekgjbnniaaGreatDoorMg7
set_option linter.unusedVariables false
set_option linter.unusedSimpArgs false
set_option linter.unusedSectionVars false
set_option maxRecDepth 10000
section
namespace Go.Proofs.YtficlekgjbnniaaGreatDoor
open Go Go.E
def begB (a:DfaA) (c:Nat):Bool:=decide (stepA a 0 c≠-1)&&getB (liveA a) (stepA a 0 c).toNat
def firstL (a:DfaA):Nat→Nat→SetD→SetD
 | 0,_,s=>s
 | k+1,c,s=>firstL a k (c+1) (if begB a c then s.or (ofD c) else s)
def firstA (a:DfaA):SetD:=firstL a 256 0 zeroS
structure FirstI (a:DfaA) (c:Nat) (s:SetD):Prop where
 in':SetIn s
 has:∀ d,d<256→s.has d=(decide (d<c)&&begB a d)
theorem FirstI.step {a:DfaA}{c:Nat}{s:SetD} (h:FirstI a c s) (hc:c<256):FirstI a (c+1) (if begB a c then s.or (ofD c) else s):=by
 have ho:SetIn (ofD c):=SetIn.add zeroS_in hc
 by_cases e:begB a c=true
 ·rw [if_pos e]
  refine ⟨h.in'.or ho,fun d hd=>?_⟩
  rw [SetD.has_or,h.has d hd,of_has hc hd]
  by_cases e2:d=c
  ·subst e2;simp [e]
  ·by_cases e3:d<c
   ·have:d<c+1:=by omega
    simp [e2,e3,this]
   ·have:¬d<c+1:=by omega
    simp [e2,e3,this]
 ·rw [if_neg e]
  refine ⟨h.in',fun d hd=>?_⟩
  rw [h.has d hd]
  by_cases e2:d=c
  ·subst e2;simp [Bool.eq_false_iff.2 e]
  ·by_cases e3:d<c
   ·have:d<c+1:=by omega
    simp [e3,this]
   ·have:¬d<c+1:=by omega
    simp [e3,this]
theorem FirstI.start (a:DfaA):FirstI a 0 zeroS:=⟨zeroS_in,fun d hd=>by rw [zeroS_has];simp⟩
theorem firstL_ok {a:DfaA}:∀ (k c:Nat) (s:SetD),c+k=256→FirstI a c s→FirstI a 256 (firstL a k c s)
 | 0,c,s,hk,h=>by obtain rfl:c=256:=by omega
                  exact h
 | k+1,c,s,hk,h=>firstL_ok k (c+1) _ (by omega) (h.step (by omega))
theorem firstA_ok (a:DfaA):FirstI a 256 (firstA a):=firstL_ok 256 0 zeroS rfl (FirstI.start a)
section
variable {w:Nat}{a:DfaA}
theorem first_word (ho:DfaOk w a) (hs:SurA w a) {c:UInt8}{t:List UInt8} (h:resA a 0 (c::t)=true):(firstA a).has c.toNat=true:=by
 have hc:c.toNat<256:=UInt8.toNat_lt c
 rw [(firstA_ok a).has _ hc]
 rw [res_cons] at h
 rcases step_to ho 0 hc with hz|⟨u,hz,hu⟩
 ·rw [hz,res_dead t (by decide)] at h;cases h
 ·unfold begB
  rw [hz] at h ⊢
  rw [Int.toNat_natCast,(live_iff ho hs u).2 ⟨t,h⟩]
  simp [hc]
theorem first_live (ho:DfaOk w a) (hs:SurA w a) {c:Nat} (hc:c<256) (h:(firstA a).has c=true):stepA a 0 c≠-1∧∃ t,resA a 0 (UInt8.ofNat c::t)=true:=by
 rw [(firstA_ok a).has c hc] at h
 unfold begB at h
 rw [Bool.and_eq_true,Bool.and_eq_true,decide_eq_true_eq,decide_eq_true_eq] at h
 refine ⟨h.2.1,?_⟩
 obtain ⟨t,ht⟩:=(live_iff ho hs _).1 h.2.2
 refine ⟨t,?_⟩
 rw [res_cons,UInt8.toNat_ofNat_of_lt' hc]
 rcases step_to ho 0 hc with hz|⟨u,hz,hu⟩
 ·exact absurd hz h.2.1
 ·rw [hz] at ht ⊢;rwa [Int.toNat_natCast] at ht
theorem first_none (ho:DfaOk w a) (hs:SurA w a) (h:∀ c,c<256→(firstA a).has c=false):∀ t,resA a 0 t=true→t=[]:=fun t ht=>by
 cases t with
 | nil=>rfl
 | cons c t=>have:=first_word ho hs ht;rw [h _ (UInt8.toNat_lt c)] at this;cases this
theorem long_none (ho:DfaOk w a) (hs:SurA w a) (hp:0<a.next.length) (h:∀ t,resA a 0 t=true→t=[]):longF a≤0:=by
 rcases longF_ok ho hs hp with ⟨_,⟨u,h1,h2⟩,_⟩|⟨h1,_⟩
 ·rw [h u h2] at h1;simp at h1;omega
 ·omega
end
theorem step_first2 {a:NfaD} (hs:∀ s∈setsN a.rows,SetIn s) {p:SetD}{c:Nat} (hp:p∈piecesG a) (hc:c<256) (h:p.has c=true) (list:List Int):stepN a.rows list c=stepN a.rows list (firstC p):=by
 have hcut:=splitD_cuts (hs)
 obtain ⟨d,hd,hf⟩:=first_ex (hcut.each p hp).1 (hcut.each p hp).2
 have h2:=firstIs_has hf
 rw [firstC_is hf]
 exact step_like (fun s hsm=>sig_at ((hcut.like p hp c d hc hd h).1 h2.2.1) hsm) list
theorem run_subs2 {a:NfaD}{d:DfaA}{sets:List (List Nat)} (hs:∀ s∈setsN a.rows,SetIn s) (h:Subs a d sets):∀ (n:Nat) (b:List UInt8),b.length=n →
  (runN a b=[]∧runA d b=-1)∨∃ i:Nat,sets[i]?=some (runN a b)∧runA d b=(i:Int)
 | 0,b,hb=>by
   have:b=[]:=List.eq_nil_of_length_eq_zero hb
   subst this
   exact .inr ⟨0,h.ok.start,rfl⟩
 | n+1,b,hb=>by
   obtain ⟨w,c,rfl⟩:∃ w c,b=w++[c]:=⟨b.dropLast,b.getLast (by intro e;subst e;cases hb),(List.dropLast_concat_getLast _).symm⟩
   have hr:runA d (w++[c])=stepA d (runA d w) c.toNat:=by unfold runA;rw [List.foldl_append];rfl
   rw [run_snoc,hr]
   have hcut:Cuts (piecesG a) (setsN a.rows):=splitD_cuts (hs)
   rcases run_subs2 hs h n w (by simpa using hb) with ⟨h1,h2⟩|⟨i,h1,h2⟩
   ·rw [h1,h2]
    refine .inl ⟨?_,by unfold stepA;rw [if_pos (.inl (by omega))]⟩
    unfold stepN intsN
    have:∀ j,¬j∈reachN a.rows []:=fun j hj=>by
     unfold reachN at hj
     have h3:∀ k m,(∀ i,getB m i=false)→∀ i,getB (closeR a.rows k m) i=false:=by
      intro k
      induction k with
      | zero=>exact fun m h=>h
      | succ k ih =>
        intro m hm
        refine ih _ fun i=>?_
        unfold roundR
        rw [getB_map]
        simp [hm]
     have h4:=(List.mem_filter.1 hj).2
     rw [h3 _ _ (fun i=>by unfold firstR;rw [getB_map];simp) j] at h4
     cases h4
    simp only [List.map_nil,List.flatMap_nil]
    exact List.eq_nil_iff_forall_not_mem.2 this
   ·rw [h2]
    have hi:=(List.getElem?_eq_some_iff.1 h1).1
    have hni:i<d.next.length:=by rw [h.len];exact hi
    obtain ⟨k,p,k1,k2,k3⟩:=cls_at hcut (c:=c.toNat) c.toNat_lt
    have hsf:=step_first2 hs (List.mem_of_getElem? k2) c.toNat_lt k3 (intsN (runN a w))
    obtain ⟨q1,q2⟩:=h.ok.row i d.next[i] (runN a w) (List.getElem?_eq_getElem hni) h1
    have hst:stepA d (i:Int) c.toNat=(d.next[i][k]?).getD (-1):=by
     unfold stepA
     rw [if_neg (by omega),Int.toNat_natCast,List.getElem?_eq_getElem hni,h.cls,k1];rfl
    rw [hst,hsf]
    rcases q2 k p k2 with ⟨h3,h4⟩|⟨j,h3,h4⟩
    ·exact .inl ⟨h3,by rw [h4];rfl⟩
    ·exact .inr ⟨j,h3,by rw [h4];rfl⟩
theorem match_subs2 {a:NfaD}{d:DfaA}{sets:List (List Nat)} (hs:∀ s∈setsN a.rows,SetIn s) (h:Subs a d sets) (b:List UInt8):matchA d b=matchN a b:=by
 unfold matchA matchN
 rcases run_subs2 hs h b.length b rfl with ⟨h1,h2⟩|⟨i,h1,h2⟩
 ·rw [h1,h2]
  unfold endsA endsN intsN;simp
 ·rw [h2]
  have hi:=(List.getElem?_eq_some_iff.1 h1).1
  have hni:i<d.next.length:=by rw [h.len];exact hi
  have hac:=h.ok.acc i _ hni h1
  unfold endsA
  rw [decide_eq_true (by omega),decide_eq_true (by rw [h.ok.alen];omega),Int.toNat_natCast,hac];rfl
theorem made_a2 {a:NfaD} (ha:ToIn a.rows) (hs:∀ s∈setsN a.rows,SetIn s) (h:(makeA a).1=0):MadeA (makeA a).2∧∀ b,matchA (makeA a).2 b=matchN a b:=by
 obtain ⟨sets,hsu,hne⟩:=makeA_subs ha h
 have hm:=match_subs2 hs hsu
 generalize (makeA a).2=d at *
 have hcut:Cuts (piecesG a) (setsN a.rows):=splitD_cuts (hs)
 have h1:=(List.getElem?_eq_some_iff.1 hsu.ok.start).1
 have hsn:∀ s,s<d.next.length→∃ cur,sets[s]?=some cur:=fun s hs=>⟨_,List.getElem?_eq_getElem (by have:=hsu.len;omega)⟩
 have hok:DfaOk (piecesG a).length d:=by
  refine ⟨by rw [hsu.cls,cls_len],fun k hk=>?_,hsu.ok.alen,fun r hr=>?_,fun r hr z hz=>?_⟩
  ·rw [hsu.cls] at hk
   obtain ⟨c,hc,e⟩:=List.getElem_of_mem hk
   obtain ⟨k2,p,p1,p2,p3⟩:=cls_at hcut (c:=c) (by rw [cls_len] at hc;exact hc)
   rw [List.getElem?_eq_getElem hc,e] at p1
   rw [Option.some.inj p1]
   exact (List.getElem?_eq_some_iff.1 p2).1
  ·obtain ⟨s,hs1,e⟩:=List.getElem_of_mem hr
   obtain ⟨cur,hcur⟩:=hsn s hs1
   exact (hsu.ok.row s r cur (by rw [List.getElem?_eq_getElem hs1,e]) hcur).1
  ·obtain ⟨s,hs1,e⟩:=List.getElem_of_mem hr
   obtain ⟨cur,hcur⟩:=hsn s hs1
   obtain ⟨q1,q2⟩:=hsu.ok.row s r cur (by rw [List.getElem?_eq_getElem hs1,e]) hcur
   obtain ⟨k,hk,e2⟩:=List.getElem_of_mem hz
   have hkp:k<(piecesG a).length:=by omega
   rcases q2 k _ (List.getElem?_eq_getElem hkp) with ⟨_,q⟩|⟨i,q3,q4⟩
   ·rw [List.getElem?_eq_getElem hk,e2] at q
    exact .inl (Option.some.inj q)
   ·rw [List.getElem?_eq_getElem hk,e2] at q4
    have:=(List.getElem?_eq_some_iff.1 q3).1
    have:=Option.some.inj q4
    have:=hsu.len
    exact .inr ⟨by omega,by omega⟩
 refine ⟨⟨⟨_,hcut.len,hok,fun k hk=>?_⟩,by rw [hsu.len];exact h1,by rw [hsu.len];exact hsu.ok.le⟩,hm⟩
 have hp:=List.getElem?_eq_getElem hk
 obtain ⟨c,hc,hf⟩:=first_ex (hcut.each _ (List.getElem_mem hk)).1 (hcut.each _ (List.getElem_mem hk)).2
 have hpc:=(firstIs_has hf).2.1
 obtain ⟨k2,p,p1,p2,p3⟩:=cls_at hcut hc
 refine ⟨c,hc,?_⟩
 rw [hsu.cls,p1]
 rcases Nat.lt_trichotomy k2 k with h|h|h
 ·exact absurd ⟨p3,hpc⟩ ((hcut.at h p2 hp).2 c hc)
 ·rw [h]
 ·exact absurd ⟨hpc,p3⟩ ((hcut.at h hp p2).2 c hc)
theorem dfa_lang {n:RgD} (hw:wrongD n=0) (hs:∀ s∈setsN (makeN n).2.rows,SetIn s) (h1:(makeN n).1=0) (h2:(makeA (makeN n).2).1=0) :
  MadeA (makeA (makeN n).2).2∧(∀ b,matchA (makeA (makeN n).2).2 b=matchN (makeN n).2 b)∧(∀ b,matchA (makeA (makeN n).2).2 b=true↔langN n b)∧(∀ b,matchA (leastA (makeA (makeN n).2).2) b=true↔langN n b):=by
 obtain ⟨m1,m2⟩:=made_a2 (make_ok hw).to hs h2
 have m3:=m1.least.2.1
 refine ⟨m1,m2,fun b=>by rw [m2];exact match_lang hw h1 b,fun b=>by rw [m3,m2];exact match_lang hw h1 b⟩
theorem dfa_ref {n:RgD} (hw:wrongD n=0) (hs:∀ s∈setsN (makeN n).2.rows,SetIn s) (h1:(makeN n).1=0) (h2:(makeA (makeN n).2).1=0) (b:List UInt8) :
  matchA (makeA (makeN n).2).2 b=refM n b∧matchA (leastA (makeA (makeN n).2).2) b=refM n b:=by
 obtain ⟨_,_,l1,l2⟩:=dfa_lang hw hs h1 h2
 exact ⟨Bool.eq_iff_iff.2 ((l1 b).trans (ref_lang hw b).symm),Bool.eq_iff_iff.2 ((l2 b).trans (ref_lang hw b).symm)⟩
abbrev allS:SetD:=allD
theorem allS_has:∀ c:Nat,c<256→allS.has c=true:=fun c hc=>SetD.has_all c
def anyR1:RgD:=.mk 2 allS [] 0 0
def longR (k:Nat):RgD:=.mk 5 zeroS [anyR1] (k:Int) (-1)
theorem any_lang (w:List UInt8):langN anyR1 w↔w.length=1:=by
 unfold anyR1
 rw [lang_eq,if_neg (by decide),if_pos rfl]
 constructor
 ·rintro ⟨c,rfl,_⟩;rfl
 ·intro h
  obtain ⟨c,rfl⟩:=List.length_eq_one_iff.1 h
  exact ⟨c,rfl,allS_has _ (UInt8.toNat_lt c)⟩
theorem pow_any:∀ (k:Nat) (w:List UInt8),powW (langN anyR1) k w↔w.length=k
 | 0,w=>by unfold powW emptyW;exact ⟨fun h=>by rw [h];rfl,List.eq_nil_of_length_eq_zero⟩
 | k+1,w=>by
   unfold powW thenW
   constructor
   ·rintro ⟨u,v,rfl,h1,h2⟩
    rw [List.length_append,(any_lang u).1 h1,(pow_any k v).1 h2];omega
   ·intro h
    cases w with
    | nil=>cases h
    | cons c w=>exact ⟨[c],w,rfl,(any_lang _).2 rfl,(pow_any k w).2 (by simpa using h)⟩
theorem long_lang (k:Nat) (w:List UInt8):langN (longR k) w↔k≤w.length:=by
 unfold longR
 rw [lang_rep]
 unfold repW
 constructor
 ·rintro ⟨j,h1,_,h2⟩
  rw [pow_any] at h2;omega
 ·intro h
  exact ⟨w.length,by omega,.inl (by decide),(pow_any _ _).2 rfl⟩
def moreR' (n:RgD):RgD:=.mk 3 zeroS [n,longR 1] 0 0
theorem more_lang (n:RgD) (w:List UInt8):langN (moreR' n) w↔∃ u v,w=u++v∧langN n u∧v≠[]:=by
 unfold moreR'
 rw [lang_cat]
 show (∃ u v,w=u++v∧langN n u∧∃ u2 v2,v=u2++v2∧langN (longR 1) u2∧v2=[])↔_
 constructor
 ·rintro ⟨u,v,rfl,h1,u2,v2,rfl,h2,rfl⟩
  refine ⟨u,_,rfl,h1,fun e=>?_⟩
  rw [long_lang] at h2
  rw [List.append_nil] at e
  rw [e] at h2;simp at h2
 ·rintro ⟨u,v,rfl,h1,h2⟩
  refine ⟨u,v,rfl,h1,v,[],by simp,(long_lang 1 v).2 ?_,rfl⟩
  cases v with
  | nil=>exact absurd rfl h2
  | cons c v=>simp
section
variable {a b P:DfaA}{how:Nat}
theorem prod_least (h:prodA a b how=some P):LeastA (leastA P)∧∀ t,matchA (leastA P) t=accP how (matchA a t) (matchA b t):=by
 obtain ⟨h1,h2⟩:=prod_made h
 obtain ⟨h3,h4,_⟩:=h1.least
 exact ⟨h3,fun t=>by rw [h4,h2]⟩
theorem not_apart (h:prodA a b 1=some P) {t:List UInt8} (h1:matchA a t=true) (h2:matchA b t=true):(shortA (leastA P)).isSome=true:=by
 obtain ⟨hL,hm⟩:=prod_least h
 obtain ⟨w,_,ho,_⟩:=hL.ok
 cases hs:shortA (leastA P) with
 | some s=>rfl
 | none =>
   have:=short_none ho hL.pos hs t
   have h3:=hm t
   rw [h1,h2] at h3
   rw [res_match] at h3
   rw [this] at h3;simp [accP] at h3
theorem apart_none (h:prodA a b 1=some P) (hs:shortA (leastA P)=none) (t:List UInt8):(matchA a t&&matchA b t)=false:=by
 obtain ⟨hL,hm⟩:=prod_least h
 obtain ⟨w,_,ho,_⟩:=hL.ok
 have h1:=short_none ho hL.pos hs t
 have h3:=hm t
 rw [res_match,h1] at h3
 simp [accP] at h3
 cases h4:matchA a t<;>cases h5:matchA b t<;>simp [h4,h5] at h3 ⊢
theorem within_none (h:prodA a b 3=some P) (hs:shortA (leastA P)=none) (t:List UInt8):(matchA a t&&!matchA b t)=false:=by
 obtain ⟨hL,hm⟩:=prod_least h
 obtain ⟨w,_,ho,_⟩:=hL.ok
 have h1:=short_none ho hL.pos hs t
 have h3:=hm t
 rw [res_match,h1] at h3
 simp [accP] at h3
 cases h4:matchA a t<;>cases h5:matchA b t<;>simp [h4,h5] at h3 ⊢
theorem within_some (h:prodA a b 3=some P) {s:List UInt8} (hs:shortA (leastA P)=some s):matchA a s=true∧matchA b s=false∧∀ t,matchA a t=true→matchA b t=false→s.length≤t.length:=by
 obtain ⟨hL,hm⟩:=prod_least h
 obtain ⟨w,_,ho,_⟩:=hL.ok
 obtain ⟨h1,h2⟩:=short_some ho hs
 have h3:=hm s
 rw [res_match,h1] at h3
 simp [accP] at h3
 refine ⟨h3.1,h3.2,fun t h4 h5=>?_⟩
 have h6:=hm t
 rw [h4,h5,res_match] at h6
 exact numW_len (h2 t (by rw [h6];rfl))
theorem apart_both {Q:DfaA} (h:prodA a b 1=some P) (h2:prodA b a 1=some Q):(shortA (leastA P)).isSome=(shortA (leastA Q)).isSome:=by
 rw [Bool.eq_iff_iff]
 obtain ⟨hP,mP⟩:=prod_least h
 obtain ⟨hQ,mQ⟩:=prod_least h2
 obtain ⟨_,_,oP,_⟩:=hP.ok
 obtain ⟨_,_,oQ,_⟩:=hQ.ok
 constructor
 ·intro hs
  obtain ⟨s,hs⟩:=Option.isSome_iff_exists.1 hs
  have h3:=mP s
  rw [res_match,(short_some oP hs).1] at h3
  simp [accP] at h3
  exact not_apart h2 h3.2 h3.1
 ·intro hs
  obtain ⟨s,hs⟩:=Option.isSome_iff_exists.1 hs
  have h3:=mQ s
  rw [res_match,(short_some oQ hs).1] at h3
  simp [accP] at h3
  exact not_apart h h3.2 h3.1
end
end Go.Proofs.YtficlekgjbnniaaGreatDoor
end
section
namespace Go.E
open Go Go.RowKit
end Go.E
namespace Go.E
open Go Go.RowKit
def noDef (o:Oper):Bool:=match o.op with
 | .defer _=>false
 | _=>true
theorem noDef_spec {o:Oper} (h:noDef o=true):∀ c,o.op≠.defer c:=fun c e=>by unfold noDef at h;rw [e] at h;cases h
section
variable {P:Program}{Q:Exit→Act→World→Prop}
theorem LetsOut_no (hQ:∀ a w,¬Q .outgrown a w):¬LetsOut Q:=fun ⟨a,w,h⟩=>hQ a w h
theorem upon_inRound (l n:Nat) (hQ:∀ a w,¬Q .outgrown a w) {o:Oper}{a:Act}{next next':Act→World→Prop} (hn:∀ a w,next a w→next' a w):∀ {r:Result Next},o.upon P a next Q r→o.uponIn (Fence.wide.inRound l) n P a next' Q r:=by
 intro r h
 cases r with
 | ok x w =>
   cases x<;>simp only [Oper.upon] at h<;>try exact h.elim
   all_goals simp only [Oper.uponIn]
   all_goals first
    | exact hn _ _ h
    | exact ⟨fun e=>by simp [Fence.wide] at e,CallsIn.inRound l (callsIn_wide.2 (h.mono fun e w' he=>by cases e<;>first|exact hn _ _ he|exact he))⟩
    | exact ⟨fun e=>by simp [Fence.wide] at e,fun c cs _=>by
      obtain ⟨v,w',r,s⟩:=h c cs
      exact ⟨v,w',hn _ _ r,stepsIn_wide.2 s⟩⟩
 | halt x w=>cases x<;>simp only [Oper.upon,Oper.uponIn] at h ⊢<;>exact h
theorem wpList_inRound (l n:Nat) {all:Array Oper} (hQ:∀ a w,¬Q .outgrown a w):∀ {ops:List Oper},ops.all noDef=true→∀ {a:Act}{w:World},wpList P all Q ops a w→wpListIn (Fence.wide.inRound l) n P all Q ops a w
 | [],_,a,w,h=>h
 | o::ops,hd,a,w,h=>by
   simp only [List.all_cons,Bool.and_eq_true] at hd
   unfold wpList at h
   unfold wpListIn
   split
   ·rename_i hw
    rw [if_pos hw] at h
    rcases h with h|⟨_,h⟩
    ·refine ⟨fun f _=>trivial,?_⟩
     rw [Oper.semAt_eq _ _ _ (noDef_spec hd.1)]
     exact upon_inRound l n hQ (fun a w h=>wpList_inRound l n hQ hd.2 h) h
    ·exact absurd h (LetsOut_no hQ)
   ·rename_i hw
    rw [if_neg hw] at h
    exact ⟨fun f _=>trivial,wpList_inRound l n hQ hd.2 h⟩
def okR:Code→Bool
 | .skip=>true
 | .region _ ops draw=>ops.toList.all noDef&&!draw
 | .seq a b=>okR a&&okR b
 | .cond _ a b=>okR a&&okR b
 | .block _ a=>okR a
 | .exit _=>true
 | .ret=>true
 | _=>false
structure CodeR (P:Program) (c:Code) (k:Exit→Kt) (env:Env) (ro:Ro) (own:Chs):Prop where
 run:∀ l m n σ Q,(∀ a w,¬Q .outgrown a w)→okS n.size c=true→okR c=true→(∀ e env' ro' own' h,Le ro ro'→k e env' ro' own'→Sat ro' own' h→N n σ (Q e) env' h)→∀ h,Sat ro own h→∀ a w,Fits n env a→Hp h σ w→c.wpIn (Fence.wide.inRound l) m P Q a w
theorem V_soundR {T:TT} (hT:TOk P T):∀ {c:Code}{k:Exit→Kt}{env:Env}{ro:Ro}{own:Chs},V P T c k env ro own→CodeR P c k env ro own
 | .skip,k,env,ro,own,hv=>⟨fun l m n σ Q hQ hok hR hk h hs a w hf hw=>wpIn_skip (hk .normal env ro own h (Le.refl _) hv hs a w hf hw)⟩
 | .region id ops draw,k,env,ro,own,hv=>by
   refine ⟨fun l m n σ Q hQ hok hR hk h hs a w hf hw=>?_⟩
   simp only [okR,Bool.and_eq_true,Bool.not_eq_true'] at hR
   obtain ⟨hR,rfl⟩:=hR
   obtain ⟨ol⟩:=ops
   exact wpIn_region_lit (wpList_inRound l m hQ hR (vOps_sound hT hok hv (fun env' ro' own' h' _ hl hk' hs'=>hk .normal env' ro' own' h' hl hk' hs') hs a w hf hw))
 | .seq a b,k,env,ro,own,hv=>by
   refine ⟨fun l m n σ Q hQ hok hR hk h hs ac w hf hw=>?_⟩
   simp only [okS,okR,Bool.and_eq_true] at hok hR
   have hb:∀ env' ro' own' h',Le ro ro'→V P T b k env' ro' own'→Sat ro' own' h'→N n σ (b.wpIn (Fence.wide.inRound l) m P Q) env' h':=fun env' ro' own' h' hl hv' hs' a2 w2 hf2 hw2 =>
    (V_soundR hT hv').run l m n σ Q hQ hok.2 hR.2 (fun e env2 ro2 own2 h2 hl2 hk2 hs2=>hk e env2 ro2 own2 h2 (hl.trans hl2) hk2 hs2) h' hs' a2 w2 hf2 hw2
   have ha:∀ J:Kt,V P T a (fun e=>match e with|.normal=>J|e=>k e) env ro own→(∀ env' ro' own' h',Le ro ro'→J env' ro' own'→Sat ro' own' h'→N n σ (b.wpIn (Fence.wide.inRound l) m P Q) env' h')→(Code.seq a b).wpIn (Fence.wide.inRound l) m P Q ac w:=fun J hv' hJ =>
    wpIn_seq ((V_soundR hT hv').run l m n σ (Exit.then (b.wpIn (Fence.wide.inRound l) m P Q) Q) (fun a w h=>hQ a w h) hok.1 hR.1 (fun e env2 ro2 own2 h2 hl2 hk2 hs2=>by
     cases e<;>first|exact hJ env2 ro2 own2 h2 hl2 hk2 hs2|exact hk _ env2 ro2 own2 h2 hl2 hk2 hs2) h hs ac w hf hw)
   replace hv:vSeq a (V P T a) (V P T b) k env ro own:=hv
   unfold vSeq at hv
   cases hj:joins a<;>simp only [hj] at hv
   rotate_left
   ·rcases hv.run with h1|⟨E,O,I,h1,h2⟩
    ·exact ha _ h1 hb
    ·exact ha _ h1 (fun env' ro' own' h' hl hw' hs'=>hw'.sound hl (fun env2 ro2 own2 h2' hl2 hl3 ⟨i,hI,hsub,hsup⟩ hs2=>N.sub2 hsub.to2 (hb _ ro2 _ h2' hl2 (h2 i ro2 hl2 hI) (hs2.sup hsup))) hs')
   ·exact ha _ hv hb
 | .cond c a b,k,env,ro,own,hv=>by
   refine ⟨fun l m n σ Q hQ hok hR hk h hs ac w hf hw=>?_⟩
   simp only [okS,okR,Bool.and_eq_true] at hok hR
   replace hv:vCond c (V P T a) (V P T b) k env ro own:=hv
   unfold vCond at hv
   split at hv
   ·rename_i v hx
    obtain ⟨h1,h2⟩:=hv.run
    have hev:ac.eval c=.bool v:=hf.agree _ _ hx
    cases v with
    | true=>exact wpIn_cond_true hev ((V_soundR hT (h1 rfl)).run l m n σ Q hQ hok.1 hR.1 hk h hs ac w hf hw)
    | false=>exact wpIn_cond_false hev ((V_soundR hT (h2 rfl)).run l m n σ Q hQ hok.2 hR.2 hk h hs ac w hf hw)
   ·exact hv.elim
 | .block id a,k,env,ro,own,hv=>by
   refine ⟨fun l m n σ Q hQ hok hR hk h hs ac w hf hw=>?_⟩
   replace hv:vBlock id (V P T a) k env ro own:=hv
   unfold vBlock at hv
   refine wpIn_block ((V_soundR hT hv).run l m n σ (Exit.inBlock id Q) (fun a w h=>hQ a w h) hok hR (fun e env2 ro2 own2 h2 hl2 hk2 hs2=>?_) h hs ac w hf hw)
   cases e with
   | exit j =>
     cases hj:Nat.beq j id with
     | true =>
       have:=Nat.eq_of_beq_eq_true hj
       subst this
       simp only [hj,cond_true] at hk2
       exact N.block_same (hk _ env2 ro2 own2 h2 hl2 hk2 hs2)
     | false =>
       simp only [hj,cond_false] at hk2
       exact N.block_other hj (hk _ env2 ro2 own2 h2 hl2 hk2 hs2)
   | _=>exact hk _ env2 ro2 own2 h2 hl2 hk2 hs2
 | .exit id,k,env,ro,own,hv=>⟨fun l m n σ Q hQ hok hR hk h hs a w hf hw=>wpIn_exit (hk _ env ro own h (Le.refl _) hv hs a w hf hw)⟩
 | .ret,k,env,ro,own,hv=>⟨fun l m n σ Q hQ hok hR hk h hs a w hf hw=>wpIn_ret (hk _ env ro own h (Le.refl _) hv hs a w hf hw)⟩
 | .loop _,_,_,_,_,_=>⟨fun l m n σ Q hQ hok hR=>by cases hR⟩
 | .label _,_,_,_,_,_=>⟨fun l m n σ Q hQ hok hR=>by cases hR⟩
 | .rangeFunc ..,_,_,_,_,_=>⟨fun l m n σ Q hQ hok hR=>by cases hR⟩
 | .scope _,_,_,_,_,_=>⟨fun l m n σ Q hQ hok hR=>by cases hR⟩
 | .goto _,_,_,_,_,_=>⟨fun l m n σ Q hQ hok hR=>by cases hR⟩
 | .refuse _,_,_,_,_,_=>⟨fun l m n σ Q hQ hok hR=>by cases hR⟩
structure CodeRR (P:Program) (c:Code) (k:Exit→Kt) (env:Env) (ro:Ro) (own:Chs):Prop where
 run:∀ l m n σ Q,(∀ a w,¬Q .outgrown a w)→okS n.size c=true→(∀ e env' ro' own' h,Le ro ro'→k e env' ro' own'→Sat ro' own' h→N n σ (Q e) env' h)→∀ h,Sat ro own h→∀ a w,Fits n env a→Hp h σ w→c.wpIn (Fence.wide.inRound l) m P Q a w
theorem CodeRR.block {id:Nat}{a:Code}{k:Exit→Kt}{env:Env}{ro:Ro}{own:Chs} (h:CodeRR P a (fun e=>match e with
 | .exit j=>bif Nat.beq j id then k .normal else k (.exit j)
 | e=>k e) env ro own):CodeRR P (.block id a) k env ro own :=
 ⟨fun l m n σ Q hQ hok hk g hs ac w hf hw=>by
  refine wpIn_block (h.run l m n σ (Exit.inBlock id Q) (fun a w h=>hQ a w h) hok (fun e env2 ro2 own2 h2 hl2 hk2 hs2=>?_) g hs ac w hf hw)
  cases e with
  | exit j =>
    cases hj:Nat.beq j id with
    | true =>
      have:=Nat.eq_of_beq_eq_true hj
      subst this
      simp only [hj,cond_true] at hk2
      exact N.block_same (hk _ env2 ro2 own2 h2 hl2 hk2 hs2)
    | false =>
      simp only [hj,cond_false] at hk2
      exact N.block_other hj (hk _ env2 ro2 own2 h2 hl2 hk2 hs2)
  | _=>exact hk _ env2 ro2 own2 h2 hl2 hk2 hs2⟩
theorem wpOp_inRound (l n:Nat) {all:Array Oper} (hd:∀ (i:Nat) (o:Oper),all[i]?=some o→noDef o=true) (hQ:∀ a w,¬Q .outgrown a w) {i:Nat}{K K':Act→World→Prop} (hK:∀ a w,K a w→K' a w) {a:Act}{w:World} (h:wpOp P all Q i K a w):wpOpIn (Fence.wide.inRound l) n P all Q i K' a w:=by
 unfold wpOp at h
 unfold wpOpIn
 cases ho:all[i]? with
 | none=>rw [ho] at h;exact hK _ _ h
 | some o =>
   rw [ho] at h
   dsimp only at h ⊢
   split
   ·rename_i hw
    rw [if_pos hw] at h
    rcases h with h|⟨_,h⟩
    ·refine ⟨fun f _=>trivial,?_⟩
     rw [Oper.semAt_eq _ _ _ (noDef_spec (hd i o ho))]
     exact upon_inRound l n hQ hK h
    ·exact absurd h (LetsOut_no hQ)
   ·rename_i hw
    rw [if_neg hw] at h
    exact ⟨fun f _=>trivial,hK _ _ h⟩
theorem wpAny_inRound (l n:Nat) {all:Array Oper} (hd:∀ (i:Nat) (o:Oper),all[i]?=some o→noDef o=true) (hQ:∀ a w,¬Q .outgrown a w) {md:Region.Mode}:∀ (fuel:Nat) (listed:Array Bool) (a:Act) (w:World),wpAny P md all Q fuel listed a w→wpAnyIn (Fence.wide.inRound l) n P md all Q fuel listed a w
 | 0,_,_,_,h=>h
 | fuel+1,listed,a,w,h=>⟨h.1,fun i hi=>wpOp_inRound l n hd hQ (fun a w h=>wpAny_inRound l n hd hQ fuel _ a w h) (h.2 i hi)⟩
theorem CodeRR.drawn {T:TT}{id:Nat}{l:List Oper}{k:Exit→Kt}{env:Env}{ro:Ro}{own:Chs} [hT:TTab P T] {plan:List Tk} (hnf:NfT (planOf l) plan) (hm:P.follows .mixedOrders=true) (hns:Region.noSelect l.toArray=true) (hd:l.all noDef=true) (hlen:Nat.beq plan.length l.length=true) (hp:planOk l.toArray plan (Array.replicate l.length false)=true)
  (hv:nextB plan (vH P T l plan []) (k .normal) env ro own):CodeRR P (.region id l.toArray true) k env ro own :=
 ⟨fun l0 m n σ Q hQ hok hk h hs a w hf hw=>wpIn_mono (wpIn_region_any (Q:=fun e a w=>match e with|.panic _=>False|e=>Q e a w) hm (by
   have hl:plan.length=l.length:=Nat.eq_of_beq_eq_true hlen
   obtain ⟨B,hB,hv⟩:=hv.spec
   have:=wpU.any _ _ _ _ (vH_sound (σ:=σ) (w:={ w with drawn:=w.drawn+1 }) (Q:=fun e a w=>match e with|.panic _=>False|e=>Q e a w) hT.ok hns (by simpa [okS] using hok) (fun c a w h=>h) hB (fun j o _ hd=>by simp [Array.getD] at hd) hp hv (fun env' ro' own' h' hl' hk' hs'=>hk .normal env' ro' own' h' hl' hk' hs') hf (by rw [hw.heap];exact hs) ⟨rfl,hw.os,hw.tape,hw.output⟩)
   rw [hl] at this
   have hd2:∀ (i:Nat) (o:Oper),l.toArray[i]?=some o→noDef o=true:=fun i o ho=>List.all_eq_true.1 hd o (List.mem_of_getElem? (i:=i) (by simpa using ho))
   refine wpAny_inRound (Q:=fun e a w=>match e with|.panic _=>False|e=>Q e a w) l0 m hd2 (fun a w h=>hQ a w h) _ _ _ _ ?_
   simpa using this)) (fun e a w hq=>by cases e<;>first|exact hq|exact hq.elim)⟩
end
end Go.E
namespace Go.E
open Go Go.RowKit
def fullR (h:Heap) (own:Chs):Ro:=fun b=>if b∈own.flatMap Chunk.fp then none else h[b]?
theorem fullR_own {h:Heap}{own:Chs}{c:Chunk} (hc:c∈own) {b:Nat} (hb:b∈c.fp):fullR h own b=none:=if_pos (List.mem_flatMap.2 ⟨c,hc,hb⟩)
theorem fullR_other {h:Heap}{own:Chs}{b:Nat} (hb:∀ c∈own,b∉c.fp):fullR h own b=h[b]?:=if_neg (fun e=>by obtain ⟨c,hc,hbc⟩:=List.mem_flatMap.1 e;exact hb c hc hbc)
theorem Sat.full {ro:Ro}{own:Chs}{h:Heap} (hs:Sat ro own h):Sat (fullR h own) own h :=
 ⟨fun b o hb=>by
  by_cases hm:b∈own.flatMap Chunk.fp
  ·rw [fullR,if_pos hm] at hb;cases hb
  ·rwa [fullR,if_neg hm] at hb,hs.parts,hs.nd,fun c hc b hb=>fullR_own hc hb⟩
theorem Sat.leFull {ro:Ro}{own:Chs}{h:Heap} (hs:Sat ro own h):Le ro (fullR h own):=⟨fun b o hb=>by
 rw [fullR_other (fun c hc hbc=>by rw [hs.ap c hc b hbc] at hb;cases hb)]
 exact hs.last b o hb⟩
theorem Sat.less {ro ro':Ro}{own:Chs}{h:Heap} (hs:Sat ro' own h) (hl:Le ro ro'):Sat ro own h :=
 ⟨fun b o hb=>hs.last b o (hl.le b o hb),hs.parts,hs.nd,fun c hc b hb=>by
  cases hr:ro b with
  | none=>rfl
  | some o=>have:=hl.le b o hr;rw [hs.ap c hc b hb] at this;cases this⟩
theorem Sat.out {ro:Ro}{own:Chs}{h h':Heap} (hs:Sat ro own h) {L:Nat} (hL:ro L=none) (hL2:∀ c∈own,L∉c.fp) (hk:∀ b,b≠L→h'[b]?=h[b]?):Sat ro own h' :=
 ⟨fun b o hb=>by
  rw [hk b (fun e=>by subst e;rw [hL] at hb;cases hb)]
  exact hs.last b o hb,fun c hc=>(hs.parts c hc).congr (fun b hb=>hk b (fun e=>by subst e;exact hL2 c hc hb)),hs.nd,hs.ap⟩
theorem Sat.up {ro ro':Ro}{own:Chs}{h:Heap} (hs:Sat ro own h) (h1:∀ b o,ro' b=some o→h[b]?=some o) (h2:∀ b o,ro' b=some o→ro b=some o∨∀ c∈own,b∉c.fp):Sat ro' own h :=
 ⟨h1,hs.parts,hs.nd,fun c hc b hb=>by
  cases hr:ro' b with
  | none=>rfl
  | some o =>
    rcases h2 b o hr with h|h
    ·rw [hs.ap c hc b hb] at h;cases h
    ·exact absurd hb (h c hc)⟩
structure IterOk {α:Type} (P:Program) (f:FuncId) (bs:Array Value) (encs:α→Array Value) (xs:List α):Prop where
 run:∀ (l:Nat) (J:Ro→List α→World→Prop) (Jx:World→Prop) (ρ:Ro) (W:World),
  (∀ ρ pre W,J ρ pre W→∀ b o,ρ b=some o→W.heap[b]?=some o) →
  (∀ ρ ρ' pre W W',J ρ pre W→Le ρ ρ'→(∀ b o,ρ' b=some o→ρ b=some o∨W.heap.size≤b)→(∀ b,b<W.heap.size→W'.heap[b]?=W.heap[b]?)→(∀ b o,ρ' b=some o→W'.heap[b]?=some o)→Hp W'.heap W W'→J ρ' pre W') →
  (∀ ρ pre x rest W,xs=pre++x::rest→J ρ pre W→YieldAt Fence.wide 0 P l (encs x) W fun e W'=>(e=.returned (.bool true)∧J ρ (pre++[x]) W')∨(e=.returned (.bool false)∧Jx W')) →
  (∀ W W',Jx W→W'.heap=W.heap→Hp W'.heap W W'→Jx W') →
  (∀ ρ pre W',J ρ pre W'→Hp W'.heap W W')→(∀ W',Jx W'→Hp W'.heap W W') →
  J ρ [] W →
  CallsIn Fence.wide 0 P f (bs++#[.func (.yield l) #[] #[]]) W fun e W'=>∃ v,e=.returned v∧((∃ ρ',J ρ' xs W')∨Jx W')
def parEnv (env:Env):List Nat→List Value→Env
 | p::ps,v::vs=>parEnv ((p,v)::env) ps vs
 | _,_=>env
theorem Fits.pars {n:Fr}:∀ {ps:List Nat}{vs:List Value}{env:Env}{t:Array Value},ps.all (fun p=>Nat.blt p n.size)=true→Fits n env ⟨t,n.D⟩→Fits n (parEnv env ps vs) ⟨(ps.zip vs).foldl (fun t (p,v)=>t.setIfInBounds p v) t,n.D⟩
 | [],_,env,t,_,h=>h
 | _::_,[],env,t,_,h=>h
 | p::ps,v::vs,env,t,hp,h=>by
   simp only [List.all_cons,Bool.and_eq_true] at hp
   have:=h.put (d:=p) hp.1 v
   exact Fits.pars (ps:=ps) (vs:=vs) (env:=(p,v)::env) (t:=t.setIfInBounds p v) hp.2 this
def rndK {ι κ:Type} (O:ι→Chs) (A:ι→Prop) (Ox:κ→Chs) (Ix:Exit→κ→Prop):Exit→Kt
 | .normal=>Wk fun _ _ own=>∃ i,A i∧Sup own (O i)
 | .ret=>Wk fun _ _ own=>∃ j,Ix .ret j∧Sup own (Ox j)
 | .exit id=>Wk fun _ _ own=>∃ j,Ix (.exit id) j∧Sup own (Ox j)
 | _=>fun _ _ _=>False
def asgK (env1:Env) (own1:Chs):Exit→Kt
 | .normal=>fun env _ own=>Sub env1 env∧Sup own own1
 | _=>fun _ _ _=>False
def jumpOf:Exit→Option Code
 | .ret=>some .ret
 | .exit id=>some (.exit id)
 | _=>none
section
variable {P:Program}{T:TT}{env:Env}{ro:Ro}{own:Chs}
theorem hp_put {w σ:World}{h:Heap} (L:Nat) (o:Obj) (hw:Hp h σ w):Hp (w.putObj L o).heap σ (w.putObj L o):=⟨rfl,hw.os,hw.tape,hw.output⟩
theorem hp_heap {w σ:World}{h:Heap} (hw:Hp h σ w):Hp w.heap σ w:=⟨rfl,hw.os,hw.tape,hw.output⟩
theorem rec_off {L:Nat}{o:Obj}{own own':Chs}{h h':Heap} (hs:Sat (fullR h own) own' h') (hL:h[L]?=some o) (hL2:∀ c∈own,L∉c.fp):h'[L]?=some o∧∀ c∈own',L∉c.fp:=by
 have e:fullR h own L=some o:=(fullR_other hL2).trans hL
 refine ⟨hs.last L o e,fun c hc hb=>?_⟩
 have:=hs.ap c hc L hb
 rw [e] at this;cases this
theorem CodeOk.rangeFuncR {α:Type} [hT:TTab P T] {g:Operand}{ps:List Nat}{assign body:Code}{k:Exit→Kt}{f:FuncId}{bs:List Value}{encs:α→List Value}{xs:List α}
  (hg:ev env g=some (.func (.func f) bs.toArray #[])) (enter:∀ args w,(callFunc f args).run P w=.ok (.enter f args) w)
  (hit:IterOk P f bs.toArray (fun x=>(encs x).toArray) xs) (hps:∀ x,(encs x).length=ps.length) (hR:okR assign=true)
  {ι κ:Type} (O:ι→Chs) (I:List α→ι→Prop) (Ox:κ→Chs) (Ix:Exit→κ→Prop) (env1:α→Env) (i0:ι) (hI:I [] i0) (ho:Sup own (O i0))
  (asg:∀ x own' ro',Le ro ro'→V P T assign (asgK (env1 x) own') (parEnv env ps (encs x)) ro' own')
  (round:∀ pre x rest i ro',Le ro ro'→xs=pre++x::rest→I pre i→CodeRR P body (rndK O (I (pre++[x])) Ox Ix) (env1 x) ro' (O i))
  (done:∀ i ro',Le ro ro'→I xs i→k .normal env ro' (O i))
  (stop:∀ e j ro',Le ro ro'→Ix e j→k e env ro' (Ox j)):CodeOk P (.rangeFunc g ps.toArray assign body) k env ro own:=by
 refine ⟨fun n σ Q hok hk h hs a w hf hw=>?_⟩
 simp only [okS,Bool.and_eq_true] at hok
 obtain ⟨⟨hok1,hok2⟩,hok3⟩:=hok
 have hwh:=hw.heap
 subst hwh
 refine (wpIn_wide (n:=0)).1 (wpIn_rangeFunc fun fn _=>?_)
 obtain ⟨rec,hrec⟩:∃ rec:LoopState→Option Code→Loop,rec=fun st pe=>{ state:=st,pending:=pe,fn,tmps:=a.tmps,params:=ps.toArray,assign,body,defers:=w.heap.size }:=⟨_,rfl⟩
 obtain ⟨W1,hW1⟩:∃ W1,(w.alloc (.deferred (some []))).alloc (.loop (rec .ready none))=W1:=⟨_,rfl⟩
 obtain ⟨L,hLe⟩:∃ L,w.heap.size+1=L:=⟨_,rfl⟩
 have hsz1:W1.heap.size=w.heap.size+2:=by rw [←hW1];simp
 have hL1:W1.heap[L]?=some (.loop (rec .ready none)):=by
  rw [←hW1,←hLe];have:=World.alloc_heap_new (w.alloc (.deferred (some []))) (.loop (rec .ready none));rwa [World.size_alloc] at this
 have hK1:W1.heap[w.heap.size]?=some (.deferred (some [])):=by
  rw [←hW1];exact (Below.heap_alloc _ _ _ (by simp)).trans (World.alloc_heap_new w _)
 have hlow:∀ b,b<w.heap.size→W1.heap[b]?=w.heap[b]?:=fun b hb=>by
  rw [←hW1];exact (Below.heap_alloc _ _ _ (by simp;omega)).trans (Below.heap_alloc _ _ _ hb)
 have hHp1:Hp W1.heap σ W1:=by rw [←hW1];exact ⟨rfl,hw.os,hw.tape,hw.output⟩
 have hroD:ro w.heap.size=none:=by
  cases hr:ro w.heap.size with
  | none=>rfl
  | some o=>have:=(Array.getElem?_eq_some_iff.1 (hs.last _ _ hr)).1;omega
 have hroL:ro L=none:=by
  cases hr:ro L with
  | none=>rfl
  | some o=>have:=(Array.getElem?_eq_some_iff.1 (hs.last _ _ hr)).1;omega
 obtain ⟨ro1,hro1⟩:∃ ro1:Ro,ro1=fun b=>if b=w.heap.size then some (.deferred (some [])) else ro b:=⟨_,rfl⟩
 have hv1:∀ b,ro1 b=if b=w.heap.size then some (.deferred (some [])) else ro b:=fun b=>by rw [hro1]
 have hle1:Le ro ro1:=⟨fun b o hb=>by
  rw [hv1,if_neg (fun e=>by subst e;rw [hroD] at hb;cases hb)]
  exact hb⟩
 have hro1D:ro1 w.heap.size=some (.deferred (some [])):=by rw [hv1];exact if_pos rfl
 have hro1L:ro1 L=none:=by
  rw [hv1,if_neg (by omega)];exact hroL
 have hmk:Mk (rf (.rangeFunc g ps.toArray assign body)) n.D (markOf w.heap.size::n.D) ro ro1:=⟨fun e=>by simp [rf] at e,[w.heap.size],rfl,by simp,fun b hb=>by
  simp only [List.mem_singleton] at hb;subst hb;exact ⟨hroD,hro1D⟩⟩
 have hs1:Sat ro1 (O i0) W1.heap:=by
  have h0:Sat ro (O i0) W1.heap:=(hs.keep hlow).sup ho
  have h00:Sat ro (O i0) w.heap:=hs.sup ho
  refine h0.up (fun b o hb=>?_) (fun b o hb=>?_)
  ·rw [hv1] at hb
   by_cases e:b=w.heap.size
   ·subst e;rw [if_pos rfl] at hb;cases hb;exact hK1
   ·rw [if_neg e] at hb;exact h0.last b o hb
  ·rw [hv1] at hb
   by_cases e:b=w.heap.size
   ·subst e
    exact .inr (fun c hc hbc=>by have:=(h00.parts c hc).lt _ hbc;omega)
   ·rw [if_neg e] at hb;exact .inl hb
 have hL10:∀ c∈O i0,L∉c.fp:=fun c hc hbc=>by
  have:=((hs.sup ho).parts c hc).lt _ hbc;omega
 have hfm:∀ {W:World}{h':Heap},Hp h' σ W→Fits ⟨n.size,markOf w.heap.size::n.D⟩ env { a with defers:=[{ target:=.collected w.heap.size,args:=#[] }]++a.defers }:=fun _=>⟨by simp [hf.defers,markOf],hf.size,hf.get⟩
 refine ⟨L,[{ target:=.collected w.heap.size,args:=#[] }],W1,{ target:=.fn (.func f) #[],args:=bs.toArray++#[.func (.yield L) #[] #[]] },W1,f,bs.toArray++#[.func (.yield L) #[] #[]],W1,?_,?_,fun _ _=>trivial,?_,fun e=>by simp [Fence.wide] at e,?_⟩
 ·rw [←hW1,hrec,←hLe];exact run_enterLoop_outer _ _ _ _ _
 ·have:=hf.agree _ _ hg
  simp only [resolve,this]
  simp [Deferred.ofValue,Act.eval,go_sem]
 ·simp [invoke,go_sem,enter]
 ·refine (hit.run L (fun ρ pre W=>∃ i,I pre i∧Sat ρ (O i) W.heap∧Le ro1 ρ∧W.heap[L]?=some (.loop (rec .ready none))∧ρ L=none∧(∀ c∈O i,L∉c.fp)∧Hp W.heap σ W)
   (fun W=>∃ e c j,jumpOf e=some c∧Ix e j∧Sat ro1 (Ox j) W.heap∧W.heap[L]?=some (.loop (rec .done (some c)))∧(∀ c∈Ox j,L∉c.fp)∧Hp W.heap σ W) ro1 W1 ?_ ?_ ?_ ?_ ?_ ?_ ⟨i0,hI,hs1,Le.refl _,hL1,hro1L,hL10,hHp1⟩).mono ?_
  ·rintro ρ pre W ⟨i,_,h2,_⟩ b o hb
   exact h2.last b o hb
  ·rintro ρ ρ' pre W W' ⟨i,h1,h2,h3,h4,h5,h6,h7⟩ hl hn hkp hlast hh
   have hLlt:L<W.heap.size:=(Array.getElem?_eq_some_iff.1 h4).1
   refine ⟨i,h1,(h2.keep hkp).up hlast (fun b o hb=>?_),h3.trans hl,(hkp L hLlt).trans h4,?_,h6,h7.trans hh⟩
   ·rcases hn b o hb with h|h
    ·exact .inl h
    ·exact .inr (fun c hc hbc=>by have:=(h2.parts c hc).lt _ hbc;omega)
   ·cases hr:ρ' L with
    | none=>rfl
    | some o =>
      rcases hn L o hr with h|h
      ·rw [h5] at h;cases h
      ·omega
  ·rintro ρ pre x rest W hx ⟨i,h1,h2,h3,h4,h5,h6,h7⟩
   have hy:=run_yield (P:=P) (args:=(encs x).toArray) h4 (by rw [hrec];simpa using hps x)
   rw [hrec] at hy
   refine ⟨fn,_,assign,body,hy,roundIn_of_wpIn trivial ?_⟩
   have hf0:Fits ⟨n.size,[]⟩ (parEnv env ps (encs x)) { tmps:=(ps.toArray.zip (encs x).toArray).foldl (fun t (p,v)=>t.setIfInBounds p v) a.tmps,defers:=[] }:=by
    have:=Fits.pars (n:=⟨n.size,[]⟩) (ps:=ps) (vs:=encs x) (env:=env) (t:=a.tmps) (by simpa using hok1) ⟨rfl,hf.size,hf.get⟩
    simpa using this
   refine (V_soundR hT.ok (asg x (O i) (fullR W.heap (O i)) ((hle1.trans h3).trans h2.leFull))).run L 0 ⟨n.size,[]⟩ σ _ (fun _ _ h=>h) hok2 hR (fun e env' ro' own' h' hl hk' hs'=>?_) W.heap h2.full _ W hf0 h7
   cases e<;>first|exact hk'.elim|skip
   intro a1 w1 hf1 hw1
   have hw1h:=hw1.heap
   subst hw1h
   have hs2:Sat (fullR W.heap (O i)) (O i) w1.heap:=(hs'.sup hk'.2).less hl
   have hL2:=(rec_off hs2 h4 h6).1
   have hlt:L<w1.heap.size:=(Array.getElem?_eq_some_iff.1 hL2).1
   refine ⟨_,run_beginRound hL2 (by rw [hrec]),?_⟩
   have hL3:(w1.putObj L (.loop { rec .ready none with state:=.busy })).heap[L]?=some (.loop { rec .ready none with state:=.busy }):=World.putObj_heap_same hlt
   have hs3:Sat ρ (O i) (w1.putObj L (.loop { rec .ready none with state:=.busy })).heap:=(hs2.less h2.leFull).out h5 h6 (fun b hb=>World.putObj_heap_other hb)
   generalize hW2:w1.putObj L (.loop { rec .ready none with state:=.busy })=W2 at hL3 hs3 ⊢
   have hH2:Hp W2.heap σ W2:=by rw [←hW2];exact hp_put _ _ hw1
   have hro:Le ro (fullR W2.heap (O i)):=(hle1.trans h3).trans hs3.leFull
   refine (round pre x rest i (fullR W2.heap (O i)) hro hx h1).run L 0 ⟨n.size,[]⟩ σ _ (fun _ _ h=>h) hok3 (fun e env' ro' own' h' hl hk' hs'=>?_) W2.heap hs3.full _ W2 (hf1.sub hk'.1) hH2
   have fin:∀ (jump:Option Code) (w3:World) (own3:Chs),Hp w3.heap σ w3→Sat (fullR W2.heap (O i)) own3 w3.heap →
     ∃ w4,(Instr.endRound L jump).run P w3=.ok (.bool jump.isNone) w4∧Hp w4.heap σ w4∧Sat ρ own3 w4.heap∧w4.heap[L]?=some (.loop (rec (if jump.isNone then .ready else .done) jump))∧(∀ c∈own3,L∉c.fp):=fun jump w3 own3 hh hsat=>by
    obtain ⟨q1,q2⟩:=rec_off hsat hL3 h6
    have hr:=run_endRound (P:=P) jump q1
    have hlt3:L<w3.heap.size:=(Array.getElem?_eq_some_iff.1 q1).1
    refine ⟨_,hr,hp_put _ _ hh,(hsat.less hs3.leFull).out h5 q2 (fun b hb=>World.putObj_heap_other hb),?_,q2⟩
    rw [World.putObj_heap_same hlt3,hrec]
   cases e with
   | normal =>
     obtain ⟨e1,ro2,own2,k1,k2,k3,i',k4,k5⟩:=hk'.get h' hs'
     intro a3 w3 hf3 hw3
     have hw3h:=hw3.heap
     subst hw3h
     obtain ⟨w4,r1,r2,r3,r4,r5⟩:=fin none w3 (O i') (hp_heap hw3) ((k3.sup k5).less (hl.trans k2))
     exact ⟨_,w4,r1,.inl ⟨rfl,i',k4,r3,h3,r4,h5,r5,r2⟩⟩
   | ret =>
     obtain ⟨e1,ro2,own2,k1,k2,k3,i',k4,k5⟩:=hk'.get h' hs'
     intro a3 w3 hf3 hw3
     have hw3h:=hw3.heap
     subst hw3h
     obtain ⟨w4,r1,r2,r3,r4,r5⟩:=fin (some .ret) w3 (Ox i') (hp_heap hw3) ((k3.sup k5).less (hl.trans k2))
     exact ⟨_,w4,r1,.inr ⟨rfl,.ret,_,i',rfl,k4,r3.less h3,r4,r5,r2⟩⟩
   | exit id =>
     obtain ⟨e1,ro2,own2,k1,k2,k3,i',k4,k5⟩:=hk'.get h' hs'
     intro a3 w3 hf3 hw3
     have hw3h:=hw3.heap
     subst hw3h
     obtain ⟨w4,r1,r2,r3,r4,r5⟩:=fin (some (.exit id)) w3 (Ox i') (hp_heap hw3) ((k3.sup k5).less (hl.trans k2))
     exact ⟨_,w4,r1,.inr ⟨rfl,.exit id,_,i',rfl,k4,r3.less h3,r4,r5,r2⟩⟩
   | goto t=>exact hk'.elim
   | panic c=>exact hk'.elim
   | outgrown=>exact hk'.elim
  ·rintro W W' ⟨e,c,j,h1,h2,h3,h4,h5,h6⟩ hh hp
   exact ⟨e,c,j,h1,h2,by rw [hh];exact h3,by rw [hh];exact h4,h5,h6.trans hp⟩
  ·rintro ρ pre W' ⟨i,h1,h2,h3,h4,h5,h6,h7⟩
   exact ⟨rfl,h7.os.trans hHp1.os.symm,h7.tape.trans hHp1.tape.symm,h7.output.trans hHp1.output.symm⟩
  ·rintro W' ⟨e,c,j,h1,h2,h3,h4,h5,h7⟩
   exact ⟨rfl,h7.os.trans hHp1.os.symm,h7.tape.trans hHp1.tape.symm,h7.output.trans hHp1.output.symm⟩
  ·rintro e W2 ⟨v,rfl,(⟨ρ',i,h1,h2,h3,h4,h5,h6,h7⟩|⟨e,c,j,h1,h2,h3,h4,h5,h6⟩)⟩
   ·refine ⟨none,_,by have:=run_endLoop (P:=P) h4 (by rw [hrec];simp);rw [hrec] at this;exact this,?_⟩
    have hs4:Sat ro1 (O i) (W2.putObj L (.loop { rec .ready none with state:=.exhausted })).heap:=(h2.less h3).out hro1L h6 (fun b hb=>World.putObj_heap_other hb)
    exact hk .normal env ro1 (O i) _ _ hle1 (done i ro1 hle1 h1) (by rw [hrec] at hs4;exact hs4) hmk _ _ (hfm h7) (hp_put _ _ h7)
   ·refine ⟨some c,_,by have:=run_endLoop (P:=P) h4 (by rw [hrec];simp);rw [hrec] at this;exact this,?_⟩
    have hs4:Sat ro1 (Ox j) (W2.putObj L (.loop { rec .done (some c) with state:=.exhausted })).heap:=h3.out hro1L h5 (fun b hb=>World.putObj_heap_other hb)
    have key:=hk e env ro1 (Ox j) _ _ hle1 (stop e j ro1 hle1 h2) (by rw [hrec] at hs4;exact hs4) hmk _ _ (hfm h6) (hp_put _ _ h6)
    cases e<;>simp only [jumpOf,Option.some.injEq,reduceCtorEq] at h1<;>subst h1
    ·exact wpIn_exit key
    ·exact wpIn_ret key
end
end Go.E
namespace Go.E
open Go Go.RowKit
section
variable {P:Program}{T:TT}{al:Array Oper}{Q:Exit→Act→World→Prop}{n:Fr}{σ:World}{env:Env}{h:Heap}
def LI (P:Program) (al:Array Oper) (Q:Exit→Act→World→Prop) (n:Fr) (σ:World) (ops:List Oper) (env:Env) (h:Heap):Prop :=
 ∀ a w,Fits n env a→Hp h σ w→wpListIn Fence.wide 0 P al Q ops a w
theorem C.regionI {id:Nat}{l:List Oper} (k:LI P l.toArray Q n σ l env h):C P Q n σ (.region id l.toArray false) env h:=fun a w hf hw=>(wpIn_wide (n:=0)).1 (wpIn_region_lit (k a w hf hw))
theorem upon_inWide {o:Oper}{a:Act}{K:Act→World→Prop}{next next':Act→World→Prop} (hn:∀ a w,next a w→next' a w):∀ {r:Result Next},o.upon P a next (fun e a w=>e=.normal∧K a w) r→o.uponIn Fence.wide 0 P a next' Q r:=by
 intro r h
 cases r with
 | ok x w =>
   cases x<;>simp only [Oper.upon] at h<;>try exact h.elim
   all_goals simp only [Oper.uponIn]
   all_goals first
    | exact hn _ _ h
    | exact ⟨fun e=>by simp [Fence.wide] at e,callsIn_wide.2 (h.mono fun e w' he=>by
      cases e<;>first
       | exact hn _ _ he
       | (obtain ⟨hh,_⟩:=he;cases hh;done)
       | (obtain ⟨_,_,hh,_⟩:=he;cases hh;done))⟩
    | exact ⟨fun e=>by simp [Fence.wide] at e,fun c cs _=>by
      obtain ⟨v,w',r,s⟩:=h c cs
      exact ⟨v,w',hn _ _ r,stepsIn_wide.2 s⟩⟩
 | halt x w=>cases x<;>simp only [Oper.upon] at h<;>(obtain ⟨hh,_⟩:=h;cases hh)
theorem wpList_splitIn {K:Act→World→Prop}{rest:List Oper} (hK:∀ a w,K a w→wpListIn Fence.wide 0 P al Q rest a w):∀ {ops:List Oper},ops.all noDef=true→∀ {a:Act}{w:World},wpList P al (fun e a w=>e=.normal∧K a w) ops a w→wpListIn Fence.wide 0 P al Q (ops++rest) a w
 | [],_,a,w,h=>hK a w h.2
 | o::ops,hd,a,w,h=>by
   simp only [List.all_cons,Bool.and_eq_true] at hd
   unfold wpList at h
   show wpListIn Fence.wide 0 P al Q (o::(ops++rest)) a w
   unfold wpListIn
   split
   ·rename_i hw
    rw [if_pos hw] at h
    rcases h with h|⟨_,h⟩
    ·refine ⟨fun f _=>trivial,?_⟩
     rw [Oper.semAt_eq _ _ _ (noDef_spec hd.1)]
     exact upon_inWide (fun a w h=>wpList_splitIn hK hd.2 h) h
    ·obtain ⟨_,_,hh,_⟩:=h;cases hh
   ·rename_i hw
    rw [if_neg hw] at h
    exact ⟨fun f _=>trivial,wpList_splitIn hK hd.2 h⟩
theorem LI.split {rest:List Oper}{ops:List Oper} (hd:ops.all noDef=true) (k:L P al (fun e a w=>e=.normal∧wpListIn Fence.wide 0 P al Q rest a w) n σ ops env h):LI P al Q n σ (ops++rest) env h :=
 fun a w hf hw=>wpList_splitIn (fun a w h=>h) hd (k a w hf hw)
theorem LI.all {ops:List Oper} (hd:ops.all noDef=true) (k:L P al (fun e a w=>e=.normal∧Q .normal a w) n σ ops env h):LI P al Q n σ ops env h:=fun a w hf hw=>by
 have:=wpList_splitIn (rest:=[]) (Q:=Q) (fun a w h=>h) hd (k a w hf hw)
 rwa [List.append_nil] at this
theorem N.normalI {rest:List Oper} (k:LI P al Q n σ rest env h):N n σ ((fun (e:Exit) a w=>e=.normal∧wpListIn Fence.wide 0 P al Q rest a w) .normal) env h:=fun a w hf hw=>⟨rfl,k a w hf hw⟩
theorem N.normalA {Q':Act→World→Prop} (k:N n σ Q' env h):N n σ ((fun (e:Exit) a w=>e=.normal∧Q' a w) .normal) env h:=fun a w hf hw=>⟨rfl,k a w hf hw⟩
theorem LI.yield {rest:List Oper}{d l:Nat}{x:Operand}{ys:List Operand}{vs:List Value}{tys:Array TypeId}{ty:TypeId}{pos:String}{af:Array Edge}
  (hx:ev env x=some (.func (.yield l) #[] #[])) (hy:evs env ys=some vs) (hd:Nat.blt d n.size=true)
  (hY:∀ w,Hp h σ w→YieldAt Fence.wide 0 P l vs.toArray w fun e w'=>∃ v,e=.returned v∧Hp w'.heap σ w'∧∀ a',Fits n ((d,v)::env) a'→wpListIn Fence.wide 0 P al Q rest a' w') :
  LI P al Q n σ (⟨some d,.call ⟨.value x,ys.toArray,tys⟩,ty,pos,af,none⟩::rest) env h:=fun a w hf hw=>by
 obtain ⟨fn,tmps,assign,body,hy1,hR⟩:=hY w hw
 have e1:=hf.agree _ _ hx
 have e2:=hf.agree.list hy
 unfold wpListIn
 rw [if_pos (show Region.wanted _ _=true from rfl)]
 refine ⟨fun f _=>trivial,?_⟩
 have hrun:(execOp a.eval ⟨some d,.call ⟨.value x,ys.toArray,tys⟩,ty,pos,af,none⟩).run P w=.ok (.round l fn tmps assign body) w:=by
  rw [←hy1]
  simp [execOp,resolve,e1,e2,Deferred.ofValue,invoke,Sem.run_bind,Result.andThen,Sem.run_pure]
 rw [Oper.semAt_eq _ _ _ (fun c e=>by cases e)]
 rw [hrun]
 simp only [Oper.uponIn]
 refine ⟨fun e=>by simp [Fence.wide] at e,hR.mono fun e w' ⟨v,he,hh,hk⟩=>?_⟩
 subst he
 exact hk _ (hf.put hd v)
theorem LI.guard {rest:List Oper}{d:Option Nat}{op:Op}{ty:TypeId}{pos:String}{af:Array Edge}{j:Nat}{b:Bool}{t:Nat}
  {l:List Oper} (hj0:dstOf l j=some t) (ht:look env t=some (.bool b)) (k:LI P l.toArray Q n σ (⟨d,op,ty,pos,af,none⟩::rest) env h) :
  LI P l.toArray Q n σ (⟨d,op,ty,pos,af,some (j,b)⟩::rest) env h:=fun a w hf hw=>by
 have hj:=dstOf_spec hj0
 have hy:yielded l.toArray a.tmps j=some b:=by simp [yielded,hj,hf.get _ _ ht]
 have k:=k a w hf hw
 unfold wpListIn at k ⊢
 rw [if_pos (show Region.wanted _ _=true from rfl)] at k
 rw [if_pos (by simp [Region.wanted,hy])]
 exact k
theorem leavesM {fn:Func}{tmps:Array Value}{R:Ending→World→Prop}{own:Chs}{ro:Ro}{σ:World}{v:Value} (hres:∀ w,(results fn tmps).run P w=.ok v w) (hR:∀ w,Hp w.heap σ w→Sat ro own w.heap→R (.returned v) w) :
  ∀ (ms:List Nat) (w:World),ms.Nodup→Hp w.heap σ w→(∀ b∈ms,ro b=none)→(∀ b∈ms,w.heap[b]?=some (.deferred (some [])))→(∀ b∈ms,∀ c∈own,b∉c.fp)→Sat ro own w.heap→LeavesInM Fence.wide 0 P fn tmps R (ms.map markOf) .returning w
 | [],w,_,hh,_,_,_,hs=>⟨v,hres w,hR w hh hs⟩
 | b::ms,w,hn,hh,h1,h2,h3,hs=>by
   obtain ⟨n1,n2⟩:=List.nodup_cons.1 hn
   refine ⟨by simp,.inl ⟨b,_,rfl,run_takeDeferred (h2 b (by simp)),?_⟩⟩
   refine leavesM hres hR ms _ n2 (hp_put _ _ hh) (fun c hc=>h1 c (by simp [hc])) (fun c hc=>?_) (fun c hc=>h3 c (by simp [hc])) (hs.out (h1 b (by simp)) (h3 b (by simp)) (fun c hc=>World.putObj_heap_other hc))
   have hne:c≠b:=fun e=>n1 (by rw [←e];exact hc)
   rw [World.putObj_heap_other hne]
   exact h2 c (by simp [hc])
def retM (rs:List ResultVar) (Φ:Value→Chs→Prop):Exit→Kt
 | .ret=>fun env ro own=>match rvals env rs with
   | some vs=>Stop (Wk (fun _ _ own=>Φ (tup vs) own) [] ro own)
   | none=>False
 | .normal=>fun env ro own=>match rs with
   | []=>Stop (Wk (fun _ _ own=>Φ (tup []) own) [] ro own)
   | _=>False
 | _=>fun _ _ _=>False
theorem results_of {fn:Func}{rs:List ResultVar}{vs:List Value}{a:Act} (hr:fn.results=rs.toArray) (hv:rvals env rs=some vs) (hf:Fits n env a) (w:World):(results fn a.tmps).run P w=.ok (tup vs) w:=by
 have:=(RV.of (P:=P) (h:=w.heap) hv).run hf (rfl:w.heap=w.heap)
 have e:results fn a.tmps=(do let vs ←fn.results.mapM (resOne a.tmps);pure (if h:vs.size=1 then vs[0] else .tuple vs)):=rfl
 rw [e,hr,List.mapM_toArray]
 simp only [bind_map_left,Sem.run_bind,this,Result.andThen_ok,Sem.run_pure,tup_eq]
theorem CallOk.introM {f:FuncId}{fn:Func}{c:Code}{args:List Value}{rs:List ResultVar}{Φ:Value→Ro→Chs→Prop}{ro:Ro}{own:Chs} (hT:TOk P T) (hf:P.funcs[f]?=some fn) (he:∀ args w,(callFunc f args).run P w=.ok (.enter f args) w) (hb:fn.body=some c) (hr:fn.results=rs.toArray)
  (hn:okS fn.ntmps c=true) (hl:Nat.ble args.length fn.ntmps=true) (k:V P T c (retM rs (fun v own=>Φ v ro own)) (argEnv 0 args) ro own):CallOk P f args.toArray ro own Φ:=by
 refine ⟨fun w hs=>.inl ⟨he _ _,(callsIn_wide (n:=0)).1 (callsIn_of_wp_marks hf hb trivial (wpIn_wide.2 ?_))⟩⟩
 have fin:∀ {env':Env}{vs:List Value}{ro':Ro}{own':Chs}{D:List Deferred}{h':Heap},rvals env' rs=some vs→Le ro ro'→Wk (fun _ _ own=>Φ (tup vs) ro own) [] ro' own'→Sat ro' own' h'→Mk (rf c) [] D ro ro' →
   ∀ a w2,Fits ⟨fn.ntmps,D⟩ env' a→Hp h' w w2→LeavesInM Fence.wide 0 P fn a.tmps (fun e w'=>∃ v,e=.returned v∧Post ro Φ w v w') a.defers .returning w2:=by
  intro env' vs ro' own' D h' hv hl hk hs' hm a w2 hf2 hw2
  obtain ⟨e1,ro2,own2,h1,h2,h3,h4⟩:=hk.get h' hs'
  obtain ⟨ms,hD,hnd,hms⟩:=hm.yes
  have hw2h:=hw2.heap
  subst hw2h
  have hD2:a.defers=ms.map markOf:=by rw [hf2.defers];simpa using hD
  rw [hD2]
  refine leavesM (σ:=w) (ro:=ro) (own:=own2) (results_of hr hv hf2) (fun w3 hh hs3=>⟨_,rfl,hh,ro,own2,Le.refl _,hs3,h4⟩) ms w2 hnd (hp_heap hw2) (fun b hb=>(hms b hb).1) (fun b hb=>hs'.last b _ (hms b hb).2) (fun b hb c hc hbc=>?_) (h3.less (hl.trans h2))
  have:=h3.ap c hc b hbc
  rw [h2.le _ _ (hms b hb).2] at this;cases this
 refine (V_sound hT k).run ⟨fn.ntmps,[]⟩ w _ hn (fun e env' ro' own' D h' hl hk hs' hm=>?_) w.heap hs _ w ⟨rfl,?_,fun t v hv=>?_⟩ (Hp.self w)
 ·cases e with
  | ret =>
    simp only [retM] at hk
    split at hk
    ·rename_i vs hv
     exact fun a w2 hf2 hw2=>fin hv hl hk.run hs' hm a w2 hf2 hw2
    ·exact hk.elim
  | normal =>
    simp only [retM] at hk
    split at hk
    ·exact fun a w2 hf2 hw2=>fin rfl hl hk.run hs' hm a w2 hf2 hw2
    ·exact hk.elim
  | _=>exact hk.elim
 ·have:args.length≤fn.ntmps:=by simpa using hl
  simp;omega
 ·have:=(look_argEnv args 0 t v hv).2
  simp only [Nat.sub_zero] at this
  have ht:t<args.length:=(List.getElem?_eq_some_iff.1 this).1
  rw [Array.getElem?_append_left (by simpa using ht)]
  simpa using this
theorem calls_of_C {f:FuncId}{fn:Func}{c:Code}{args:List Value}{W:World}{R:Ending→World→Prop}{m:Nat} (hf:P.funcs[f]?=some fn) (hb:fn.body=some c) (hn:fn.ntmps=m) (hl:Nat.ble args.length m=true)
  (k:C P (bodyPost P fn R) ⟨m,[]⟩ W c (argEnv 0 args) W.heap):Calls P f args.toArray W R :=
 calls_of_wp hf hb (k _ W ⟨rfl,by have:args.length≤m:=by simpa using hl
                                  simp [hn];omega,fun t v hv=>by
  have:=(look_argEnv args 0 t v hv).2
  simp only [Nat.sub_zero] at this
  have ht:t<args.length:=(List.getElem?_eq_some_iff.1 this).1
  rw [Array.getElem?_append_left (by simpa using ht)]
  simpa using this⟩ (Hp.self W))
theorem C.byV (hT:TOk P T) {c:Code} (hok:okS n.size c=true) (hrf:rf c=false) {k:Exit→Kt} (hv:V P T c k env (hm h) []) (hk:∀ e env' ro' own' h',Le (hm h) ro'→k e env' ro' own'→Sat ro' own' h'→N n σ (Q e) env' h'):C P Q n σ c env h :=
 (V_sound hT hv).run n σ Q hok (fun e env' ro' own' D h' hl hk' hs' hm=>by
  have:D=n.D:=hm.no hrf
  subst this
  exact hk e env' ro' own' h' hl hk' hs') h (sat_all h)
theorem L.byV (hT:TOk P T) {l0 ops:List Oper} (hok:ops.all (fun o=>okD n.size o.dst)=true) {k:Kt} (hv:vOps P T l0 ops [] ops k env (hm h) []) (hk:∀ env' ro' own' h',Le (hm h) ro'→k env' ro' own'→Sat ro' own' h'→N n σ (Q .normal) env' h'):L P l0.toArray Q n σ ops env h :=
 vOps_sound hT hok hv (fun env' ro' own' h' _ hl hk' hs'=>hk env' ro' own' h' hl hk' hs') (sat_all h)
end
end Go.E
end
section
namespace Go.Proofs.YtficlekgjbnniaaGreatDoor
open Go Go.E
def bytesD (s:SetD):List Nat:=(List.range 256).filter s.has
theorem hp_back {w W:World}{h h0:Heap} (hw:Hp h W w):Hp h0 W { w with heap:=h0 }:=⟨rfl,hw.os,hw.tape,hw.output⟩
set_option maxHeartbeats 1000000 in
theorem each_iter {s:SetD} (hs:SetIn s):IterOk Tryz.prog 60 ([.agg (setV s).toArray]:List Value).toArray (fun c:Nat=>([.int .u8 (c:Int)]:List Value).toArray) (bytesD s):=by
 refine ⟨fun l J Jx ρ W hJr hJa hJy hJx hJp hJxp h0=>callsIn_wide.2 ?_⟩
 show Calls _ _ ([.agg (setV s).toArray,.func (.yield l) #[] #[]]:List Value).toArray _ _
 refine calls_of_C Tryz.func60 rfl rfl rfl ?_
 have hup:∀ {ρ ρ':Ro}{pre:List Nat}{h h':Heap},(∀ w,Hp h W w→J ρ pre w)→Le ρ ρ'→(∀ b o,ρ' b=some o→ρ b=some o∨h.size≤b)→(∀ b,b<h.size→h'[b]?=h[b]?)→(∀ b o,ρ' b=some o→h'[b]?=some o)→∀ w,Hp h' W w→J ρ' pre w:=fun {ρ ρ' pre h h'} hJ hl hn hk hla w hw=>by
  have hh:=hw.heap
  subst hh
  exact hJa ρ ρ' pre { w with heap:=h } w (hJ _ (hp_back hw)) hl hn hk hla ⟨rfl,rfl,rfl,rfl⟩
 have h0':∀ w,Hp W.heap W w→J ρ [] w:=fun w hw=>hJa ρ ρ [] W w h0 (Le.refl _) (fun b o h=>.inl h) (fun b _=>by rw [hw.heap]) (fun b o h=>by rw [hw.heap];exact hJr _ _ _ h0 b o h) ⟨rfl,hw.os,hw.tape,hw.output⟩
 refine C.seq (C.byV (T:=T) T_ok rfl rfl (k:=fun e=>match e with
  | .normal=>fun env' ro' own'=>∃ B,own'=[.blk B 40 (setV s)]∧Sub [(1,.func (.yield l) #[] #[]),(2,.pointer (some ⟨B,0,none⟩))] env'
  | _=>fun _ _ _=>False) ?_ ?_)
 ·repeat (first|exact zE|refine wkG ?_|refine zB (fun b=>?_)|refine zC (fun a' c' hc1 hc2=>?_)|(show GJ _ _ _ _ _ _ _;first|(apply GJ.a;exact rfl;intro hg)|(apply GJ.o;exact rfl;intro hg)|refine GJ.t omAuto ?_|refine GJ.f omAuto ?_|refine GJ.ft omAuto ?_|refine GJ.ff omAuto ?_))
  exact ⟨_,rfl,Sub.z⟩
 rintro e env' ro' own' h' hl hk hs'
 cases e<;>first|exact hk.elim|skip
 obtain ⟨B,rfl,hsub⟩:=hk
 have hBrow:h'[B]?=some (.cells (setV s).toArray 40 (0,0)):=hs'.parts (.blk B 40 (setV s)) (by simp)
 have hBsz:W.heap.size≤B:=by
  refine Nat.le_of_not_lt fun hlt=>?_
  have h1:=hs'.ap _ (List.mem_singleton.2 rfl) B (by simp [Chunk.fp])
  rw [hl.le B _ (Array.getElem?_eq_getElem hlt)] at h1
  cases h1
 obtain ⟨ρ2,hρ2⟩:∃ ρ2:Ro,∀ b,ρ2 b=if b=B then some (.cells (setV s).toArray 40 (0,0)) else ρ b:=⟨_,fun b=>rfl⟩
 have hkeep:∀ b,b<W.heap.size→h'[b]?=W.heap[b]?:=fun b hb=>by
  rw [Array.getElem?_eq_getElem hb]
  exact hs'.last b _ (hl.le b _ (Array.getElem?_eq_getElem hb))
 have h1':∀ w,Hp h' W w→J ρ2 [] w:=hup h0' ⟨fun b o hb=>by
   rw [hρ2,if_neg (fun e=>by
    subst e
    have:=(Array.getElem?_eq_some_iff.1 (hJr _ _ _ h0 _ _ hb)).1
    omega)];exact hb⟩ (fun b o hb=>by
   rw [hρ2] at hb
   by_cases e:b=B
   ·subst e;exact .inr hBsz
   ·rw [if_neg e] at hb;exact .inl hb) hkeep (fun b o hb=>by
   rw [hρ2] at hb
   by_cases e:b=B
   ·subst e;rw [if_pos rfl] at hb;cases hb;exact hBrow
   ·rw [if_neg e] at hb
    have h1:=hJr _ _ _ h0 _ _ hb
    have hlt:=(Array.getElem?_eq_some_iff.1 h1).1
    rw [hkeep b hlt];exact h1)
 have hρB:ρ2 B=some (.cells (setV s).toArray 40 (0,0)):=by rw [hρ2];exact if_pos rfl
 refine N.then_normal (N.wp (C.sub _ hsub ?_))
 clear hsub hl hs' h0' hρ2 hkeep hBrow hBsz
 refine C.seq (C.region (L.pure (Pu.move rfl) rfl (L.nil (N.then_normal (N.wp ?_)))))
 refine C.block (C.loop (ι:=Nat) (n:=fun _=>⟨20,[]⟩) (fun c=>[(5,.int .i64 (c:Int)),(1,.func (.yield l) #[] #[]),(2,.pointer (some ⟨B,0,none⟩))]) (fun c h=>c≤256∧∀ w,Hp h W w→J ρ2 ((List.range c).filter s.has) w) (fun c=>256-c) 0 ⟨by omega,h1'⟩ (by repeat (first|exact trivial|refine Sub.cons rfl ?_)) ?_)
 clear h1'
 rintro c h ⟨hc,hJ⟩
 refine C.seq (C.region (L.pure (Pu.lss rfl rfl) rfl (L.nil (N.then_normal (N.wp ?_)))))
 refine C.seq (C.dec rfl (fun hlt=>C.skip (N.then_normal (N.wp ?_))) (fun hge=>C.exit (N.then_exit (N.then_exit (N.block_same ?_)))))
 rotate_left
 ·obtain rfl:c=256:=by omega
  exact fun a w hf hw=>⟨hf.defers,.tuple #[],by simp [results,show (Tryz.f60).results=#[] from rfl],_,rfl,.inl ⟨ρ2,hJ w hw⟩⟩
 have hlt:c<256:=by omega
 have hRow:RowR (hm h) B 40 (setV s):=hJr _ _ _ (hJ { W with heap:=h } ⟨rfl,rfl,rfl,rfl⟩) _ _ hρB
 refine C.seq (C.block (C.seq (C.region (L.pure (Pu.move rfl) rfl (L.pure (Pu.assign rfl) rfl (L.nil (N.then_normal (N.wp ?_))))))))
 refine C.seq (C.regionI (LI.split (ops:=[_,_,_,_,_]) (rest:=_) rfl (L.byV (T:=T) T_ok rfl (k:=fun env' ro' own'=>Sub [(12,.bool (s.has c)),(1,.func (.yield l) #[] #[]),(2,.pointer (some ⟨B,0,none⟩)),(4,.int .i64 (c:Int)),(5,.int .i64 (c:Int))] env') ?_ ?_)))
 ·repeat (first|exact zE|refine wkG ?_|refine zB (fun b=>?_)|refine zC (fun a' c' hc1 hc2=>?_)|(show GJ _ _ _ _ _ _ _;first|(apply GJ.a;exact rfl;intro hg)|(apply GJ.o;exact rfl;intro hg)|refine GJ.t omAuto ?_|refine GJ.f omAuto ?_|refine GJ.ft omAuto ?_|refine GJ.ff omAuto ?_))
  refine OpOk.loadRow rfl rfl (LdN.lastBlk hRow) rfl ?_
  repeat (first|exact zE|refine wkG ?_|refine zB (fun b=>?_)|refine zC (fun a' c' hc1 hc2=>?_)|(show GJ _ _ _ _ _ _ _;first|(apply GJ.a;exact rfl;intro hg)|(apply GJ.o;exact rfl;intro hg)|refine GJ.t omAuto ?_|refine GJ.f omAuto ?_|refine GJ.ft omAuto ?_|refine GJ.ff omAuto ?_))
  have e1:(c:Int) % 256=(c:Int):=by omega
  rw [e1]
  refine has_ok hs hlt ?_
  repeat (first|exact zE|refine wkG ?_|refine zB (fun b=>?_)|refine zC (fun a' c' hc1 hc2=>?_)|(show GJ _ _ _ _ _ _ _;first|(apply GJ.a;exact rfl;intro hg)|(apply GJ.o;exact rfl;intro hg)|refine GJ.t omAuto ?_|refine GJ.f omAuto ?_|refine GJ.ft omAuto ?_|refine GJ.ff omAuto ?_))
  exact (by repeat (first|exact trivial|refine Sub.cons rfl ?_))
 rintro env' ro' own' h' hl hsub hs'
 have hJ':∀ w,Hp h' W w→J ρ2 ((List.range c).filter s.has) w:=by
  have hkp:∀ b,b<h.size→h'[b]?=h[b]?:=fun b hb=>by
   rw [Array.getElem?_eq_getElem hb]
   exact hs'.last b _ (hl.le b _ (Array.getElem?_eq_getElem hb))
  refine hup hJ (Le.refl _) (fun b o h=>.inl h) hkp (fun b o hb=>?_)
  have h1:=hJr _ _ _ (hJ { W with heap:=h } ⟨rfl,rfl,rfl,rfl⟩) _ _ hb
  rw [hkp b (Array.getElem?_eq_some_iff.1 h1).1];exact h1
 have hsplit:(List.range (c+1)).filter s.has=(List.range c).filter s.has++(if s.has c=true then [c] else []):=by
  rw [List.range_succ,List.filter_append]
  congr 1
  by_cases e:s.has c=true<;>simp [e]
 refine N.sub _ hsub (N.normalI ?_)
 cases hh:s.has c with
 | false =>
   rw [hh] at hsplit
   simp only [Bool.false_eq_true,if_false,List.append_nil] at hsplit
   refine LI.all rfl (L.guard_not rfl rfl rfl (L.guard_not rfl rfl rfl (L.guard_not rfl rfl rfl (L.guard_not rfl rfl rfl (L.guard_not rfl rfl rfl (L.pure (Pu.pickF rfl rfl) rfl (L.nil (N.normalA ?_))))))))
   refine N.then_normal (N.wp (C.ff rfl (C.skip (N.block_normal (N.then_normal (N.wp (C.region (L.pure (Pu.addI rfl rfl (by omega)) rfl (L.pure (Pu.move rfl) rfl (L.nil (N.then_normal ?_)))))))))))
   refine N.round (n:=fun _=>⟨20,[]⟩) (c+1) ?_ ?_ ?_
   ·exact ⟨by omega,by rw [hsplit];exact hJ'⟩
   ·omega
   ·exact (by repeat (first|exact trivial|refine Sub.cons rfl ?_))
 | true =>
   rw [hh] at hsplit
   simp only [if_true] at hsplit
   refine LI.split (ops:=[_,_,_]) (rest:=_) rfl (L.guard rfl rfl (L.pure (Pu.move rfl) rfl (L.guard rfl rfl (L.pure (Pu.move rfl) rfl (L.guard rfl rfl (L.pure (Pu.convU8 rfl Tryz.underlying3 Tryz.underlying5) rfl (L.nil (N.normalI ?_))))))))
   refine LI.guard rfl rfl (LI.yield rfl (vs:=[.int .u8 ((c % 256:Nat):Int)]) rfl rfl (fun w hw=>?_))
   have hx:bytesD s=(List.range c).filter s.has++c::((List.range' (c+1) (255-c)).filter s.has):=by
    have e:List.range 256=List.range c++c::List.range' (c+1) (255-c):=by
     rw [List.range_eq_range',List.range_eq_range',show (256:Nat)=c+(1+(255-c)) by omega,←List.range'_append_1]
     rw [Nat.zero_add,show 1+(255-c)=(255-c)+1 by omega,List.range'_succ]
    unfold bytesD
    rw [e,List.filter_append,List.filter_cons,if_pos hh]
   obtain ⟨fn,tmps,assign,body,hy,hR⟩:=hJy ρ2 _ c _ w hx (hJ' w hw)
   rw [Nat.mod_eq_of_lt hlt]
   refine ⟨fn,tmps,assign,body,hy,hR.mono fun e w' he=>?_⟩
   rcases he with ⟨rfl,hJ2⟩|⟨rfl,hJ2⟩
   ·refine ⟨_,rfl,hJp _ _ _ hJ2,fun a' hf'=>?_⟩
    have hJ3:∀ w2,Hp w'.heap W w2→J ρ2 ((List.range (c+1)).filter s.has) w2:=fun w2 hw2=>by
     rw [hsplit]
     exact hJa ρ2 ρ2 _ w' w2 hJ2 (Le.refl _) (fun b o h=>.inl h) (fun b _=>by rw [hw2.heap]) (fun b o h=>by rw [hw2.heap];exact hJr _ _ _ hJ2 b o h) ⟨rfl,hw2.os.trans (hJp _ _ _ hJ2).os.symm,hw2.tape.trans (hJp _ _ _ hJ2).tape.symm,hw2.output.trans (hJp _ _ _ hJ2).output.symm⟩
    refine LI.all rfl (L.guard rfl rfl (L.pure (Pu.not rfl) rfl (L.pure (Pu.pickT rfl rfl) rfl (L.nil (N.normalA ?_))))) a' w' hf' (hJp _ _ _ hJ2)
    refine N.then_normal (N.wp (C.ff rfl (C.skip (N.block_normal (N.then_normal (N.wp (C.region (L.pure (Pu.addI rfl rfl (by omega)) rfl (L.pure (Pu.move rfl) rfl (L.nil (N.then_normal ?_)))))))))))
    refine N.round (n:=fun _=>⟨20,[]⟩) (c+1) ?_ ?_ ?_
    ·exact ⟨by omega,hJ3⟩
    ·omega
    ·exact (by repeat (first|exact trivial|refine Sub.cons rfl ?_))
   ·refine ⟨_,rfl,hJxp _ hJ2,fun a' hf'=>?_⟩
    have hJ3:∀ w2,Hp w'.heap W w2→Jx w2:=fun w2 hw2 =>
     hJx w' w2 hJ2 hw2.heap ⟨rfl,hw2.os.trans (hJxp _ hJ2).os.symm,hw2.tape.trans (hJxp _ hJ2).tape.symm,hw2.output.trans (hJxp _ hJ2).output.symm⟩
    refine LI.all rfl (L.guard rfl rfl (L.pure (Pu.not rfl) rfl (L.pure (Pu.pickT rfl rfl) rfl (L.nil (N.normalA ?_))))) a' w' hf' (hJxp _ hJ2)
    refine N.then_normal (N.wp (C.tt rfl (C.ret (N.block_ret (N.then_ret (N.then_ret (N.block_ret ?_)))))))
    exact fun a w hf hw=>⟨hf.defers,.tuple #[],by simp [results,show (Tryz.f60).results=#[] from rfl],_,rfl,.inr (hJ3 w hw)⟩
theorem bytesD_lt {s:SetD}{c:Nat} (h:c∈bytesD s):c<256:=List.mem_range.1 (List.mem_filter.1 h).1
section
variable {ro:Ro}{own r:Chs}{K:Value→Ro→Chs→Prop}{g:Chunk→Chs}
end
end Go.Proofs.YtficlekgjbnniaaGreatDoor
end
section
namespace Go.E
open Go
section
variable {κ ν:Type}{kv:κ→Value}{vv:ν→Value}
theorem nodup_inj {α β:Type}{f:α→β}:∀ {l:List α},(l.map f).Nodup→∀ p∈l,∀ q∈l,f p=f q→p=q
 | x::l,h,p,hp,q,hq,e=>by
   rw [List.map_cons,List.nodup_cons] at h
   rcases List.mem_cons.1 hp with e1|hp
   ·rcases List.mem_cons.1 hq with e2|hq
    ·rw [e1,e2]
    ·rw [e1] at e;exact absurd (List.mem_map.2 ⟨q,hq,e.symm⟩) h.1
   ·rcases List.mem_cons.1 hq with e2|hq
    ·rw [e2] at e;exact absurd (List.mem_map.2 ⟨p,hp,e⟩) h.1
    ·exact nodup_inj h.2 p hp q hq e
structure BornOk (l:List (κ × ν × Nat)) (c:Nat):Prop where
 nodup:(l.map (·.2.2)).Nodup
 lt:∀ p∈l,p.2.2<c
theorem BornOk.nil:BornOk ([]:List (κ × ν × Nat)) 0:=⟨List.nodup_nil,fun p h=>by cases h⟩
theorem BornOk.set {l:List (κ × ν × Nat)}{c:Nat} (h:BornOk l c) {j:Nat}{q:κ × ν × Nat} (hj:l[j]?=some q) (k:κ) (v:ν):BornOk (l.set j (k,v,q.2.2)) c:=by
 have e:(l.set j (k,v,q.2.2)).map (·.2.2)=l.map (·.2.2):=by
  rw [List.map_set]
  apply List.ext_getElem?
  intro i
  by_cases hi:j=i
  ·subst hi
   obtain ⟨h1,h2⟩:=List.getElem?_eq_some_iff.1 hj
   rw [List.getElem?_set_self (by simpa using h1),List.getElem?_map,hj];rfl
  ·rw [List.getElem?_set_ne hi]
 refine ⟨by rw [e];exact h.nodup,fun p hp=>?_⟩
 have hm:p.2.2∈(l.set j (k,v,q.2.2)).map (·.2.2):=List.mem_map.2 ⟨p,hp,rfl⟩
 rw [e] at hm
 obtain ⟨p',hp',e'⟩:=List.mem_map.1 hm
 rw [←e'];exact h.lt p' hp'
theorem BornOk.snoc {l:List (κ × ν × Nat)}{c:Nat} (h:BornOk l c) (k:κ) (v:ν):BornOk (l++[(k,v,c)]) (c+1):=by
 refine ⟨?_,fun p hp=>?_⟩
 ·rw [List.map_append,List.nodup_append]
  refine ⟨h.nodup,by simp,fun x hx y hy=>?_⟩
  obtain ⟨p,hp,rfl⟩:=List.mem_map.1 hx
  simp at hy
  have:=h.lt p hp
  omega
 ·rcases List.mem_append.1 hp with hp|hp
  ·have:=h.lt p hp;omega
  ·simp at hp;subst hp;exact Nat.lt_succ_self _
end
section
variable {P:Program}{T:TT} [hT:TTab P T] {ty:TypeId}{env:Env}{ro:Ro}{own:Chs}{K:Value→Ro→Chs→Prop}{κ ν:Type}{kv:κ→Value}{vv:ν→Value}
abbrev iterO (bm c:Nat) (S:List (κ × ν × Nat)):Obj:=.mapIter (some bm) c (S.map (·.2.2)).toArray c
theorem OpOk.rangeG {t kt et:TypeId}{x:Operand}{bm c:Nat}{l:List (κ × ν × Nat)}{f:Chunk→Chs} (hx:ev env x=some (.map (some bm))) (ht:P.underlying t=some (.map kt et)) [hb:HasObj own bm (mapG kv vv l c) f]
  (hk:∀ b,K (.pointer (some ⟨b,0,none⟩)) ro (.obj b (iterO bm c ([]:List (κ × ν × Nat)))::own)):OpOk P (.range t x) ty env ro own K :=
 ⟨fun h hs d pos af g=>⟨fun ρ w hρ hw=>by
  have hg:h[bm]?=some (.map (l.map (entG kv vv)).toArray c):=(hb.repl (.obj 0 default)).get hs
  subst hw
  have hrun:=run_range_map (P:=P) w t kt et bm _ c ht hg
  refine ⟨.pointer (some ⟨w.heap.size,0,none⟩),{ w with heap:=w.heap.push (.mapIter (some bm) c #[] c) },.inl ?_,⟨rfl,rfl,rfl,rfl⟩,?_⟩
  ·simp [execOp,hρ _ _ hx,hrun,Result.andThen]
  ·obtain ⟨n1,n2,n3⟩:=newly_push w (.mapIter (some bm) c #[] c)
   exact ⟨ro,_,Le.refl _,hs.new (c':=.obj w.heap.size (iterO bm c ([]:List (κ × ν × Nat)))) n3 (by simp [Chunk.holds,hm,n2]) (by simp [Chunk.fp]) (by simp [Chunk.fp]),hk _⟩⟩⟩
theorem OpOk.nextG {x:Operand}{bi bm c:Nat}{l S:List (κ × ν × Nat)}{f g:Chunk→Chs} (hx:ev env x=some (.pointer (some ⟨bi,0,none⟩))) [hi:HasObj own bi (iterO bm c S) g] [hb:HasObj own bm (mapG kv vv l c) f] (hB:BornOk l c) (hS:∀ p∈S,p∈l)
  (hk0:(∀ p∈l,p∈S)→K (.tuple #[.bool false]) ro own) (hk1:∀ p∈l,p∉S→K (.tuple #[.bool true,kv p.1,vv p.2.1]) ro (g (.obj bi (iterO bm c (S++[p]))))):OpOk P (.next x false) ty env ro own K :=
 ⟨fun h hs d pos af gd=>⟨fun ρ w hρ hw=>by
  have hgi:h[bi]?=some (.mapIter (some bm) c (S.map (·.2.2)).toArray c):=(hi.repl (.obj 0 default)).get hs
  have hgm:h[bm]?=some (.map (l.map (entG kv vv)).toArray c):=(hb.repl (.obj 0 default)).get hs
  subst hw
  have hold:∀ e∈(l.map (entG kv vv)).toArray.toList,e.born<c:=fun e he=>by
   obtain ⟨p,hp,rfl⟩:=List.mem_map.1 (show e∈l.map (entG kv vv) from he)
   exact hB.lt p hp
  have hbn:∀ p∈l,p.2.2∈S.map (·.2.2)→p∈S:=fun p hp hm=>by
   obtain ⟨q,hq,e⟩:=List.mem_map.1 hm
   exact nodup_inj hB.nodup q (hS q hq) p hp e▸hq
  have hlt:bi<w.heap.size:=by
   rcases Nat.lt_or_ge bi w.heap.size with h|h
   ·exact h
   ·rw [Array.getElem?_eq_none h] at hgi;cases hgi
  have key:((∀ p∈l,p∈S)∧(Instr.next (.pointer (some ⟨bi,0,none⟩)) false ty).run P w=.ok (.tuple #[.bool false]) w) ∨
    ∃ p∈l,p∉S∧∃ w1:World,(w1=w∨w1=w.drew)∧(Instr.next (.pointer (some ⟨bi,0,none⟩)) false ty).run P w=.ok (.tuple #[.bool true,kv p.1,vv p.2.1]) { w1 with heap:=w1.heap.setIfInBounds bi (iterO bm c (S++[p])) }:=by
   simp only [Instr.next,getObj,Sem.run_bind,Sem.run,hgi,hgm,Result.andThen,next_test_false _ _ c c hold (Nat.le_refl _),Bool.false_eq_true,if_false]
   have hL:∀ e,e∈(Array.filter (fun e=>!(S.map (·.2.2)).toArray.contains e.born) (l.map (entG kv vv)).toArray).toList↔∃ p∈l,p∉S∧entG kv vv p=e:=fun e=>by
    simp only [Array.toList_filter,List.mem_filter,List.mem_map]
    constructor
    ·rintro ⟨⟨p,hp,rfl⟩,h2⟩
     refine ⟨p,hp,fun hm=>?_,rfl⟩
     simp [entG] at h2
     exact h2 p.1 p.2.1 hm
    ·rintro ⟨p,hp,hn,rfl⟩
     refine ⟨⟨p,hp,rfl⟩,?_⟩
     simp only [Bool.not_eq_true',List.contains_toArray,List.contains_iff_mem,Bool.eq_false_iff,ne_eq]
     exact fun hm=>hn (hbn p hp (by simpa [entG] using hm))
   generalize Array.filter (fun e=>!(S.map (·.2.2)).toArray.contains e.born) (l.map (entG kv vv)).toArray=L at hL ⊢
   have hLb:∀ e∈L.toList,e.born<c:=fun e he=>by
    obtain ⟨p,hp,_,rfl⟩:=(hL e).1 he
    exact hB.lt p hp
   have e1:L.filter (fun x=>decide (x.born<c))=L:=Array.filter_eq_self.2 (fun x hx=>by simpa using hLb x (by simpa using hx))
   have e2:L.filter (fun x=>decide (x.born ≥ c))=#[]:=by
    rw [Array.filter_eq_empty_iff]
    intro x hx
    have:=hLb x (by simpa using hx)
    simp
    omega
   simp only [e1,e2,Array.append_empty]
   by_cases h0:L.size=0
   ·left
    have:L=#[]:=Array.eq_empty_of_size_eq_zero h0
    subst this
    refine ⟨fun p hp=>Classical.byContradiction fun hn=>?_,?_⟩
    ·have:=(hL (entG kv vv p)).2 ⟨p,hp,hn,rfl⟩
     simp at this
    ·simp [choose,Sem.run,Question.forced]
   ·right
    have hne:L.isEmpty=false:=by simp [Array.isEmpty,h0]
    simp only [hne,Bool.false_eq_true,if_false,Array.empty_append,Array.size_map]
    have hch:∃ (j:Nat) (w1:World),j<L.size∧(w1=w∨w1=w.drew)∧(choose (Question.mapNext L.size)).run P w=.ok j w1:=by
     by_cases hf:L.size≤1
     ·exact ⟨0,w,by omega,.inl rfl,by simp [choose,Sem.run,Question.forced,hf]⟩
     ·exact ⟨_,w.drew,Nat.mod_lt _ (by omega),.inr rfl,by
       simp only [choose,Sem.run,Question.forced,decide_eq_true_eq,hf,if_false,Question.cut]
       rfl⟩
    obtain ⟨j,w1,hj,hal,hrun⟩:=hch
    obtain ⟨p,hp,hpn,hpe⟩:=(hL L[j]).1 (by simp)
    refine ⟨p,hp,hpn,w1,hal,?_⟩
    have hw1:w1.heap[bi]?=some (.mapIter (some bm) c (S.map (·.2.2)).toArray c):=by
     rcases hal with rfl|rfl
     ·exact hgi
     ·exact hgi
    have hset:∀ o':Obj,(setObj bi o').run P w1=.ok () { w1 with heap:=w1.heap.setIfInBounds bi o' }:=fun o'=>by
     simp only [setObj,Sem.run,hw1]
    simp only [hrun,Array.getElem?_map,Array.getElem?_eq_getElem hj,Option.map_some,Sem.run_bind,hset,Result.andThen,←hpe]
    simp [Sem.run,entG,iterO]
  rcases key with ⟨h1,h2⟩|⟨p,hp,hpn,w1,hal,hrun⟩
  ·exact ⟨.tuple #[.bool false],w,.inl (by simp [execOp,hρ _ _ hx,h2,Result.andThen]),Hp.self w,ro,own,Le.refl _,hs,hk0 h1⟩
  ·obtain ⟨r,p1,p2⟩:=(hi.repl (.obj bi (iterO bm c (S++[p])))).perm
   have hsat:=hs.perm p1
   have hw:w1.heap=w.heap:=by rcases hal with rfl|rfl<;>rfl
   refine ⟨.tuple #[.bool true,kv p.1,vv p.2.1],{ w1 with heap:=w1.heap.setIfInBounds bi (iterO bm c (S++[p])) },.inl (by simp [execOp,hρ _ _ hx,hrun,Result.andThen]),(by rcases hal with rfl|rfl<;>exact ⟨rfl,rfl,rfl,rfl⟩),ro,_,Le.refl _,(hsat.put (c':=.obj bi (iterO bm c (S++[p]))) (fun i _ hi=>?_) ?_ (fun k hk=>.inl hk) (by simp [Chunk.fp])).perm p2.symm,hk1 p hp hpn⟩
   ·have:bi≠i:=by simpa [Chunk.fp,eq_comm] using hi
    simp [Array.getElem?_setIfInBounds,this,hw]
   ·simp [Chunk.holds,hm,hlt,hw]⟩⟩
section
variable [DecidableEq κ] {ok:κ→Prop}
theorem OpOk.mapUpdateB {t kt et:TypeId}{x y z:Operand}{b c:Nat}{k:κ}{v:ν}{l:List (κ × ν × Nat)}{f:Chunk→Chs} (hx:ev env x=some (.map (some b))) (hy:ev env y=some (kv k)) (hz:ev env z=some (vv v)) (ht:P.underlying t=some (.map kt et))
  (E:KeyEnc P kt kv ok) (hmo:MapOk ok l) (hkk:ok k) [hb:HasObj own b (mapG kv vv l c) f] (hB:BornOk l c) (hk:∀ c',BornOk (putG l c k v) c'→K undef ro (f (.obj b (mapG kv vv (putG l c k v) c')))):OpOk P (.mapUpdate t x y z) ty env ro own K :=
 ⟨fun h hs d pos af g=>⟨fun ρ w hρ hw=>by
  have hg:h[b]?=some (.map (l.map (entG kv vv)).toArray c):=(hb.repl (.obj 0 default)).get hs
  subst hw
  have hc:=fun em=>E.check k hkk w em
  have hst:=E.stays k hkk w
  have key:∃ c',BornOk (putG l c k v) c'∧(execOp ρ ⟨d,.mapUpdate t x y z,ty,pos,af,g⟩).run P w=.ok .skip { w with heap:=w.heap.setIfInBounds b (mapG kv vv (putG l c k v) c') }:=by
   rcases E.find (vv:=vv) hmo hkk w with ⟨h1,h2,h3⟩|⟨j,q,h1,h2,h3,h4,h5⟩
   ·refine ⟨c+1,by rw [h3];exact hB.snoc k v,?_⟩
    have e:mapG kv vv (putG l c k v) (c+1)=.map ((l.map (entG kv vv)).toArray.push { key:=kv k,val:=vv v,born:=c }) (c+1):=by
     rw [h3];simp [mapG,entG]
    rw [e]
    simp [execOp,hρ _ _ hx,hρ _ _ hy,hρ _ _ hz,Instr.mapUpdate,run_underlying ht,MapKept.run_getObj_map hg,MapKept.run_setObj_map _ hg,hc,h1,Result.andThen]
   ·refine ⟨c,by rw [h5];exact hB.set h2 k v,?_⟩
    have hj:(l.map (entG kv vv)).toArray[j]?=some (entG kv vv q):=by simp [h2]
    have e:mapG kv vv (putG l c k v) c=.map ((l.map (entG kv vv)).toArray.modify j fun e=>{ e with key:=kv k,val:=vv v }) c:=by
     rw [h5]
     refine congrArg (fun z=>Obj.map z c) ?_
     apply Array.ext'
     rw [Array.toList_modify]
     apply List.ext_getElem?
     intro i
     by_cases hij:j=i
     ·subst hij
      have hlt:j<l.length:=(List.getElem?_eq_some_iff.1 h2).1
      have hq:=(List.getElem?_eq_some_iff.1 h2).2
      simp [List.getElem?_set,hlt,List.getElem?_modify,entG,hq]
     ·simp [List.getElem?_set,hij,List.getElem?_modify]
    rw [e]
    have hq:(entG kv vv q).key=kv k:=by rw [←h3];rfl
    simp [execOp,hρ _ _ hx,hρ _ _ hy,hρ _ _ hz,Instr.mapUpdate,run_underlying ht,MapKept.run_getObj_map hg,MapKept.run_setObj_map _ hg,hc,h1,Result.andThen,h2,hq,hst]
  obtain ⟨c',hBc,key⟩:=key
  obtain ⟨r,p1,p2⟩:=(hb.repl (.obj b (mapG kv vv (putG l c k v) c'))).perm
  have hsat:=hs.perm p1
  have hlt:b<w.heap.size:=by
   rcases Nat.lt_or_ge b w.heap.size with h|h
   ·exact h
   ·rw [Array.getElem?_eq_none h] at hg;cases hg
  refine ⟨undef,_,.inr ⟨key,rfl⟩,⟨rfl,rfl,rfl,rfl⟩,ro,_,Le.refl _,(hsat.put (c':=.obj b (mapG kv vv (putG l c k v) c')) (fun i _ hi=>?_) ?_ (fun k hk=>.inl hk) (by simp [Chunk.fp])).perm p2.symm,hk c' hBc⟩
  ·have:b≠i:=by simpa [Chunk.fp,eq_comm] using hi
   simp [Array.getElem?_setIfInBounds,this]
  ·simp [Chunk.holds,hm,hlt]⟩⟩
end
end
theorem keyLits_int {P:Program}{t:TypeId}{q:IntKind} (d:Nat) (hu:P.underlying t=some (.int q)) {z:Int} (hw:(Lit.int q z).wf=true):P.keyLits (d+1) t [.int q z]=some [.int q z]:=by
 unfold Program.keyLits
 rw [hu]
 dsimp only
 rw [if_pos ⟨rfl,hw⟩]
theorem keyLits_two {P:Program}{k e:TypeId}{q:IntKind} (d:Nat) (hk:P.underlying k=some (.array 2 e)) (he:P.underlying e=some (.int q)) (c1:P.cellsOf e=1) (c2:P.cellsOf k=2) {x y:Int} (hx:(Lit.int q x).wf=true) (hy:(Lit.int q y).wf=true) :
  P.keyLits (d+1+1) k [.int q x,.int q y]=some [.int q x,.int q y]:=by
 unfold Program.keyLits
 rw [hk]
 dsimp only
 rw [if_pos (by rw [c2];rfl),c1,show List.range 2=[0,1] from rfl]
 have e1:=keyLits_int d he hx
 have e2:=keyLits_int d he hy
 simp [List.mapM_cons,e1,e2]
theorem keyLits_pair {P : Program} {k e : TypeId} {q : IntKind} {f1 f2 : Field} (d : Nat) (hk : P.underlying k = some (.struct #[f1, f2])) (hn : (#[f1, f2] : Array Field).all (·.name != "_") = true) (o1 : f1.offset = 0) (o2 : f2.offset = 1) (t1 : f1.type = e) (t2 : f2.type = e)
  (he:P.underlying e=some (.int q)) (c1:P.cellsOf e=1) (c2:P.cellsOf k=2) {x y:Int} (hx:(Lit.int q x).wf=true) (hy:(Lit.int q y).wf=true) :
  P.keyLits (d+1+1) k [.int q x,.int q y]=some [.int q x,.int q y]:=by
 unfold Program.keyLits
 rw [hk]
 dsimp only
 rw [if_pos ⟨by rw [c2];rfl,hn⟩]
 have e1:=keyLits_int d he hx
 have e2:=keyLits_int d he hy
 simp [List.mapM_cons,o1,o2,t1,t2,c1,e1,e2]
theorem KeyEnc.two {P:Program}{k e:TypeId}{q:IntKind} (law:WideMaps.KeyLaw P k) (hkt:P.keyType k=true) (hp:0<P.types.size) (hk:P.underlying k=some (.array 2 e)) (he:P.underlying e=some (.int q)) (c1:P.cellsOf e=1) (c2:P.cellsOf k=2) :
  KeyEnc P k (fun p:Int × Int=>.agg #[.int q p.1,.int q p.2]) (fun p=>(Lit.int q p.1).wf=true∧(Lit.int q p.2).wf=true):=KeyEnc.ofLaw law
 (fun p h=>by
  obtain ⟨d,hd⟩:∃ d,P.types.size+1=d+1+1:=⟨P.types.size-1,by omega⟩
  have hl:=keyLits_two d hk he c1 c2 h.1 h.2
  rw [←hd] at hl
  unfold keyOf
  rw [hk]
  dsimp only
  rw [if_pos (by
   rw [Bool.and_eq_true]
   refine ⟨hkt,?_⟩
   unfold Value.formed
   rw [hk]
   dsimp only
   rw [c2];rfl)]
  rw [show (Value.agg #[.int q p.1,.int q p.2]).cells.toList=[.int q p.1,.int q p.2] from rfl,hl]
  exact ⟨_,rfl⟩)
 (fun a b h=>by
  obtain ⟨a1,a2⟩:=a
  obtain ⟨b1,b2⟩:=b
  simp at h
  rw [h.1,h.2])
theorem KeyEnc.pair {P : Program} {k e : TypeId} {q : IntKind} {f1 f2 : Field} (law : WideMaps.KeyLaw P k) (hkt : P.keyType k = true) (hp : 0 < P.types.size) (hk : P.underlying k = some (.struct #[f1, f2])) (hn : (#[f1, f2] : Array Field).all (·.name != "_") = true) (o1 : f1.offset = 0) (o2 : f2.offset = 1) (t1 : f1.type = e) (t2 : f2.type = e)
  (he:P.underlying e=some (.int q)) (c1:P.cellsOf e=1) (c2:P.cellsOf k=2) :
  KeyEnc P k (fun p:Int × Int=>.agg #[.int q p.1,.int q p.2]) (fun p=>(Lit.int q p.1).wf=true∧(Lit.int q p.2).wf=true):=KeyEnc.ofLaw law
 (fun p h=>by
  obtain ⟨d,hd⟩:∃ d,P.types.size+1=d+1+1:=⟨P.types.size-1,by omega⟩
  have hl:=keyLits_pair d hk hn o1 o2 t1 t2 he c1 c2 h.1 h.2
  rw [←hd] at hl
  unfold keyOf
  rw [hk]
  dsimp only
  rw [if_pos (by
   rw [Bool.and_eq_true]
   refine ⟨hkt,?_⟩
   unfold Value.formed
   rw [hk]
   dsimp only
   rw [c2];rfl)]
  rw [show (Value.agg #[.int q p.1,.int q p.2]).cells.toList=[.int q p.1,.int q p.2] from rfl,hl]
  exact ⟨_,rfl⟩)
 (fun a b h=>by
  obtain ⟨a1,a2⟩:=a
  obtain ⟨b1,b2⟩:=b
  simp at h
  rw [h.1,h.2])
theorem Repl.app (G:Chs) {l:Chs}{c x:Chunk}{l':Chs} (h:Repl l c x l'):Repl (G++l) c x (G++l'):=by
 induction G with
 | nil=>exact h
 | cons y G ih=>exact .miss y ih
instance HasBlk.app (G l:Chs) (b:Nat) (t:TypeId) (cs:List Value) (f:Chunk→Chs) [h:HasBlk l b t cs f]:HasBlk (G++l) b t cs (fun x=>G++f x):=⟨fun x=>(h.repl x).app G⟩
instance HasSl.app (G l:Chs) (a:Option Addr) (n c:Nat) (t:TypeId) (s:Nat) (cs:List Value) (f:Chunk→Chs) [h:HasSl l a n c t s cs f]:HasSl (G++l) a n c t s cs (fun x=>G++f x):=⟨fun x=>(h.repl x).app G⟩
end Go.E
namespace Go.Proofs.YtficlekgjbnniaaGreatDoor
open Go Go.E
def edgeV (x:EdgeD):List Value:=[.int .i64 (x.to:Int),wV x.set.a,wV x.set.b,wV x.set.c,wV x.set.d,.bool x.free]
def edgesV:List EdgeD→List Value
 | []=>[]
 | x::r=>edgeV x++edgesV r
theorem edgesV_len:∀ (l:List EdgeD),(edgesV l).length=l.length*6
 | []=>rfl
 | x::r=>by rw [edgesV,List.length_append,edgesV_len r,List.length_cons];simp [edgeV];omega
theorem edgesV_app:∀ (l m:List EdgeD),edgesV (l++m)=edgesV l++edgesV m
 | [],m=>rfl
 | x::l,m=>by rw [List.cons_append,edgesV,edgesV,edgesV_app l m,List.append_assoc]
theorem edgesV_snoc (l:List EdgeD) (x:EdgeD):edgesV (l++[x])=edgesV l++edgeV x:=by
 rw [edgesV_app,edgesV,edgesV,List.append_nil]
theorem edgesV_drop:∀ (l:List EdgeD) (i:Nat) (x:EdgeD),l[i]?=some x→((edgesV l).drop (i*6)).take 6=edgeV x
 | [],i,x,h=>by simp at h
 | y::l,0,x,h=>by simp at h;subst h;rfl
 | y::l,i+1,x,h=>by
   have ih:=edgesV_drop l i x (by simpa using h)
   rw [edgesV,show (i+1)*6=(edgeV y).length+i*6 by show _=6+i*6;omega,←List.drop_drop,List.drop_left]
   exact ih
abbrev RowM:=(Option Addr × Nat) × List EdgeD
def hdrV (r:RowM):Value:=.slice r.1.1 r.2.length r.1.2
def rowC (r:RowM):Chunk:=.sl r.1.1 r.2.length r.1.2 122 6 (edgesV r.2)
def rowsOf (R:List RowM):RowsN:=R.map (·.2)
abbrev mkC (q:Nat) (a:Option Addr) (c:Nat) (e:Int) (full:Bool) (R:List RowM) (r:Chs):Chs :=
 .blk q 99 [.slice a R.length c,.int .i64 e,.bool full]::.sl a R.length c 127 1 (R.map hdrV)::(R.map rowC++r)
theorem mk_in (x:Chunk) (q:Nat) (a:Option Addr) (c:Nat) (e:Int) (full:Bool) (R:List RowM) (r:Chs):(x::mkC q a c e full R r).Perm (mkC q a c e full R (x::r)):=by
 unfold mkC
 refine (List.Perm.swap _ _ _).trans (((List.Perm.swap _ _ _).trans ?_).cons _)
 exact (List.perm_middle.symm).cons _
theorem rows_split {R:List RowM}{i:Nat}{x:RowM} (h:R[i]?=some x) (r:Chs):(R.map rowC++r).Perm (rowC x::((R.take i++R.drop (i+1)).map rowC++r)):=by
 obtain ⟨hi,hx⟩:=List.getElem?_eq_some_iff.1 h
 have e:R=R.take i++x::R.drop (i+1):=by rw [←hx,←List.drop_eq_getElem_cons hi,List.take_append_drop]
 have e2:=congrArg (List.map rowC) e
 rw [List.map_append,List.map_cons] at e2
 rw [e2,List.map_append,List.append_assoc,List.append_assoc,List.cons_append]
 exact List.perm_middle
theorem rows_join {R:List RowM}{i:Nat} (hi:i<R.length) (y:RowM) (r:Chs):(rowC y::((R.take i++R.drop (i+1)).map rowC++r)).Perm ((R.set i y).map rowC++r):=by
 rw [List.set_eq_take_append_cons_drop,if_pos hi,List.map_append,List.map_append,List.map_cons,List.append_assoc,List.append_assoc,List.cons_append]
 exact List.perm_middle.symm
theorem rowsOf_set {R:List RowM}{i:Nat}{x:RowM} (h:R[i]?=some x) (a:Option Addr × Nat) (y:EdgeD) (full:Bool):rowsOf (R.set i (a,x.2++[y]))=(edgeN i y ⟨rowsOf R,full⟩).rows:=by
 unfold rowsOf edgeN
 dsimp only
 rw [List.map_set,List.getElem?_map,h];rfl
section
variable {ro:Ro}{own r:Chs}{K:Value→Ro→Chs→Prop}{g:Chunk→Chs}
theorem rows_snoc (R:List RowM) (r:Chs):((.sl none 0 0 122 6 []:Chunk)::(R.map rowC++r)).Perm ((R++[((none,0),[])]).map rowC++r):=by
 rw [List.map_append,List.append_assoc]
 exact List.perm_middle.symm
theorem nstate_ok {q c:Nat}{a:Option Addr}{e:Int}{full:Bool}{R:List RowM} (hR:R.length≤4096)
  (hk:∀ a' c' R',rowsOf R'=(stateN ⟨rowsOf R,full⟩).2.rows→K (.int .i64 ((stateN ⟨rowsOf R,full⟩).1:Int)) ro (mkC q a' c' e (stateN ⟨rowsOf R,full⟩).2.full R' r)) :
  CallOk Tryz.prog 55 #[ptr' q] ro (mkC q a c e full R r) K:=by
 have hlen:(rowsOf R).length=R.length:=by simp [rowsOf]
 have hL:(R.map hdrV).length=R.length:=by simp
 unfold stateN at hk
 dsimp only at hk
 rw [hlen] at hk
 unfold mkC
 by_cases h:R.length=4096
 ·rw [if_pos h] at hk
  refine CallOk.intro (args:=[_]) (rs:=[_]) T_ok Tryz.func55 Tryz.call55 rfl rfl (by kernel_rfl) rfl rfl ?_
  repeat first|exact zE|refine zP ?_|refine zB fun b=>?_|refine zC fun a' c' hc1 hc2=>?_|(apply GJ.a;exact rfl;intro hg)|(apply GJ.o;exact rfl;intro hg)
  exact Wk.outS Sup.z (.refl _) (hk a c R rfl)
 ·rw [if_neg h] at hk
  refine CallOk.intro (args:=[_]) (rs:=[_]) T_ok Tryz.func55 Tryz.call55 rfl rfl (by kernel_rfl) rfl rfl ?_
  repeat first|exact zE|refine zP ?_|refine zB fun b=>?_|refine zC fun a' c' hc1 hc2=>?_|(apply GJ.a;exact rfl;intro hg)|(apply GJ.o;exact rfl;intro hg)
  have hk2:=hk a' c' (R++[((none,0),[])]) (by simp [rowsOf])
  unfold mkC at hk2
  rw [List.length_append,List.map_append,show ([((none,0),[])]:List RowM).length=1 from rfl] at hk2
  dsimp only at hk2
  refine Wk.outE (own1:=.sl none 0 0 122 6 []::.blk q 99 [.slice a' (R.length+1) c',.int .i64 e,.bool full]::.sl a' (R.length+1) c' 127 1 (R.map hdrV++[.slice none 0 0])::(R.map rowC++r)) (Sup.nilc (Sup.all _)) ?_ hk2 (congrArg (Value.int .i64) (by omega))
  exact (List.Perm.swap _ _ _).trans (((List.Perm.swap _ _ _).trans ((rows_snoc R r).cons _)).cons _)
theorem nedge_ok {q c:Nat}{a:Option Addr}{e:Int}{full:Bool}{R:List RowM}{f:Nat}{x:EdgeD}{row:RowM} (hf:R[f]?=some row) (hl:row.2.length≤1000000) (hR:R.length≤4096)
  (hk:∀ R',rowsOf R'=(edgeN f x ⟨rowsOf R,full⟩).rows→R'.length=R.length→K (.tuple #[]) ro (mkC q a c e full R' r)) :
  CallOk Tryz.prog 70 #[ptr' q,.int .i64 (f:Int),.agg (edgeV x).toArray] ro (mkC q a c e full R r) K:=by
 have hL:(R.map hdrV).length=R.length:=by simp
 have hfl:=(List.getElem?_eq_some_iff.1 hf).1
 have hE:=edgesV_len row.2
 have hgf:(R.map hdrV)[f]?=some (hdrV row):=by rw [List.getElem?_map,hf];rfl
 obtain ⟨⟨ra,rc⟩,rl⟩:=row
 unfold mkC
 refine CallOk.perm (((rows_split hf r).cons _).cons _) ?_
 unfold rowC hdrV at *
 dsimp only at *
 have hrow:R[((f:Nat):Int).toNat]! = ((ra,rc),rl):=by rw [Int.toNat_natCast,getElem!_def,hf]
 have hfl2:flat [Value.agg (Value.agg (edgeV x).toArray).cells.toList.toArray]=edgeV x:=by show _++[]=_;rw [List.append_nil];rfl
 refine CallOk.intro (args:=[_,_,_]) (rs:=[]) T_ok Tryz.func70 Tryz.call70 rfl rfl (by kernel_rfl) rfl rfl ?_
 repeat (first|exact zE|refine wkT ?_|refine zB (fun b=>?_)|refine zC (fun a' c' hc1 hc2=>?_)|(apply GJ.a;exact rfl;intro hg)|(apply GJ.o;exact rfl;intro hg))
 obtain ⟨bx,hbx⟩:∃ z:Nat,z=b:=⟨_,rfl⟩
 subst hbx
 refine Bs.mk ⟨[.blk bx 122 (Value.agg (edgeV x).toArray).cells.toList,.blk q 99 [.slice a R.length c,.int .i64 e,.bool full],.sl a R.length c 127 1 (R.map fun r=>.slice r.1.1 r.2.length r.1.2)],Sup.z,?_⟩
 repeat (first|exact zE|refine wkU ?_|(show QOk _ _ _ _ _ _ _;refine QOk.build rfl rfl Nf.auto ?_)|(show GJ _ _ _ _ _ _ _;first|with_reducible refine GJ.neF ?_|with_reducible refine GJ.neT ?_)|(show Br _ _ _;with_reducible refine Br.ne ?_)|refine zB (fun b=>?_)|refine zC (fun a' c' hc1 hc2=>?_)|(apply GJ.a;exact rfl;intro hg)|(apply GJ.o;exact rfl;intro hg))
 rw [hrow]
 dsimp only
 repeat (first|exact zE|refine wkU ?_|(show QOk _ _ _ _ _ _ _;refine QOk.build rfl rfl Nf.auto ?_)|(show GJ _ _ _ _ _ _ _;first|with_reducible refine GJ.neF ?_|with_reducible refine GJ.neT ?_)|(show Br _ _ _;with_reducible refine Br.ne ?_)|refine zB (fun b=>?_)|refine zC (fun a' c' hc1 hc2=>?_)|(apply GJ.a;exact rfl;intro hg)|(apply GJ.o;exact rfl;intro hg))
 rw [Int.toNat_natCast]
 refine OpOk.storeSl (k:=f) rfl rfl rfl rfl (by rw [hL];exact hfl) ?_
 repeat (first|exact zE|refine wkU ?_|(show QOk _ _ _ _ _ _ _;refine QOk.build rfl rfl Nf.auto ?_)|(show GJ _ _ _ _ _ _ _;first|with_reducible refine GJ.neF ?_|with_reducible refine GJ.neT ?_)|(show Br _ _ _;with_reducible refine Br.ne ?_)|refine zB (fun b=>?_)|refine zC (fun a' c' hc1 hc2=>?_)|(apply GJ.a;exact rfl;intro hg)|(apply GJ.o;exact rfl;intro hg))
 rw [hfl2,←edgesV_snoc,show rl.length+1=(rl++[x]).length by simp]
 have hk2:=hk (R.set f ((a',c'),rl++[x])) (rowsOf_set hf (a',c') x full) (by simp)
 unfold mkC at hk2
 rw [List.length_set,List.map_set] at hk2
 refine Wk.outS (own1:=.blk q 99 [.slice a R.length c,.int .i64 e,.bool full]::.sl a R.length c 127 1 ((R.map hdrV).set f (hdrV ((a',c'),rl++[x])))::rowC ((a',c'),rl++[x])::((R.take f++R.drop (f+1)).map rowC++r)) (Sup.drop _ (Sup.all _)) (((rows_join hfl ((a',c'),rl++[x]) r).cons _).cons _) hk2
end
def budN (st:StD):Nat:=edgesN st+4*(4096-st.rows.length)
def stM (R:List RowM) (full:Bool):StD:=⟨rowsOf R,full⟩
theorem stM_len (R:List RowM) (full:Bool):(stM R full).rows.length=R.length:=by simp [stM,rowsOf]
theorem stM_eq {R:List RowM}{st:StD} (h:rowsOf R=st.rows):stM R st.full=st:=by unfold stM;rw [h]
theorem row_ofM {R:List RowM}{full:Bool}{f:Nat}{row:RowM} (h:R[f]?=some row):row.2.length≤edgesN (stM R full):=by
 refine row_edges (f:=f) ?_
 unfold stM rowsOf
 rw [List.getElem?_map,h];rfl
theorem bud_state (st:StD) (h:StOk st):budN (stateN st).2≤budN st∧((stateN st).2.full=false→budN (stateN st).2+4≤budN st):=by
 have h1:=edges_state st
 have h2:=state_len st
 have h3:=h.le
 unfold budN
 refine ⟨by rw [h1,h2];split<;>omega,fun hf=>?_⟩
 rw [state_full] at hf
 split at hf
 ·cases hf
 ·rename_i h4
  rw [h1,h2,if_neg h4];omega
theorem bud_edge (f:Nat) (x:EdgeD) (st:StD):budN (edgeN f x st)≤budN st+1:=by
 have h1:=edges_edge f x st
 have h2:=edge_len f x st
 unfold budN;rw [h2];omega
theorem bud_made {c s:Nat}{st:StD}{p:Nat × StD} (h:Made c s st p):budN p.2≤budN st+4*s∧(p.2.full=false→budN p.2≤budN st):=by
 have h1:=h.grow
 have h2:=h.ok.le
 unfold budN
 exact ⟨by have:=h.edges1;omega,fun hf=>by have:=h.edges0 hf;omega⟩
structure NodeC (n:RgD):Prop where
 run:∀ {ro:Ro}{r:Chs}{K:Value→Ro→Chs→Prop}{q c f:Nat}{a:Option Addr}{e:Int}{full:Bool}{R:List RowM}{v:List Value},RgOk ro n v→wrongD n=0→StOk (stM R full)→f<R.length→(full=true∨budN (stM R full)+4*sizeD n≤900000) →
  (∀ a' c' R',rowsOf R'=(nodeN n f (stM R full)).2.rows→K (.int .i64 ((nodeN n f (stM R full)).1:Int)) ro (mkC q a' c' e (nodeN n f (stM R full)).2.full R' r)) →
  CallOk Tryz.prog 56 #[ptr' q,.agg v.toArray,.int .i64 (f:Int)] ro (mkC q a c e full R r) K
section
variable {ro:Ro}{own r:Chs}{K:Value→Ro→Chs→Prop}{g:Chunk→Chs}
theorem nstate_st {q c:Nat}{a:Option Addr}{e:Int}{full:Bool}{R:List RowM} (ho:StOk (stM R full))
  (hk:∀ a' c' R',stM R' (stateN (stM R full)).2.full=(stateN (stM R full)).2→K (.int .i64 ((stateN (stM R full)).1:Int)) ro (mkC q a' c' e (stateN (stM R full)).2.full R' r)) :
  CallOk Tryz.prog 55 #[ptr' q] ro (mkC q a c e full R r) K :=
 nstate_ok (by have:=ho.le;rw [stM_len] at this;exact this) fun a' c' R' h=>hk a' c' R' (stM_eq h)
theorem nedge_st {q c:Nat}{a:Option Addr}{e:Int}{full:Bool}{R:List RowM}{f:Nat}{x:EdgeD} (ho:StOk (stM R full)) (hf:f<R.length) (hb:budN (stM R full)≤1000000)
  (hk:∀ R',stM R' full=edgeN f x (stM R full)→K (.tuple #[]) ro (mkC q a c e full R' r)) :
  CallOk Tryz.prog 70 #[ptr' q,.int .i64 (f:Int),.agg (edgeV x).toArray] ro (mkC q a c e full R r) K:=by
 obtain ⟨row,hr⟩:∃ row,R[f]?=some row:=⟨_,List.getElem?_eq_getElem hf⟩
 refine nedge_ok hr ?_ (by have:=ho.le;rw [stM_len] at this;exact this) fun R' h1 h2=>hk R' ?_
 ·have:=row_ofM (full:=full) hr
  unfold budN at hb;omega
 ·have:=stM_eq h1
  exact this
theorem mk_in2 (x y:Chunk) (q:Nat) (a:Option Addr) (c:Nat) (e:Int) (full:Bool) (R:List RowM) (r:Chs):(x::y::mkC q a c e full R r).Perm (mkC q a c e full R (x::y::r)) :=
 ((mk_in y q a c e full R r).cons x).trans (mk_in x q a c e full R (y::r))
theorem dropN_cons {α:Type}{l:List α}{i:Nat}{x:α} (h:l[i]?=some x):l.drop i=x::l.drop (i+1):=by
 obtain ⟨h1,h2⟩:=List.getElem?_eq_some_iff.1 h
 rw [List.drop_eq_getElem_cons h1,h2]
theorem cat_cons (x:RgD) (l:List RgD) (f:Nat) (st:StD):catN (x::l) f st=catN l (nodeN x f st).1 (nodeN x f st).2:=by rw [catN]
theorem alt_cons (x:RgD) (l:List RgD) (f to:Nat) (st:StD):altN (x::l) f to st=altN l f to (altN [x] f to st):=by rw [altN,altN,altN]
theorem alt_one (x:RgD) (f to:Nat) (st:StD):altN [x] f to st=edgeN (nodeN x (stateN st).1 (edgeN f (freeE (stateN st).1) (stateN st).2)).1 (freeE to) (nodeN x (stateN st).1 (edgeN f (freeE (stateN st).1) (stateN st).2)).2:=by rw [altN,altN]
theorem rep_min (F:NodeF) (k f:Nat) (st:StD) (h:st.full=false):minN F (k+1) f st=minN F k (F f st).1 (F f st).2:=by rw [minN,if_neg (by rw [h];decide)]
theorem rep_full (F:NodeF) (k f:Nat) (st:StD) (h:st.full=true):minN F (k+1) f st=(true,0,st):=by rw [minN,if_pos h]
theorem rep_max (F:NodeF) (to k f:Nat) (st:StD) (h:st.full=false):maxN F to (k+1) f st=maxN F to k (oneN F to f st).1 (oneN F to f st).2:=by rw [maxN,if_neg (by rw [h];decide)]
theorem rep_maxF (F:NodeF) (to k f:Nat) (st:StD) (h:st.full=true):maxN F to (k+1) f st=(true,0,st):=by rw [maxN,if_pos h]
set_option maxHeartbeats 16000000 in
theorem nrepeat_ok {x:RgD} (ih:NodeC x) {q c f:Nat}{a:Option Addr}{e:Int}{R:List RowM}{z:SetD}{mn mx:Int}{ad:Option Addr}{cp:Nat}{v:List Value} (hrs:Rs ro ad 1 cp 8 v) (hvv:RgOk ro x v) (hw:wrongD x=0) (h:¬(mn<0∨256<mn∨256<mx∨(0≤mx∧mx<mn)))
  (ho:StOk (stM R false)) (hf:f<R.length) (hb:budN (stM R false)+4*sizeD x+4≤900000)
  (hk:∀ a' c' R',rowsOf R'=(repeatN (nodeN x) mn mx f (stM R false)).2.rows→K (.int .i64 ((repeatN (nodeN x) mn mx f (stM R false)).1:Int)) ro (mkC q a' c' e (repeatN (nodeN x) mn mx f (stM R false)).2.full R' r)) :
  CallOk Tryz.prog 71 #[ptr' q,.agg (nodeV 5 z ad 1 cp mn mx).toArray,.int .i64 (f:Int)] ro (mkC q a c e false R r) K:=by
 have hM:=made_node x hw
 obtain ⟨ak,ck,hvk⟩:=hvv.cells
 have hvk0:(v.drop 0).take 8=nodeV x.kind x.set ak x.kids.length ck x.min x.max:=by rw [hvk];rfl
 rw [hvk] at hvv
 have hRl:=stM_len R false
 unfold repeatN at hk
 obtain ⟨n,hn⟩:∃ n:Nat,mn=(n:Int):=⟨mn.toNat,by omega⟩
 have hmn:mn.toNat=n:=by omega
 rw [hmn] at hk
 refine CallOk.intro (args:=[_,_,_]) (rs:=[_]) T_ok Tryz.func71 Tryz.call71 rfl rfl (by kernel_rfl) rfl rfl ?_
 repeat first|exact zE|refine zP ?_|refine zB fun b=>?_|refine zC fun a' c' hc1 hc2=>?_|(apply GJ.a;exact rfl;intro hg)|(apply GJ.o;exact rfl;intro hg)
 obtain ⟨bN,hbN⟩:∃ z:Nat,z=b:=⟨_,rfl⟩
 subst hbN
 refine LoopOk.at (ι:=Nat × Nat × List RowM × Bool × Option Addr × Nat) Keep.z (fun (i,fi,R2,u2,a2,c2)=>[(12,.int .i64 (i:Int)),(2,.int .i64 (fi:Int))]) (fun (i,fi,R2,u2,a2,c2)=>.blk bN 26 (nodeV 5 z ad 1 cp mn mx)::mkC q a2 c2 e u2 R2 r) (fun (i,fi,R2,u2,a2,c2)=>i≤n∧minN (nodeN x) n f (stM R false)=minN (nodeN x) (n-i) fi (stM R2 u2)∧StOk (stM R2 u2)∧fi<R2.length∧budN (stM R2 u2)≤budN (stM R false)+4*sizeD x∧(u2=false→budN (stM R2 u2)≤budN (stM R false))) (fun (i,fi,R2,u2,a2,c2)=>n-i) (0,f,R,false,a,c) ?_ Sub.z Sup.z ?_
 ·exact ⟨Nat.zero_le _,rfl,ho,hf,by omega,fun _=>Nat.le_refl _⟩
 rintro ⟨i,fi,R2,u2,a2,c2⟩ ⟨i1,i2,i3,i4,i5,i6⟩
 dsimp only [List.cons_append,List.nil_append] at i1 i2 i3 i4 i5 i6 ⊢
 have hR2:=stM_len R2 u2
 by_cases hi:i<n
 ·rw [show n-i=(n-(i+1))+1 by omega] at i2
  cases u2 with
  | true =>
    rw [rep_full _ _ _ _ rfl] at i2
    rw [i2] at hk
    repeat first|exact zE|refine zP ?_|refine zB fun b=>?_|refine zC fun a' c' hc1 hc2=>?_|(apply GJ.a;exact rfl;intro hg)|(apply GJ.o;exact rfl;intro hg)
    exact Wk.own _ (Sup.drop _ (Sup.all _)) (Wk.id (hk a2 c2 R2 rfl))
  | false =>
    rw [rep_min _ _ _ _ rfl] at i2
    have hmd:=(hM fi (stM R2 false) i3 (by omega)).1
    have hbd:=bud_made hmd
    have i6:=i6 rfl
    repeat first|exact zE|refine zP ?_|refine zB fun b=>?_|refine zC fun a' c' hc1 hc2=>?_|(apply GJ.a;exact rfl;intro hg)|(apply GJ.o;exact rfl;intro hg)
    refine OpOk.loadRow rfl rfl (LdN.at (k:=0) hrs hvk0) rfl ?_
    repeat first|exact zE|refine zP ?_|refine zB fun b=>?_|refine zC fun a' c' hc1 hc2=>?_|(apply GJ.a;exact rfl;intro hg)|(apply GJ.o;exact rfl;intro hg)
    refine CallOk.perm (mk_in _ _ _ _ _ _ _ _) ?_
    refine ih.run hvv hw i3 i4 (.inr (by omega)) (fun a3 c3 R3 h3=>?_)
    have e3:=stM_eq h3
    generalize nodeN x fi (stM R2 false)=p at *
    have hlt:=hmd.lt
    have l3:R3.length=p.2.rows.length:=by rw [←e3,stM_len]
    repeat first|exact zE|refine zP ?_|refine zB fun b=>?_|refine zC fun a' c' hc1 hc2=>?_|(apply GJ.a;exact rfl;intro hg)|(apply GJ.o;exact rfl;intro hg)
    refine Wk.perm (mk_in _ _ _ _ _ _ _ _).symm ?_
    refine Wk.id ⟨(i+1,p.1,R3,p.2.full,a3,c3),⟨rfl,?_⟩,?_,Sub.z,Sup.z⟩
    all_goals try dsimp only
    ·exact ⟨by omega,by rw [e3];exact i2,by rw [e3];exact hmd.ok,by omega,by rw [e3];omega,fun hu=>by rw [e3];have:=hbd.2 hu;omega⟩
    ·omega
 ·obtain rfl:i=n:=by omega
  rw [Nat.sub_self,minN] at i2
  rw [i2] at hk
  dsimp only at hk
  repeat first|exact zE|refine zP ?_|refine zB fun b=>?_|refine zC fun a' c' hc1 hc2=>?_|(apply GJ.a;exact rfl;intro hg)|(apply GJ.o;exact rfl;intro hg)
  refine CallOk.perm (mk_in _ _ _ _ _ _ _ _) ?_
  refine nstate_st i3 (fun a0 c0 R0 h0=>?_)
  have m0:=made_state i3
  have d0:=(bud_state _ i3).1
  have d1:=(bud_state _ i3).2
  have k0:=m0.keep
  have g0:=m0.grow
  have t0:=m0.lt
  have o0:=m0.ok
  generalize stateN (stM R2 u2)=p0 at *
  have l0:R0.length=p0.2.rows.length:=by rw [←h0,stM_len]
  by_cases hmx:mx<0
  ·rw [if_pos hmx] at hk
   unfold loopN at hk
   dsimp only at hk
   repeat first|exact zE|refine zP ?_|refine zB fun b=>?_|refine zC fun a' c' hc1 hc2=>?_|(apply GJ.a;exact rfl;intro hg)|(apply GJ.o;exact rfl;intro hg)
   refine nstate_st (by rw [h0];exact o0) (fun a3 c3 R3 h3=>?_)
   rw [h0] at h3
   rw [h0]
   have m1:=made_state o0
   have t1:=m1.lt
   have b1:=(bud_state _ o0).1
   have b2:=(bud_state _ o0).2
   have k1:=m1.keep
   have g1:=m1.grow
   have o1:=m1.ok
   generalize stateN p0.2=p1 at *
   have l3:R3.length=p1.2.rows.length:=by rw [←h3,stM_len]
   repeat first|exact zE|refine zP ?_|refine zB fun b=>?_|refine zC fun a' c' hc1 hc2=>?_|(apply GJ.a;exact rfl;intro hg)|(apply GJ.o;exact rfl;intro hg)
   refine nedge_st (x:=freeE p1.1) (by rw [h3];exact o1) (by omega) (by rw [h3];omega) (fun R4 h4=>?_)
   rw [h3] at h4
   have o2:StOk (edgeN fi (freeE p1.1) p1.2):=o1.edge t1
   have e2:=edge_len fi (freeE p1.1) p1.2
   have b3:=bud_edge fi (freeE p1.1) p1.2
   have u3:=edge_full fi (freeE p1.1) p1.2
   generalize edgeN fi (freeE p1.1) p1.2=s2 at *
   have l4:R4.length=s2.rows.length:=by rw [←h4,stM_len]
   repeat first|exact zE|refine zP ?_|refine zB fun b=>?_|refine zC fun a' c' hc1 hc2=>?_|(apply GJ.a;exact rfl;intro hg)|(apply GJ.o;exact rfl;intro hg)
   refine nedge_st (x:=freeE p0.1) (by rw [h4];exact o2) (by omega) (by rw [h4];omega) (fun R5 h5=>?_)
   rw [h4] at h5
   have o3:StOk (edgeN p1.1 (freeE p0.1) s2):=o2.edge (show p0.1<s2.rows.length by omega)
   have e3:=edge_len p1.1 (freeE p0.1) s2
   have b4:=bud_edge p1.1 (freeE p0.1) s2
   have u4:=edge_full p1.1 (freeE p0.1) s2
   generalize edgeN p1.1 (freeE p0.1) s2=s3 at *
   have l5:R5.length=s3.rows.length:=by rw [←h5,stM_len]
   have hmd:=(hM p1.1 s3 o3 (by omega)).1
   have hmd2:=(hM p1.1 s3 o3 (by omega)).2
   have hmb:=bud_made hmd
   repeat first|exact zE|refine zP ?_|refine zB fun b=>?_|refine zC fun a' c' hc1 hc2=>?_|(apply GJ.a;exact rfl;intro hg)|(apply GJ.o;exact rfl;intro hg)
   refine OpOk.loadRow rfl rfl (LdN.at (k:=0) hrs hvk0) rfl ?_
   repeat first|exact zE|refine zP ?_|refine zB fun b=>?_|refine zC fun a' c' hc1 hc2=>?_|(apply GJ.a;exact rfl;intro hg)|(apply GJ.o;exact rfl;intro hg)
   refine ih.run hvv hw (by rw [h5];exact o3) (by omega) (by
    rw [h5]
    cases hu:p1.2.full with
    | true=>exact .inl rfl
    | false =>
      have hu0:p0.2.full=false:=by cases hh:p0.2.full with
       | false=>rfl
       | true=>rw [k1 hh] at hu;cases hu
      have hu2:u2=false:=by cases hh:u2 with
       | false=>rfl
       | true=>have:=k0 hh;rw [this] at hu0;cases hu0
      have:=b2 hu;have:=d1 hu0;have:=i6 hu2
      exact .inr (by omega)) (fun a6 c6 R6 h6=>?_)
   rw [h5] at h6
   have e6:=stM_eq h6
   rw [h5]
   have hbb:budN (nodeN x p1.1 s3).2≤900000+100:=by
    cases hu:s3.full with
    | true =>
      have h1:=hmd2 hu
      have h2:=hmd.grow
      have h3:=full_len o3 hmd.ok h2 hu
      unfold budN at *;omega
    | false =>
      have hu1:p1.2.full=false:=by rw [←u3,←u4];exact hu
      have hu0:p0.2.full=false:=by cases hh:p0.2.full with
       | false=>rfl
       | true=>rw [k1 hh] at hu1;cases hu1
      have hu2:u2=false:=by cases hh:u2 with
       | false=>rfl
       | true=>have:=k0 hh;rw [this] at hu0;cases hu0
      have:=b2 hu1;have:=d1 hu0;have:=i6 hu2
      omega
   generalize nodeN x p1.1 s3=p6 at *
   have l6:R6.length=p6.2.rows.length:=by rw [←e6,stM_len]
   have t6:=hmd.lt
   repeat first|exact zE|refine zP ?_|refine zB fun b=>?_|refine zC fun a' c' hc1 hc2=>?_|(apply GJ.a;exact rfl;intro hg)|(apply GJ.o;exact rfl;intro hg)
   refine nedge_st (x:=freeE p1.1) (by rw [e6];exact hmd.ok) (by omega) (by rw [e6];omega) (fun R7 h7=>?_)
   rw [e6] at h7
   repeat first|exact zE|refine zP ?_|refine zB fun b=>?_|refine zC fun a' c' hc1 hc2=>?_|(apply GJ.a;exact rfl;intro hg)|(apply GJ.o;exact rfl;intro hg)
   exact Wk.perm (mk_in _ _ _ _ _ _ _ _).symm (Wk.own _ (Sup.drop _ (Sup.all _)) (Wk.id (hk a6 c6 R7 (congrArg StD.rows h7))))
  ·rw [if_neg hmx] at hk
   obtain ⟨m,hm⟩:∃ m:Nat,mx-mn=(m:Int):=⟨(mx-mn).toNat,by omega⟩
   rw [hm,Int.toNat_natCast] at hk
   repeat first|exact zE|refine zP ?_|refine zB fun b=>?_|refine zC fun a' c' hc1 hc2=>?_|(apply GJ.a;exact rfl;intro hg)|(apply GJ.o;exact rfl;intro hg)
   rw [hm]
   refine LoopOk.at (ι:=Nat × Nat × List RowM × Bool × Option Addr × Nat) Keep.z (fun (j,fj,R3,u3,a3,c3)=>[(60,.int .i64 (j:Int)),(2,.int .i64 (fj:Int))]) (fun (j,fj,R3,u3,a3,c3)=>mkC q a3 c3 e u3 R3 (.blk bN 26 (nodeV 5 z ad 1 cp mn mx)::r)) (fun (j,fj,R3,u3,a3,c3)=>j≤m∧maxN (nodeN x) p0.1 m fi p0.2=maxN (nodeN x) p0.1 (m-j) fj (stM R3 u3)∧StOk (stM R3 u3)∧fj<R3.length∧p0.2.rows.length≤R3.length∧budN (stM R3 u3)≤budN (stM R false)+4*sizeD x+4∧(u3=false→budN (stM R3 u3)≤budN (stM R false))) (fun (j,fj,R3,u3,a3,c3)=>m-j) (0,fi,R0,p0.2.full,a0,c0) ?_ Sub.z Sup.z ?_
   ·exact ⟨Nat.zero_le _,by rw [h0];rfl,by rw [h0];exact o0,by omega,by omega,by rw [h0];omega,fun hu=>by
     rw [h0]
     have hu2:u2=false:=by cases hh:u2 with
      | false=>rfl
      | true=>have:=k0 hh;rw [this] at hu;cases hu
     have:=i6 hu2;omega⟩
   rintro ⟨j,fj,R3,u3,a3,c3⟩ ⟨j1,j2,j3,j4,j5,j6,j7⟩
   dsimp only [List.cons_append,List.nil_append] at j1 j2 j3 j4 j5 j6 j7 ⊢
   have hR3:=stM_len R3 u3
   by_cases hj:j<m
   ·rw [show m-j=(m-(j+1))+1 by omega] at j2
    cases u3 with
    | true =>
      rw [rep_maxF _ _ _ _ _ rfl] at j2
      rw [j2] at hk
      repeat first|exact zE|refine zP ?_|refine zB fun b=>?_|refine zC fun a' c' hc1 hc2=>?_|(apply GJ.a;exact rfl;intro hg)|(apply GJ.o;exact rfl;intro hg)
      exact Wk.perm (mk_in _ _ _ _ _ _ _ _).symm (Wk.own _ (Sup.drop _ (Sup.all _)) (Wk.id (hk a3 c3 R3 rfl)))
    | false =>
      rw [rep_max _ _ _ _ _ rfl] at j2
      have j7:=j7 rfl
      have hone:=MadeF.one hM (to:=p0.1) (f0:=fj) j3 (by omega) (by omega)
      have hbone:=bud_made hone
      have hoo:=hone.ok
      have hog:=hone.grow
      have hot:=hone.lt
      unfold oneN at j2 hbone hoo hog hot
      have q1:StOk (edgeN fj (freeE p0.1) (stM R3 false)):=j3.edge (show p0.1<(stM R3 false).rows.length by omega)
      have q2:=edge_len fj (freeE p0.1) (stM R3 false)
      have q3:=bud_edge fj (freeE p0.1) (stM R3 false)
      repeat first|exact zE|refine zP ?_|refine zB fun b=>?_|refine zC fun a' c' hc1 hc2=>?_|(apply GJ.a;exact rfl;intro hg)|(apply GJ.o;exact rfl;intro hg)
      refine nedge_st (x:=freeE p0.1) j3 (by omega) (by omega) (fun R4 h4=>?_)
      generalize edgeN fj (freeE p0.1) (stM R3 false)=s1 at *
      have l4:R4.length=s1.rows.length:=by rw [←h4,stM_len]
      repeat first|exact zE|refine zP ?_|refine zB fun b=>?_|refine zC fun a' c' hc1 hc2=>?_|(apply GJ.a;exact rfl;intro hg)|(apply GJ.o;exact rfl;intro hg)
      refine nstate_st (by rw [h4];exact q1) (fun a5 c5 R5 h5=>?_)
      rw [h4] at h5
      rw [h4]
      have m1:=made_state q1
      have t1:=m1.lt
      have b1:=(bud_state _ q1).1
      have b2:=(bud_state _ q1).2
      have g1:=m1.grow
      have o1:=m1.ok
      generalize stateN s1=p1 at *
      have l5:R5.length=p1.2.rows.length:=by rw [←h5,stM_len]
      repeat first|exact zE|refine zP ?_|refine zB fun b=>?_|refine zC fun a' c' hc1 hc2=>?_|(apply GJ.a;exact rfl;intro hg)|(apply GJ.o;exact rfl;intro hg)
      refine nedge_st (x:=freeE p1.1) (by rw [h5];exact o1) (by omega) (by rw [h5];omega) (fun R6 h6=>?_)
      rw [h5] at h6
      have o2:StOk (edgeN fj (freeE p1.1) p1.2):=o1.edge t1
      have e2:=edge_len fj (freeE p1.1) p1.2
      have b3:=bud_edge fj (freeE p1.1) p1.2
      have u4:=edge_full fj (freeE p1.1) p1.2
      generalize edgeN fj (freeE p1.1) p1.2=s2 at *
      have l6:R6.length=s2.rows.length:=by rw [←h6,stM_len]
      repeat first|exact zE|refine zP ?_|refine zB fun b=>?_|refine zC fun a' c' hc1 hc2=>?_|(apply GJ.a;exact rfl;intro hg)|(apply GJ.o;exact rfl;intro hg)
      refine OpOk.loadRow rfl rfl (LdN.at (k:=0) hrs hvk0) rfl ?_
      repeat first|exact zE|refine zP ?_|refine zB fun b=>?_|refine zC fun a' c' hc1 hc2=>?_|(apply GJ.a;exact rfl;intro hg)|(apply GJ.o;exact rfl;intro hg)
      refine ih.run hvv hw (by rw [h6];exact o2) (by omega) (by
       rw [h6]
       cases hu:p1.2.full with
       | true=>exact .inl rfl
       | false=>have:=b2 hu;exact .inr (by omega)) (fun a7 c7 R7 h7=>?_)
      rw [h6] at h7
      have e7:=stM_eq h7
      rw [h6]
      generalize nodeN x p1.1 s2=p7 at *
      have l7:R7.length=p7.2.rows.length:=by rw [←e7,stM_len]
      repeat first|exact zE|refine zP ?_|refine zB fun b=>?_|refine zC fun a' c' hc1 hc2=>?_|(apply GJ.a;exact rfl;intro hg)|(apply GJ.o;exact rfl;intro hg)
      refine Wk.id ⟨(j+1,p7.1,R7,p7.2.full,a7,c7),⟨rfl,?_⟩,?_,Sub.z,Sup.z⟩
      all_goals try dsimp only
      ·exact ⟨by omega,by rw [e7];exact j2,by rw [e7];exact hoo,by omega,by omega,by rw [e7];omega,fun hu=>by rw [e7];have:=hbone.2 hu;omega⟩
      ·omega
   ·obtain rfl:j=m:=by omega
    rw [Nat.sub_self,maxN] at j2
    rw [j2] at hk
    dsimp only at hk
    repeat first|exact zE|refine zP ?_|refine zB fun b=>?_|refine zC fun a' c' hc1 hc2=>?_|(apply GJ.a;exact rfl;intro hg)|(apply GJ.o;exact rfl;intro hg)
    refine nedge_st (x:=freeE p0.1) j3 (by omega) (by omega) (fun R4 h4=>?_)
    repeat first|exact zE|refine zP ?_|refine zB fun b=>?_|refine zC fun a' c' hc1 hc2=>?_|(apply GJ.a;exact rfl;intro hg)|(apply GJ.o;exact rfl;intro hg)
    exact Wk.perm (mk_in _ _ _ _ _ _ _ _).symm (Wk.own _ (Sup.drop _ (Sup.all _)) (Wk.id (hk a3 c3 R4 (congrArg StD.rows h4))))
set_option maxHeartbeats 8000000 in
theorem nodeC:∀ n,NodeC n:=RgD.ind fun k z l mn mx ih=>⟨fun {ro r K q c f a e full R v} hv hw ho hf hb hk=>by
 obtain ⟨hform,hkw⟩:=wrongD_parts hw
 have hF:=form_cases hform
 rw [RgOk] at hv
 obtain ⟨ad,cp,cs,rfl,hs,hrs,hks⟩:=hv
 have hle:=hrs.le
 have hmx:=hrs.max
 unfold maxLen at hmx
 have hRl:=stM_len R full
 rw [nodeN] at hk
 dsimp only at hk
 cases full with
 | true =>
   rw [if_pos (show (stM R true).full=true from rfl)] at hk
   refine CallOk.intro (args:=[_,_,_]) (rs:=[_]) T_ok Tryz.func56 Tryz.call56 rfl rfl (by kernel_rfl) rfl rfl ?_
   repeat first|exact zE|refine zP ?_|refine zB fun b=>?_|refine zC fun a' c' hc1 hc2=>?_|(apply GJ.a;exact rfl;intro hg)|(apply GJ.o;exact rfl;intro hg)
   exact Wk.outS Sup.z (.refl _) (hk a c R rfl)
 | false =>
   rw [if_neg (show ¬(stM R false).full=true from (by intro h;cases h))] at hk
   have hb:budN (stM R false)+4*(sizeK l+1)≤900000:=by
    rcases hb with hb|hb
    ·cases hb
    ·rw [sizeD] at hb;exact hb
   cases hF with
   | none s a1 b1 =>
     rw [if_neg (by decide),if_neg (by decide),if_neg (by decide),if_neg (by decide)] at hk
     refine CallOk.intro (args:=[_,_,_]) (rs:=[_]) T_ok Tryz.func56 Tryz.call56 rfl rfl (by kernel_rfl) rfl rfl ?_
     repeat first|exact zE|refine zP ?_|refine zB fun b=>?_|refine zC fun a' c' hc1 hc2=>?_|(apply GJ.a;exact rfl;intro hg)|(apply GJ.o;exact rfl;intro hg)
     exact Wk.outS Sup.z (.refl _) (hk a c R rfl)
   | one s a1 b1 h =>
     rw [if_pos rfl] at hk
     refine CallOk.intro (args:=[_,_,_]) (rs:=[_]) T_ok Tryz.func56 Tryz.call56 rfl rfl (by kernel_rfl) rfl rfl ?_
     repeat first|exact zE|refine zP ?_|refine zB fun b=>?_|refine zC fun a' c' hc1 hc2=>?_|(apply GJ.a;exact rfl;intro hg)|(apply GJ.o;exact rfl;intro hg)
     refine CallOk.perm (mk_in _ _ _ _ _ _ _ _) ?_
     refine nstate_st ho (fun a2 c2 R2 h2=>?_)
     have m1:=made_state ho
     have b1:=(bud_state _ ho).1
     generalize stateN (stM R false)=p at *
     have o2:StOk (stM R2 p.2.full):=by rw [h2];exact m1.ok
     have l2:R2.length=p.2.rows.length:=by rw [←h2,stM_len]
     have g2:=m1.grow
     repeat first|exact zE|refine zP ?_|refine zB fun b=>?_|refine zC fun a' c' hc1 hc2=>?_|(apply GJ.a;exact rfl;intro hg)|(apply GJ.o;exact rfl;intro hg)
     refine nedge_st (x:=setE p.1 z) o2 (by omega) (by rw [h2];omega) (fun R3 h3=>?_)
     repeat first|exact zE|refine zP ?_|refine zB fun b=>?_|refine zC fun a' c' hc1 hc2=>?_|(apply GJ.a;exact rfl;intro hg)|(apply GJ.o;exact rfl;intro hg)
     rw [h2] at h3
     exact Wk.perm (mk_in _ _ _ _ _ _ _ _).symm (Wk.own _ (Sup.drop _ (Sup.all _)) (Wk.id (hk a2 c2 R3 (congrArg StD.rows h3))))
   | cat s x y l a1 b1 =>
     rw [if_neg (by decide),if_pos rfl] at hk
     generalize x::y::l=l at *
     refine CallOk.intro (args:=[_,_,_]) (rs:=[_]) T_ok Tryz.func56 Tryz.call56 rfl rfl (by kernel_rfl) rfl rfl ?_
     repeat first|exact zE|refine zP ?_|refine zB fun b=>?_|refine zC fun a' c' hc1 hc2=>?_|(apply GJ.a;exact rfl;intro hg)|(apply GJ.o;exact rfl;intro hg)
     obtain ⟨bN,hbN⟩:∃ z:Nat,z=b:=⟨_,rfl⟩
     subst hbN
     refine LoopOk.at (ι:=Nat × Nat × List RowM × Bool × Option Addr × Nat) Keep.z (fun (i,fi,R2,u2,a2,c2)=>[(37,.int .i64 (i:Int)),(2,.int .i64 (fi:Int))]) (fun (i,fi,R2,u2,a2,c2)=>.blk bN 26 (nodeV 3 z ad l.length cp mn mx)::mkC q a2 c2 e u2 R2 r) (fun (i,fi,R2,u2,a2,c2)=>i≤l.length∧catN l f (stM R false)=catN (l.drop i) fi (stM R2 u2)∧StOk (stM R2 u2)∧fi<R2.length∧budN (stM R2 u2)+4*sizeK (l.drop i)≤900000) (fun (i,fi,R2,u2,a2,c2)=>l.length-i) (0,f,R,false,a,c) ?_ Sub.z Sup.z ?_
     ·exact ⟨Nat.zero_le _,by simp,ho,hf,by rw [List.drop_zero];omega⟩
     rintro ⟨i,fi,R2,u2,a2,c2⟩ ⟨i1,i2,i3,i4,i5⟩
     dsimp only [List.cons_append,List.nil_append] at i1 i2 i3 i4 i5 ⊢
     by_cases hi:i<l.length
     ·obtain ⟨kd,hkd⟩:∃ kd,l[i]?=some kd:=⟨_,List.getElem?_eq_getElem hi⟩
      have hmk:=List.mem_of_getElem? hkd
      have hvv:=hks.get hkd
      obtain ⟨ak,ck,hvk⟩:=hvv.cells
      rw [hvk] at hvv
      rw [dropN_cons hkd,cat_cons] at i2
      rw [dropN_cons hkd,sizeK] at i5
      have hwk:=wrongK_all hkw kd hmk
      have hmd:=(made_node kd hwk fi (stM R2 u2) i3 (by rw [stM_len];exact i4)).1
      have hbd:=(bud_made hmd).1
      repeat first|exact zE|refine zP ?_|refine zB fun b=>?_|refine zC fun a' c' hc1 hc2=>?_|(apply GJ.a;exact rfl;intro hg)|(apply GJ.o;exact rfl;intro hg)
      rw [Int.toNat_natCast]
      refine OpOk.loadRow rfl rfl (LdN.at hrs hvk) rfl ?_
      repeat first|exact zE|refine zP ?_|refine zB fun b=>?_|refine zC fun a' c' hc1 hc2=>?_|(apply GJ.a;exact rfl;intro hg)|(apply GJ.o;exact rfl;intro hg)
      refine CallOk.perm (mk_in2 _ _ _ _ _ _ _ _ _) ?_
      refine (ih kd hmk).run hvv hwk i3 i4 (.inr (by omega)) (fun a3 c3 R3 h3=>?_)
      have e3:=stM_eq h3
      generalize nodeN kd fi (stM R2 u2)=p at *
      have hlt:=hmd.lt
      have l3:R3.length=p.2.rows.length:=by rw [←e3,stM_len]
      repeat first|exact zE|refine zP ?_|refine zB fun b=>?_|refine zC fun a' c' hc1 hc2=>?_|(apply GJ.a;exact rfl;intro hg)|(apply GJ.o;exact rfl;intro hg)
      refine Wk.perm (mk_in2 _ _ _ _ _ _ _ _ _).symm ?_
      refine Wk.id ⟨(i+1,p.1,R3,p.2.full,a3,c3),⟨rfl,?_⟩,?_,Sub.z,Sup.z⟩
      all_goals try dsimp only
      ·exact ⟨by omega,by rw [e3];exact i2,by rw [e3];exact hmd.ok,by omega,by rw [e3];omega⟩
      ·omega
     ·obtain rfl:i=l.length:=by omega
      rw [List.drop_length,catN] at i2
      rw [i2] at hk
      repeat first|exact zE|refine zP ?_|refine zB fun b=>?_|refine zC fun a' c' hc1 hc2=>?_|(apply GJ.a;exact rfl;intro hg)|(apply GJ.o;exact rfl;intro hg)
      exact Wk.own _ (Sup.drop _ (Sup.all _)) (Wk.id (hk a2 c2 R2 rfl))
   | alt s x y l a1 b1 =>
     rw [if_neg (by decide),if_neg (by decide),if_pos rfl] at hk
     generalize x::y::l=l at *
     refine CallOk.intro (args:=[_,_,_]) (rs:=[_]) T_ok Tryz.func56 Tryz.call56 rfl rfl (by kernel_rfl) rfl rfl ?_
     repeat first|exact zE|refine zP ?_|refine zB fun b=>?_|refine zC fun a' c' hc1 hc2=>?_|(apply GJ.a;exact rfl;intro hg)|(apply GJ.o;exact rfl;intro hg)
     obtain ⟨bN,hbN⟩:∃ z:Nat,z=b:=⟨_,rfl⟩
     subst hbN
     refine CallOk.perm (mk_in _ _ _ _ _ _ _ _) ?_
     refine nstate_st ho (fun a0 c0 R0 h0=>?_)
     have m0:=made_state ho
     have d0:=(bud_state _ ho).1
     have g0:=m0.grow
     have t0:=m0.lt
     have o0:=m0.ok
     generalize stateN (stM R false)=p0 at *
     have l0:R0.length=p0.2.rows.length:=by rw [←h0,stM_len]
     repeat first|exact zE|refine zP ?_|refine zB fun b=>?_|refine zC fun a' c' hc1 hc2=>?_|(apply GJ.a;exact rfl;intro hg)|(apply GJ.o;exact rfl;intro hg)
     refine LoopOk.at (ι:=Nat × List RowM × Bool × Option Addr × Nat) Keep.z (fun (i,R2,u2,a2,c2)=>[(54,.int .i64 (i:Int))]) (fun (i,R2,u2,a2,c2)=>mkC q a2 c2 e u2 R2 (.blk bN 26 (nodeV 4 z ad l.length cp mn mx)::r)) (fun (i,R2,u2,a2,c2)=>i≤l.length∧altN l f p0.1 p0.2=altN (l.drop i) f p0.1 (stM R2 u2)∧StOk (stM R2 u2)∧p0.2.rows.length≤R2.length∧budN (stM R2 u2)+4*sizeK (l.drop i)≤900000) (fun (i,R2,u2,a2,c2)=>l.length-i) (0,R0,p0.2.full,a0,c0) ?_ Sub.z Sup.z ?_
     ·exact ⟨Nat.zero_le _,by rw [h0];simp,by rw [h0];exact o0,by omega,by rw [List.drop_zero,h0];omega⟩
     rintro ⟨i,R2,u2,a2,c2⟩ ⟨i1,i2,i3,i4,i5⟩
     dsimp only [List.cons_append,List.nil_append] at i1 i2 i3 i4 i5 ⊢
     have hR2:=stM_len R2 u2
     by_cases hi:i<l.length
     ·obtain ⟨kd,hkd⟩:∃ kd,l[i]?=some kd:=⟨_,List.getElem?_eq_getElem hi⟩
      have hmk:=List.mem_of_getElem? hkd
      have hvv:=hks.get hkd
      obtain ⟨ak,ck,hvk⟩:=hvv.cells
      rw [hvk] at hvv
      rw [dropN_cons hkd,alt_cons] at i2
      rw [dropN_cons hkd,sizeK] at i5
      have hwk:=wrongK_all hkw kd hmk
      have hsz:=sizeD_pos kd
      have hone:=made_alt [kd] (fun y hy=>by rw [List.mem_singleton.1 hy];exact made_node kd hwk) f p0.1 (stM R2 u2) i3 (by omega) (by omega)
      have hbone:=(bud_made hone).1
      rw [sizeK,sizeK] at hbone
      have hoo:=hone.ok
      have hog:=hone.grow
      rw [alt_one] at i2 hbone hoo hog
      dsimp only at hbone hoo hog
      have m1:=made_state i3
      have t1:=m1.lt
      have b1:=(bud_state _ i3).1
      have b2:=(bud_state _ i3).2
      have g1:=m1.grow
      repeat first|exact zE|refine zP ?_|refine zB fun b=>?_|refine zC fun a' c' hc1 hc2=>?_|(apply GJ.a;exact rfl;intro hg)|(apply GJ.o;exact rfl;intro hg)
      rw [Int.toNat_natCast]
      refine OpOk.loadRow rfl rfl (LdN.at hrs hvk) rfl ?_
      repeat first|exact zE|refine zP ?_|refine zB fun b=>?_|refine zC fun a' c' hc1 hc2=>?_|(apply GJ.a;exact rfl;intro hg)|(apply GJ.o;exact rfl;intro hg)
      refine CallOk.perm (mk_in _ _ _ _ _ _ _ _) ?_
      refine nstate_st i3 (fun a3 c3 R3 h3=>?_)
      have o1:=m1.ok
      generalize stateN (stM R2 u2)=p1 at *
      have l3:R3.length=p1.2.rows.length:=by rw [←h3,stM_len]
      repeat first|exact zE|refine zP ?_|refine zB fun b=>?_|refine zC fun a' c' hc1 hc2=>?_|(apply GJ.a;exact rfl;intro hg)|(apply GJ.o;exact rfl;intro hg)
      refine nedge_st (x:=freeE p1.1) (by rw [h3];exact o1) (by omega) (by rw [h3];omega) (fun R4 h4=>?_)
      rw [h3] at h4
      have o2:StOk (edgeN f (freeE p1.1) p1.2):=o1.edge t1
      have e2:=edge_len f (freeE p1.1) p1.2
      have b3:=bud_edge f (freeE p1.1) p1.2
      have u3:=edge_full f (freeE p1.1) p1.2
      generalize edgeN f (freeE p1.1) p1.2=s2 at *
      have l4:R4.length=s2.rows.length:=by rw [←h4,stM_len]
      have hmd:=(made_node kd hwk p1.1 s2 o2 (by omega)).1
      have hmb:=bud_made hmd
      repeat first|exact zE|refine zP ?_|refine zB fun b=>?_|refine zC fun a' c' hc1 hc2=>?_|(apply GJ.a;exact rfl;intro hg)|(apply GJ.o;exact rfl;intro hg)
      refine (ih kd hmk).run hvv hwk (by rw [h4];exact o2) (by omega) (by
       rw [h4]
       cases hu:p1.2.full with
       | true=>exact .inl rfl
       | false=>have:=b2 hu;exact .inr (by omega)) (fun a5 c5 R5 h5=>?_)
      rw [h4] at h5
      have e5:=stM_eq h5
      rw [h4]
      generalize nodeN kd p1.1 s2=p5 at *
      have l5:R5.length=p5.2.rows.length:=by rw [←e5,stM_len]
      have g5:=hmd.grow
      have t5:=hmd.lt
      repeat first|exact zE|refine zP ?_|refine zB fun b=>?_|refine zC fun a' c' hc1 hc2=>?_|(apply GJ.a;exact rfl;intro hg)|(apply GJ.o;exact rfl;intro hg)
      refine nedge_st (x:=freeE p0.1) (by rw [e5];exact hmd.ok) (by omega) (by rw [e5];omega) (fun R6 h6=>?_)
      rw [e5] at h6
      have e6:=edge_len p5.1 (freeE p0.1) p5.2
      repeat first|exact zE|refine zP ?_|refine zB fun b=>?_|refine zC fun a' c' hc1 hc2=>?_|(apply GJ.a;exact rfl;intro hg)|(apply GJ.o;exact rfl;intro hg)
      refine Wk.perm (mk_in _ _ _ _ _ _ _ _).symm ?_
      have l6:R6.length=R5.length:=by have:=congrArg (fun st:StD=>st.rows.length) h6;rw [stM_len,e6] at this;omega
      refine Wk.id ⟨(i+1,R6,p5.2.full,a5,c5),⟨rfl,?_⟩,?_,Sub.z,Sup.z⟩
      all_goals try dsimp only
      ·exact ⟨by omega,by rw [h6];exact i2,by rw [h6];exact hoo,by omega,by rw [h6];omega⟩
      ·omega
     ·obtain rfl:i=l.length:=by omega
      rw [List.drop_length,altN] at i2
      rw [i2] at hk
      repeat first|exact zE|refine zP ?_|refine zB fun b=>?_|refine zC fun a' c' hc1 hc2=>?_|(apply GJ.a;exact rfl;intro hg)|(apply GJ.o;exact rfl;intro hg)
      exact Wk.perm (mk_in _ _ _ _ _ _ _ _).symm (Wk.own _ (Sup.drop _ (Sup.all _)) (Wk.id (hk a2 c2 R2 rfl)))
   | rep s x a1 b1 h =>
     rw [if_neg (by decide),if_neg (by decide),if_neg (by decide),if_pos rfl] at hk
     have hkid:kidN [x]=nodeN x:=by rw [kidN]
     rw [hkid] at hk
     have hk1:=RgsOk.single hks
     have hsk:sizeK [x]=sizeD x:=by simp [sizeK]
     have hb2:budN (stM R false)+4*sizeD x+4≤900000:=by
      rcases hb with h|h
      ·cases h
      ·rw [sizeD,hsk] at h;omega
     refine CallOk.intro (args:=[_,_,_]) (rs:=[_]) T_ok Tryz.func56 Tryz.call56 rfl rfl (by kernel_rfl) rfl rfl ?_
     repeat first|exact zE|refine zP ?_|refine zB fun b=>?_|refine zC fun a' c' hc1 hc2=>?_|(apply GJ.a;exact rfl;intro hg)|(apply GJ.o;exact rfl;intro hg)
     refine CallOk.perm (mk_in _ _ _ _ _ _ _ _) ?_
     refine nrepeat_ok (ih x (List.mem_singleton.2 rfl)) hrs hk1 (wrongK_all (l:=[x]) hkw x (List.mem_singleton.2 rfl)) h ho hf hb2 (fun a2 c2 R2 h2=>?_)
     repeat first|exact zE|refine zP ?_|refine zB fun b=>?_|refine zC fun a' c' hc1 hc2=>?_|(apply GJ.a;exact rfl;intro hg)|(apply GJ.o;exact rfl;intro hg)
     exact Wk.perm (mk_in _ _ _ _ _ _ _ _).symm (Wk.own _ (Sup.drop _ (Sup.all _)) (Wk.id (hk a2 c2 R2 h2)))⟩
end
end Go.Proofs.YtficlekgjbnniaaGreatDoor
end
