/- Texts of a walk, one behind the other. -/
import Derived.Test.YtnapjcnfgdkmcaaGreatDoorMg10
set_option linter.unusedVariables false
set_option linter.unusedSimpArgs false
set_option linter.unusedSectionVars false
set_option maxRecDepth 10000
section
namespace Go.Proofs.YtnapjcnfgdkmcaaGreatDoor
open Go Go.E
structure CopyM (M S M2:List (List UInt8 × (Nat × Nat) × Nat)) (c2:Nat):Prop where
 map:MapOk (fun l:List UInt8=>l.length≤maxLen) M2
 born:BornOk M2 c2
 is:∀ nm,getG M2 nm=if nm∈S.map (·.1) then getG M nm else none
theorem CopyM.nil (M:List (List UInt8 × (Nat × Nat) × Nat)):CopyM M [] [] 0:=⟨MapOk.nil,BornOk.nil,fun nm=>by simp [getG]⟩
theorem CopyM.put {M S M2:List (List UInt8 × (Nat × Nat) × Nat)}{c2 c3:Nat} (h:CopyM M S M2 c2) {p:List UInt8 × (Nat × Nat) × Nat} (hm:MapOk (fun l:List UInt8=>l.length≤maxLen) M) (hp:p∈M) (hB:BornOk (putG M2 c2 p.1 p.2.1) c3):CopyM M (S++[p]) (putG M2 c2 p.1 p.2.1) c3:=by
 refine ⟨h.map.put (hm.all p hp) c2 _,hB,fun nm=>?_⟩
 rw [zBF]
 by_cases hn:nm=p.1
 ·subst hn
  obtain ⟨j,hj⟩:=List.getElem?_of_mem hp
  rw [if_pos rfl,if_pos (by simp),(Go.E.get_at hm.nodup hj).1]
 ·rw [if_neg hn,h.is,List.map_append,List.map_singleton]
  by_cases h2:nm∈S.map (·.1)
  ·rw [if_pos h2,if_pos (List.mem_append.2 (.inl h2))]
  ·rw [if_neg h2,if_neg (fun hh=>by rcases List.mem_append.1 hh with h3|h3;exact h2 h3;exact hn (List.mem_singleton.1 h3))]
theorem CopyM.all {M S M2:List (List UInt8 × (Nat × Nat) × Nat)}{c2:Nat} (h:CopyM M S M2 c2) (ha:∀ p∈M,p∈S) (nm:List UInt8):getG M2 nm=getG M nm:=by
 rw [h.is]
 by_cases hn:nm∈S.map (·.1)
 ·rw [if_pos hn]
 ·rw [if_neg hn]
  have:=(Go.E.get_none (l:=M) (k:=nm) (fun p hp e=>hn (List.mem_map.2 ⟨p,ha p hp,e⟩))).1
  exact this.symm
theorem MpIs.put {s:zAd}{m:MpL}{M:List (List UInt8 × (Nat × Nat) × Nat)}{c c2:Nat} (h:MpIs s m M c) {nm:List UInt8} (hl:nm.length≤maxLen) {r f:Nat}{d:zAh} (hd:s.nodes[r]?=some d) (hf:f<d.fields.length) (hB:BornOk (putG M c nm (r,f)) c2):MpIs s (putM m nm r f) (putG M c nm (r,f)) c2:=by
 refine ⟨h.map.put hl c _,hB,fun x=>?_,fun x r2 f2 hx=>?_⟩
 ·rw [zBF,h.is];rfl
 ·unfold putM at hx
  split at hx
  ·cases hx;exact ⟨d,hd,hf⟩
  ·exact h.inn x r2 f2 hx
section
variable {ro:Ro}{own:Chs}{K:Value→Ro→Chs→Prop}{s:zAd}{a:zAp}
def LookC (s:zAd) (a:zAp) (ro:Ro) (n:Nat):Prop:=∀ (i:Nat) (mo:Option Nat) (m:MpL) (M:List (List UInt8 × (Nat × Nat) × Nat)) (c:Nat) (G:Chs) (K:Value→Ro→Chs→Prop),i<n→i<s.nodes.length→MoOk mo M c→MpIs s m M c→K (.int .i64 (zAH s n i m)) ro (G++moC str plV mo M c) →
 CallOk Tryz.prog 36 #[.agg (zAf s a).toArray,.int .i64 (i:Int),.map mo] ro (G++moC str plV mo M c) K
set_option maxHeartbeats 16000000 in
theorem llook_ok (ho:SpecOk ro s a) (hc:zAo s=0) (hT:TextIn s) (hR:∀ d∈s.nodes,d.reg.length≤maxLen∧d.ereg.length≤maxLen):∀ n,LookC s a ro n:=by
 intro n
 induction n with
 | zero=>intro i _ _ _ _ _ _ h;omega
 | succ n ih =>
   intro i mo m M c G K hin hil hmo hM hk
   have hv:=Ahead.of hc
   have hcl:(Value.agg (zAf s a).toArray).cells.toList=zAf s a:=rfl
   have hr1:=ho.nodes
   have hm:=hr1.max
   have hnc:=hr1.le
   unfold maxLen at hm
   obtain ⟨d,hd⟩:∃ d,s.nodes[i]?=some d:=⟨_,List.getElem?_eq_getElem hil⟩
   obtain ⟨x,hx⟩:∃ x,a.xs[i]?=some x:=⟨_,List.getElem?_eq_getElem (by rw [ho.len];exact hil)⟩
   have hn1:=ho.each i d x hd hx
   have hdr:=zAj _ _ _ _ _ hd hx
   have hfr:=hn1.fields
   have hfm:=hfr.max
   have hfl:=hfr.le
   unfold maxLen at hfm
   obtain ⟨hfo,hks⟩:=hv i d hd
   have hsm:=zAI hfo
   have hL:=hR d (List.mem_of_getElem? hd)
   unfold zAH at hk
   rw [Int.toNat_natCast,hd] at hk
   dsimp only at hk
   generalize hlv:moC str plV mo M c=Q at *
   have ihQ:∀ (i':Nat) (G':Chs) (K':Value→Ro→Chs→Prop),i'<n→i'<s.nodes.length→K' (.int .i64 (zAH s n i' m)) ro (G'++Q)→CallOk Tryz.prog 36 #[.agg (zAf s a).toArray,.int .i64 (i':Int),.map mo] ro (G'++Q) K':=fun i' G' K' h1 h2 h3=>by
    rw [←hlv] at h3 ⊢
    exact ih i' mo m M c G' K' h1 h2 hmo hM h3
   have hmm:∀ X,HasMo str plV (X++Q) mo M c:=fun X=>by rw [←hlv];exact HasMo.last hmo
   refine CallOk.intro (args:=[_,_,_]) (rs:=[_]) T_ok Tryz.func36 Tryz.call36 rfl rfl (by kernel_rfl) rfl rfl ?_
   repeat first|exact zE|refine zP ?_|refine zB fun b=>?_|refine zC fun a' c' hc1 hc2=>?_|(apply GJ.a;exact rfl;intro hg)|(apply GJ.o;exact rfl;intro hg)
   obtain ⟨bS,hbS⟩:∃ z:Nat,z=b:=⟨_,rfl⟩
   subst hbS
   rw [hcl,Int.toNat_natCast]
   refine OpOk.loadRow rfl rfl (LdN.at hr1 hdr) rfl ?_
   repeat first|exact zE|refine zP ?_|refine zB fun b=>?_|refine zC fun a' c' hc1 hc2=>?_|(apply GJ.a;exact rfl;intro hg)|(apply GJ.o;exact rfl;intro hg)
   rename_i bN
   obtain ⟨bL,hbL⟩:∃ z:Nat,z=b:=⟨_,rfl⟩
   subst hbL
   have hrl:Rds ro (.sl (some ⟨bL,0,none⟩) 2 2 9 1 [str d.reg,str d.ereg]::.blk bN 40 (zAl d x)::.blk bS 25 (zAf s a)::(G++Q)) (some ⟨bL,0,none⟩) 2 2 1 [str d.reg,str d.ereg]:=Rds.hasSl (Nat.le_refl _) (by decide) rfl
   refine LoopOk.at (ι:=Nat) Keep.z (fun t=>[(35,.int .i64 (t:Int))]) (fun t=>.sl (some ⟨bL,0,none⟩) 2 2 9 1 [str d.reg,str d.ereg]::.blk bN 40 (zAl d x)::.blk bS 25 (zAf s a)::(G++Q)) (fun t=>t≤2∧(1≤t→oneL s m d.reg=true)∧(2≤t→oneL s m d.ereg=true)) (fun t=>2-t) 0 ?_ Sub.z Sup.z ?_
   ·exact ⟨Nat.zero_le _,fun h=>absurd h (by decide),fun h=>absurd h (by decide)⟩
   rintro t ⟨i1,i2,i3⟩
   dsimp only [List.cons_append,List.nil_append] at i1 i2 i3 ⊢
   have hmm1:=hmm (.sl (some ⟨bL,0,none⟩) 2 2 9 1 [str d.reg,str d.ereg]::.blk bN 40 (zAl d x)::.blk bS 25 (zAf s a)::G)
   rcases (by omega:t=0∨t=1∨t=2) with rfl|rfl|rfl
   ·repeat first|exact zE|refine zP ?_|refine zB fun b=>?_|refine zC fun a' c' hc1 hc2=>?_|(apply GJ.a;exact rfl;intro hg)|(apply GJ.o;exact rfl;intro hg)
    rw [Int.toNat_natCast]
    refine OpOk.load rfl rfl (Ld.atR hrl (k:=0) (v:=str d.reg) rfl rfl) ?_
    repeat first|exact zE|refine zP ?_|refine zB fun b=>?_|refine zC fun a' c' hc1 hc2=>?_|(apply GJ.a;exact rfl;intro hg)|(apply GJ.o;exact rfl;intro hg)
    refine OpOk.lookupOkM (kt:=9) (et:=132) (kv:=str) (vv:=plV) (k:=d.reg) (z:=.agg #[.int .i64 0,.int .i64 0]) rfl rfl Tryz.underlying130 (KeyEnc.text Tryz.underlying9) hM.map (hL.1) (by kernel_rfl) hmm1 ?_
    rw [hM.is]
    by_cases hnil:d.reg=[]
    ·have h1:oneL s m d.reg=true:=by unfold oneL;rw [if_pos hnil]
     have hz:∃ z1 z2:Nat,((m d.reg).map plV).getD (.agg #[.int .i64 0,.int .i64 0])=.agg #[.int .i64 (z1:Int),.int .i64 (z2:Int)]:=by
      cases m d.reg with
      | none=>exact ⟨0,0,rfl⟩
      | some rf=>exact ⟨rf.1,rf.2,rfl⟩
     obtain ⟨z1,z2,hz⟩:=hz
     rw [hz]
     clear hz
     repeat first|exact zE|refine zP ?_|refine zB fun b=>?_|refine zC fun a' c' hc1 hc2=>?_|(apply GJ.a;exact rfl;intro hg)|(apply GJ.o;exact rfl;intro hg)
     refine Wk.id ⟨1,⟨rfl,?_⟩,?_,Sub.z,Sup.z⟩
     all_goals try dsimp only
     ·exact ⟨by omega,⟨fun _=>h1,fun h=>absurd h (by decide)⟩⟩
     ·omega
    cases hmn:m d.reg with
    | none =>
      have h1:oneL s m d.reg=false:=by unfold oneL;rw [if_neg hnil,hmn]
      rw [if_pos (.inl h1)] at hk
      simp only [Option.map_none,Option.getD_none,Option.isSome_none]
      repeat first|exact zE|refine zP ?_|refine zB fun b=>?_|refine zC fun a' c' hc1 hc2=>?_|(apply GJ.a;exact rfl;intro hg)|(apply GJ.o;exact rfl;intro hg)
      exact Wk.outS Sup.z (.refl _) hk
    | some rf =>
      obtain ⟨r2,f2⟩:=rf
      obtain ⟨e,he,hf⟩:=hM.inn _ _ _ hmn
      obtain ⟨g,hg⟩:∃ g,e.fields[f2]?=some g:=⟨_,List.getElem?_eq_getElem hf⟩
      have hge:e.fields[f2]=g:=Option.some.inj ((List.getElem?_eq_getElem hf).symm.trans hg)
      have hgd:=zAn e.fields hf
      rw [hge] at hgd
      clear hge
      have hel:=(List.getElem?_eq_some_iff.1 he).1
      obtain ⟨y2,hy2⟩:∃ y,a.xs[r2]?=some y:=⟨_,List.getElem?_eq_getElem (by rw [ho.len];exact hel)⟩
      have hef:=(ho.each r2 e y2 he hy2).fields
      have hgf:(zA4 s.nodes a.xs)[r2*18+13]?=some (.slice y2.fa e.fields.length y2.fc):=by rw [zBr he hy2 (by decide)];rfl
      obtain ⟨hfe,hke⟩:=hv r2 e he
      obtain ⟨q1,q2⟩:=hke g.type (by rw [zAz hfe (zBh hfe (by omega))];exact List.mem_map.2 ⟨g,List.mem_of_getElem? hg,rfl⟩)
      obtain ⟨k,hk0⟩:=Int.eq_ofNat_of_zero_le q1
      obtain ⟨w,hw⟩:∃ e,s.nodes[k]?=some e:=⟨_,List.getElem?_eq_getElem (by omega)⟩
      obtain ⟨y,hy⟩:∃ y,a.xs[k]?=some y:=⟨_,List.getElem?_eq_getElem (by rw [ho.len];omega)⟩
      have hdw:=zAj _ _ _ _ _ hw hy
      have hfe2:oneL s m d.reg=(decide (w.kind=1∨w.kind=2)&&decide (g.derive≠3)):=by
       unfold oneL
       rw [if_neg hnil,hmn]
       dsimp only
       unfold zGj
       rw [he]
       dsimp only
       rw [hg]
       dsimp only
       unfold zBN
       rw [hk0,Int.toNat_natCast,hw]
       rfl
      simp only [Option.map_some,Option.getD_some,Option.isSome_some]
      rw [show plV (r2,f2)=.agg #[.int .i64 (r2:Int),.int .i64 (f2:Int)] from rfl]
      repeat first|exact zE|refine zP ?_|refine zB fun b=>?_|refine zC fun a' c' hc1 hc2=>?_|(apply GJ.a;exact rfl;intro hg)|(apply GJ.o;exact rfl;intro hg)
      rw [Int.toNat_natCast,Nat.add_assoc]
      refine QOk.load rfl rfl (Ld.rs hr1 hgf) ?_
      repeat first|exact zE|refine zP ?_|refine zB fun b=>?_|refine zC fun a' c' hc1 hc2=>?_|(apply GJ.a;exact rfl;intro hg)|(apply GJ.o;exact rfl;intro hg)
      rw [Int.toNat_natCast]
      refine QOk.loadRow rfl rfl (LdN.at hef hgd) rfl ?_
      by_cases h3:g.derive=3
      ·have h1:oneL s m d.reg=false:=by rw [hfe2,decide_eq_false (not_not_intro h3),Bool.and_false]
       rw [if_pos (.inl h1)] at hk
       repeat first|exact zE|refine zP ?_|refine zB fun b=>?_|refine zC fun a' c' hc1 hc2=>?_|(apply GJ.a;exact rfl;intro hg)|(apply GJ.o;exact rfl;intro hg)
       exact Wk.outS Sup.z (.refl _) hk
      rw [decide_eq_true h3,Bool.and_true] at hfe2
      repeat first|exact zE|refine zP ?_|refine zB fun b=>?_|refine zC fun a' c' hc1 hc2=>?_|(apply GJ.a;exact rfl;intro hg)|(apply GJ.o;exact rfl;intro hg)
      rw [hk0,Int.toNat_natCast]
      refine OpOk.loadRow rfl rfl (LdN.at hr1 hdw) rfl ?_
      repeat first|exact zE|refine zP ?_|refine zB fun b=>?_|refine zC fun a' c' hc1 hc2=>?_|(apply GJ.a;exact rfl;intro hg)|(apply GJ.o;exact rfl;intro hg)
      refine zAB ?_
      rw [←hfe2]
      cases h1:oneL s m d.reg with
      | false =>
        rw [if_pos (.inl h1)] at hk
        repeat first|exact zE|refine zP ?_|refine zB fun b=>?_|refine zC fun a' c' hc1 hc2=>?_|(apply GJ.a;exact rfl;intro hg)|(apply GJ.o;exact rfl;intro hg)
        exact Wk.outS Sup.z (.refl _) hk
      | true =>
        repeat first|exact zE|refine zP ?_|refine zB fun b=>?_|refine zC fun a' c' hc1 hc2=>?_|(apply GJ.a;exact rfl;intro hg)|(apply GJ.o;exact rfl;intro hg)
        refine Wk.id ⟨1,⟨rfl,?_⟩,?_,Sub.z,Sup.z⟩
        all_goals try dsimp only
        ·exact ⟨by omega,⟨fun _=>rfl,fun h=>absurd h (by decide)⟩⟩
        ·omega
   ·repeat first|exact zE|refine zP ?_|refine zB fun b=>?_|refine zC fun a' c' hc1 hc2=>?_|(apply GJ.a;exact rfl;intro hg)|(apply GJ.o;exact rfl;intro hg)
    rw [Int.toNat_natCast]
    refine OpOk.load rfl rfl (Ld.atR hrl (k:=1) (v:=str d.ereg) rfl rfl) ?_
    repeat first|exact zE|refine zP ?_|refine zB fun b=>?_|refine zC fun a' c' hc1 hc2=>?_|(apply GJ.a;exact rfl;intro hg)|(apply GJ.o;exact rfl;intro hg)
    refine OpOk.lookupOkM (kt:=9) (et:=132) (kv:=str) (vv:=plV) (k:=d.ereg) (z:=.agg #[.int .i64 0,.int .i64 0]) rfl rfl Tryz.underlying130 (KeyEnc.text Tryz.underlying9) hM.map (hL.2) (by kernel_rfl) hmm1 ?_
    rw [hM.is]
    by_cases hnil:d.ereg=[]
    ·have h1:oneL s m d.ereg=true:=by unfold oneL;rw [if_pos hnil]
     have hz:∃ z1 z2:Nat,((m d.ereg).map plV).getD (.agg #[.int .i64 0,.int .i64 0])=.agg #[.int .i64 (z1:Int),.int .i64 (z2:Int)]:=by
      cases m d.ereg with
      | none=>exact ⟨0,0,rfl⟩
      | some rf=>exact ⟨rf.1,rf.2,rfl⟩
     obtain ⟨z1,z2,hz⟩:=hz
     rw [hz]
     clear hz
     repeat first|exact zE|refine zP ?_|refine zB fun b=>?_|refine zC fun a' c' hc1 hc2=>?_|(apply GJ.a;exact rfl;intro hg)|(apply GJ.o;exact rfl;intro hg)
     refine Wk.id ⟨2,⟨rfl,?_⟩,?_,Sub.z,Sup.z⟩
     all_goals try dsimp only
     ·exact ⟨by omega,⟨fun _=>i2 (Nat.le_refl _),fun _=>h1⟩⟩
     ·omega
    cases hmn:m d.ereg with
    | none =>
      have h1:oneL s m d.ereg=false:=by unfold oneL;rw [if_neg hnil,hmn]
      rw [if_pos (.inr h1)] at hk
      simp only [Option.map_none,Option.getD_none,Option.isSome_none]
      repeat first|exact zE|refine zP ?_|refine zB fun b=>?_|refine zC fun a' c' hc1 hc2=>?_|(apply GJ.a;exact rfl;intro hg)|(apply GJ.o;exact rfl;intro hg)
      exact Wk.outS Sup.z (.refl _) hk
    | some rf =>
      obtain ⟨r2,f2⟩:=rf
      obtain ⟨e,he,hf⟩:=hM.inn _ _ _ hmn
      obtain ⟨g,hg⟩:∃ g,e.fields[f2]?=some g:=⟨_,List.getElem?_eq_getElem hf⟩
      have hge:e.fields[f2]=g:=Option.some.inj ((List.getElem?_eq_getElem hf).symm.trans hg)
      have hgd:=zAn e.fields hf
      rw [hge] at hgd
      clear hge
      have hel:=(List.getElem?_eq_some_iff.1 he).1
      obtain ⟨y2,hy2⟩:∃ y,a.xs[r2]?=some y:=⟨_,List.getElem?_eq_getElem (by rw [ho.len];exact hel)⟩
      have hef:=(ho.each r2 e y2 he hy2).fields
      have hgf:(zA4 s.nodes a.xs)[r2*18+13]?=some (.slice y2.fa e.fields.length y2.fc):=by rw [zBr he hy2 (by decide)];rfl
      obtain ⟨hfe,hke⟩:=hv r2 e he
      obtain ⟨q1,q2⟩:=hke g.type (by rw [zAz hfe (zBh hfe (by omega))];exact List.mem_map.2 ⟨g,List.mem_of_getElem? hg,rfl⟩)
      obtain ⟨k,hk0⟩:=Int.eq_ofNat_of_zero_le q1
      obtain ⟨w,hw⟩:∃ e,s.nodes[k]?=some e:=⟨_,List.getElem?_eq_getElem (by omega)⟩
      obtain ⟨y,hy⟩:∃ y,a.xs[k]?=some y:=⟨_,List.getElem?_eq_getElem (by rw [ho.len];omega)⟩
      have hdw:=zAj _ _ _ _ _ hw hy
      have hfe2:oneL s m d.ereg=(decide (w.kind=1∨w.kind=2)&&decide (g.derive≠3)):=by
       unfold oneL
       rw [if_neg hnil,hmn]
       dsimp only
       unfold zGj
       rw [he]
       dsimp only
       rw [hg]
       dsimp only
       unfold zBN
       rw [hk0,Int.toNat_natCast,hw]
       rfl
      simp only [Option.map_some,Option.getD_some,Option.isSome_some]
      rw [show plV (r2,f2)=.agg #[.int .i64 (r2:Int),.int .i64 (f2:Int)] from rfl]
      repeat first|exact zE|refine zP ?_|refine zB fun b=>?_|refine zC fun a' c' hc1 hc2=>?_|(apply GJ.a;exact rfl;intro hg)|(apply GJ.o;exact rfl;intro hg)
      rw [Int.toNat_natCast,Nat.add_assoc]
      refine QOk.load rfl rfl (Ld.rs hr1 hgf) ?_
      repeat first|exact zE|refine zP ?_|refine zB fun b=>?_|refine zC fun a' c' hc1 hc2=>?_|(apply GJ.a;exact rfl;intro hg)|(apply GJ.o;exact rfl;intro hg)
      rw [Int.toNat_natCast]
      refine QOk.loadRow rfl rfl (LdN.at hef hgd) rfl ?_
      by_cases h3:g.derive=3
      ·have h1:oneL s m d.ereg=false:=by rw [hfe2,decide_eq_false (not_not_intro h3),Bool.and_false]
       rw [if_pos (.inr h1)] at hk
       repeat first|exact zE|refine zP ?_|refine zB fun b=>?_|refine zC fun a' c' hc1 hc2=>?_|(apply GJ.a;exact rfl;intro hg)|(apply GJ.o;exact rfl;intro hg)
       exact Wk.outS Sup.z (.refl _) hk
      rw [decide_eq_true h3,Bool.and_true] at hfe2
      repeat first|exact zE|refine zP ?_|refine zB fun b=>?_|refine zC fun a' c' hc1 hc2=>?_|(apply GJ.a;exact rfl;intro hg)|(apply GJ.o;exact rfl;intro hg)
      rw [hk0,Int.toNat_natCast]
      refine OpOk.loadRow rfl rfl (LdN.at hr1 hdw) rfl ?_
      repeat first|exact zE|refine zP ?_|refine zB fun b=>?_|refine zC fun a' c' hc1 hc2=>?_|(apply GJ.a;exact rfl;intro hg)|(apply GJ.o;exact rfl;intro hg)
      refine zAB ?_
      rw [←hfe2]
      cases h1:oneL s m d.ereg with
      | false =>
        rw [if_pos (.inr h1)] at hk
        repeat first|exact zE|refine zP ?_|refine zB fun b=>?_|refine zC fun a' c' hc1 hc2=>?_|(apply GJ.a;exact rfl;intro hg)|(apply GJ.o;exact rfl;intro hg)
        exact Wk.outS Sup.z (.refl _) hk
      | true =>
        repeat first|exact zE|refine zP ?_|refine zB fun b=>?_|refine zC fun a' c' hc1 hc2=>?_|(apply GJ.a;exact rfl;intro hg)|(apply GJ.o;exact rfl;intro hg)
        refine Wk.id ⟨2,⟨rfl,?_⟩,?_,Sub.z,Sup.z⟩
        all_goals try dsimp only
        ·exact ⟨by omega,⟨fun _=>i2 (Nat.le_refl _),fun _=>rfl⟩⟩
        ·omega
   have i2:=i2 (by decide)
   have i3:=i3 (by decide)
   rw [if_neg (fun h=>by rcases h with h|h;rw [i2] at h;cases h;rw [i3] at h;cases h)] at hk
   clear hmm1 i1 i2 i3 hrl
   by_cases h5:d.kind=5
   rotate_left
   ·rw [if_pos h5] at hk
    repeat first|exact zE|refine zP ?_|refine zB fun b=>?_|refine zC fun a' c' hc1 hc2=>?_|(apply GJ.a;exact rfl;intro hg)|(apply GJ.o;exact rfl;intro hg)
    refine zC6 hn1 (by omega) (fun a1 n1 c1 h1 h2 h3=>?_)
    subst h1
    have hkl:(zAc d).length≤1000:=by unfold zAc;split<;>simp<;>omega
    repeat first|exact zE|refine zP ?_|refine zB fun b=>?_|refine zC fun a' c' hc1 hc2=>?_|(apply GJ.a;exact rfl;intro hg)|(apply GJ.o;exact rfl;intro hg)
    refine LoopOk.at (ι:=Nat) Keep.z (fun j=>[(80,.int .i64 (j:Int))]) (fun j=>.sl a1 (zAc d).length c1 3 1 (zAs (zAc d))::.blk bN 40 (zAl d x)::.blk bS 25 (zAf s a)::(G++Q)) (fun j=>j≤(zAc d).length∧goL (fun k=>zAH s n k m) (zAc d)=goL (fun k=>zAH s n k m) ((zAc d).drop j)) (fun j=>(zAc d).length-j) 0 ?_ Sub.z Sup.z ?_
    ·exact ⟨Nat.zero_le _,rfl⟩
    rintro j ⟨j1,j2⟩
    dsimp only [List.cons_append,List.nil_append] at j1 j2 ⊢
    by_cases hj:j<(zAc d).length
    ·obtain ⟨y,hy⟩:∃ y,(zAc d)[j]?=some y:=⟨_,List.getElem?_eq_getElem hj⟩
     have hyb:(zAc d)[((j:Nat):Int).toNat]! = y:=by rw [Int.toNat_natCast,List.getElem!_eq_getElem?_getD,hy];rfl
     have hdj:(zAc d).drop j=y::(zAc d).drop (j+1):=by rw [List.drop_eq_getElem_cons hj];congr 1;exact Option.some.inj ((List.getElem?_eq_getElem hj).symm.trans hy)
     rw [hdj,goL] at j2
     obtain ⟨q1,q2⟩:=hks y (List.mem_of_getElem? hy)
     obtain ⟨k,rfl⟩:=Int.eq_ofNat_of_zero_le q1
     repeat first|exact zE|refine zP ?_|refine zB fun b=>?_|refine zC fun a' c' hc1 hc2=>?_|(apply GJ.a;exact rfl;intro hg)|(apply GJ.o;exact rfl;intro hg)
     rw [hyb]
     refine ihQ k (.sl a1 (zAc d).length c1 3 1 (zAs (zAc d))::.blk bN 40 (zAl d x)::.blk bS 25 (zAf s a)::G) _ (by omega) (by omega) ?_
     by_cases hz:zAH s n k m=0
     ·rw [if_neg (fun h=>h hz)] at j2
      rw [hz]
      dsimp only [List.cons_append]
      repeat first|exact zE|refine zP ?_|refine zB fun b=>?_|refine zC fun a' c' hc1 hc2=>?_|(apply GJ.a;exact rfl;intro hg)|(apply GJ.o;exact rfl;intro hg)
      refine Wk.id ⟨j+1,⟨rfl,?_⟩,?_,Sub.z,Sup.z⟩
      all_goals try dsimp only
      ·exact ⟨by omega,j2⟩
      ·omega
     ·rw [if_pos hz] at j2
      rw [j2] at hk
      generalize zAH s n k m=z at *
      dsimp only [List.cons_append]
      repeat first|exact zE|refine zP ?_|refine zB fun b=>?_|refine zC fun a' c' hc1 hc2=>?_|(apply GJ.a;exact rfl;intro hg)|(apply GJ.o;exact rfl;intro hg)
      exact Wk.outS Sup.z (.refl _) hk
    ·obtain rfl:j=(zAc d).length:=by omega
     rw [List.drop_length,goL] at j2
     rw [j2] at hk
     repeat first|exact zE|refine zP ?_|refine zB fun b=>?_|refine zC fun a' c' hc1 hc2=>?_|(apply GJ.a;exact rfl;intro hg)|(apply GJ.o;exact rfl;intro hg)
     exact Wk.outS Sup.z (.refl _) hk
   rw [if_neg (fun h=>h h5)] at hk
   repeat first|exact zE|refine zP ?_|refine zB fun b=>?_|refine zC fun a' c' hc1 hc2=>?_|(apply GJ.a;exact rfl;intro hg)|(apply GJ.o;exact rfl;intro hg)
   refine OpOk.makeMapG (kv:=str) (vv:=plV) (fun bo=>?_)
   repeat first|exact zE|refine zP ?_|refine zB fun b=>?_|refine zC fun a' c' hc1 hc2=>?_|(apply GJ.a;exact rfl;intro hg)|(apply GJ.o;exact rfl;intro hg)
   refine OpOk.rangeM (kt:=9) (et:=132) (kv:=str) (vv:=plV) (mo:=mo) (l:=M) (c:=c) rfl Tryz.underlying130 (by (repeat apply HasMo.miss);exact hmm G) (fun bR=>?_)
   repeat first|exact zE|refine zP ?_|refine zB fun b=>?_|refine zC fun a' c' hc1 hc2=>?_|(apply GJ.a;exact rfl;intro hg)|(apply GJ.o;exact rfl;intro hg)
   refine LoopOk.at (ι:=List (List UInt8 × (Nat × Nat) × Nat) × List (List UInt8 × (Nat × Nat) × Nat) × Nat) Keep.z (fun (S,M2,c2)=>[]) (fun (S,M2,c2)=>.obj bR (zHL mo c S)::.obj bo (mapG str plV M2 c2)::.blk bN 40 (zAl d x)::.blk bS 25 (zAf s a)::(G++Q)) (fun (S,M2,c2)=>SubK M S∧CopyM M S M2 c2) (fun (S,M2,c2)=>M.length-S.length) ([],[],0) ?_ Sub.z Sup.z ?_
   ·exact ⟨⟨(fun q h=>by cases h),List.nodup_nil⟩,CopyM.nil M⟩
   rintro ⟨S,M2,c2⟩ ⟨j1,j2⟩
   dsimp only [List.cons_append,List.nil_append] at j1 j2 ⊢
   repeat first|exact zE|refine zP ?_|refine zB fun b=>?_|refine zC fun a' c' hc1 hc2=>?_|(apply GJ.a;exact rfl;intro hg)|(apply GJ.o;exact rfl;intro hg)
   refine OpOk.nextM (kv:=str) (vv:=plV) (bi:=bR) (mo:=mo) (c:=c) (l:=M) (S:=S) rfl (by (repeat apply HasMo.miss);exact hmm G) hM.born j1.sub (fun hall=>?_) (fun p hp hpn=>?_)
   rotate_left
   ·have hsn:=j1.snoc hp hpn
    have hsl:=zDm hsn.nodup hsn.sub
    rw [List.length_append,List.length_singleton] at hsl
    have hput:=fun c3=>j2.put (c3:=c3) hM.map hp
    obtain ⟨pn,⟨p1,p2⟩,p3⟩:=p
    dsimp only [plV] at hput ⊢
    repeat first|exact zE|refine zP ?_|refine zB fun b=>?_|refine zC fun a' c' hc1 hc2=>?_|(apply GJ.a;exact rfl;intro hg)|(apply GJ.o;exact rfl;intro hg)
    refine OpOk.entryM (kv:=str) (vv:=plV) (bi:=bR) (mo:=mo) (c:=c) (l:=M) (S:=S) (p:=(pn,(p1,p2),p3)) rfl (by (repeat apply HasMo.miss);exact hmm G) hM.born hp ?_
    dsimp only [plV]
    repeat first|exact zE|refine zP ?_|refine zB fun b=>?_|refine zC fun a' c' hc1 hc2=>?_|(apply GJ.a;exact rfl;intro hg)|(apply GJ.o;exact rfl;intro hg)
    refine OpOk.mapUpdateB (kt:=9) (et:=132) (kv:=str) (vv:=plV) (k:=pn) (v:=(p1,p2)) rfl rfl rfl Tryz.underlying130 (KeyEnc.text Tryz.underlying9) j2.map (hM.map.all _ hp) j2.born (fun c3 hB=>?_)
    repeat first|exact zE|refine zP ?_|refine zB fun b=>?_|refine zC fun a' c' hc1 hc2=>?_|(apply GJ.a;exact rfl;intro hg)|(apply GJ.o;exact rfl;intro hg)
    refine Wk.id ⟨(S++[(pn,(p1,p2),p3)],putG M2 c2 pn (p1,p2),c3),⟨rfl,?_⟩,?_,Sub.z,Sup.z⟩
    all_goals try dsimp only
    ·exact ⟨hsn,hput c3 hB⟩
    ·rw [List.length_append,List.length_singleton];omega
   have hM2:MpIs s m M2 c2:=⟨j2.map,j2.born,fun nm=>by rw [j2.all hall,hM.is],hM.inn⟩
   clear j1 j2 hall
   repeat first|exact zE|refine zP ?_|refine zB fun b=>?_|refine zC fun a' c' hc1 hc2=>?_|(apply GJ.a;exact rfl;intro hg)|(apply GJ.o;exact rfl;intro hg)
   obtain ⟨P0,hP0⟩:∃ z,z=recL (zAH s n) i 0 d.fields m:=⟨_,rfl⟩
   rw [←hP0] at hk
   have hP1:P0=recL (zAH s n) i 0 (d.fields.drop 0) m:=hP0
   clear hP0
   refine LoopOk.at (ι:=Nat × MpL × List (List UInt8 × (Nat × Nat) × Nat) × Nat) Keep.z (fun (j,mj,Mj,cj)=>[(106,.int .i64 (j:Int))]) (fun (j,mj,Mj,cj)=>.obj bo (mapG str plV Mj cj)::.blk bN 40 (zAl d x)::.blk bS 25 (zAf s a)::(G++Q)) (fun (j,mj,Mj,cj)=>j≤d.fields.length∧MpIs s mj Mj cj∧P0=recL (zAH s n) i j (d.fields.drop j) mj) (fun (j,mj,Mj,cj)=>d.fields.length-j) (0,m,M2,c2) ?_ Sub.z Sup.z ?_
   ·exact ⟨Nat.zero_le _,hM2,hP1⟩
   clear hM2 hP1
   rintro ⟨j,mj,Mj,cj⟩ ⟨j1,j2,j3⟩
   dsimp only [List.cons_append,List.nil_append] at j1 j2 j3 ⊢
   by_cases hj:j<d.fields.length
   ·obtain ⟨f,hf⟩:∃ h,d.fields[j]?=some h:=⟨_,List.getElem?_eq_getElem hj⟩
    have hfe:d.fields[j]=f:=Option.some.inj ((List.getElem?_eq_getElem hj).symm.trans hf)
    have hfd:=zAn d.fields hj
    rw [hfe] at hfd
    have hdj:d.fields.drop j=f::d.fields.drop (j+1):=by rw [List.drop_eq_getElem_cons hj,hfe]
    rw [hdj,recL] at j3
    obtain ⟨q1,q2⟩:=hks f.type (by rw [zAz hfo h5];exact List.mem_map.2 ⟨f,List.mem_of_getElem? hf,rfl⟩)
    obtain ⟨k,hk0⟩:=Int.eq_ofNat_of_zero_le q1
    rw [hk0] at j3
    have hnm:=hT.names d (List.mem_of_getElem? hd) f (List.mem_of_getElem? hf)
    have hnm2:f.name.length≤maxLen:=by unfold maxLen;omega
    clear hfe hdj
    repeat first|exact zE|refine zP ?_|refine zB fun b=>?_|refine zC fun a' c' hc1 hc2=>?_|(apply GJ.a;exact rfl;intro hg)|(apply GJ.o;exact rfl;intro hg)
    rw [Int.toNat_natCast]
    refine OpOk.loadRow rfl rfl (LdN.at hfr hfd) rfl ?_
    repeat first|exact zE|refine zP ?_|refine zB fun b=>?_|refine zC fun a' c' hc1 hc2=>?_|(apply GJ.a;exact rfl;intro hg)|(apply GJ.o;exact rfl;intro hg)
    rw [hk0]
    obtain ⟨bF,hbF⟩:∃ z:Nat,z=b:=⟨_,rfl⟩
    subst hbF
    refine CallOk.swap (own2:=(.blk bF 47 (zA1 f)::.blk bN 40 (zAl d x)::.blk bS 25 (zAf s a)::(G++Q))++moC str plV (some bo) Mj cj) (.cons _ (List.perm_append_singleton _ _).symm) ?_
    refine ih k (some bo) mj Mj cj (.blk bF 47 (zA1 f)::.blk bN 40 (zAl d x)::.blk bS 25 (zAf s a)::(G++Q)) _ (by omega) (by omega) (fun h=>by cases h) j2 ⟨rfl,?_⟩
    by_cases hz:zAH s n k mj=0
    ·rw [if_neg (fun h=>h hz)] at j3
     rw [hz]
     repeat first|exact zE|refine zP ?_|refine zB fun b=>?_|refine zC fun a' c' hc1 hc2=>?_|(apply GJ.a;exact rfl;intro hg)|(apply GJ.o;exact rfl;intro hg)
     refine OpOk.mapUpdateB (kt:=9) (et:=132) (kv:=str) (vv:=plV) (k:=f.name) (v:=(i,j)) rfl rfl rfl Tryz.underlying130 (KeyEnc.text Tryz.underlying9) j2.map hnm2 j2.born (fun c3 hB=>?_)
     have j4:=j2.put hnm2 hd hj hB
     repeat first|exact zE|refine zP ?_|refine zB fun b=>?_|refine zC fun a' c' hc1 hc2=>?_|(apply GJ.a;exact rfl;intro hg)|(apply GJ.o;exact rfl;intro hg)
     refine Wk.id ⟨(j+1,putM mj f.name i j,putG Mj cj f.name (i,j),c3),⟨rfl,?_⟩,?_,Sub.z,Sup.z⟩
     all_goals try dsimp only
     ·exact ⟨by omega,j4,j3⟩
     ·omega
    ·rw [if_pos hz] at j3
     have h0:P0.1≠0:=by rw [j3];exact hz
     rw [if_pos h0,j3] at hk
     dsimp only at hk
     generalize zAH s n k mj=z at *
     repeat first|exact zE|refine zP ?_|refine zB fun b=>?_|refine zC fun a' c' hc1 hc2=>?_|(apply GJ.a;exact rfl;intro hg)|(apply GJ.o;exact rfl;intro hg)
     exact Wk.outS Sup.z (.refl _) hk
   obtain rfl:j=d.fields.length:=by omega
   rw [List.drop_length,recL] at j3
   rw [j3,if_neg (fun h=>h rfl)] at hk
   dsimp only at hk
   clear j3 j1 hj
   repeat first|exact zE|refine zP ?_|refine zB fun b=>?_|refine zC fun a' c' hc1 hc2=>?_|(apply GJ.a;exact rfl;intro hg)|(apply GJ.o;exact rfl;intro hg)
   refine LoopOk.at (ι:=Nat) Keep.z (fun j=>[(129,.int .i64 (j:Int))]) (fun j=>.obj bo (mapG str plV Mj cj)::.blk bN 40 (zAl d x)::.blk bS 25 (zAf s a)::(G++Q)) (fun j=>j≤d.fields.length∧∀ k,k<j→(zBi s d k&&zCz s mj i d k)=true) (fun j=>d.fields.length-j) 0 ?_ Sub.z Sup.z ?_
   ·exact ⟨Nat.zero_le _,fun k hk=>absurd hk (Nat.not_lt_zero _)⟩
   rintro j ⟨j1,j3⟩
   dsimp only [List.cons_append,List.nil_append] at j1 j3 ⊢
   by_cases hj:j<d.fields.length
   ·have hno:(zBi s d j&&zCz s mj i d j)=false→allL s mj i d=false:=fun h=>by
     rw [Bool.eq_false_iff]
     intro h2
     unfold allL at h2
     rw [List.all_eq_true] at h2
     have:=h2 j (List.mem_range.2 hj)
     rw [h] at this;cases this
    have hyes:(zBi s d j&&zCz s mj i d j)=true→∀ k,k<j+1→(zBi s d k&&zCz s mj i d k)=true:=fun h k hk=>by
     by_cases hkj:k=j
     ·subst hkj;exact h
     ·exact j3 k (by omega)
    clear j3
    repeat first|exact zE|refine zP ?_|refine zB fun b=>?_|refine zC fun a' c' hc1 hc2=>?_|(apply GJ.a;exact rfl;intro hg)|(apply GJ.o;exact rfl;intro hg)
    refine zF8 ho hv hd hx hj ?_
    cases h1:zBi s d j with
    | false =>
      rw [h1,Bool.false_and] at hno
      rw [if_neg (by rw [hno rfl];decide)] at hk
      repeat first|exact zE|refine zP ?_|refine zB fun b=>?_|refine zC fun a' c' hc1 hc2=>?_|(apply GJ.a;exact rfl;intro hg)|(apply GJ.o;exact rfl;intro hg)
      exact Wk.outS Sup.z (.refl _) hk
    | true =>
      rw [h1,Bool.true_and] at hno hyes
      repeat first|exact zE|refine zP ?_|refine zB fun b=>?_|refine zC fun a' c' hc1 hc2=>?_|(apply GJ.a;exact rfl;intro hg)|(apply GJ.o;exact rfl;intro hg)
      refine CallOk.sup (own0:=.obj bo (mapG str plV Mj cj)::.blk bN 40 (zAl d x)::.blk bS 25 (zAf s a)::(G++Q)) Sup.z ?_
      refine zHH ho hv hT hR j2 hd hj ?_
      cases h2:zCz s mj i d j with
      | false =>
        rw [if_neg (by rw [hno h2];decide)] at hk
        repeat first|exact zE|refine zP ?_|refine zB fun b=>?_|refine zC fun a' c' hc1 hc2=>?_|(apply GJ.a;exact rfl;intro hg)|(apply GJ.o;exact rfl;intro hg)
        exact Wk.outS Sup.z (.refl _) hk
      | true =>
        have h3:=hyes h2
        clear hno hyes
        repeat first|exact zE|refine zP ?_|refine zB fun b=>?_|refine zC fun a' c' hc1 hc2=>?_|(apply GJ.a;exact rfl;intro hg)|(apply GJ.o;exact rfl;intro hg)
        refine Wk.id ⟨j+1,⟨rfl,?_⟩,?_,Sub.z,Sup.z⟩
        all_goals try dsimp only
        ·exact ⟨by omega,h3⟩
        ·omega
   obtain rfl:j=d.fields.length:=by omega
   have hall:allL s mj i d=true:=by
    unfold allL
    rw [List.all_eq_true]
    exact fun k hk=>j3 k (List.mem_range.1 hk)
   rw [if_pos hall] at hk
   repeat first|exact zE|refine zP ?_|refine zB fun b=>?_|refine zC fun a' c' hc1 hc2=>?_|(apply GJ.a;exact rfl;intro hg)|(apply GJ.o;exact rfl;intro hg)
   exact Wk.outS Sup.z (.refl _) hk
end
section
variable {ro:Ro}{own:Chs}{K:Value→Ro→Chs→Prop}{s:zAd}{a:zAp}
set_option maxHeartbeats 8000000 in
theorem zEt (ho:SpecOk ro s a) (hi:zEk s) (hS:SpOk ro) (hM:MaxOk ro) (hk:∀ ro',K (.bool true) ro' own):CallOk Tryz.prog 7 #[.agg (zAf s a).toArray] ro own K:=by
 have hT:=TextIn.of hi
 have hR:∀ d∈s.nodes,d.reg.length≤maxLen∧d.ereg.length≤maxLen:=fun d hd=>by
  have h:=hi.texts d hd
  have e:reachBytes≤140737488355327:=by decide
  unfold maxLen
  omega
 have hcl:(Value.agg (zAf s a).toArray).cells.toList=zAf s a:=rfl
 refine CallOk.intro (args:=[_]) (rs:=[_]) T_ok Tryz.func7 Tryz.call7 rfl rfl (by kernel_rfl) rfl rfl ?_
 repeat first|exact zE|refine zP ?_|refine zB fun b=>?_|refine zC fun a' c' hc1 hc2=>?_|(apply GJ.a;exact rfl;intro hg)|(apply GJ.o;exact rfl;intro hg)
 rw [hcl]
 obtain ⟨bS,hbS⟩:∃ z:Nat,z=b:=⟨_,rfl⟩
 subst hbS
 refine zEd hS hM (fun ro1 hl1=>?_)
 have ho1:=ho.lift hl1
 have hM1:=hM.le hl1
 have hk1:=hk ro1
 repeat first|exact zE|refine zP ?_|refine zB fun b=>?_|refine zC fun a' c' hc1 hc2=>?_|(apply GJ.a;exact rfl;intro hg)|(apply GJ.o;exact rfl;intro hg)
 refine zDT ho1 (fun hs=>?_) (fun hs=>?_)
 ·repeat first|exact zE|refine zP ?_|refine zB fun b=>?_|refine zC fun a' c' hc1 hc2=>?_|(apply GJ.a;exact rfl;intro hg)|(apply GJ.o;exact rfl;intro hg)
  exact Wk.outS Sup.z (.refl _) hk1
 repeat first|exact zE|refine zP ?_|refine zB fun b=>?_|refine zC fun a' c' hc1 hc2=>?_|(apply GJ.a;exact rfl;intro hg)|(apply GJ.o;exact rfl;intro hg)
 refine zCq ho1 hM1 hT (fun ro2 hl2=>?_)
 have ho2:=ho1.lift hl2
 have hM2:=hM1.le hl2
 obtain ⟨⟨e1,e2⟩,hee⟩:∃ e,e=errR (zAM s):=⟨_,rfl⟩
 rw [←hee]
 dsimp only [flV]
 repeat first|exact zE|refine zP ?_|refine zB fun b=>?_|refine zC fun a' c' hc1 hc2=>?_|(apply GJ.a;exact rfl;intro hg)|(apply GJ.o;exact rfl;intro hg)
 obtain ⟨bF,hbF⟩:∃ z:Nat,z=b:=⟨_,rfl⟩
 subst hbF
 refine zEA ho2 hM2 hT (fun ro3 hl3=>?_)
 have ho3:=ho2.lift hl3
 have hk3:=hk ro3
 by_cases hz:(zBo s).1≠0
 ·have h1:(e1,e2)=zBo s:=by
   rw [hee]
   unfold zAM
   rw [if_pos hz]
   rfl
  rw [←h1] at hz ⊢
  dsimp only [flV] at hz ⊢
  repeat first|exact zE|refine zP ?_|refine zB fun b=>?_|refine zC fun a' c' hc1 hc2=>?_|(apply GJ.a;exact rfl;intro hg)|(apply GJ.o;exact rfl;intro hg)
  refine OpOk.eqlStruct (q:=decide (e1=e1)&&(decide (e2=e2)&&true)) rfl rfl rfl rfl (by kernel_rfl) (by kernel_rfl) (by kernel_rfl) ?_
  rw [show (decide (e1=e1)&&(decide (e2=e2)&&true))=true by simp]
  repeat first|exact zE|refine zP ?_|refine zB fun b=>?_|refine zC fun a' c' hc1 hc2=>?_|(apply GJ.a;exact rfl;intro hg)|(apply GJ.o;exact rfl;intro hg)
  exact Wk.outS Sup.z (.refl _) hk3
 have hz:=Decidable.of_not_not hz
 have hw:e1=wantL s s.defs:=by rw [←zGM hz,←hee]
 have hc:=(zDs hz).1
 generalize zBo s=z at *
 obtain ⟨z1,z2⟩:=z
 dsimp only at hz
 subst hz
 dsimp only [flV]
 have hr2:=ho3.defs
 have hm:=hr2.max
 have hnc:=hr2.le
 unfold maxLen at hm
 have hin:=zCt hc
 have hlook:=llook_ok ho3 hc hT hR s.nodes.length
 repeat first|exact zE|refine zP ?_|refine zB fun b=>?_|refine zC fun a' c' hc1 hc2=>?_|(apply GJ.a;exact rfl;intro hg)|(apply GJ.o;exact rfl;intro hg)
 obtain ⟨bG,hbG⟩:∃ z:Nat,z=b:=⟨_,rfl⟩
 subst hbG
 have hw0:e1=goL (fun k=>zAH s s.nodes.length k noM) ((s.defs.drop 0).map (·.type)):=hw
 refine LoopOk.at (ι:=Nat × Int) Keep.z (fun (j,w)=>[(26,.int .i64 (j:Int)),(5,.int .i64 w)]) (fun (j,w)=>.blk bG 58 [.int .i64 0,.int .i64 z2]::.blk bF 58 [.int .i64 e1,.int .i64 e2]::.blk bS 25 (zAf s a)::own) (fun (j,w)=>j≤s.defs.length∧e1=(if w=0 then goL (fun k=>zAH s s.nodes.length k noM) ((s.defs.drop j).map (·.type)) else w)) (fun (j,w)=>s.defs.length-j) (0,0) ?_ Sub.z Sup.z ?_
 ·exact ⟨Nat.zero_le _,by rw [if_pos rfl];exact hw0⟩
 clear hw hw0
 rintro ⟨j,w⟩ ⟨j1,j2⟩
 dsimp only [List.cons_append,List.nil_append] at j1 j2 ⊢
 by_cases hj:j<s.defs.length
 ·obtain ⟨d,hd⟩:∃ d,s.defs[j]?=some d:=⟨_,List.getElem?_eq_getElem hj⟩
  have hde:s.defs[j]=d:=Option.some.inj ((List.getElem?_eq_getElem hj).symm.trans hd)
  have hdd:=zBv s.defs hj
  rw [hde] at hdd
  have hdj:s.defs.drop j=d::s.defs.drop (j+1):=by rw [List.drop_eq_getElem_cons hj,hde]
  obtain ⟨q1,q2⟩:=hin d (List.mem_of_getElem? hd)
  obtain ⟨k,hk0⟩:=Int.eq_ofNat_of_zero_le q1
  rw [hdj,List.map_cons,goL,hk0] at j2
  clear hde hdj
  by_cases hw:w=0
  ·rw [if_pos hw] at j2
   repeat first|exact zE|refine zP ?_|refine zB fun b=>?_|refine zC fun a' c' hc1 hc2=>?_|(apply GJ.a;exact rfl;intro hg)|(apply GJ.o;exact rfl;intro hg)
   rw [Int.toNat_natCast]
   refine OpOk.loadRow rfl rfl (LdN.at hr2 hdd) rfl ?_
   repeat first|exact zE|refine zP ?_|refine zB fun b=>?_|refine zC fun a' c' hc1 hc2=>?_|(apply GJ.a;exact rfl;intro hg)|(apply GJ.o;exact rfl;intro hg)
   rw [hk0]
   obtain ⟨bD,hbD⟩:∃ z:Nat,z=b:=⟨_,rfl⟩
   subst hbD
   refine CallOk.swap (own2:=(.blk bD 44 (defV d)::.blk bG 58 [.int .i64 0,.int .i64 z2]::.blk bF 58 [.int .i64 e1,.int .i64 e2]::.blk bS 25 (zAf s a)::own)++moC str plV none [] 0) (by rw [show moC str plV none ([]:List (List UInt8 × (Nat × Nat) × Nat)) 0=[] from rfl,List.append_nil]) ?_
   refine hlook k none noM [] 0 (.blk bD 44 (defV d)::.blk bG 58 [.int .i64 0,.int .i64 z2]::.blk bF 58 [.int .i64 e1,.int .i64 e2]::.blk bS 25 (zAf s a)::own) _ (by omega) (by omega) (fun _=>⟨rfl,rfl⟩) ⟨MapOk.nil,BornOk.nil,fun nm=>rfl,fun nm r f h=>by cases h⟩ ⟨rfl,?_⟩
   have j3:e1=if zAH s s.nodes.length k noM=0 then goL (fun k=>zAH s s.nodes.length k noM) ((s.defs.drop (j+1)).map (·.type)) else zAH s s.nodes.length k noM:=by
    rw [j2]
    by_cases hz:zAH s s.nodes.length k noM=0
    ·rw [if_neg (fun h=>h hz),if_pos hz]
    ·rw [if_pos hz,if_neg hz]
   generalize zAH s s.nodes.length k noM=z at *
   repeat first|exact zE|refine zP ?_|refine zB fun b=>?_|refine zC fun a' c' hc1 hc2=>?_|(apply GJ.a;exact rfl;intro hg)|(apply GJ.o;exact rfl;intro hg)
   refine Wk.id ⟨(j+1,z),⟨rfl,?_⟩,?_,Sub.z,Sup.z⟩
   all_goals try dsimp only
   ·exact ⟨by omega,j3⟩
   ·omega
  ·rw [if_neg hw] at j2
   repeat first|exact zE|refine zP ?_|refine zB fun b=>?_|refine zC fun a' c' hc1 hc2=>?_|(apply GJ.a;exact rfl;intro hg)|(apply GJ.o;exact rfl;intro hg)
   rw [Int.toNat_natCast]
   refine OpOk.loadRow rfl rfl (LdN.at hr2 hdd) rfl ?_
   repeat first|exact zE|refine zP ?_|refine zB fun b=>?_|refine zC fun a' c' hc1 hc2=>?_|(apply GJ.a;exact rfl;intro hg)|(apply GJ.o;exact rfl;intro hg)
   refine Wk.id ⟨(j+1,w),⟨rfl,?_⟩,?_,Sub.z,Sup.z⟩
   all_goals try dsimp only
   ·exact ⟨by omega,by rw [if_neg hw];exact j2⟩
   ·omega
 ·obtain rfl:j=s.defs.length:=by omega
  rw [List.drop_length,List.map_nil,goL] at j2
  have j3:e1=w:=by
   by_cases hw:w=0
   ·rw [if_pos hw] at j2;omega
   ·rw [if_neg hw] at j2;exact j2
  repeat first|exact zE|refine zP ?_|refine zB fun b=>?_|refine zC fun a' c' hc1 hc2=>?_|(apply GJ.a;exact rfl;intro hg)|(apply GJ.o;exact rfl;intro hg)
  exact Wk.outV Sup.z hk3 (congrArg Value.bool (by simp [j3]))
end
end Go.Proofs.YtnapjcnfgdkmcaaGreatDoor
end
