/- Texts of a walk, one behind the other. -/
import Derived.Test.YtficlekgjbnniaaGreatDoorMg10
import Derived.Test.YtficlekgjbnniaaGreatDoorMg11
import Derived.Test.YtficlekgjbnniaaGreatDoorMg12
set_option linter.unusedVariables false
set_option linter.unusedSimpArgs false
set_option linter.unusedSectionVars false
set_option maxRecDepth 10000
section
namespace Go.Proofs.YtficlekgjbnniaaGreatDoor
open Go Go.E
set_option maxHeartbeats 8000000 in
theorem endsC:∀ n,EndsC n:=RgD.ind fun k z l x y ih=>⟨fun {ro own K v t ab af cb cf m} hv hw hb ht hm hk=>by
 obtain ⟨hform,hkw⟩:=wrongD_parts hw
 have hF:=form_cases hform
 have hv0:=hv
 rw [RgOk] at hv
 obtain ⟨ad,cp,cs,rfl,hs,hrs,hks⟩:=hv
 have hle:=hrs.le
 have hmx:=hrs.max
 have hbm:=hb.max
 have hbl:=hb.le
 have hml:m.length=t.length+1:=by have:=hm.n1;rwa [boolsV_len] at this
 unfold maxLen at hmx hbm
 rw [endsR] at hk
 dsimp only at hk
 cases hF with
 | none s a1 b1 =>
   rw [if_pos rfl] at hk
   obtain ⟨L,hL⟩:∃ L,L=(List.range (t.length+1)).map (getB m):=⟨_,rfl⟩
   rw [←hL] at hk
   have hLl:L.length=t.length+1:=by rw [hL];simp
   refine CallOk.intro (args:=[_,_,_]) (rs:=[_]) T_ok Tryz.func34 Tryz.call34 rfl rfl (by kernel_rfl) rfl rfl ?_
   repeat first|exact zE|refine zP ?_|refine zB fun b=>?_|refine zC fun a' c' hc1 hc2=>?_|(apply GJ.a;exact rfl;intro hg)|(apply GJ.o;exact rfl;intro hg)
   rw [show ((t.length:Int)+1).toNat=t.length+1 by omega,bools_zero]
   obtain ⟨bO,hbO⟩:∃ z:Nat,z=b:=⟨_,rfl⟩
   subst hbO
   refine LoopOk.at (ι:=Nat) Keep.z (fun i=>[(8,.int .i64 (i:Int))]) (fun i=>.sl (some ⟨bO,0,none⟩) (t.length+1) (t.length+1) 4 1 (boolsV (L.take i++List.replicate (t.length+1-i) false))::own) (fun i=>i≤t.length+1) (fun i=>t.length+1-i) 0 ?_ Sub.z Sup.z ?_
   ·exact Nat.zero_le _
   rintro i i1
   dsimp only [List.cons_append,List.nil_append] at i1 ⊢
   have hbl:=boolsV_len (L.take i++List.replicate (t.length+1-i) false)
   rw [fill_lenB hLl i1] at hbl
   by_cases hi:i≤t.length
   ·have hgl:L[i]?=some (getB m i):=by rw [hL];exact range_map_get _ (by omega)
    have hfs:=fillB_set (n:=t.length+1) (z:=false) hLl hgl
    have hgm:=bangB (l:=m) (i:=i) (by omega)
    repeat first|exact zE|refine zP ?_|refine zB fun b=>?_|refine zC fun a' c' hc1 hc2=>?_|(apply GJ.a;exact rfl;intro hg)|(apply GJ.o;exact rfl;intro hg)
    refine OpOk.storeSlAt' (k:=i) rfl rfl rfl rfl (by rw [Int.toNat_natCast]) (by omega) ?_
    rw [hgm,boolsV_set,hfs]
    repeat first|exact zE|refine zP ?_|refine zB fun b=>?_|refine zC fun a' c' hc1 hc2=>?_|(apply GJ.a;exact rfl;intro hg)|(apply GJ.o;exact rfl;intro hg)
    repeat first|exact zE|refine zP ?_|refine zB fun b=>?_|refine zC fun a' c' hc1 hc2=>?_|(apply GJ.a;exact rfl;intro hg)|(apply GJ.o;exact rfl;intro hg)
    refine Wk.id ⟨i+1,⟨rfl,?_⟩,?_,Sub.z,Sup.z⟩
    all_goals try dsimp only
    ·omega
    ·omega
   ·obtain rfl:i=t.length+1:=by omega
    rw [Nat.sub_self,List.replicate_zero,List.append_nil,List.take_of_length_le (by omega)]
    repeat first|exact zE|refine zP ?_|refine zB fun b=>?_|refine zC fun a' c' hc1 hc2=>?_|(apply GJ.a;exact rfl;intro hg)|(apply GJ.o;exact rfl;intro hg)
    refine Wk.freeze (c:=.sl (some ⟨bO,0,none⟩) _ _ _ _ _) Take.auto (fun ro3 hl3 hc3=>?_)
    exact Wk.outS Sup.z (.refl _) (hk ro3 _ _ hl3 (Rs.last hc3))
 | one s a1 b1 h =>
   rw [if_neg (by decide),if_pos rfl] at hk
   obtain ⟨L,hL⟩:∃ L,L=(List.range (t.length+1)).map (fun j=>decide (0<j)&&getB m (j-1)&&z.has (t[j-1]?.getD 0).toNat):=⟨_,rfl⟩
   rw [←hL] at hk
   have hLl:L.length=t.length+1:=by rw [hL];simp
   have hL0:L[0]?=some false:=by rw [hL,range_map_get _ (by omega)];rfl
   refine CallOk.intro (args:=[_,_,_]) (rs:=[_]) T_ok Tryz.func34 Tryz.call34 rfl rfl (by kernel_rfl) rfl rfl ?_
   repeat first|exact zE|refine zP ?_|refine zB fun b=>?_|refine zC fun a' c' hc1 hc2=>?_|(apply GJ.a;exact rfl;intro hg)|(apply GJ.o;exact rfl;intro hg)
   rw [show ((t.length:Int)+1).toNat=t.length+1 by omega,bools_zero]
   obtain ⟨bO,hbO⟩:∃ z:Nat,z=b:=⟨_,rfl⟩
   subst hbO
   have hst:List.replicate (t.length+1) false=L.take 1++List.replicate (t.length+1-1) false:=by
    have:=fillB_same (n:=t.length+1) (i:=0) (z:=false) hLl hL0
    simpa using this
   rw [hst]
   obtain ⟨sa,sb,sc,sd⟩:=z
   refine LoopOk.at (ι:=Nat) Keep.z (fun i=>[(9,.int .i64 (i:Int))]) (fun i=>.sl (some ⟨bO,0,none⟩) (t.length+1) (t.length+1) 4 1 (boolsV (L.take (i+1)++List.replicate (t.length+1-(i+1)) false))::.blk b 26 (nodeV 2 ⟨sa,sb,sc,sd⟩ ad 0 cp x y)::own) (fun i=>i≤t.length) (fun i=>t.length-i) 0 ?_ Sub.z Sup.z ?_
   ·exact Nat.zero_le _
   rintro i i1
   dsimp only [List.cons_append,List.nil_append] at i1 ⊢
   have hbl:=boolsV_len (L.take (i+1)++List.replicate (t.length+1-(i+1)) false)
   rw [fill_lenB hLl (by omega)] at hbl
   by_cases hi:i<t.length
   ·obtain ⟨c,hc⟩:∃ c,t[i]?=some c:=⟨_,List.getElem?_eq_getElem hi⟩
    have hgl:L[i+1]?=some (getB m i&&(⟨sa,sb,sc,sd⟩:SetD).has c.toNat):=by
     rw [hL,range_map_get _ (by omega),decide_eq_true (Nat.succ_pos i),Nat.add_sub_cancel,hc];rfl
    have hgm:=bangB (l:=m) (i:=i) (by omega)
    have hgc:=bang (l:=t) hc
    generalize getB m i=p at hgl hgm
    cases p with
    | false =>
      have hfs:=fillB_same (n:=t.length+1) (z:=false) hLl (hgl.trans (by rw [Bool.false_and]))
      rw [hfs]
      repeat first|exact zE|refine zP ?_|refine zB fun b=>?_|refine zC fun a' c' hc1 hc2=>?_|(apply GJ.a;exact rfl;intro hg)|(apply GJ.o;exact rfl;intro hg)
      rw [hgm]
      repeat first|exact zE|refine zP ?_|refine zB fun b=>?_|refine zC fun a' c' hc1 hc2=>?_|(apply GJ.a;exact rfl;intro hg)|(apply GJ.o;exact rfl;intro hg)
      repeat first|exact zE|refine zP ?_|refine zB fun b=>?_|refine zC fun a' c' hc1 hc2=>?_|(apply GJ.a;exact rfl;intro hg)|(apply GJ.o;exact rfl;intro hg)
      refine Wk.id ⟨i+1,⟨rfl,?_⟩,?_,Sub.z,Sup.z⟩
      all_goals try dsimp only
      ·omega
      ·omega
    | true =>
      rw [Bool.true_and] at hgl
      repeat first|exact zE|refine zP ?_|refine zB fun b=>?_|refine zC fun a' c' hc1 hc2=>?_|(apply GJ.a;exact rfl;intro hg)|(apply GJ.o;exact rfl;intro hg)
      rw [hgm]
      repeat first|exact zE|refine zP ?_|refine zB fun b=>?_|refine zC fun a' c' hc1 hc2=>?_|(apply GJ.a;exact rfl;intro hg)|(apply GJ.o;exact rfl;intro hg)
      rw [hgc]
      refine rhas_ok (s:=⟨sa,sb,sc,sd⟩) hs (UInt8.toNat_lt c) ?_
      cases hq:(⟨sa,sb,sc,sd⟩:SetD).has c.toNat with
      | false =>
        rw [hq] at hgl
        have hfs:=fillB_same (n:=t.length+1) (z:=false) hLl hgl
        rw [hfs]
        repeat first|exact zE|refine zP ?_|refine zB fun b=>?_|refine zC fun a' c' hc1 hc2=>?_|(apply GJ.a;exact rfl;intro hg)|(apply GJ.o;exact rfl;intro hg)
        repeat first|exact zE|refine zP ?_|refine zB fun b=>?_|refine zC fun a' c' hc1 hc2=>?_|(apply GJ.a;exact rfl;intro hg)|(apply GJ.o;exact rfl;intro hg)
        refine Wk.id ⟨i+1,⟨rfl,?_⟩,?_,Sub.z,Sup.z⟩
        all_goals try dsimp only
        ·omega
        ·omega
      | true =>
        rw [hq] at hgl
        have hfs:=fillB_set (n:=t.length+1) (z:=false) hLl hgl
        repeat first|exact zE|refine zP ?_|refine zB fun b=>?_|refine zC fun a' c' hc1 hc2=>?_|(apply GJ.a;exact rfl;intro hg)|(apply GJ.o;exact rfl;intro hg)
        refine OpOk.storeSlAt' (k:=i+1) rfl rfl rfl rfl (by congr 1) (by omega) ?_
        rw [boolsV_set,hfs]
        repeat first|exact zE|refine zP ?_|refine zB fun b=>?_|refine zC fun a' c' hc1 hc2=>?_|(apply GJ.a;exact rfl;intro hg)|(apply GJ.o;exact rfl;intro hg)
        repeat first|exact zE|refine zP ?_|refine zB fun b=>?_|refine zC fun a' c' hc1 hc2=>?_|(apply GJ.a;exact rfl;intro hg)|(apply GJ.o;exact rfl;intro hg)
        refine Wk.id ⟨i+1,⟨rfl,?_⟩,?_,Sub.z,Sup.z⟩
        all_goals try dsimp only
        ·omega
        ·omega
   ·obtain rfl:i=t.length:=by omega
    have e:L.take (t.length+1)++List.replicate (t.length+1-(t.length+1)) false=L:=by
     rw [Nat.sub_self,List.replicate_zero,List.append_nil,List.take_of_length_le (by omega)]
    rw [e]
    repeat first|exact zE|refine zP ?_|refine zB fun b=>?_|refine zC fun a' c' hc1 hc2=>?_|(apply GJ.a;exact rfl;intro hg)|(apply GJ.o;exact rfl;intro hg)
    refine Wk.freeze (c:=.sl (some ⟨bO,0,none⟩) _ _ _ _ _) Take.auto (fun ro3 hl3 hc3=>?_)
    exact Wk.outS Sup.z (.refl _) (hk ro3 _ _ hl3 (Rs.last hc3))
 | cat s x1 y1 l1 a1 b1 =>
   rw [if_neg (by decide),if_neg (by decide),if_pos rfl] at hk
   generalize x1::y1::l1=L at *
   have hall:=wrongK_all hkw
   refine CallOk.intro (args:=[_,_,_]) (rs:=[_]) T_ok Tryz.func34 Tryz.call34 rfl rfl (by kernel_rfl) rfl rfl ?_
   repeat first|exact zE|refine zP ?_|refine zB fun b=>?_|refine zC fun a' c' hc1 hc2=>?_|(apply GJ.a;exact rfl;intro hg)|(apply GJ.o;exact rfl;intro hg)
   rename_i b0
   refine LoopOk.auto (ι:=Nat × List Bool × Option Addr × Nat) Keep.z (fun (i,mi,am,cm)=>[(11,.int .i64 (i:Int)),(10,.slice am (t.length+1) cm)]) (fun (i,mi,am,cm)=>.blk b0 26 (nodeV 3 z ad L.length cp x y)::own) (fun (i,mi,am,cm) ro2=>i≤L.length∧Rs ro2 am (t.length+1) cm 1 (boolsV mi)∧catE t (L.drop i) mi=catE t L m) (fun (i,mi,am,cm)=>L.length-i) (0,m,af,cf) ?_ Sub.z Sup.z ?_
   ·exact ⟨Nat.zero_le _,hm,rfl⟩
   rintro ⟨i,mi,am,cm⟩ ro2 hl2 ⟨i1,i2,i3⟩
   dsimp only [List.cons_append,List.nil_append] at i1 i2 i3 ⊢
   by_cases hi:i<L.length
   ·obtain ⟨kd,hkd⟩:∃ kd,L[i]?=some kd:=⟨_,List.getElem?_eq_getElem hi⟩
    have hvv:=hks.get hkd
    obtain ⟨ak,ck,hvk⟩:=hvv.cells
    rw [hvk] at hvv
    rw [dropN_cons hkd,catE] at i3
    repeat first|exact zE|refine zP ?_|refine zB fun b=>?_|refine zC fun a' c' hc1 hc2=>?_|(apply GJ.a;exact rfl;intro hg)|(apply GJ.o;exact rfl;intro hg)
    rw [Int.toNat_natCast]
    refine OpOk.loadRow rfl rfl (LdN.at hrs hvk) rfl ?_
    repeat first|exact zE|refine zP ?_|refine zB fun b=>?_|refine zC fun a' c' hc1 hc2=>?_|(apply GJ.a;exact rfl;intro hg)|(apply GJ.o;exact rfl;intro hg)
    refine (ih kd (List.mem_of_getElem? hkd)).run (hvv.le hl2) (hall kd (List.mem_of_getElem? hkd)) (Rs.up hb) ht i2 (fun ro3 a3 c3 hl3 hr3=>?_)
    repeat first|exact zE|refine zP ?_|refine zB fun b=>?_|refine zC fun a' c' hc1 hc2=>?_|(apply GJ.a;exact rfl;intro hg)|(apply GJ.o;exact rfl;intro hg)
    repeat first|exact zE|refine zP ?_|refine zB fun b=>?_|refine zC fun a' c' hc1 hc2=>?_|(apply GJ.a;exact rfl;intro hg)|(apply GJ.o;exact rfl;intro hg)
    refine Wk.id ⟨(i+1,endsR t kd mi,a3,c3),?_,?_,Sub.z,Sup.z⟩
    all_goals try dsimp only
    ·exact ⟨by omega,hr3,i3⟩
    ·omega
   ·obtain rfl:i=L.length:=by omega
    rw [List.drop_length,catE] at i3
    subst i3
    repeat first|exact zE|refine zP ?_|refine zB fun b=>?_|refine zC fun a' c' hc1 hc2=>?_|(apply GJ.a;exact rfl;intro hg)|(apply GJ.o;exact rfl;intro hg)
    exact Wk.outS Sup.z (.refl _) (hk ro2 _ _ hl2 i2)
 | alt s x1 y1 l1 a1 b1 =>
   rw [if_neg (by decide),if_neg (by decide),if_neg (by decide),if_pos rfl] at hk
   generalize x1::y1::l1=L at *
   have hall:=wrongK_all hkw
   refine CallOk.intro (args:=[_,_,_]) (rs:=[_]) T_ok Tryz.func34 Tryz.call34 rfl rfl (by kernel_rfl) rfl rfl ?_
   repeat first|exact zE|refine zP ?_|refine zB fun b=>?_|refine zC fun a' c' hc1 hc2=>?_|(apply GJ.a;exact rfl;intro hg)|(apply GJ.o;exact rfl;intro hg)
   rw [show ((t.length:Int)+1).toNat=t.length+1 by omega,bools_zero]
   obtain ⟨bO,hbO⟩:∃ z:Nat,z=b:=⟨_,rfl⟩
   subst hbO
   refine LoopOk.auto (ι:=Nat × List Bool) Keep.z (fun (i,o)=>[(12,.int .i64 (i:Int))]) (fun (i,o)=>.sl (some ⟨bO,0,none⟩) (t.length+1) (t.length+1) 4 1 (boolsV o)::.blk b 26 (nodeV 4 z ad L.length cp x y)::own) (fun (i,o) ro2=>i≤L.length∧o.length=t.length+1∧altE t (L.drop i) m o=altE t L m (noneR t.length)) (fun (i,o)=>L.length-i) (0,noneR t.length) ?_ Sub.z Sup.z ?_
   ·exact ⟨Nat.zero_le _,by simp [noneR],rfl⟩
   rintro ⟨i,o⟩ ro2 hl2 ⟨i1,i2,i3⟩
   dsimp only [List.cons_append,List.nil_append] at i1 i2 i3 ⊢
   by_cases hi:i<L.length
   ·obtain ⟨kd,hkd⟩:∃ kd,L[i]?=some kd:=⟨_,List.getElem?_eq_getElem hi⟩
    have hvv:=hks.get hkd
    obtain ⟨ak,ck,hvk⟩:=hvv.cells
    rw [hvk] at hvv
    rw [dropN_cons hkd,altE] at i3
    dsimp only at i3
    repeat first|exact zE|refine zP ?_|refine zB fun b=>?_|refine zC fun a' c' hc1 hc2=>?_|(apply GJ.a;exact rfl;intro hg)|(apply GJ.o;exact rfl;intro hg)
    rw [Int.toNat_natCast]
    refine OpOk.loadRow rfl rfl (LdN.at hrs hvk) rfl ?_
    repeat first|exact zE|refine zP ?_|refine zB fun b=>?_|refine zC fun a' c' hc1 hc2=>?_|(apply GJ.a;exact rfl;intro hg)|(apply GJ.o;exact rfl;intro hg)
    refine (ih kd (List.mem_of_getElem? hkd)).run (hvv.le hl2) (hall kd (List.mem_of_getElem? hkd)) (Rs.up hb) ht (Rs.up hm) (fun ro3 a3 c3 hl3 hr3=>?_)
    generalize endsR t kd m=e at i3 hr3
    have hel:e.length=t.length+1:=by have:=hr3.n1;rwa [boolsV_len] at this
    obtain ⟨Q,hQ⟩:∃ Q,Q=orR o e t.length:=⟨_,rfl⟩
    rw [←hQ] at i3
    have hQl:Q.length=t.length+1:=by rw [hQ];exact orR_len _ _ _
    repeat first|exact zE|refine zP ?_|refine zB fun b=>?_|refine zC fun a' c' hc1 hc2=>?_|(apply GJ.a;exact rfl;intro hg)|(apply GJ.o;exact rfl;intro hg)
    refine LoopOk.at (ι:=Nat) Keep.z (fun k=>[(14,.int .i64 (k:Int))]) (fun k=>.sl (some ⟨bO,0,none⟩) (t.length+1) (t.length+1) 4 1 (boolsV (Q.take k++o.drop k))::.blk b 26 (nodeV 4 z ad L.length cp x y)::own) (fun k=>k≤t.length+1) (fun k=>t.length+1-k) 0 ?_ Sub.z Sup.z ?_
    ·exact Nat.zero_le _
    rintro k k1
    dsimp only [List.cons_append,List.nil_append] at k1 ⊢
    have hml2:=mixB_len hQl i2 k1
    have hbl2:=(boolsV_len (Q.take k++o.drop k)).trans hml2
    by_cases hkl:k≤t.length
    ·have hQk:Q[k]?=some (getB o k||getB e k):=by rw [hQ];exact range_map_get _ (by omega)
     have hms:=mixB_set hQl i2 hQk
     have hgo:=(bangB (l:=Q.take k++o.drop k) (i:=k) (by omega)).trans (mixB_get hQl i2 (by omega))
     have hge:=bangB (l:=e) (i:=k) (by omega)
     generalize getB o k=p at hms hgo
     generalize getB e k=p2 at hms hge
     cases p with
     | true =>
       repeat first|exact zE|refine zP ?_|refine zB fun b=>?_|refine zC fun a' c' hc1 hc2=>?_|(apply GJ.a;exact rfl;intro hg)|(apply GJ.o;exact rfl;intro hg)
       rw [hgo]
       repeat first|exact zE|refine zP ?_|refine zB fun b=>?_|refine zC fun a' c' hc1 hc2=>?_|(apply GJ.a;exact rfl;intro hg)|(apply GJ.o;exact rfl;intro hg)
       refine OpOk.storeSlAt' (k:=k) rfl rfl rfl rfl (by rw [Int.toNat_natCast]) (by omega) ?_
       have hms2:(Q.take k++o.drop k).set k true=Q.take (k+1)++o.drop (k+1):=hms
       rw [boolsV_set,hms2]
       repeat first|exact zE|refine zP ?_|refine zB fun b=>?_|refine zC fun a' c' hc1 hc2=>?_|(apply GJ.a;exact rfl;intro hg)|(apply GJ.o;exact rfl;intro hg)
       repeat first|exact zE|refine zP ?_|refine zB fun b=>?_|refine zC fun a' c' hc1 hc2=>?_|(apply GJ.a;exact rfl;intro hg)|(apply GJ.o;exact rfl;intro hg)
       refine Wk.id ⟨k+1,⟨rfl,?_⟩,?_,Sub.z,Sup.z⟩
       all_goals try dsimp only
       ·omega
       ·omega
     | false =>
       repeat first|exact zE|refine zP ?_|refine zB fun b=>?_|refine zC fun a' c' hc1 hc2=>?_|(apply GJ.a;exact rfl;intro hg)|(apply GJ.o;exact rfl;intro hg)
       rw [hgo]
       repeat first|exact zE|refine zP ?_|refine zB fun b=>?_|refine zC fun a' c' hc1 hc2=>?_|(apply GJ.a;exact rfl;intro hg)|(apply GJ.o;exact rfl;intro hg)
       rw [hge]
       repeat first|exact zE|refine zP ?_|refine zB fun b=>?_|refine zC fun a' c' hc1 hc2=>?_|(apply GJ.a;exact rfl;intro hg)|(apply GJ.o;exact rfl;intro hg)
       refine OpOk.storeSlAt' (k:=k) rfl rfl rfl rfl (by rw [Int.toNat_natCast]) (by omega) ?_
       rw [boolsV_set,hms]
       repeat first|exact zE|refine zP ?_|refine zB fun b=>?_|refine zC fun a' c' hc1 hc2=>?_|(apply GJ.a;exact rfl;intro hg)|(apply GJ.o;exact rfl;intro hg)
       repeat first|exact zE|refine zP ?_|refine zB fun b=>?_|refine zC fun a' c' hc1 hc2=>?_|(apply GJ.a;exact rfl;intro hg)|(apply GJ.o;exact rfl;intro hg)
       refine Wk.id ⟨k+1,⟨rfl,?_⟩,?_,Sub.z,Sup.z⟩
       all_goals try dsimp only
       ·omega
       ·omega
    ·obtain rfl:k=t.length+1:=by omega
     have e2:Q.take (t.length+1)++o.drop (t.length+1)=Q:=by
      rw [List.take_of_length_le (by omega),List.drop_eq_nil_of_le (by omega),List.append_nil]
     rw [e2]
     repeat first|exact zE|refine zP ?_|refine zB fun b=>?_|refine zC fun a' c' hc1 hc2=>?_|(apply GJ.a;exact rfl;intro hg)|(apply GJ.o;exact rfl;intro hg)
     repeat first|exact zE|refine zP ?_|refine zB fun b=>?_|refine zC fun a' c' hc1 hc2=>?_|(apply GJ.a;exact rfl;intro hg)|(apply GJ.o;exact rfl;intro hg)
     refine Wk.id ⟨(i+1,Q),?_,?_,Sub.z,Sup.z⟩
     all_goals try dsimp only
     ·exact ⟨by omega,hQl,i3⟩
     ·omega
   ·obtain rfl:i=L.length:=by omega
    rw [List.drop_length,altE] at i3
    subst i3
    repeat first|exact zE|refine zP ?_|refine zB fun b=>?_|refine zC fun a' c' hc1 hc2=>?_|(apply GJ.a;exact rfl;intro hg)|(apply GJ.o;exact rfl;intro hg)
    refine Wk.freeze (c:=.sl (some ⟨bO,0,none⟩) _ _ _ _ _) Take.auto (fun ro3 hl3 hc3=>?_)
    exact Wk.outS Sup.z (.refl _) (hk ro3 _ _ (hl2.trans hl3) (Rs.last hc3))
 | rep s x1 a1 b1 h =>
   rw [if_neg (by decide),if_neg (by decide),if_neg (by decide),if_neg (by decide),if_pos rfl] at hk
   have hkid:kidE t [x1]=endsR t x1:=by rw [kidE]
   rw [hkid] at hk
   refine CallOk.intro (args:=[_,_,_]) (rs:=[_]) T_ok Tryz.func34 Tryz.call34 rfl rfl (by kernel_rfl) rfl rfl ?_
   repeat first|exact zE|refine zP ?_|refine zB fun b=>?_|refine zC fun a' c' hc1 hc2=>?_|(apply GJ.a;exact rfl;intro hg)|(apply GJ.o;exact rfl;intro hg)
   refine rrep_ok (ih x1 (List.mem_singleton.2 rfl)) hv0 (wrongK_all hkw x1 (List.mem_singleton.2 rfl)) (by omega) hb ht hm (fun ro3 a3 c3 hl3 hr3=>?_)
   repeat first|exact zE|refine zP ?_|refine zB fun b=>?_|refine zC fun a' c' hc1 hc2=>?_|(apply GJ.a;exact rfl;intro hg)|(apply GJ.o;exact rfl;intro hg)
   exact Wk.outS Sup.z (.refl _) (hk ro3 _ _ hl3 hr3)⟩
section
variable {ro:Ro}{own r:Chs}{K:Value→Ro→Chs→Prop}{g:Chunk→Chs}
theorem rmatch_ok {n:RgD}{v:List Value}{t:List UInt8}{ab:Option Addr}{cb:Nat} (hv:RgOk ro n v) (hw:wrongD n=0) (hb:Bys ro ab t.length cb t) (ht:t.length≤100000) (hk:∀ ro',Le ro ro'→K (.bool (refM n t)) ro' own) :
  CallOk Tryz.prog 14 #[.agg v.toArray,.slice ab t.length cb] ro own K:=by
 have hbm:=hb.max
 have hbl:=hb.le
 unfold maxLen at hbm
 obtain ⟨ak,ck,hvk⟩:=hv.cells
 have hv0:=hv
 rw [hvk] at hv ⊢
 refine CallOk.intro (args:=[_,_]) (rs:=[_]) T_ok Tryz.func14 Tryz.call14 rfl rfl (by kernel_rfl) rfl rfl ?_
 repeat first|exact zE|refine zP ?_|refine zB fun b=>?_|refine zC fun a' c' hc1 hc2=>?_|(apply GJ.a;exact rfl;intro hg)|(apply GJ.o;exact rfl;intro hg)
 rw [show ((t.length:Int)+1).toNat=t.length+1 by omega,bools_zero]
 have hzl:=boolsV_len (List.replicate (t.length+1) false)
 rw [List.length_replicate] at hzl
 refine OpOk.storeSlAt' (k:=0) rfl rfl rfl rfl rfl (by omega) ?_
 rw [boolsV_set,show (List.replicate (t.length+1) false).set 0 true=firstE t.length by rw [List.replicate_succ];rfl]
 repeat first|exact zE|refine zP ?_|refine zB fun b=>?_|refine zC fun a' c' hc1 hc2=>?_|(apply GJ.a;exact rfl;intro hg)|(apply GJ.o;exact rfl;intro hg)
 refine CallOk.freeze (c:=.sl (some ⟨b,0,none⟩) _ _ _ _ _) Take.auto (fun ro2 hl2 hc2=>?_)
 refine (endsC n).run (hv.le hl2) hw (Rs.up hb) ht (Rs.last hc2) (fun ro3 a3 c3 hl3 hr3=>?_)
 have hel:(endsR t n (firstE t.length)).length=t.length+1:=by have:=hr3.n1;rwa [boolsV_len] at this
 have hge:=bangB (l:=endsR t n (firstE t.length)) (i:=t.length) (by omega)
 repeat first|exact zE|refine zP ?_|refine zB fun b=>?_|refine zC fun a' c' hc1 hc2=>?_|(apply GJ.a;exact rfl;intro hg)|(apply GJ.o;exact rfl;intro hg)
 rw [hge]
 exact Wk.outS Sup.z (.refl _) (hk ro3 (hl2.trans hl3))
end
end Go.Proofs.YtficlekgjbnniaaGreatDoor
end
section
namespace Go.E
open Go
theorem OpOk.lssS {P:Program}{ty:TypeId}{env:Env}{ro:Ro}{own:Chs}{K:Value→Ro→Chs→Prop}{t yt:TypeId}{x y:Operand}{a b:List UInt8} (hx:ev env x=some (str a)) (hy:ev env y=some (str b)) (hk:K (.bool (Op.bytesLess a b)) ro own):OpOk P (.binOp .lss t x y yt) ty env ro own K :=
 OpOk.pu (fun h hs d pos af g=>.mk fun ρ w hρ _=>by simp [execOp,hρ _ _ hx,hρ _ _ hy,str,eqGuard,binOp_string_lss]) hk
theorem less_split:∀ {a b:List UInt8},Op.bytesLess a b=true→a.length=b.length→∃ (p x y:List UInt8) (c d:UInt8),a=p++c::x∧b=p++d::y∧c.toNat<d.toNat∧x.length=y.length
 | [],[],h,_=>by rw [Op.bytesLess] at h;cases h
 | [],y::b,_,hl=>by simp at hl
 | x::a,[],h,_=>by rw [Op.bytesLess] at h;cases h
 | x::a,y::b,h,hl=>by
   rw [Op.bytesLess,Bool.or_eq_true,Bool.and_eq_true,decide_eq_true_eq] at h
   rcases h with h|⟨h1,h2⟩
   ·exact ⟨[],a,b,x,y,rfl,rfl,UInt8.lt_iff_toNat_lt.1 h,by simpa using hl⟩
   ·obtain ⟨p,u,v,c,d,e1,e2,e3,e4⟩:=less_split h2 (by simpa using hl)
    have:x=y:=by simpa using h1
    subst this
    exact ⟨x::p,u,v,c,d,by rw [e1];rfl,by rw [e2];rfl,e3,e4⟩
end Go.E
namespace Go.Proofs.YtficlekgjbnniaaGreatDoor
open Go Go.E
theorem lst_zero {n:RgD} (h:lstE n=0):(makeN n).1=0∧(makeA (makeN n).2).1=0:=by
 unfold lstE at h
 have h1:(makeN n).1=0:=by
  refine Decidable.byContradiction fun hn=>?_
  rw [if_pos hn] at h
  exact hn h
 rw [h1,if_neg (by decide)] at h
 exact ⟨h1,h⟩
theorem lst_lang {ro:Ro}{n:RgD}{v:List Value} (hv:RgOk ro n v) (h:lstE n=0):wrongD n=0∧(∀ t,matchA (lstD n) t=refM n t)∧∀ t,refM n t=true↔langN n t:=by
 obtain ⟨h1,h2⟩:=lst_zero h
 obtain ⟨hw,_⟩:=make_size h1
 have hK:=make_k (rg_ins hv)
 exact ⟨hw,fun t=>(dfa_ref hw hK.sets h1 h2 t).2,fun t=>ref_lang hw t⟩
theorem not_less {a b:List UInt8} (h:numW b≤numW a) (hl:a.length=b.length):Op.bytesLess a b=false:=by
 cases hh:Op.bytesLess a b with
 | false=>rfl
 | true =>
   obtain ⟨p,x,y,c,d,rfl,rfl,h3,h4⟩:=less_split hh hl
   have:=numW_lex x.length p x y c d rfl h4.symm h3
   omega
theorem match_nil (D:DfaA):matchA D []=endsA D 0:=rfl
section
variable {ro:Ro}{own r:Chs}{K:Value→Ro→Chs→Prop}{g:Chunk→Chs}
set_option maxHeartbeats 4000000 in
theorem ashortest_law {n:RgD}{v:List Value}{tx:List UInt8}{ab:Option Addr}{nb cb:Nat} (ht:TabOk ro) (hv:RgOk ro n v) (hb:Bys ro ab nb cb tx) (hk:K (.bool true) ro own):CallOk Tryz.prog 3 #[.agg v.toArray,.slice ab nb cb] ro own K:=by
 refine CallOk.back ?_
 obtain ⟨a1,c1,hvc⟩:=hv.cells
 have hv0:=hv
 subst hvc
 have hmx:=hb.max
 have hncl:=hb.le
 unfold maxLen at hmx
 have hnb:=hb.n1
 obtain rfl:tx.length=nb:=by simpa using hnb
 refine CallOk.intro (args:=[_,_]) (rs:=[_]) T_ok Tryz.func3 Tryz.call3 rfl rfl (by kernel_rfl) rfl rfl ?_
 repeat first|exact zE|refine zP ?_|refine zB fun b=>?_|refine zC fun a' c' hc1 hc2=>?_|(apply GJ.a;exact rfl;intro hg)|(apply GJ.o;exact rfl;intro hg)
 refine adecides_ok ht (fun ro1 hl1=>?_)
 repeat first|exact zE|refine zP ?_|refine zB fun b=>?_|refine zC fun a' c' hc1 hc2=>?_|(apply GJ.a;exact rfl;intro hg)|(apply GJ.o;exact rfl;intro hg)
 refine amade_ok (ht.le hl1) (hv0.le hl1) (fun ro2 hl2 hn=>?_) (fun ro2 p hl2 hm hp hL=>?_)
 ·repeat first|exact zE|refine zP ?_|refine zB fun b=>?_|refine zC fun a' c' hc1 hc2=>?_|(apply GJ.a;exact rfl;intro hg)|(apply GJ.o;exact rfl;intro hg)
  refine OpOk.eqlPtrNil rfl rfl (by kernel_rfl) ?_
  repeat first|exact zE|refine zP ?_|refine zB fun b=>?_|refine zC fun a' c' hc1 hc2=>?_|(apply GJ.a;exact rfl;intro hg)|(apply GJ.o;exact rfl;intro hg)
  exact Wk.back1 Sup.z (.refl _) hk
 obtain ⟨hw,hM,hlg⟩:=lst_lang hv0 hm.2.1
 have hv2:=(hv0.le hl1).le hl2
 by_cases h30:30<tx.length
 ·repeat first|exact zE|refine zP ?_|refine zB fun b=>?_|refine zC fun a' c' hc1 hc2=>?_|(apply GJ.a;exact rfl;intro hg)|(apply GJ.o;exact rfl;intro hg)
  exact Wk.back1 Sup.z (.refl _) hk
 have hb1:Bys ro1 ab tx.length cb tx:=Rs.up hb
 have hb2:Bys ro2 ab tx.length cb tx:=Rs.up hb1
 clear hm hv hv0 hb hb1
 generalize lstD n=D at *
 obtain ⟨w,hw6,ho,hs,_,_⟩:=hL.ok
 have hpos:=hL.pos
 repeat first|exact zE|refine zP ?_|refine zB fun b=>?_|refine zC fun a' c' hc1 hc2=>?_|(apply GJ.a;exact rfl;intro hg)|(apply GJ.o;exact rfl;intro hg)
 refine ashort_ok hp hL (fun hs=>?_) (fun ro3 a3 c3 s hl3 hs h4 hr=>?_)
 ·have hno:=short_none ho hpos hs
  repeat first|exact zE|refine zP ?_|refine zB fun b=>?_|refine zC fun a' c' hc1 hc2=>?_|(apply GJ.a;exact rfl;intro hg)|(apply GJ.o;exact rfl;intro hg)
  refine aempty_ok hp hL (fun ro3 hl3=>?_)
  rw [hs,show (none:Option (List UInt8)).isNone=true from rfl]
  have hv3:=hv2.le hl3
  have hb3:Bys ro3 ab tx.length cb tx:=Rs.up hb2
  repeat first|exact zE|refine zP ?_|refine zB fun b=>?_|refine zC fun a' c' hc1 hc2=>?_|(apply GJ.a;exact rfl;intro hg)|(apply GJ.o;exact rfl;intro hg)
  refine anull_ok (hp.le hl3) ?_
  repeat first|exact zE|refine zP ?_|refine zB fun b=>?_|refine zC fun a' c' hc1 hc2=>?_|(apply GJ.a;exact rfl;intro hg)|(apply GJ.o;exact rfl;intro hg)
  refine rmatch_ok (t:=[]) (ab:=none) (cb:=0) hv3 hw (Rs.nil ro3 1) (by decide) (fun ro4 hl4=>?_)
  have hb4:Bys ro4 ab tx.length cb tx:=Rs.up hb3
  rw [←hM,match_nil]
  generalize endsA D 0=e0 at *
  repeat first|exact zE|refine zP ?_|refine zB fun b=>?_|refine zC fun a' c' hc1 hc2=>?_|(apply GJ.a;exact rfl;intro hg)|(apply GJ.o;exact rfl;intro hg)
  refine Br.f (by simp) ?_
  repeat first|exact zE|refine zP ?_|refine zB fun b=>?_|refine zC fun a' c' hc1 hc2=>?_|(apply GJ.a;exact rfl;intro hg)|(apply GJ.o;exact rfl;intro hg)
  refine rmatch_ok ((hv3.le hl4)) hw hb4 (by omega) (fun ro5 hl5=>?_)
  rw [←hM,res_match,hno]
  repeat first|exact zE|refine zP ?_|refine zB fun b=>?_|refine zC fun a' c' hc1 hc2=>?_|(apply GJ.a;exact rfl;intro hg)|(apply GJ.o;exact rfl;intro hg)
  exact Wk.back1 Sup.z (.refl _) hk
 ·obtain ⟨hs1,hs2⟩:=short_some ho hs
  repeat first|exact zE|refine zP ?_|refine zB fun b=>?_|refine zC fun a' c' hc1 hc2=>?_|(apply GJ.a;exact rfl;intro hg)|(apply GJ.o;exact rfl;intro hg)
  refine aempty_ok (hp.le hl3) hL (fun ro4 hl4=>?_)
  rw [hs,show (some s).isNone=false from rfl]
  have hv4:=(hv2.le hl3).le hl4
  have hb3:Bys ro3 ab tx.length cb tx:=Rs.up hb2
  have hb4:Bys ro4 ab tx.length cb tx:=Rs.up hb3
  have hr4:Bys ro4 a3 s.length c3 s:=Rs.up hr
  repeat first|exact zE|refine zP ?_|refine zB fun b=>?_|refine zC fun a' c' hc1 hc2=>?_|(apply GJ.a;exact rfl;intro hg)|(apply GJ.o;exact rfl;intro hg)
  refine anull_ok ((hp.le hl3).le hl4) ?_
  repeat first|exact zE|refine zP ?_|refine zB fun b=>?_|refine zC fun a' c' hc1 hc2=>?_|(apply GJ.a;exact rfl;intro hg)|(apply GJ.o;exact rfl;intro hg)
  refine rmatch_ok (t:=[]) (ab:=none) (cb:=0) hv4 hw (Rs.nil ro4 1) (by decide) (fun ro5 hl5=>?_)
  have hb5:Bys ro5 ab tx.length cb tx:=Rs.up hb4
  have hr5:Bys ro5 a3 s.length c3 s:=Rs.up hr4
  have hv5:=hv4.le hl5
  rw [←hM,match_nil]
  generalize endsA D 0=e0 at *
  repeat first|exact zE|refine zP ?_|refine zB fun b=>?_|refine zC fun a' c' hc1 hc2=>?_|(apply GJ.a;exact rfl;intro hg)|(apply GJ.o;exact rfl;intro hg)
  refine Br.f (by simp) ?_
  repeat first|exact zE|refine zP ?_|refine zB fun b=>?_|refine zC fun a' c' hc1 hc2=>?_|(apply GJ.a;exact rfl;intro hg)|(apply GJ.o;exact rfl;intro hg)
  refine rmatch_ok hv5 hw hr5 (by omega) (fun ro6 hl6=>?_)
  have hb6:Bys ro6 ab tx.length cb tx:=Rs.up hb5
  have hr6:Bys ro6 a3 s.length c3 s:=Rs.up hr5
  have hv6:=hv5.le hl6
  rw [←hM,res_match,hs1]
  repeat first|exact zE|refine zP ?_|refine zB fun b=>?_|refine zC fun a' c' hc1 hc2=>?_|(apply GJ.a;exact rfl;intro hg)|(apply GJ.o;exact rfl;intro hg)
  refine rmatch_ok hv6 hw hb6 (by omega) (fun ro7 hl7=>?_)
  have hb7:Bys ro7 ab tx.length cb tx:=Rs.up hb6
  have hr7:Bys ro7 a3 s.length c3 s:=Rs.up hr6
  have hv7:=hv6.le hl7
  have hmin:=hs2 tx
  rw [←hM,res_match]
  cases hrt:resA D 0 tx with
  | false =>
    repeat first|exact zE|refine zP ?_|refine zB fun b=>?_|refine zC fun a' c' hc1 hc2=>?_|(apply GJ.a;exact rfl;intro hg)|(apply GJ.o;exact rfl;intro hg)
    refine LoopOk.auto (ι:=Nat) Keep.z (fun i=>[(77,.int .i64 (i:Int))]) (fun i=>.blk b 26 (nodeV n.kind n.set a1 n.kids.length c1 n.min n.max)::own) (fun i ro8=>i≤s.length) (fun i=>s.length-i) 0 ?_ Sub.z Sup.z ?_
    ·exact Nat.zero_le _
    intro i ro8 hl8 i1
    dsimp only [List.cons_append,List.nil_append] at i1 ⊢
    have hv8:=hv7.le hl8
    have hr8:Bys ro8 a3 s.length c3 s:=Rs.up hr7
    by_cases hi:i<s.length
    ·have hcut:=hr8.cutB (lo:=0) (hi:=(i:Int)) ⟨Int.le_refl _,by omega,by omega⟩
     have hpre:resA D 0 (s.take i)=false:=by
      cases hh:resA D 0 (s.take i) with
      | false=>rfl
      | true =>
        have:=numW_len (hs2 _ hh)
        rw [List.length_take] at this
        omega
     have hc38:=hr8.le
     have hlt8:((i:Int).toNat-Int.toNat 0)=(s.take i).length:=by rw [List.length_take];simp;omega
     rw [show (s.drop (Int.toNat 0)).take ((i:Int).toNat-Int.toNat 0)=s.take i by simp,hlt8] at hcut
     repeat first|exact zE|refine zP ?_|refine zB fun b=>?_|refine zC fun a' c' hc1 hc2=>?_|(apply GJ.a;exact rfl;intro hg)|(apply GJ.o;exact rfl;intro hg)
     rw [hlt8]
     refine rmatch_ok hv8 hw hcut (by rw [List.length_take];omega) (fun ro9 hl9=>?_)
     rw [←hM,res_match,hpre]
     repeat first|exact zE|refine zP ?_|refine zB fun b=>?_|refine zC fun a' c' hc1 hc2=>?_|(apply GJ.a;exact rfl;intro hg)|(apply GJ.o;exact rfl;intro hg)
     refine Wk.id ⟨i+1,?_,?_,Sub.z,Sup.z⟩
     all_goals try dsimp only
     ·omega
     ·omega
    ·obtain rfl:i=s.length:=by omega
     repeat first|exact zE|refine zP ?_|refine zB fun b=>?_|refine zC fun a' c' hc1 hc2=>?_|(apply GJ.a;exact rfl;intro hg)|(apply GJ.o;exact rfl;intro hg)
     exact Wk.back1 Sup.z (.refl _) hk
  | true =>
    have hle:=numW_len (hmin hrt)
    by_cases hlt:tx.length=s.length
    ·repeat first|exact zE|refine zP ?_|refine zB fun b=>?_|refine zC fun a' c' hc1 hc2=>?_|(apply GJ.a;exact rfl;intro hg)|(apply GJ.o;exact rfl;intro hg)
     refine OpOk.lssS rfl rfl ?_
     rw [not_less (hmin hrt) hlt]
     repeat first|exact zE|refine zP ?_|refine zB fun b=>?_|refine zC fun a' c' hc1 hc2=>?_|(apply GJ.a;exact rfl;intro hg)|(apply GJ.o;exact rfl;intro hg)
     refine LoopOk.auto (ι:=Nat) Keep.z (fun i=>[(77,.int .i64 (i:Int))]) (fun i=>.blk b 26 (nodeV n.kind n.set a1 n.kids.length c1 n.min n.max)::own) (fun i ro8=>i≤s.length) (fun i=>s.length-i) 0 ?_ Sub.z Sup.z ?_
     ·exact Nat.zero_le _
     intro i ro8 hl8 i1
     dsimp only [List.cons_append,List.nil_append] at i1 ⊢
     have hv8:=hv7.le hl8
     have hr8:Bys ro8 a3 s.length c3 s:=Rs.up hr7
     by_cases hi:i<s.length
     ·have hcut:=hr8.cutB (lo:=0) (hi:=(i:Int)) ⟨Int.le_refl _,by omega,by omega⟩
      have hpre:resA D 0 (s.take i)=false:=by
       cases hh:resA D 0 (s.take i) with
       | false=>rfl
       | true =>
         have:=numW_len (hs2 _ hh)
         rw [List.length_take] at this
         omega
      have hc38:=hr8.le
      have hlt8:((i:Int).toNat-Int.toNat 0)=(s.take i).length:=by rw [List.length_take];simp;omega
      rw [show (s.drop (Int.toNat 0)).take ((i:Int).toNat-Int.toNat 0)=s.take i by simp,hlt8] at hcut
      repeat first|exact zE|refine zP ?_|refine zB fun b=>?_|refine zC fun a' c' hc1 hc2=>?_|(apply GJ.a;exact rfl;intro hg)|(apply GJ.o;exact rfl;intro hg)
      rw [hlt8]
      refine rmatch_ok hv8 hw hcut (by rw [List.length_take];omega) (fun ro9 hl9=>?_)
      rw [←hM,res_match,hpre]
      repeat first|exact zE|refine zP ?_|refine zB fun b=>?_|refine zC fun a' c' hc1 hc2=>?_|(apply GJ.a;exact rfl;intro hg)|(apply GJ.o;exact rfl;intro hg)
      refine Wk.id ⟨i+1,?_,?_,Sub.z,Sup.z⟩
      all_goals try dsimp only
      ·omega
      ·omega
     ·obtain rfl:i=s.length:=by omega
      repeat first|exact zE|refine zP ?_|refine zB fun b=>?_|refine zC fun a' c' hc1 hc2=>?_|(apply GJ.a;exact rfl;intro hg)|(apply GJ.o;exact rfl;intro hg)
      exact Wk.back1 Sup.z (.refl _) hk
    ·repeat first|exact zE|refine zP ?_|refine zB fun b=>?_|refine zC fun a' c' hc1 hc2=>?_|(apply GJ.a;exact rfl;intro hg)|(apply GJ.o;exact rfl;intro hg)
     refine LoopOk.auto (ι:=Nat) Keep.z (fun i=>[(77,.int .i64 (i:Int))]) (fun i=>.blk b 26 (nodeV n.kind n.set a1 n.kids.length c1 n.min n.max)::own) (fun i ro8=>i≤s.length) (fun i=>s.length-i) 0 ?_ Sub.z Sup.z ?_
     ·exact Nat.zero_le _
     intro i ro8 hl8 i1
     dsimp only [List.cons_append,List.nil_append] at i1 ⊢
     have hv8:=hv7.le hl8
     have hr8:Bys ro8 a3 s.length c3 s:=Rs.up hr7
     by_cases hi:i<s.length
     ·have hcut:=hr8.cutB (lo:=0) (hi:=(i:Int)) ⟨Int.le_refl _,by omega,by omega⟩
      have hpre:resA D 0 (s.take i)=false:=by
       cases hh:resA D 0 (s.take i) with
       | false=>rfl
       | true =>
         have:=numW_len (hs2 _ hh)
         rw [List.length_take] at this
         omega
      have hc38:=hr8.le
      have hlt8:((i:Int).toNat-Int.toNat 0)=(s.take i).length:=by rw [List.length_take];simp;omega
      rw [show (s.drop (Int.toNat 0)).take ((i:Int).toNat-Int.toNat 0)=s.take i by simp,hlt8] at hcut
      repeat first|exact zE|refine zP ?_|refine zB fun b=>?_|refine zC fun a' c' hc1 hc2=>?_|(apply GJ.a;exact rfl;intro hg)|(apply GJ.o;exact rfl;intro hg)
      rw [hlt8]
      refine rmatch_ok hv8 hw hcut (by rw [List.length_take];omega) (fun ro9 hl9=>?_)
      rw [←hM,res_match,hpre]
      repeat first|exact zE|refine zP ?_|refine zB fun b=>?_|refine zC fun a' c' hc1 hc2=>?_|(apply GJ.a;exact rfl;intro hg)|(apply GJ.o;exact rfl;intro hg)
      refine Wk.id ⟨i+1,?_,?_,Sub.z,Sup.z⟩
      all_goals try dsimp only
      ·omega
      ·omega
     ·obtain rfl:i=s.length:=by omega
      repeat first|exact zE|refine zP ?_|refine zB fun b=>?_|refine zC fun a' c' hc1 hc2=>?_|(apply GJ.a;exact rfl;intro hg)|(apply GJ.o;exact rfl;intro hg)
      exact Wk.back1 Sup.z (.refl _) hk
end
end Go.Proofs.YtficlekgjbnniaaGreatDoor
end
section
namespace Go.E
open Go
theorem OpOk.after {P:Program}{op:Op}{ty:TypeId}{env:Env}{ro:Ro}{own:Chs}{K:Value→Ro→Chs→Prop} (h:OpOk P op ty env ro own (fun v ro1 own1=>∃ c r,Take own1 c r∧∀ ro',Le ro1 ro'→c.holds ro'→K v ro' r)):OpOk P op ty env ro own K :=
 ⟨fun g hg d pos af gd=>.mk fun ρ w hρ hw=>by
  obtain ⟨v,w',h1,h2,ro2,own2,hl2,hs2,c,r,ht,hK⟩:=(h.run g hg d pos af gd).run ρ w hρ hw
  obtain ⟨ro3,hl3,hc,hs3⟩:=(hs2.perm ht.perm).freeze
  exact ⟨v,w',h1,h2,ro3,r,hl2.trans hl3,hs3,hK ro3 hl3 hc⟩⟩
theorem OpOk.buildSliceF {P:Program}{T:TT} [hT:TTab P T] {ty:TypeId}{env:Env}{ro:Ro}{own:Chs}{K:Value→Ro→Chs→Prop}{t e n:Nat}{ps:List (Nat × Operand)}{vs:List Value}{s:Nat} (hv:evs env (ps.map (·.2))=some vs) (hp:ps.map (·.1)=List.range n) (ht:elemOf T t=some (e,s))
  (hn:Nat.ble (n*s) 1048576=true) (h1:vs.all (fun v=>Nat.beq v.cells.size s)=true) (hk:∀ ro' b,Le ro ro'→Rs ro' (some ⟨b,0,none⟩) n n s (flat vs)→K (.slice (some ⟨b,0,none⟩) n n) ro' own) :
  OpOk P (.buildSlice t n ps.toArray) ty env ro own K :=
 OpOk.after (OpOk.buildSlice hv hp ht hn h1 (fun b=>⟨_,_,Take.hit _ _,fun ro' hl hc=>hk ro' b hl (Rs.last hc)⟩))
def planGoN (d:Nat) (l:List Oper):List Oper→Nat→Nat→List Tk
 | [],_,_=>[]
 | _::f,mask,ph=>match nextOf true mask l 0 with
   | some (i,_)=>.look i::planGoN d l f (Nat.lor mask (Nat.shiftLeft 1 i)) (Nat.lor ph (Nat.shiftLeft 1 i))
   | none=>match nextOf false mask l 0 with
     | some (i,p)=>match readyL mask l 0 with
       | _::_::_=>.rest (foOf l d mask)::looks f
       | _=>bif sub ph p||sub ph (cloD l 9 i) then .last i::planGoN d l f (Nat.lor mask (Nat.shiftLeft 1 i)) 0 else .keep i::planGoN d l f (Nat.lor mask (Nat.shiftLeft 1 i)) ph
     | none=>[]
theorem CodeOk.drawnN {P:Program}{T:TT} [hT:TTab P T] {env:Env}{ro:Ro}{own:Chs}{id:Nat}{l:List Oper}{k:Exit→Kt}{plan:List Tk} (_hnf:NfT (planGoN 12 l l 0 0) plan) (hm:P.follows .mixedOrders=true) (hns:Region.noSelect l.toArray=true) (hlen:Nat.beq plan.length l.length=true) (hp:planOk l.toArray plan (Array.replicate l.length false)=true)
  (hv:nextB plan (vH P T l plan []) (k .normal) env ro own):CodeOk P (.region id l.toArray true) k env ro own:=CodeOk.drawn _ hm hns hlen hp hv
theorem AllOk.keepR {P:Program}{T:TT}{all:List Oper}{B:Chs}{fo:Fo}{env:Env}{ro:Ro}{own:Chs}{k:Kt}{ι:Type} (f:ι→Env) (O:ι→Chs) (I:ι→Ro→Prop)
  (h:vFo P T all B (fun env' ro' own'=>∃ i,I i ro'∧Sub (f i++env) env'∧Sup own' (O i)) fo env ro own) (hk:∀ i ro',Le ro ro'→I i ro'→k (f i++env) ro' (O i)):AllOk (fun Φ=>vFo P T all B Φ fo env ro own) k ro :=
 ⟨_,h,fun _ ro' _ hl ⟨i,h3,h1,h2⟩=>⟨f i++env,O i,fun t v hv=>h1.look hv,h2,hk i ro' hl h3⟩⟩
end Go.E
namespace Go.Proofs.YtficlekgjbnniaaGreatDoor
open Go Go.E
theorem RgOk.one' {ro:Ro}{k lo hi:Int}{b:Nat}{x:RgD}{v cs:List Value} (h:Rs ro (some ⟨b,0,none⟩) 1 1 8 cs) (hc:cs=v) (hx:RgOk ro x v):RgOk ro (.mk k zeroS [x] lo hi) (nodeV k zeroS (some ⟨b,0,none⟩) 1 1 lo hi):=by
 subst hc
 rw [RgOk]
 refine ⟨_,_,cs,rfl,zeroS_in,h,?_⟩
 rw [RgsOk]
 exact ⟨cs,[],by simp,hx,by rw [RgsOk]⟩
theorem RgOk.two' {ro:Ro}{k lo hi:Int}{b:Nat}{x y:RgD}{v u cs:List Value} (h:Rs ro (some ⟨b,0,none⟩) 2 2 8 cs) (hc:cs=v++u) (hx:RgOk ro x v) (hy:RgOk ro y u):RgOk ro (.mk k zeroS [x,y] lo hi) (nodeV k zeroS (some ⟨b,0,none⟩) 2 2 lo hi):=by
 subst hc
 rw [RgOk]
 refine ⟨_,_,_,rfl,zeroS_in,h,?_⟩
 rw [RgsOk]
 refine ⟨v,u,rfl,hx,?_⟩
 rw [RgsOk]
 exact ⟨u,[],by simp,hy,by rw [RgsOk]⟩
theorem RgOk.any (ro:Ro):RgOk ro anyR1 (nodeV 2 allD none 0 0 0 0):=by
 unfold anyR1
 rw [RgOk]
 exact ⟨_,_,[],rfl,SetIn.all,Rs.nil ro 8,by rw [RgsOk]⟩
section
variable {ro:Ro}{own r:Chs}{K:Value→Ro→Chs→Prop}{g:Chunk→Chs}
set_option maxHeartbeats 4000000 in
theorem afirst_law {n:RgD}{v:List Value}{tx:List UInt8}{ab:Option Addr}{nb cb:Nat} (ht:TabOk ro) (hv:RgOk ro n v) (hb:Bys ro ab nb cb tx) (hk:K (.bool true) ro own):CallOk Tryz.prog 5 #[.agg v.toArray,.slice ab nb cb] ro own K:=by
 refine CallOk.back ?_
 obtain ⟨a1,c1,hvc⟩:=hv.cells
 have hv0:=hv
 subst hvc
 have hmx:=hb.max
 have hncl:=hb.le
 unfold maxLen at hmx
 have hnb:=hb.n1
 obtain rfl:tx.length=nb:=by simpa using hnb
 refine CallOk.intro (args:=[_,_]) (rs:=[_]) T_ok Tryz.func5 Tryz.call5 rfl rfl (by kernel_rfl) rfl rfl ?_
 repeat first|exact zE|refine zP ?_|refine zB fun b=>?_|refine zC fun a' c' hc1 hc2=>?_|(apply GJ.a;exact rfl;intro hg)|(apply GJ.o;exact rfl;intro hg)
 refine adecides_ok ht (fun ro1 hl1=>?_)
 repeat first|exact zE|refine zP ?_|refine zB fun b=>?_|refine zC fun a' c' hc1 hc2=>?_|(apply GJ.a;exact rfl;intro hg)|(apply GJ.o;exact rfl;intro hg)
 refine amade_ok (ht.le hl1) (hv0.le hl1) (fun ro2 hl2 hn=>?_) (fun ro2 p hl2 hm hp hL=>?_)
 ·repeat first|exact zE|refine zP ?_|refine zB fun b=>?_|refine zC fun a' c' hc1 hc2=>?_|(apply GJ.a;exact rfl;intro hg)|(apply GJ.o;exact rfl;intro hg)
  refine OpOk.eqlPtrNil rfl rfl (by kernel_rfl) ?_
  repeat first|exact zE|refine zP ?_|refine zB fun b=>?_|refine zC fun a' c' hc1 hc2=>?_|(apply GJ.a;exact rfl;intro hg)|(apply GJ.o;exact rfl;intro hg)
  exact Wk.back1 Sup.z (.refl _) hk
 obtain ⟨hw,hM,hlg⟩:=lst_lang hv0 hm.2.1
 have hv2:=(hv0.le hl1).le hl2
 by_cases h30:30<tx.length
 ·repeat first|exact zE|refine zP ?_|refine zB fun b=>?_|refine zC fun a' c' hc1 hc2=>?_|(apply GJ.a;exact rfl;intro hg)|(apply GJ.o;exact rfl;intro hg)
  exact Wk.back1 Sup.z (.refl _) hk
 have hb1:Bys ro1 ab tx.length cb tx:=Rs.up hb
 have hb2:Bys ro2 ab tx.length cb tx:=Rs.up hb1
 have h100:=hm.2.2
 clear hm hv hv0 hb hb1
 generalize lstD n=D at *
 obtain ⟨w,hw6,ho,hs,_,_⟩:=hL.ok
 have hpos:=hL.pos
 have ht2:=(ht.le hl1).le hl2
 repeat first|exact zE|refine zP ?_|refine zB fun b=>?_|refine zC fun a' c' hc1 hc2=>?_|(apply GJ.a;exact rfl;intro hg)|(apply GJ.o;exact rfl;intro hg)
 refine afirst_ok hp hL ?_
 have hF:=firstA_ok D
 have hwd:=fun c t=>first_word ho hs (c:=c) (t:=t)
 have hlv:=fun c hc=>first_live ho hs (c:=c) hc
 have hnn:=fun h=>long_none ho hs hpos (first_none ho hs h)
 generalize firstA D=S at *
 have hin:=hF.in'
 cases htx:tx with
 | nil =>
   rw [htx] at hb2 h30
   repeat first|exact zE|refine zP ?_|refine zB fun b=>?_|refine zC fun a' c' hc1 hc2=>?_|(apply GJ.a;exact rfl;intro hg)|(apply GJ.o;exact rfl;intro hg)
   refine first_ok ht2 hin (fun hz=>?_) (fun c hc6 hcs hcl=>?_)
   ·have hlo:=hnn (fun c hc=>by rw [hz];exact zeroS_has c)
    repeat first|exact zE|refine zP ?_|refine zB fun b=>?_|refine zC fun a' c' hc1 hc2=>?_|(apply GJ.a;exact rfl;intro hg)|(apply GJ.o;exact rfl;intro hg)
    refine along_ok hp hL ?_
    repeat first|exact zE|refine zP ?_|refine zB fun b=>?_|refine zC fun a' c' hc1 hc2=>?_|(apply GJ.a;exact rfl;intro hg)|(apply GJ.o;exact rfl;intro hg)
    refine Wk.backB ?_ Sup.z (.refl _) hk
    exact decide_eq_true hlo
   ·obtain ⟨hst,t,hres⟩:=hlv c hc6 hcs
    repeat first|exact zE|refine zP ?_|refine zB fun b=>?_|refine zC fun a' c' hc1 hc2=>?_|(apply GJ.a;exact rfl;intro hg)|(apply GJ.o;exact rfl;intro hg)
    refine ashort_ok hp hL (fun hsn=>?_) (fun roS aS cS s hlS hsS h4S hrS=>?_)
    ·have:=short_none ho hpos hsn (UInt8.ofNat c::t)
     rw [hres] at this
     cases this
    ·have hpS:=(hp).le hlS
     cases s with
     | nil =>
       repeat first|exact zE|refine zP ?_|refine zB fun b=>?_|refine zC fun a' c' hc1 hc2=>?_|(apply GJ.a;exact rfl;intro hg)|(apply GJ.o;exact rfl;intro hg)
       refine dstep_ok hpS ho hc6 ?_
       repeat first|exact zE|refine zP ?_|refine zB fun b=>?_|refine zC fun a' c' hc1 hc2=>?_|(apply GJ.a;exact rfl;intro hg)|(apply GJ.o;exact rfl;intro hg)
       refine Wk.backB ?_ Sup.z (.refl _) hk
       exact decide_eq_true hst
     | cons y sl =>
       have hy:=hwd y sl (short_some ho hsS).1
       have hylen:(y::sl).length=sl.length+1:=List.length_cons
       have hy0:(y::sl)[Int.toNat 0]! = y:=rfl
       have hymx:=hrS.le
       have hy6:=UInt8.toNat_lt y
       repeat first|exact zE|refine zP ?_|refine zB fun b=>?_|refine zC fun a' c' hc1 hc2=>?_|(apply GJ.a;exact rfl;intro hg)|(apply GJ.o;exact rfl;intro hg)
       refine has_ok hin (c:=y.toNat) hy6 ?_
       rw [hy]
       repeat first|exact zE|refine zP ?_|refine zB fun b=>?_|refine zC fun a' c' hc1 hc2=>?_|(apply GJ.a;exact rfl;intro hg)|(apply GJ.o;exact rfl;intro hg)
       refine dstep_ok hpS ho hc6 ?_
       repeat first|exact zE|refine zP ?_|refine zB fun b=>?_|refine zC fun a' c' hc1 hc2=>?_|(apply GJ.a;exact rfl;intro hg)|(apply GJ.o;exact rfl;intro hg)
       refine Wk.backB ?_ Sup.z (.refl _) hk
       exact decide_eq_true hst
 | cons x tl =>
   rw [htx] at hb2 h30
   have hx:=UInt8.toNat_lt x
   have hlen:(x::tl).length=tl.length+1:=List.length_cons
   have hb0:(x::tl)[Int.toNat 0]! = x:=rfl
   have hnm:=hb2.le
   repeat first|exact zE|refine zP ?_|refine zB fun b=>?_|refine zC fun a' c' hc1 hc2=>?_|(apply GJ.a;exact rfl;intro hg)|(apply GJ.o;exact rfl;intro hg)
   refine rmatch_ok hv2 hw hb2 (by omega) (fun ro3 hl3=>?_)
   rw [←hM,res_match]
   cases hrt:resA D 0 (x::tl) with
   | false =>
     repeat first|exact zE|refine zP ?_|refine zB fun b=>?_|refine zC fun a' c' hc1 hc2=>?_|(apply GJ.a;exact rfl;intro hg)|(apply GJ.o;exact rfl;intro hg)
     refine first_ok (ht2.le hl3) hin (fun hz=>?_) (fun c hc6 hcs hcl=>?_)
     ·have hlo:=hnn (fun c hc=>by rw [hz];exact zeroS_has c)
      repeat first|exact zE|refine zP ?_|refine zB fun b=>?_|refine zC fun a' c' hc1 hc2=>?_|(apply GJ.a;exact rfl;intro hg)|(apply GJ.o;exact rfl;intro hg)
      refine along_ok (hp.le hl3) hL ?_
      repeat first|exact zE|refine zP ?_|refine zB fun b=>?_|refine zC fun a' c' hc1 hc2=>?_|(apply GJ.a;exact rfl;intro hg)|(apply GJ.o;exact rfl;intro hg)
      refine Wk.backB ?_ Sup.z (.refl _) hk
      exact decide_eq_true hlo
     ·obtain ⟨hst,t,hres⟩:=hlv c hc6 hcs
      repeat first|exact zE|refine zP ?_|refine zB fun b=>?_|refine zC fun a' c' hc1 hc2=>?_|(apply GJ.a;exact rfl;intro hg)|(apply GJ.o;exact rfl;intro hg)
      refine ashort_ok (hp.le hl3) hL (fun hsn=>?_) (fun roS aS cS s hlS hsS h4S hrS=>?_)
      ·have:=short_none ho hpos hsn (UInt8.ofNat c::t)
       rw [hres] at this
       cases this
      ·have hpS:=((hp.le hl3)).le hlS
       cases s with
       | nil =>
         repeat first|exact zE|refine zP ?_|refine zB fun b=>?_|refine zC fun a' c' hc1 hc2=>?_|(apply GJ.a;exact rfl;intro hg)|(apply GJ.o;exact rfl;intro hg)
         refine dstep_ok hpS ho hc6 ?_
         repeat first|exact zE|refine zP ?_|refine zB fun b=>?_|refine zC fun a' c' hc1 hc2=>?_|(apply GJ.a;exact rfl;intro hg)|(apply GJ.o;exact rfl;intro hg)
         refine Wk.backB ?_ Sup.z (.refl _) hk
         exact decide_eq_true hst
       | cons y sl =>
         have hy:=hwd y sl (short_some ho hsS).1
         have hylen:(y::sl).length=sl.length+1:=List.length_cons
         have hy0:(y::sl)[Int.toNat 0]! = y:=rfl
         have hymx:=hrS.le
         have hy6:=UInt8.toNat_lt y
         repeat first|exact zE|refine zP ?_|refine zB fun b=>?_|refine zC fun a' c' hc1 hc2=>?_|(apply GJ.a;exact rfl;intro hg)|(apply GJ.o;exact rfl;intro hg)
         refine has_ok hin (c:=y.toNat) hy6 ?_
         rw [hy]
         repeat first|exact zE|refine zP ?_|refine zB fun b=>?_|refine zC fun a' c' hc1 hc2=>?_|(apply GJ.a;exact rfl;intro hg)|(apply GJ.o;exact rfl;intro hg)
         refine dstep_ok hpS ho hc6 ?_
         repeat first|exact zE|refine zP ?_|refine zB fun b=>?_|refine zC fun a' c' hc1 hc2=>?_|(apply GJ.a;exact rfl;intro hg)|(apply GJ.o;exact rfl;intro hg)
         refine Wk.backB ?_ Sup.z (.refl _) hk
         exact decide_eq_true hst
   | true =>
     have hh:=hwd x tl hrt
     repeat first|exact zE|refine zP ?_|refine zB fun b=>?_|refine zC fun a' c' hc1 hc2=>?_|(apply GJ.a;exact rfl;intro hg)|(apply GJ.o;exact rfl;intro hg)
     refine has_ok hin (c:=x.toNat) hx ?_
     rw [hh]
     repeat first|exact zE|refine zP ?_|refine zB fun b=>?_|refine zC fun a' c' hc1 hc2=>?_|(apply GJ.a;exact rfl;intro hg)|(apply GJ.o;exact rfl;intro hg)
     refine first_ok (ht2.le hl3) hin (fun hz=>?_) (fun c hc6 hcs hcl=>?_)
     ·have hlo:=hnn (fun c hc=>by rw [hz];exact zeroS_has c)
      repeat first|exact zE|refine zP ?_|refine zB fun b=>?_|refine zC fun a' c' hc1 hc2=>?_|(apply GJ.a;exact rfl;intro hg)|(apply GJ.o;exact rfl;intro hg)
      refine along_ok (hp.le hl3) hL ?_
      repeat first|exact zE|refine zP ?_|refine zB fun b=>?_|refine zC fun a' c' hc1 hc2=>?_|(apply GJ.a;exact rfl;intro hg)|(apply GJ.o;exact rfl;intro hg)
      refine Wk.backB ?_ Sup.z (.refl _) hk
      exact decide_eq_true hlo
     ·obtain ⟨hst,t,hres⟩:=hlv c hc6 hcs
      repeat first|exact zE|refine zP ?_|refine zB fun b=>?_|refine zC fun a' c' hc1 hc2=>?_|(apply GJ.a;exact rfl;intro hg)|(apply GJ.o;exact rfl;intro hg)
      refine ashort_ok (hp.le hl3) hL (fun hsn=>?_) (fun roS aS cS s hlS hsS h4S hrS=>?_)
      ·have:=short_none ho hpos hsn (UInt8.ofNat c::t)
       rw [hres] at this
       cases this
      ·have hpS:=((hp.le hl3)).le hlS
       cases s with
       | nil =>
         repeat first|exact zE|refine zP ?_|refine zB fun b=>?_|refine zC fun a' c' hc1 hc2=>?_|(apply GJ.a;exact rfl;intro hg)|(apply GJ.o;exact rfl;intro hg)
         refine dstep_ok hpS ho hc6 ?_
         repeat first|exact zE|refine zP ?_|refine zB fun b=>?_|refine zC fun a' c' hc1 hc2=>?_|(apply GJ.a;exact rfl;intro hg)|(apply GJ.o;exact rfl;intro hg)
         refine Wk.backB ?_ Sup.z (.refl _) hk
         exact decide_eq_true hst
       | cons y sl =>
         have hy:=hwd y sl (short_some ho hsS).1
         have hylen:(y::sl).length=sl.length+1:=List.length_cons
         have hy0:(y::sl)[Int.toNat 0]! = y:=rfl
         have hymx:=hrS.le
         have hy6:=UInt8.toNat_lt y
         repeat first|exact zE|refine zP ?_|refine zB fun b=>?_|refine zC fun a' c' hc1 hc2=>?_|(apply GJ.a;exact rfl;intro hg)|(apply GJ.o;exact rfl;intro hg)
         refine has_ok hin (c:=y.toNat) hy6 ?_
         rw [hy]
         repeat first|exact zE|refine zP ?_|refine zB fun b=>?_|refine zC fun a' c' hc1 hc2=>?_|(apply GJ.a;exact rfl;intro hg)|(apply GJ.o;exact rfl;intro hg)
         refine dstep_ok hpS ho hc6 ?_
         repeat first|exact zE|refine zP ?_|refine zB fun b=>?_|refine zC fun a' c' hc1 hc2=>?_|(apply GJ.a;exact rfl;intro hg)|(apply GJ.o;exact rfl;intro hg)
         refine Wk.backB ?_ Sup.z (.refl _) hk
         exact decide_eq_true hst
set_option maxHeartbeats 4000000 in
theorem alongest_law {n:RgD}{v:List Value}{tx:List UInt8}{ab:Option Addr}{nb cb:Nat} (ht:TabOk ro) (hv:RgOk ro n v) (hb:Bys ro ab nb cb tx) (hk:K (.bool true) ro own):CallOk Tryz.prog 7 #[.agg v.toArray,.slice ab nb cb] ro own K:=by
 refine CallOk.back ?_
 obtain ⟨a1,c1,hvc⟩:=hv.cells
 have hv0:=hv
 subst hvc
 have hmx:=hb.max
 have hncl:=hb.le
 unfold maxLen at hmx
 have hnb:=hb.n1
 obtain rfl:tx.length=nb:=by simpa using hnb
 refine CallOk.intro (args:=[_,_]) (rs:=[_]) T_ok Tryz.func7 Tryz.call7 rfl rfl (by kernel_rfl) rfl rfl ?_
 repeat first|exact zE|refine zP ?_|refine zB fun b=>?_|refine zC fun a' c' hc1 hc2=>?_|(apply GJ.a;exact rfl;intro hg)|(apply GJ.o;exact rfl;intro hg)
 refine adecides_ok ht (fun ro1 hl1=>?_)
 repeat first|exact zE|refine zP ?_|refine zB fun b=>?_|refine zC fun a' c' hc1 hc2=>?_|(apply GJ.a;exact rfl;intro hg)|(apply GJ.o;exact rfl;intro hg)
 refine amade_ok (ht.le hl1) (hv0.le hl1) (fun ro2 hl2 hn=>?_) (fun ro2 p hl2 hm hp hL=>?_)
 ·repeat first|exact zE|refine zP ?_|refine zB fun b=>?_|refine zC fun a' c' hc1 hc2=>?_|(apply GJ.a;exact rfl;intro hg)|(apply GJ.o;exact rfl;intro hg)
  refine OpOk.eqlPtrNil rfl rfl (by kernel_rfl) ?_
  repeat first|exact zE|refine zP ?_|refine zB fun b=>?_|refine zC fun a' c' hc1 hc2=>?_|(apply GJ.a;exact rfl;intro hg)|(apply GJ.o;exact rfl;intro hg)
  exact Wk.back1 Sup.z (.refl _) hk
 obtain ⟨hw,hM,hlg⟩:=lst_lang hv0 hm.2.1
 have hv2:=(hv0.le hl1).le hl2
 by_cases h30:30<tx.length
 ·repeat first|exact zE|refine zP ?_|refine zB fun b=>?_|refine zC fun a' c' hc1 hc2=>?_|(apply GJ.a;exact rfl;intro hg)|(apply GJ.o;exact rfl;intro hg)
  exact Wk.back1 Sup.z (.refl _) hk
 have hb1:Bys ro1 ab tx.length cb tx:=Rs.up hb
 have hb2:Bys ro2 ab tx.length cb tx:=Rs.up hb1
 have h100:=hm.2.2
 clear hm hv hv0 hb hb1
 generalize lstD n=D at *
 obtain ⟨w,hw6,ho,hs,_,_⟩:=hL.ok
 have hpos:=hL.pos
 have ht2:=(ht.le hl1).le hl2
 have hR:=longF_ok ho hs hpos
 have hLt:=long_lt ho hs hpos
 repeat first|exact zE|refine zP ?_|refine zB fun b=>?_|refine zC fun a' c' hc1 hc2=>?_|(apply GJ.a;exact rfl;intro hg)|(apply GJ.o;exact rfl;intro hg)
 refine along_ok hp hL ?_
 generalize longF D=most at *
 by_cases h0:0≤most
 ·obtain ⟨_,⟨u,hu1,hu2⟩,hall⟩:=hR.resolve_right (fun h=>by have:=h.1;omega)
  have hsome:(shortA D).isNone=false:=by
   cases hh:shortA D with
   | some s=>rfl
   | none=>have:=short_none ho hpos hh u;rw [hu2] at this;cases this
  have hlt:=hLt h0
  repeat first|exact zE|refine zP ?_|refine zB fun b=>?_|refine zC fun a' c' hc1 hc2=>?_|(apply GJ.a;exact rfl;intro hg)|(apply GJ.o;exact rfl;intro hg)
  refine aempty_ok hp hL (fun ro3 hl3=>?_)
  rw [hsome]
  have hb3:Bys ro3 ab tx.length cb tx:=Rs.up hb2
  repeat first|exact zE|refine zP ?_|refine zB fun b=>?_|refine zC fun a' c' hc1 hc2=>?_|(apply GJ.a;exact rfl;intro hg)|(apply GJ.o;exact rfl;intro hg)
  refine dlen_ok (hp.le hl3) ?_
  repeat first|exact zE|refine zP ?_|refine zB fun b=>?_|refine zC fun a' c' hc1 hc2=>?_|(apply GJ.a;exact rfl;intro hg)|(apply GJ.o;exact rfl;intro hg)
  refine rmatch_ok (hv2.le hl3) hw hb3 (by omega) (fun ro4 hl4=>?_)
  rw [←hM,res_match]
  cases hrt:resA D 0 tx with
  | false =>
    repeat first|exact zE|refine zP ?_|refine zB fun b=>?_|refine zC fun a' c' hc1 hc2=>?_|(apply GJ.a;exact rfl;intro hg)|(apply GJ.o;exact rfl;intro hg)
    exact Wk.back1 Sup.z (.refl _) hk
  | true =>
    have:=hall tx hrt
    repeat first|exact zE|refine zP ?_|refine zB fun b=>?_|refine zC fun a' c' hc1 hc2=>?_|(apply GJ.a;exact rfl;intro hg)|(apply GJ.o;exact rfl;intro hg)
    refine Wk.backB ?_ Sup.z (.refl _) hk
    exact decide_eq_true (by omega)
 ·obtain ⟨hm1,hno⟩:=hR.resolve_left (fun h=>h0 h.1)
  subst hm1
  repeat first|exact zE|refine zP ?_|refine zB fun b=>?_|refine zC fun a' c' hc1 hc2=>?_|(apply GJ.a;exact rfl;intro hg)|(apply GJ.o;exact rfl;intro hg)
  refine aempty_ok hp hL (fun ro3 hl3=>?_)
  cases hsh:(shortA D).isNone with
  | true =>
    repeat first|exact zE|refine zP ?_|refine zB fun b=>?_|refine zC fun a' c' hc1 hc2=>?_|(apply GJ.a;exact rfl;intro hg)|(apply GJ.o;exact rfl;intro hg)
    exact Wk.back1 Sup.z (.refl _) hk
  | false =>
    obtain ⟨s,hs5⟩:∃ s,shortA D=some s:=by
     cases hh:shortA D with
     | some s=>exact ⟨s,rfl⟩
     | none=>rw [hh] at hsh;cases hsh
    obtain ⟨u,hu1,hu2⟩:=hno.resolve_left (fun h=>by have:=(short_some ho hs5).1;rw [h s] at this;cases this)
    repeat first|exact zE|refine zP ?_|refine zB fun b=>?_|refine zC fun a' c' hc1 hc2=>?_|(apply GJ.a;exact rfl;intro hg)|(apply GJ.o;exact rfl;intro hg)
    refine OpOk.buildK (ps:=[(0,.const (.int .u64 18446744073709551615)),(1,.const (.int .u64 18446744073709551615)),(2,.const (.int .u64 18446744073709551615)),(3,.const (.int .u64 18446744073709551615))]) (setV allD) rfl (by kernel_rfl) ?_
    repeat (first|exact zE|refine zP ?_)
    refine zB (fun b7=>?_)
    repeat (first|exact zE|refine wkN ?_|refine Bs.all ?_|(show QOk _ _ _ _ _ _ _;refine QOk.build rfl rfl Nf.auto ?_)|refine zB (fun b=>?_)|refine zC (fun a' c' hc1 hc2=>?_)|(show GJ _ _ _ _ _ _ _;first|refine GJ.t (by decide) ?_|refine GJ.f (by decide) ?_|refine GJ.ft (by decide) ?_|refine GJ.ff (by decide) ?_)|(show Br _ _ _;first|refine Br.t (by decide) ?_|refine Br.f (by decide) ?_)|(apply GJ.a;exact rfl;intro hg)|(apply GJ.o;exact rfl;intro hg))
    refine CodeOk.drawnN NfT.auto rfl (by kernel_rfl) (by rfl) (by kernel_rfl) ?_
    repeat (first|exact zE|refine zP ?_)
    have ht3:=ht2.le hl3
    have hp3:=hp.le hl3
    refine AllOk.keepR (ι:=Value) (fun P=>[(8,P),(9,.int .i64 (lstE (longR D.next.length):Int))]) (fun _=>.blk b 26 (nodeV n.kind n.set a1 n.kids.length c1 n.min n.max)::own) (fun P ro'=>OfP ro' (longR D.next.length) P∧∃ v,RgOk ro' (longR D.next.length) v) ?_ (fun P ro4 hl4 hP=>?_)
    ·repeat' (first|with_reducible exact vFo.nil|((with_reducible refine vFo.cons ?_ ?_);refine vOne.at (by rfl) ?_)|((with_reducible refine vFo.leaf ?_);exact ⟨_,⟨hPz,_,(RgOk.one' (lo:=(D.next.length:Int)) (hi:=-1) (k:=5) hbz rfl (RgOk.any _)).le hlz2⟩,Sub.z,Sup.z⟩)|(show Stop (OpOk _ _ _ _ _ _ _);refine Stop.mk ?_)|(show Stop (CallOk _ _ _ _ _ _);refine Stop.mk ?_)|(show CallOk _ _ _ _ _ _;first|refine dlen_ok hp3 ?_|refine dlen_ok (hp3.le hlz) ?_|refine dof_ok (n:=longR D.next.length) (ht3.le hlz) (RgOk.one' hbz rfl (RgOk.any _)) (fun roz P hlz2 hPz=>?_))|(show OpOk _ _ _ _ _ _ _;first|refine OpOk.buildSliceF rfAuto rfAuto rfAuto rfAuto rfAuto (fun ry bz hlz hbz=>?_)|refine OpOk.buildK (ps:=[(0,.const (.int .i64 2)),(1,.tmp 51)]) (nodeV 2 allD none 0 0 0 0) rfl (by kernel_rfl) ?_|refine OpOk.buildK (ps:=[(0,.const (.int .i64 5)),(2,.tmp 53),(3,.tmp 55),(4,.const (.int .i64 (-1)))]) (nodeV 5 zeroS (some ⟨bz,0,none⟩) 1 1 (D.next.length:Int) (-1)) rfl (by kernel_rfl) ?_)|refine vFo.stop Sup.z ?_)
    dsimp only [List.cons_append,List.nil_append]
    obtain ⟨hP,vL,hvL⟩:=hP
    have hp4:=hp3.le hl4
    by_cases he:lstE (longR D.next.length)=0
    ·obtain ⟨_,p2,rfl,hp2⟩:=hP.resolve_left (fun h=>h.1 he)
     have hL2:=(lst_least hvL he).1
     obtain ⟨_,hM2,hlg2⟩:=lst_lang hvL he
     have hu3:matchA (lstD (longR D.next.length)) u=true:=by rw [hM2];exact (hlg2 u).2 ((long_lang _ u).2 hu2)
     rw [he]
     repeat first|exact zE|refine zP ?_|refine zB fun b=>?_|refine zC fun a' c' hc1 hc2=>?_|(apply GJ.a;exact rfl;intro hg)|(apply GJ.o;exact rfl;intro hg)
     refine aapart_ok hp4 hp2 hL hL2 (fun ro5 hl5 hn=>?_) (fun ro5 Q hl5 hQ=>?_)
     ·repeat first|exact zE|refine zP ?_|refine zB fun b=>?_|refine zC fun a' c' hc1 hc2=>?_|(apply GJ.a;exact rfl;intro hg)|(apply GJ.o;exact rfl;intro hg)
      exact Wk.back1 Sup.z (.refl _) hk
     ·have hsm:=not_apart hQ (t:=u) hu1 hu3
      have hin:(shortA (leastA Q)).isNone=false:=by
       cases hh:shortA (leastA Q) with
       | some s=>rfl
       | none=>rw [hh] at hsm;cases hsm
      rw [hin]
      repeat first|exact zE|refine zP ?_|refine zB fun b=>?_|refine zC fun a' c' hc1 hc2=>?_|(apply GJ.a;exact rfl;intro hg)|(apply GJ.o;exact rfl;intro hg)
      exact Wk.back1 Sup.z (.refl _) hk
    ·have hei:((lstE (longR D.next.length):Nat):Int)≠0:=by omega
     repeat first|exact zE|refine zP ?_|refine zB fun b=>?_|refine zC fun a' c' hc1 hc2=>?_|(apply GJ.a;exact rfl;intro hg)|(apply GJ.o;exact rfl;intro hg)
     exact Wk.back1 Sup.z (.refl _) hk
end
section
variable {ro:Ro}{own r:Chs}{K:Value→Ro→Chs→Prop}{g:Chunk→Chs}
set_option maxHeartbeats 4000000 in
theorem aprefix_law {n:RgD}{v:List Value}{tx:List UInt8}{ab:Option Addr}{nb cb:Nat} (ht:TabOk ro) (hv:RgOk ro n v) (hb:Bys ro ab nb cb tx) (hk:K (.bool true) ro own):CallOk Tryz.prog 4 #[.agg v.toArray,.slice ab nb cb] ro own K:=by
 refine CallOk.back ?_
 obtain ⟨a1,c1,hvc⟩:=hv.cells
 have hv0:=hv
 subst hvc
 have hmx:=hb.max
 have hncl:=hb.le
 unfold maxLen at hmx
 have hnb:=hb.n1
 obtain rfl:tx.length=nb:=by simpa using hnb
 refine CallOk.intro (args:=[_,_]) (rs:=[_]) T_ok Tryz.func4 Tryz.call4 rfl rfl (by kernel_rfl) rfl rfl ?_
 repeat first|exact zE|refine zP ?_|refine zB fun b=>?_|refine zC fun a' c' hc1 hc2=>?_|(apply GJ.a;exact rfl;intro hg)|(apply GJ.o;exact rfl;intro hg)
 refine adecides_ok ht (fun ro1 hl1=>?_)
 repeat first|exact zE|refine zP ?_|refine zB fun b=>?_|refine zC fun a' c' hc1 hc2=>?_|(apply GJ.a;exact rfl;intro hg)|(apply GJ.o;exact rfl;intro hg)
 refine amade_ok (ht.le hl1) (hv0.le hl1) (fun ro2 hl2 hn=>?_) (fun ro2 p hl2 hm hp hL=>?_)
 ·repeat first|exact zE|refine zP ?_|refine zB fun b=>?_|refine zC fun a' c' hc1 hc2=>?_|(apply GJ.a;exact rfl;intro hg)|(apply GJ.o;exact rfl;intro hg)
  refine OpOk.eqlPtrNil rfl rfl (by kernel_rfl) ?_
  repeat first|exact zE|refine zP ?_|refine zB fun b=>?_|refine zC fun a' c' hc1 hc2=>?_|(apply GJ.a;exact rfl;intro hg)|(apply GJ.o;exact rfl;intro hg)
  exact Wk.back1 Sup.z (.refl _) hk
 obtain ⟨hw,hM,hlg⟩:=lst_lang hv0 hm.2.1
 have hv2:=(hv0.le hl1).le hl2
 by_cases h30:30<tx.length
 ·repeat first|exact zE|refine zP ?_|refine zB fun b=>?_|refine zC fun a' c' hc1 hc2=>?_|(apply GJ.a;exact rfl;intro hg)|(apply GJ.o;exact rfl;intro hg)
  exact Wk.back1 Sup.z (.refl _) hk
 have hb1:Bys ro1 ab tx.length cb tx:=Rs.up hb
 have hb2:Bys ro2 ab tx.length cb tx:=Rs.up hb1
 have h100:=hm.2.2
 clear hm hv hv0 hb hb1
 generalize lstD n=D at *
 obtain ⟨w,hw6,ho,hs,_,_⟩:=hL.ok
 have hpos:=hL.pos
 have ht2:=(ht.le hl1).le hl2
 have hnm:=hb2.le
 repeat first|exact zE|refine zP ?_|refine zB fun b=>?_|refine zC fun a' c' hc1 hc2=>?_|(apply GJ.a;exact rfl;intro hg)|(apply GJ.o;exact rfl;intro hg)
 refine LoopOk.auto (ι:=Nat × Nat) Keep.z (fun (k,c)=>[(26,.int .i64 (k:Int)),(6,.int .i64 (c:Int))]) (fun (k,c)=>.blk b 26 (nodeV n.kind n.set a1 n.kids.length c1 n.min n.max)::own) (fun (k,c) ro3=>k≤tx.length+1∧c≤k∧(prefA D=true→c≤1∧(c=0∨∃ i,i<k∧resA D 0 (tx.take i)=true))) (fun (k,c)=>tx.length+1-k) (0,0) ?_ Sub.z Sup.z ?_
 ·exact ⟨Nat.zero_le _,Nat.le_refl _,fun _=>⟨by omega,.inl rfl⟩⟩
 rintro ⟨k,c⟩ ro3 hl3 ⟨i1,i2,i3⟩
 dsimp only [List.cons_append,List.nil_append] at i1 i2 i3 ⊢
 have hv3:=hv2.le hl3
 have hb3:Bys ro3 ab tx.length cb tx:=Rs.up hb2
 by_cases hkl:k<tx.length+1
 ·have hcut:=hb3.cutB (lo:=0) (hi:=(k:Int)) ⟨Int.le_refl _,by omega,by omega⟩
  have hlt8:((k:Int).toNat-Int.toNat 0)=(tx.take k).length:=by rw [List.length_take];simp;omega
  rw [show (tx.drop (Int.toNat 0)).take ((k:Int).toNat-Int.toNat 0)=tx.take k by simp,hlt8] at hcut
  repeat first|exact zE|refine zP ?_|refine zB fun b=>?_|refine zC fun a' c' hc1 hc2=>?_|(apply GJ.a;exact rfl;intro hg)|(apply GJ.o;exact rfl;intro hg)
  rw [hlt8]
  refine rmatch_ok hv3 hw hcut (by rw [List.length_take];omega) (fun ro4 hl4=>?_)
  rw [←hM,res_match]
  cases hrt:resA D 0 (tx.take k) with
  | false =>
    repeat first|exact zE|refine zP ?_|refine zB fun b=>?_|refine zC fun a' c' hc1 hc2=>?_|(apply GJ.a;exact rfl;intro hg)|(apply GJ.o;exact rfl;intro hg)
    refine Wk.id ⟨(k+1,c),?_,?_,Sub.z,Sup.z⟩
    all_goals try dsimp only
    ·exact ⟨by omega,by omega,fun hp=>⟨(i3 hp).1,(i3 hp).2.imp id (fun ⟨i,h1,h2⟩=>⟨i,by omega,h2⟩)⟩⟩
    ·omega
  | true =>
    have hstep:prefA D=true→c+1≤1∧(c+1=0∨∃ i,i<k+1∧resA D 0 (tx.take i)=true):=fun hp=>by
     obtain ⟨h1,h2⟩:=i3 hp
     rcases h2 with h2|⟨i,h3,h5⟩
     ·exact ⟨by omega,.inr ⟨k,by omega,hrt⟩⟩
     ·have e:tx.take k=tx.take i++(tx.take k).drop i:=by
       have:=(List.take_append_drop i (tx.take k)).symm
       rwa [List.take_take,Nat.min_eq_left (by omega)] at this
      rw [e] at hrt
      refine (pref_true hL hp (u:=tx.take i) (v:=(tx.take k).drop i) ?_ h5 hrt).elim
      intro h6
      have:=congrArg List.length h6
      rw [List.length_drop,List.length_take,List.length_nil] at this
      omega
    repeat first|exact zE|refine zP ?_|refine zB fun b=>?_|refine zC fun a' c' hc1 hc2=>?_|(apply GJ.a;exact rfl;intro hg)|(apply GJ.o;exact rfl;intro hg)
    refine Wk.id ⟨(k+1,c+1),?_,?_,Sub.z,Sup.z⟩
    all_goals try dsimp only
    ·exact ⟨by omega,by omega,hstep⟩
    ·omega
 ·obtain rfl:k=tx.length+1:=by omega
  have hp3:=hp.le hl3
  have ht3:=ht2.le hl3
  repeat first|exact zE|refine zP ?_|refine zB fun b=>?_|refine zC fun a' c' hc1 hc2=>?_|(apply GJ.a;exact rfl;intro hg)|(apply GJ.o;exact rfl;intro hg)
  refine apref_ok hp3 hL ?_
  cases hpr:prefA D with
  | true =>
    have:=(i3 hpr).1
    repeat first|exact zE|refine zP ?_|refine zB fun b=>?_|refine zC fun a' c' hc1 hc2=>?_|(apply GJ.a;exact rfl;intro hg)|(apply GJ.o;exact rfl;intro hg)
    refine Wk.backB ?_ Sup.z (.refl _) hk
    exact decide_eq_true (by omega)
  | false =>
    obtain ⟨x,y,hy,hx1,hx2⟩:=pref_false hL hpr
    clear i3
    repeat first|exact zE|refine zP ?_|refine zB fun b=>?_|refine zC fun a' c' hc1 hc2=>?_|(apply GJ.a;exact rfl;intro hg)|(apply GJ.o;exact rfl;intro hg)
    refine OpOk.buildK (ps:=[(0,.const (.int .u64 18446744073709551615)),(1,.const (.int .u64 18446744073709551615)),(2,.const (.int .u64 18446744073709551615)),(3,.const (.int .u64 18446744073709551615))]) (setV allD) rfl (by kernel_rfl) ?_
    repeat (first|exact zE|refine zP ?_)
    refine OpOk.buildSliceF rfAuto rfAuto rfAuto rfAuto rfAuto (fun ro4 b4 hl4 hb4=>?_)
    have hv4:=hv3.le hl4
    have hQ:=RgOk.one' (lo:=1) (hi:=-1) (k:=5) hb4 rfl (RgOk.any _)
    repeat (first|exact zE|refine zP ?_)
    refine zB (fun b7=>?_)
    repeat (first|exact zE|refine zP ?_)
    refine OpOk.buildSliceF rfAuto rfAuto rfAuto rfAuto rfAuto (fun ro5 b5 hl5 hb5=>?_)
    have hvM:=RgOk.two' (lo:=0) (hi:=0) (k:=3) hb5 rfl (hv4.le hl5) (hQ.le hl5)
    have hMd:RgD.mk 3 zeroS [n,RgD.mk 5 zeroS [anyR1] 1 (-1)] 0 0=moreR' n:=rfl
    rw [hMd] at hvM
    have hp5:=(hp3.le hl4).le hl5
    have ht5:=(ht3.le hl4).le hl5
    have hlx:langN n x:=(hlg x).1 (by rw [←hM,res_match];exact hx1)
    have hlm:langN (moreR' n) (x++y):=(more_lang n _).2 ⟨x,y,rfl,hlx,hy⟩
    generalize moreR' n=M at *
    repeat (first|exact zE|refine zP ?_)
    refine dof_ok ht5 hvM (fun ro6 P hl6 hP=>?_)
    by_cases he:lstE M=0
    ·obtain ⟨_,p2,rfl,hp2⟩:=hP.resolve_left (fun h=>h.1 he)
     have hL2:=(lst_least hvM he).1
     obtain ⟨_,hM2,hlg2⟩:=lst_lang hvM he
     have hu3:matchA (lstD M) (x++y)=true:=by rw [hM2];exact (hlg2 _).2 hlm
     rw [he]
     repeat first|exact zE|refine zP ?_|refine zB fun b=>?_|refine zC fun a' c' hc1 hc2=>?_|(apply GJ.a;exact rfl;intro hg)|(apply GJ.o;exact rfl;intro hg)
     refine aapart_ok (hp5.le hl6) hp2 hL hL2 (fun ro7 hl7 hn=>?_) (fun ro7 Q hl7 hQ=>?_)
     ·repeat first|exact zE|refine zP ?_|refine zB fun b=>?_|refine zC fun a' c' hc1 hc2=>?_|(apply GJ.a;exact rfl;intro hg)|(apply GJ.o;exact rfl;intro hg)
      exact Wk.back1 Sup.z (.refl _) hk
     ·have hsm:=not_apart hQ (t:=x++y) hx2 hu3
      have hin:(shortA (leastA Q)).isNone=false:=by
       cases hh:shortA (leastA Q) with
       | some s=>rfl
       | none=>rw [hh] at hsm;cases hsm
      rw [hin]
      repeat first|exact zE|refine zP ?_|refine zB fun b=>?_|refine zC fun a' c' hc1 hc2=>?_|(apply GJ.a;exact rfl;intro hg)|(apply GJ.o;exact rfl;intro hg)
      exact Wk.back1 Sup.z (.refl _) hk
    ·have hei:((lstE M:Nat):Int)≠0:=by omega
     repeat first|exact zE|refine zP ?_|refine zB fun b=>?_|refine zC fun a' c' hc1 hc2=>?_|(apply GJ.a;exact rfl;intro hg)|(apply GJ.o;exact rfl;intro hg)
     exact Wk.back1 Sup.z (.refl _) hk
end
theorem isNone_some {α:Type}{o:Option α}{x:α} (h:o=some x):o.isNone=false:=by rw [h];rfl
theorem isNone_none {α:Type}{o:Option α} (h:o=none):o.isNone=true:=by rw [h];rfl
theorem apart_eq {a b P Q:DfaA} (h:prodA a b 1=some P) (h2:prodA b a 1=some Q):(shortA (leastA P)).isNone=(shortA (leastA Q)).isNone:=by
 have:=apart_both h h2
 rw [←Option.not_isSome,←Option.not_isSome,this]
section
variable {ro:Ro}{own r:Chs}{K:Value→Ro→Chs→Prop}{g:Chunk→Chs}
set_option maxHeartbeats 4000000 in
theorem awithin_law {n m:RgD}{v u:List Value}{tx:List UInt8}{ab:Option Addr}{nb cb:Nat} (ht:TabOk ro) (hv:RgOk ro n v) (hu:RgOk ro m u) (hb:Bys ro ab nb cb tx) (hk:K (.bool true) ro own):CallOk Tryz.prog 6 #[.agg v.toArray,.agg u.toArray,.slice ab nb cb] ro own K:=by
 refine CallOk.back ?_
 obtain ⟨a1,c1,hvc⟩:=hv.cells
 obtain ⟨a2,c2,huc⟩:=hu.cells
 have hv0:=hv
 have hu0:=hu
 subst hvc
 subst huc
 have hmx:=hb.max
 have hncl:=hb.le
 unfold maxLen at hmx
 have hnb:=hb.n1
 obtain rfl:tx.length=nb:=by simpa using hnb
 refine CallOk.intro (args:=[_,_,_]) (rs:=[_]) T_ok Tryz.func6 Tryz.call6 rfl rfl (by kernel_rfl) rfl rfl ?_
 repeat first|exact zE|refine zP ?_|refine zB fun b=>?_|refine zC fun a' c' hc1 hc2=>?_|(apply GJ.a;exact rfl;intro hg)|(apply GJ.o;exact rfl;intro hg)
 rename_i bN
 refine adecides_ok ht (fun ro1 hl1=>?_)
 repeat first|exact zE|refine zP ?_|refine zB fun b=>?_|refine zC fun a' c' hc1 hc2=>?_|(apply GJ.a;exact rfl;intro hg)|(apply GJ.o;exact rfl;intro hg)
 refine amade_ok (ht.le hl1) (hv0.le hl1) (fun ro2 hl2 hn=>?_) (fun ro2 p1 hl2 hm1 hp1 hL1=>?_)
 ·repeat first|exact zE|refine zP ?_|refine zB fun b=>?_|refine zC fun a' c' hc1 hc2=>?_|(apply GJ.a;exact rfl;intro hg)|(apply GJ.o;exact rfl;intro hg)
  refine amade_ok ((ht.le hl1).le hl2) ((hu0.le hl1).le hl2) (fun ro3 hl3 hn=>?_) (fun ro3 p2 hl3 hm2 hp2 hL2=>?_)
  ·repeat first|exact zE|refine zP ?_|refine zB fun b=>?_|refine zC fun a' c' hc1 hc2=>?_|(apply GJ.a;exact rfl;intro hg)|(apply GJ.o;exact rfl;intro hg)
   refine OpOk.eqlPtrNil rfl rfl (by kernel_rfl) ?_
   repeat first|exact zE|refine zP ?_|refine zB fun b=>?_|refine zC fun a' c' hc1 hc2=>?_|(apply GJ.a;exact rfl;intro hg)|(apply GJ.o;exact rfl;intro hg)
   exact Wk.back1 Sup.z (.refl _) hk
  ·repeat first|exact zE|refine zP ?_|refine zB fun b=>?_|refine zC fun a' c' hc1 hc2=>?_|(apply GJ.a;exact rfl;intro hg)|(apply GJ.o;exact rfl;intro hg)
   refine OpOk.eqlPtrNil rfl rfl (by kernel_rfl) ?_
   repeat first|exact zE|refine zP ?_|refine zB fun b=>?_|refine zC fun a' c' hc1 hc2=>?_|(apply GJ.a;exact rfl;intro hg)|(apply GJ.o;exact rfl;intro hg)
   exact Wk.back1 Sup.z (.refl _) hk
 repeat first|exact zE|refine zP ?_|refine zB fun b=>?_|refine zC fun a' c' hc1 hc2=>?_|(apply GJ.a;exact rfl;intro hg)|(apply GJ.o;exact rfl;intro hg)
 refine amade_ok ((ht.le hl1).le hl2) ((hu0.le hl1).le hl2) (fun ro3 hl3 hn=>?_) (fun ro3 p2 hl3 hm2 hp2 hL2=>?_)
 ·repeat first|exact zE|refine zP ?_|refine zB fun b=>?_|refine zC fun a' c' hc1 hc2=>?_|(apply GJ.a;exact rfl;intro hg)|(apply GJ.o;exact rfl;intro hg)
  refine OpOk.eqlPtrNil rfl rfl (by kernel_rfl) ?_
  repeat first|exact zE|refine zP ?_|refine zB fun b=>?_|refine zC fun a' c' hc1 hc2=>?_|(apply GJ.a;exact rfl;intro hg)|(apply GJ.o;exact rfl;intro hg)
  exact Wk.back1 Sup.z (.refl _) hk
 by_cases h30:30<tx.length
 ·repeat first|exact zE|refine zP ?_|refine zB fun b=>?_|refine zC fun a' c' hc1 hc2=>?_|(apply GJ.a;exact rfl;intro hg)|(apply GJ.o;exact rfl;intro hg)
  exact Wk.back1 Sup.z (.refl _) hk
 obtain ⟨hw1,hM1,_⟩:=lst_lang hv0 hm1.2.1
 obtain ⟨hw2,hM2,_⟩:=lst_lang hu0 hm2.2.1
 have hv3:=((hv0.le hl1).le hl2).le hl3
 have hu3:=((hu0.le hl1).le hl2).le hl3
 have hb1:Bys ro1 ab tx.length cb tx:=Rs.up hb
 have hb2:Bys ro2 ab tx.length cb tx:=Rs.up hb1
 have hb3:Bys ro3 ab tx.length cb tx:=Rs.up hb2
 have hp1:=hp1.le hl3
 clear hm1 hm2 hv hv0 hu hu0 hb hb1 hb2
 generalize lstD n=D1 at *
 generalize lstD m=D2 at *
 repeat first|exact zE|refine zP ?_|refine zB fun b=>?_|refine zC fun a' c' hc1 hc2=>?_|(apply GJ.a;exact rfl;intro hg)|(apply GJ.o;exact rfl;intro hg)
 refine awithin_ok hp1 hp2 hL1 hL2 (fun ro4 hl4 hn=>?_) (fun ro4 P hl4 hP hs=>?_) (fun ro4 P a4 c4 s hl4 hP hs h4 hr=>?_)
 ·repeat first|exact zE|refine zP ?_|refine zB fun b=>?_|refine zC fun a' c' hc1 hc2=>?_|(apply GJ.a;exact rfl;intro hg)|(apply GJ.o;exact rfl;intro hg)
  exact Wk.back1 Sup.z (.refl _) hk
 ·have hpq:=within_none hP hs tx
  have hb4:Bys ro4 ab tx.length cb tx:=Rs.up hb3
  repeat first|exact zE|refine zP ?_|refine zB fun b=>?_|refine zC fun a' c' hc1 hc2=>?_|(apply GJ.a;exact rfl;intro hg)|(apply GJ.o;exact rfl;intro hg)
  refine rmatch_ok (hv3.le hl4) hw1 hb4 (by omega) (fun ro5 hl5=>?_)
  have hb5:Bys ro5 ab tx.length cb tx:=Rs.up hb4
  rw [←hM1]
  repeat first|exact zE|refine zP ?_|refine zB fun b=>?_|refine zC fun a' c' hc1 hc2=>?_|(apply GJ.a;exact rfl;intro hg)|(apply GJ.o;exact rfl;intro hg)
  refine rmatch_ok ((hu3.le hl4).le hl5) hw2 hb5 (by omega) (fun ro6 hl6=>?_)
  have hp1:=((hp1.le hl4).le hl5).le hl6
  have hp2:=((hp2.le hl4).le hl5).le hl6
  rw [←hM2]
  have hap:=fun Q (h:prodA D1 D2 1=some Q) hs=>apart_none h hs tx
  generalize matchA D1 tx=x at *
  generalize matchA D2 tx=y at *
  have hxy:x=false∨y=true:=by cases x<;>cases y<;>simp_all
  clear hpq
  rcases hxy with rfl|rfl
  ·repeat first|exact zE|refine zP ?_|refine zB fun b=>?_|refine zC fun a' c' hc1 hc2=>?_|(apply GJ.a;exact rfl;intro hg)|(apply GJ.o;exact rfl;intro hg)
   refine aapart_ok hp1 hp2 hL1 hL2 (fun roA hlA hnA=>?_) (fun roA QA hlA hQA=>?_)
   ·repeat first|exact zE|refine zP ?_|refine zB fun b=>?_|refine zC fun a' c' hc1 hc2=>?_|(apply GJ.a;exact rfl;intro hg)|(apply GJ.o;exact rfl;intro hg)
    refine aapart_ok (hp2.le hlA) (hp1.le hlA) hL2 hL1 (fun roB hlB hnB=>?_) (fun roB QB hlB hQB=>?_)
    ·repeat first|exact zE|refine zP ?_|refine zB fun b=>?_|refine zC fun a' c' hc1 hc2=>?_|(apply GJ.a;exact rfl;intro hg)|(apply GJ.o;exact rfl;intro hg)
     exact Wk.back1 Sup.z (.refl _) hk
    ·repeat first|exact zE|refine zP ?_|refine zB fun b=>?_|refine zC fun a' c' hc1 hc2=>?_|(apply GJ.a;exact rfl;intro hg)|(apply GJ.o;exact rfl;intro hg)
     exact Wk.back1 Sup.z (.refl _) hk
   ·repeat first|exact zE|refine zP ?_|refine zB fun b=>?_|refine zC fun a' c' hc1 hc2=>?_|(apply GJ.a;exact rfl;intro hg)|(apply GJ.o;exact rfl;intro hg)
    refine aapart_ok (hp2.le hlA) (hp1.le hlA) hL2 hL1 (fun roB hlB hnB=>?_) (fun roB QB hlB hQB=>?_)
    ·repeat first|exact zE|refine zP ?_|refine zB fun b=>?_|refine zC fun a' c' hc1 hc2=>?_|(apply GJ.a;exact rfl;intro hg)|(apply GJ.o;exact rfl;intro hg)
     exact Wk.back1 Sup.z (.refl _) hk
    ·have heq:=apart_eq hQA hQB
     rw [←heq]
     cases hsA:shortA (leastA QA) with
     | some s9 =>
       rw [isNone_some rfl]
       repeat first|exact zE|refine zP ?_|refine zB fun b=>?_|refine zC fun a' c' hc1 hc2=>?_|(apply GJ.a;exact rfl;intro hg)|(apply GJ.o;exact rfl;intro hg)
       exact Wk.back1 Sup.z (.refl _) hk
     | none =>
       have hf:=hap QA hQA hsA
       rw [isNone_none rfl]
       repeat first|exact zE|refine zP ?_|refine zB fun b=>?_|refine zC fun a' c' hc1 hc2=>?_|(apply GJ.a;exact rfl;intro hg)|(apply GJ.o;exact rfl;intro hg)
       exact Wk.back1 Sup.z (.refl _) hk
  ·cases x with
   | true =>
     repeat first|exact zE|refine zP ?_|refine zB fun b=>?_|refine zC fun a' c' hc1 hc2=>?_|(apply GJ.a;exact rfl;intro hg)|(apply GJ.o;exact rfl;intro hg)
     refine aapart_ok hp1 hp2 hL1 hL2 (fun roA hlA hnA=>?_) (fun roA QA hlA hQA=>?_)
     ·repeat first|exact zE|refine zP ?_|refine zB fun b=>?_|refine zC fun a' c' hc1 hc2=>?_|(apply GJ.a;exact rfl;intro hg)|(apply GJ.o;exact rfl;intro hg)
      refine aapart_ok (hp2.le hlA) (hp1.le hlA) hL2 hL1 (fun roB hlB hnB=>?_) (fun roB QB hlB hQB=>?_)
      ·repeat first|exact zE|refine zP ?_|refine zB fun b=>?_|refine zC fun a' c' hc1 hc2=>?_|(apply GJ.a;exact rfl;intro hg)|(apply GJ.o;exact rfl;intro hg)
       exact Wk.back1 Sup.z (.refl _) hk
      ·repeat first|exact zE|refine zP ?_|refine zB fun b=>?_|refine zC fun a' c' hc1 hc2=>?_|(apply GJ.a;exact rfl;intro hg)|(apply GJ.o;exact rfl;intro hg)
       exact Wk.back1 Sup.z (.refl _) hk
     ·repeat first|exact zE|refine zP ?_|refine zB fun b=>?_|refine zC fun a' c' hc1 hc2=>?_|(apply GJ.a;exact rfl;intro hg)|(apply GJ.o;exact rfl;intro hg)
      refine aapart_ok (hp2.le hlA) (hp1.le hlA) hL2 hL1 (fun roB hlB hnB=>?_) (fun roB QB hlB hQB=>?_)
      ·repeat first|exact zE|refine zP ?_|refine zB fun b=>?_|refine zC fun a' c' hc1 hc2=>?_|(apply GJ.a;exact rfl;intro hg)|(apply GJ.o;exact rfl;intro hg)
       exact Wk.back1 Sup.z (.refl _) hk
      ·have heq:=apart_eq hQA hQB
       rw [←heq]
       cases hsA:shortA (leastA QA) with
       | some s9 =>
         rw [isNone_some rfl]
         repeat first|exact zE|refine zP ?_|refine zB fun b=>?_|refine zC fun a' c' hc1 hc2=>?_|(apply GJ.a;exact rfl;intro hg)|(apply GJ.o;exact rfl;intro hg)
         exact Wk.back1 Sup.z (.refl _) hk
       | none =>
         have hf:=hap QA hQA hsA
         cases hf
   | false =>
     repeat first|exact zE|refine zP ?_|refine zB fun b=>?_|refine zC fun a' c' hc1 hc2=>?_|(apply GJ.a;exact rfl;intro hg)|(apply GJ.o;exact rfl;intro hg)
     refine aapart_ok hp1 hp2 hL1 hL2 (fun roA hlA hnA=>?_) (fun roA QA hlA hQA=>?_)
     ·repeat first|exact zE|refine zP ?_|refine zB fun b=>?_|refine zC fun a' c' hc1 hc2=>?_|(apply GJ.a;exact rfl;intro hg)|(apply GJ.o;exact rfl;intro hg)
      refine aapart_ok (hp2.le hlA) (hp1.le hlA) hL2 hL1 (fun roB hlB hnB=>?_) (fun roB QB hlB hQB=>?_)
      ·repeat first|exact zE|refine zP ?_|refine zB fun b=>?_|refine zC fun a' c' hc1 hc2=>?_|(apply GJ.a;exact rfl;intro hg)|(apply GJ.o;exact rfl;intro hg)
       exact Wk.back1 Sup.z (.refl _) hk
      ·repeat first|exact zE|refine zP ?_|refine zB fun b=>?_|refine zC fun a' c' hc1 hc2=>?_|(apply GJ.a;exact rfl;intro hg)|(apply GJ.o;exact rfl;intro hg)
       exact Wk.back1 Sup.z (.refl _) hk
     ·repeat first|exact zE|refine zP ?_|refine zB fun b=>?_|refine zC fun a' c' hc1 hc2=>?_|(apply GJ.a;exact rfl;intro hg)|(apply GJ.o;exact rfl;intro hg)
      refine aapart_ok (hp2.le hlA) (hp1.le hlA) hL2 hL1 (fun roB hlB hnB=>?_) (fun roB QB hlB hQB=>?_)
      ·repeat first|exact zE|refine zP ?_|refine zB fun b=>?_|refine zC fun a' c' hc1 hc2=>?_|(apply GJ.a;exact rfl;intro hg)|(apply GJ.o;exact rfl;intro hg)
       exact Wk.back1 Sup.z (.refl _) hk
      ·have heq:=apart_eq hQA hQB
       rw [←heq]
       cases hsA:shortA (leastA QA) with
       | some s9 =>
         rw [isNone_some rfl]
         repeat first|exact zE|refine zP ?_|refine zB fun b=>?_|refine zC fun a' c' hc1 hc2=>?_|(apply GJ.a;exact rfl;intro hg)|(apply GJ.o;exact rfl;intro hg)
         exact Wk.back1 Sup.z (.refl _) hk
       | none =>
         have hf:=hap QA hQA hsA
         rw [isNone_none rfl]
         repeat first|exact zE|refine zP ?_|refine zB fun b=>?_|refine zC fun a' c' hc1 hc2=>?_|(apply GJ.a;exact rfl;intro hg)|(apply GJ.o;exact rfl;intro hg)
         exact Wk.back1 Sup.z (.refl _) hk
 ·obtain ⟨hs1,hs2,hs3⟩:=within_some hP hs
  have hmin:=hs3 tx
  have hb4:Bys ro4 ab tx.length cb tx:=Rs.up hb3
  repeat first|exact zE|refine zP ?_|refine zB fun b=>?_|refine zC fun a' c' hc1 hc2=>?_|(apply GJ.a;exact rfl;intro hg)|(apply GJ.o;exact rfl;intro hg)
  refine rmatch_ok (hv3.le hl4) hw1 hb4 (by omega) (fun ro5 hl5=>?_)
  have hb5:Bys ro5 ab tx.length cb tx:=Rs.up hb4
  have hr5:Bys ro5 a4 s.length c4 s:=Rs.up hr
  rw [←hM1]
  repeat first|exact zE|refine zP ?_|refine zB fun b=>?_|refine zC fun a' c' hc1 hc2=>?_|(apply GJ.a;exact rfl;intro hg)|(apply GJ.o;exact rfl;intro hg)
  refine rmatch_ok ((hu3.le hl4).le hl5) hw2 hb5 (by omega) (fun ro6 hl6=>?_)
  have hp1:=((hp1.le hl4).le hl5).le hl6
  have hp2:=((hp2.le hl4).le hl5).le hl6
  have hv6:=((hv3.le hl4).le hl5).le hl6
  have hu6:=((hu3.le hl4).le hl5).le hl6
  have hr6:Bys ro6 a4 s.length c4 s:=Rs.up hr5
  rw [←hM2]
  have hap:=fun Q (h:prodA D1 D2 1=some Q) hs=>apart_none h hs tx
  generalize matchA D1 tx=x at *
  generalize matchA D2 tx=y at *
  repeat first|exact zE|refine zP ?_|refine zB fun b=>?_|refine zC fun a' c' hc1 hc2=>?_|(apply GJ.a;exact rfl;intro hg)|(apply GJ.o;exact rfl;intro hg)
  refine rmatch_ok hv6 hw1 hr6 (by omega) (fun ro7 hl7=>?_)
  rw [←hM1,hs1]
  have hr7:Bys ro7 a4 s.length c4 s:=Rs.up hr6
  repeat first|exact zE|refine zP ?_|refine zB fun b=>?_|refine zC fun a' c' hc1 hc2=>?_|(apply GJ.a;exact rfl;intro hg)|(apply GJ.o;exact rfl;intro hg)
  refine rmatch_ok (hu6.le hl7) hw2 hr7 (by omega) (fun ro8 hl8=>?_)
  rw [←hM2,hs2]
  have hp1:=(hp1.le hl7).le hl8
  have hp2:=(hp2.le hl7).le hl8
  cases x with
  | false =>
    repeat first|exact zE|refine zP ?_|refine zB fun b=>?_|refine zC fun a' c' hc1 hc2=>?_|(apply GJ.a;exact rfl;intro hg)|(apply GJ.o;exact rfl;intro hg)
    refine aapart_ok hp1 hp2 hL1 hL2 (fun roA hlA hnA=>?_) (fun roA QA hlA hQA=>?_)
    ·repeat first|exact zE|refine zP ?_|refine zB fun b=>?_|refine zC fun a' c' hc1 hc2=>?_|(apply GJ.a;exact rfl;intro hg)|(apply GJ.o;exact rfl;intro hg)
     refine aapart_ok (hp2.le hlA) (hp1.le hlA) hL2 hL1 (fun roB hlB hnB=>?_) (fun roB QB hlB hQB=>?_)
     ·repeat first|exact zE|refine zP ?_|refine zB fun b=>?_|refine zC fun a' c' hc1 hc2=>?_|(apply GJ.a;exact rfl;intro hg)|(apply GJ.o;exact rfl;intro hg)
      exact Wk.back1 Sup.z (.refl _) hk
     ·repeat first|exact zE|refine zP ?_|refine zB fun b=>?_|refine zC fun a' c' hc1 hc2=>?_|(apply GJ.a;exact rfl;intro hg)|(apply GJ.o;exact rfl;intro hg)
      exact Wk.back1 Sup.z (.refl _) hk
    ·repeat first|exact zE|refine zP ?_|refine zB fun b=>?_|refine zC fun a' c' hc1 hc2=>?_|(apply GJ.a;exact rfl;intro hg)|(apply GJ.o;exact rfl;intro hg)
     refine aapart_ok (hp2.le hlA) (hp1.le hlA) hL2 hL1 (fun roB hlB hnB=>?_) (fun roB QB hlB hQB=>?_)
     ·repeat first|exact zE|refine zP ?_|refine zB fun b=>?_|refine zC fun a' c' hc1 hc2=>?_|(apply GJ.a;exact rfl;intro hg)|(apply GJ.o;exact rfl;intro hg)
      exact Wk.back1 Sup.z (.refl _) hk
     ·have heq:=apart_eq hQA hQB
      rw [←heq]
      cases hsA:shortA (leastA QA) with
      | some s9 =>
        rw [isNone_some rfl]
        repeat first|exact zE|refine zP ?_|refine zB fun b=>?_|refine zC fun a' c' hc1 hc2=>?_|(apply GJ.a;exact rfl;intro hg)|(apply GJ.o;exact rfl;intro hg)
        exact Wk.back1 Sup.z (.refl _) hk
      | none =>
        have hf:=hap QA hQA hsA
        rw [isNone_none rfl]
        repeat first|exact zE|refine zP ?_|refine zB fun b=>?_|refine zC fun a' c' hc1 hc2=>?_|(apply GJ.a;exact rfl;intro hg)|(apply GJ.o;exact rfl;intro hg)
        exact Wk.back1 Sup.z (.refl _) hk
  | true =>
    cases y with
    | true =>
      repeat first|exact zE|refine zP ?_|refine zB fun b=>?_|refine zC fun a' c' hc1 hc2=>?_|(apply GJ.a;exact rfl;intro hg)|(apply GJ.o;exact rfl;intro hg)
      refine aapart_ok hp1 hp2 hL1 hL2 (fun roA hlA hnA=>?_) (fun roA QA hlA hQA=>?_)
      ·repeat first|exact zE|refine zP ?_|refine zB fun b=>?_|refine zC fun a' c' hc1 hc2=>?_|(apply GJ.a;exact rfl;intro hg)|(apply GJ.o;exact rfl;intro hg)
       refine aapart_ok (hp2.le hlA) (hp1.le hlA) hL2 hL1 (fun roB hlB hnB=>?_) (fun roB QB hlB hQB=>?_)
       ·repeat first|exact zE|refine zP ?_|refine zB fun b=>?_|refine zC fun a' c' hc1 hc2=>?_|(apply GJ.a;exact rfl;intro hg)|(apply GJ.o;exact rfl;intro hg)
        exact Wk.back1 Sup.z (.refl _) hk
       ·repeat first|exact zE|refine zP ?_|refine zB fun b=>?_|refine zC fun a' c' hc1 hc2=>?_|(apply GJ.a;exact rfl;intro hg)|(apply GJ.o;exact rfl;intro hg)
        exact Wk.back1 Sup.z (.refl _) hk
      ·repeat first|exact zE|refine zP ?_|refine zB fun b=>?_|refine zC fun a' c' hc1 hc2=>?_|(apply GJ.a;exact rfl;intro hg)|(apply GJ.o;exact rfl;intro hg)
       refine aapart_ok (hp2.le hlA) (hp1.le hlA) hL2 hL1 (fun roB hlB hnB=>?_) (fun roB QB hlB hQB=>?_)
       ·repeat first|exact zE|refine zP ?_|refine zB fun b=>?_|refine zC fun a' c' hc1 hc2=>?_|(apply GJ.a;exact rfl;intro hg)|(apply GJ.o;exact rfl;intro hg)
        exact Wk.back1 Sup.z (.refl _) hk
       ·have heq:=apart_eq hQA hQB
        rw [←heq]
        cases hsA:shortA (leastA QA) with
        | some s9 =>
          rw [isNone_some rfl]
          repeat first|exact zE|refine zP ?_|refine zB fun b=>?_|refine zC fun a' c' hc1 hc2=>?_|(apply GJ.a;exact rfl;intro hg)|(apply GJ.o;exact rfl;intro hg)
          exact Wk.back1 Sup.z (.refl _) hk
        | none =>
          have hf:=hap QA hQA hsA
          cases hf
    | false =>
      have hle:=hmin rfl rfl
      repeat first|exact zE|refine zP ?_|refine zB fun b=>?_|refine zC fun a' c' hc1 hc2=>?_|(apply GJ.a;exact rfl;intro hg)|(apply GJ.o;exact rfl;intro hg)
      refine aapart_ok hp1 hp2 hL1 hL2 (fun roA hlA hnA=>?_) (fun roA QA hlA hQA=>?_)
      ·repeat first|exact zE|refine zP ?_|refine zB fun b=>?_|refine zC fun a' c' hc1 hc2=>?_|(apply GJ.a;exact rfl;intro hg)|(apply GJ.o;exact rfl;intro hg)
       refine aapart_ok (hp2.le hlA) (hp1.le hlA) hL2 hL1 (fun roB hlB hnB=>?_) (fun roB QB hlB hQB=>?_)
       ·repeat first|exact zE|refine zP ?_|refine zB fun b=>?_|refine zC fun a' c' hc1 hc2=>?_|(apply GJ.a;exact rfl;intro hg)|(apply GJ.o;exact rfl;intro hg)
        exact Wk.back1 Sup.z (.refl _) hk
       ·repeat first|exact zE|refine zP ?_|refine zB fun b=>?_|refine zC fun a' c' hc1 hc2=>?_|(apply GJ.a;exact rfl;intro hg)|(apply GJ.o;exact rfl;intro hg)
        exact Wk.back1 Sup.z (.refl _) hk
      ·repeat first|exact zE|refine zP ?_|refine zB fun b=>?_|refine zC fun a' c' hc1 hc2=>?_|(apply GJ.a;exact rfl;intro hg)|(apply GJ.o;exact rfl;intro hg)
       refine aapart_ok (hp2.le hlA) (hp1.le hlA) hL2 hL1 (fun roB hlB hnB=>?_) (fun roB QB hlB hQB=>?_)
       ·repeat first|exact zE|refine zP ?_|refine zB fun b=>?_|refine zC fun a' c' hc1 hc2=>?_|(apply GJ.a;exact rfl;intro hg)|(apply GJ.o;exact rfl;intro hg)
        exact Wk.back1 Sup.z (.refl _) hk
       ·have heq:=apart_eq hQA hQB
        rw [←heq]
        cases hsA:shortA (leastA QA) with
        | some s9 =>
          rw [isNone_some rfl]
          repeat first|exact zE|refine zP ?_|refine zB fun b=>?_|refine zC fun a' c' hc1 hc2=>?_|(apply GJ.a;exact rfl;intro hg)|(apply GJ.o;exact rfl;intro hg)
          exact Wk.back1 Sup.z (.refl _) hk
        | none =>
          have hf:=hap QA hQA hsA
          rw [isNone_none rfl]
          repeat first|exact zE|refine zP ?_|refine zB fun b=>?_|refine zC fun a' c' hc1 hc2=>?_|(apply GJ.a;exact rfl;intro hg)|(apply GJ.o;exact rfl;intro hg)
          exact Wk.back1 Sup.z (.refl _) hk
end
end Go.Proofs.YtficlekgjbnniaaGreatDoor
end
section
namespace Go.E
open Go
section
variable {P:Program}{ty:TypeId}{env:Env}{ro:Ro}{own:Chs}{K:Value→Ro→Chs→Prop}
theorem OpOk.neqPtrNil' {t yt:TypeId}{x y:Operand} (hx:ev env x=some (.pointer none)) (hy:ev env y=some (.pointer none)) (h:P.underlying t=some (.pointer (P.pointee t))) (hk:K (.bool false) ro own):OpOk P (.binOp .neq t x y yt) ty env ro own K :=
 OpOk.pu (fun h' hs d pos af g=>.mk fun ρ w hρ _=>by
  have:=run_neq_pointer_nil (P:=P) w t none h
  simp [execOp,hρ _ _ hx,hρ _ _ hy,eqGuard,this,Result.andThen]) hk
end
end Go.E
namespace Go.Proofs.YtficlekgjbnniaaGreatDoor
open Go Go.E
def Want (x y:Bool) (M:List (Int × Bool × Nat)):Prop:=∀ p∈M,∃ how:Nat,p.1=(how:Int)∧(how=1∨how=2∨how=3)∧p.2.1=accP how x y
section
variable {ro:Ro}{own r:Chs}{K:Value→Ro→Chs→Prop}{g:Chunk→Chs}
set_option maxHeartbeats 4000000 in
theorem aproducts_law {n m:RgD}{v u:List Value}{tx:List UInt8}{ab:Option Addr}{nb cb:Nat} (ht:TabOk ro) (hv:RgOk ro n v) (hu:RgOk ro m u) (hb:Bys ro ab nb cb tx) (hk:K (.bool true) ro own):CallOk Tryz.prog 8 #[.agg v.toArray,.agg u.toArray,.slice ab nb cb] ro own K:=by
 refine CallOk.back ?_
 obtain ⟨a1,c1,hvc⟩:=hv.cells
 obtain ⟨a2,c2,huc⟩:=hu.cells
 have hv0:=hv
 have hu0:=hu
 subst hvc
 subst huc
 have hmx:=hb.max
 have hncl:=hb.le
 unfold maxLen at hmx
 have hnb:=hb.n1
 obtain rfl:tx.length=nb:=by simpa using hnb
 refine CallOk.intro (args:=[_,_,_]) (rs:=[_]) T_ok Tryz.func8 Tryz.call8 rfl rfl (by kernel_rfl) rfl rfl ?_
 repeat first|exact zE|refine zP ?_|refine zB fun b=>?_|refine zC fun a' c' hc1 hc2=>?_|(apply GJ.a;exact rfl;intro hg)|(apply GJ.o;exact rfl;intro hg)
 rename_i bN
 refine adecides_ok ht (fun ro1 hl1=>?_)
 repeat first|exact zE|refine zP ?_|refine zB fun b=>?_|refine zC fun a' c' hc1 hc2=>?_|(apply GJ.a;exact rfl;intro hg)|(apply GJ.o;exact rfl;intro hg)
 refine amade_ok (ht.le hl1) (hv0.le hl1) (fun ro2 hl2 hn=>?_) (fun ro2 p1 hl2 hm1 hp1 hL1=>?_)
 ·repeat first|exact zE|refine zP ?_|refine zB fun b=>?_|refine zC fun a' c' hc1 hc2=>?_|(apply GJ.a;exact rfl;intro hg)|(apply GJ.o;exact rfl;intro hg)
  refine amade_ok ((ht.le hl1).le hl2) ((hu0.le hl1).le hl2) (fun ro3 hl3 hn=>?_) (fun ro3 p2 hl3 hm2 hp2 hL2=>?_)
  ·repeat first|exact zE|refine zP ?_|refine zB fun b=>?_|refine zC fun a' c' hc1 hc2=>?_|(apply GJ.a;exact rfl;intro hg)|(apply GJ.o;exact rfl;intro hg)
   refine OpOk.eqlPtrNil rfl rfl (by kernel_rfl) ?_
   repeat first|exact zE|refine zP ?_|refine zB fun b=>?_|refine zC fun a' c' hc1 hc2=>?_|(apply GJ.a;exact rfl;intro hg)|(apply GJ.o;exact rfl;intro hg)
   exact Wk.back1 Sup.z (.refl _) hk
  ·repeat first|exact zE|refine zP ?_|refine zB fun b=>?_|refine zC fun a' c' hc1 hc2=>?_|(apply GJ.a;exact rfl;intro hg)|(apply GJ.o;exact rfl;intro hg)
   refine OpOk.eqlPtrNil rfl rfl (by kernel_rfl) ?_
   repeat first|exact zE|refine zP ?_|refine zB fun b=>?_|refine zC fun a' c' hc1 hc2=>?_|(apply GJ.a;exact rfl;intro hg)|(apply GJ.o;exact rfl;intro hg)
   exact Wk.back1 Sup.z (.refl _) hk
 repeat first|exact zE|refine zP ?_|refine zB fun b=>?_|refine zC fun a' c' hc1 hc2=>?_|(apply GJ.a;exact rfl;intro hg)|(apply GJ.o;exact rfl;intro hg)
 refine amade_ok ((ht.le hl1).le hl2) ((hu0.le hl1).le hl2) (fun ro3 hl3 hn=>?_) (fun ro3 p2 hl3 hm2 hp2 hL2=>?_)
 ·repeat first|exact zE|refine zP ?_|refine zB fun b=>?_|refine zC fun a' c' hc1 hc2=>?_|(apply GJ.a;exact rfl;intro hg)|(apply GJ.o;exact rfl;intro hg)
  refine OpOk.eqlPtrNil rfl rfl (by kernel_rfl) ?_
  repeat first|exact zE|refine zP ?_|refine zB fun b=>?_|refine zC fun a' c' hc1 hc2=>?_|(apply GJ.a;exact rfl;intro hg)|(apply GJ.o;exact rfl;intro hg)
  exact Wk.back1 Sup.z (.refl _) hk
 by_cases h30:30<tx.length
 ·repeat first|exact zE|refine zP ?_|refine zB fun b=>?_|refine zC fun a' c' hc1 hc2=>?_|(apply GJ.a;exact rfl;intro hg)|(apply GJ.o;exact rfl;intro hg)
  exact Wk.back1 Sup.z (.refl _) hk
 obtain ⟨hw1,hM1,_⟩:=lst_lang hv0 hm1.2.1
 obtain ⟨hw2,hM2,_⟩:=lst_lang hu0 hm2.2.1
 have hv3:=((hv0.le hl1).le hl2).le hl3
 have hu3:=((hu0.le hl1).le hl2).le hl3
 have hb1:Bys ro1 ab tx.length cb tx:=Rs.up hb
 have hb2:Bys ro2 ab tx.length cb tx:=Rs.up hb1
 have hb3:Bys ro3 ab tx.length cb tx:=Rs.up hb2
 have hp1:=hp1.le hl3
 clear hm1 hm2 hv hv0 hu hu0 hb hb1 hb2
 generalize lstD n=D1 at *
 generalize lstD m=D2 at *
 repeat first|exact zE|refine zP ?_|refine zB fun b=>?_|refine zC fun a' c' hc1 hc2=>?_|(apply GJ.a;exact rfl;intro hg)|(apply GJ.o;exact rfl;intro hg)
 refine rmatch_ok hv3 hw1 hb3 (by omega) (fun ro4 hl4=>?_)
 have hb4:Bys ro4 ab tx.length cb tx:=Rs.up hb3
 rw [←hM1]
 repeat first|exact zE|refine zP ?_|refine zB fun b=>?_|refine zC fun a' c' hc1 hc2=>?_|(apply GJ.a;exact rfl;intro hg)|(apply GJ.o;exact rfl;intro hg)
 refine rmatch_ok (hu3.le hl4) hw2 hb4 (by omega) (fun ro5 hl5=>?_)
 have hb5:Bys ro5 ab tx.length cb tx:=Rs.up hb4
 rw [←hM2]
 have hp1:=(hp1.le hl4).le hl5
 have hp2:=(hp2.le hl4).le hl5
 have hac:=fun how P (h:prodA D1 D2 how=some P)=>(prod_least h).2 tx
 generalize matchA D1 tx=x at *
 generalize matchA D2 tx=y at *
 repeat first|exact zE|refine zP ?_|refine zB fun b=>?_|refine zC fun a' c' hc1 hc2=>?_|(apply GJ.a;exact rfl;intro hg)|(apply GJ.o;exact rfl;intro hg)
 refine OpOk.makeMapG (kv:=Value.int .i64) (vv:=Value.bool) (fun bM=>?_)
 repeat first|exact zE|refine zP ?_|refine zB fun b=>?_|refine zC fun a' c' hc1 hc2=>?_|(apply GJ.a;exact rfl;intro hg)|(apply GJ.o;exact rfl;intro hg)
 refine OpOk.insertG (OpOk.mapUpdateB (kt:=3) (et:=4) (kv:=Value.int .i64) (vv:=Value.bool) (k:=1) (v:=(x&&y)) rfl rfl rfl (by kernel_rfl) (KeyEnc.int (by kernel_rfl)) MapOk.nil trivial BornOk.nil (fun k1 hB1=>?_))
 have hO1:MapOk (fun _:Int=>True) (putG ([]:List (Int × Bool × Nat)) 0 1 (x&&y)):=MapOk.nil.put trivial 0 _
 have hW1:Want x y (putG ([]:List (Int × Bool × Nat)) 0 1 (x&&y)):=fun p hp=>by
  simp [putG] at hp
  subst hp
  exact ⟨1,rfl,.inl rfl,by cases x<;>cases y<;>rfl⟩
 have hk1:∀ p∈putG ([]:List (Int × Bool × Nat)) 0 1 (x&&y),p.1=1:=fun p hp=>by
  simp [putG] at hp
  subst hp;rfl
 generalize putG ([]:List (Int × Bool × Nat)) 0 1 (x&&y)=M1 at *
 repeat first|exact zE|refine zP ?_|refine zB fun b=>?_|refine zC fun a' c' hc1 hc2=>?_|(apply GJ.a;exact rfl;intro hg)|(apply GJ.o;exact rfl;intro hg)
 refine OpOk.insertG (OpOk.mapUpdateB (kt:=3) (et:=4) (kv:=Value.int .i64) (vv:=Value.bool) (k:=2) (v:=(x||y)) rfl rfl rfl (by kernel_rfl) (KeyEnc.int (by kernel_rfl)) hO1 trivial hB1 (fun k2 hB2=>?_))
 have hO2:=hO1.put (k:=(2:Int)) trivial k1 (x||y)
 have hW2:Want x y (putG M1 k1 2 (x||y))∧∀ p∈putG M1 k1 2 (x||y),p.1=1∨p.1=2:=by
  rw [(get_none (k:=(2:Int)) (fun p hp=>by rw [hk1 p hp];decide)).2]
  constructor
  ·intro p hp
   rcases List.mem_append.1 hp with hp|hp
   ·exact hW1 p hp
   ·simp at hp;subst hp
    exact ⟨2,rfl,.inr (.inl rfl),by cases x<;>cases y<;>rfl⟩
  ·intro p hp
   rcases List.mem_append.1 hp with hp|hp
   ·exact .inl (hk1 p hp)
   ·simp at hp;subst hp;exact .inr rfl
 clear hO1 hW1 hk1 hB1
 generalize putG M1 k1 2 (x||y)=M2 at *
 repeat first|exact zE|refine zP ?_|refine zB fun b=>?_|refine zC fun a' c' hc1 hc2=>?_|(apply GJ.a;exact rfl;intro hg)|(apply GJ.o;exact rfl;intro hg)
 refine OpOk.insertG (OpOk.mapUpdateB (kt:=3) (et:=4) (kv:=Value.int .i64) (vv:=Value.bool) (k:=3) (v:=(x&&!y)) rfl rfl rfl (by kernel_rfl) (KeyEnc.int (by kernel_rfl)) hO2 trivial hB2 (fun k3 hB3=>?_))
 have hW3:Want x y (putG M2 k2 3 (x&&!y)):=by
  rw [(get_none (k:=(3:Int)) (fun p hp=>by rcases hW2.2 p hp with h|h<;>rw [h]<;>decide)).2]
  intro p hp
  rcases List.mem_append.1 hp with hp|hp
  ·exact hW2.1 p hp
  ·simp at hp;subst hp
   exact ⟨3,rfl,.inr (.inr rfl),by cases x<;>cases y<;>rfl⟩
 clear hO2 hW2 hB2
 generalize putG M2 k2 3 (x&&!y)=M at *
 repeat first|exact zE|refine zP ?_|refine zB fun b=>?_|refine zC fun a' c' hc1 hc2=>?_|(apply GJ.a;exact rfl;intro hg)|(apply GJ.o;exact rfl;intro hg)
 refine OpOk.rangeG (kt:=3) (et:=4) (kv:=Value.int .i64) (vv:=Value.bool) (bm:=bM) (l:=M) (c:=k3) rfl (by kernel_rfl) (fun bI=>?_)
 repeat first|exact zE|refine zP ?_|refine zB fun b=>?_|refine zC fun a' c' hc1 hc2=>?_|(apply GJ.a;exact rfl;intro hg)|(apply GJ.o;exact rfl;intro hg)
 refine LoopOk.auto (ι:=List (Int × Bool × Nat)) Keep.z (fun _=>[]) (fun S=>.obj bI (iterO bM k3 S)::.obj bM (mapG (Value.int .i64) Value.bool M k3)::.blk b 26 (nodeV m.kind m.set a2 m.kids.length c2 m.min m.max)::.blk bN 26 (nodeV n.kind n.set a1 n.kids.length c1 n.min n.max)::own) (fun S ro6=>SubM M S) (fun S=>M.length-S.length) [] ?_ Sub.z Sup.z ?_
 ·exact ⟨fun p h=>by simp at h,List.nodup_nil⟩
 rintro S ro6 hl6 j1
 dsimp only [List.cons_append,List.nil_append] at j1 ⊢
 have hb6:Bys ro6 ab tx.length cb tx:=Rs.up hb5
 have hp1:=hp1.le hl6
 have hp2:=hp2.le hl6
 repeat first|exact zE|refine zP ?_|refine zB fun b=>?_|refine zC fun a' c' hc1 hc2=>?_|(apply GJ.a;exact rfl;intro hg)|(apply GJ.o;exact rfl;intro hg)
 refine OpOk.nextG (kv:=Value.int .i64) (vv:=Value.bool) (bi:=bI) (bm:=bM) (l:=M) (S:=S) rfl hB3 j1.sub (fun hall=>?_) (fun p hp hpn=>?_)
 ·repeat first|exact zE|refine zP ?_|refine zB fun b=>?_|refine zC fun a' c' hc1 hc2=>?_|(apply GJ.a;exact rfl;intro hg)|(apply GJ.o;exact rfl;intro hg)
  refine aprodX_ok (.inl (by decide)) ?_
  repeat first|exact zE|refine zP ?_|refine zB fun b=>?_|refine zC fun a' c' hc1 hc2=>?_|(apply GJ.a;exact rfl;intro hg)|(apply GJ.o;exact rfl;intro hg)
  refine aprodX_ok (.inr (by decide)) ?_
  repeat first|exact zE|refine zP ?_|refine zB fun b=>?_|refine zC fun a' c' hc1 hc2=>?_|(apply GJ.a;exact rfl;intro hg)|(apply GJ.o;exact rfl;intro hg)
  exact Wk.back1 Sup.z (.refl _) hk
 ·have hsn:=j1.snoc hp hpn
  have hsl:=hsn.len
  rw [List.length_append,List.length_singleton] at hsl
  repeat first|exact zE|refine zP ?_|refine zB fun b=>?_|refine zC fun a' c' hc1 hc2=>?_|(apply GJ.a;exact rfl;intro hg)|(apply GJ.o;exact rfl;intro hg)
  refine OpOk.entryG (kv:=Value.int .i64) (vv:=Value.bool) (bi:=bI) (bm:=bM) (l:=M) (S:=S) (p:=p) rfl hB3 hp ?_
  obtain ⟨how,e1,e2,e3⟩:=hW3 p hp
  rw [e1,e3]
  have hac:=hac how
  repeat first|exact zE|refine zP ?_|refine zB fun b=>?_|refine zC fun a' c' hc1 hc2=>?_|(apply GJ.a;exact rfl;intro hg)|(apply GJ.o;exact rfl;intro hg)
  refine aprod_ok hp1 hp2 hL1 hL2 e2 (fun ro7 hl7 hn=>?_) (fun ro7 z P hl7 hP hz=>?_)
  ·repeat first|exact zE|refine zP ?_|refine zB fun b=>?_|refine zC fun a' c' hc1 hc2=>?_|(apply GJ.a;exact rfl;intro hg)|(apply GJ.o;exact rfl;intro hg)
   refine OpOk.neqPtrNil' rfl rfl (by kernel_rfl) ?_
   repeat first|exact zE|refine zP ?_|refine zB fun b=>?_|refine zC fun a' c' hc1 hc2=>?_|(apply GJ.a;exact rfl;intro hg)|(apply GJ.o;exact rfl;intro hg)
   refine Wk.id ⟨S++[p],?_,?_,Sub.z,Sup.z⟩
   all_goals try dsimp only
   ·exact hsn
   ·rw [List.length_append,List.length_singleton];omega
  ·have hm:=hac P hP
   obtain ⟨hLP,_⟩:=prod_least hP
   have hb7:Bys ro7 ab tx.length cb tx:=Rs.up hb6
   generalize leastA P=Z at *
   generalize accP how x y=q at *
   obtain ⟨w,hw,ho,hs,_,_⟩:=hLP.ok
   repeat first|exact zE|refine zP ?_|refine zB fun b=>?_|refine zC fun a' c' hc1 hc2=>?_|(apply GJ.a;exact rfl;intro hg)|(apply GJ.o;exact rfl;intro hg)
   refine dmatch_ok (tx:=tx) hz ho hb7.rds rfl ?_
   rw [hm]
   repeat (first|exact zE|refine zP ?_|refine zB (fun b=>?_)|refine zC (fun a' c' hc1 hc2=>?_))
   rw [show decide (q≠q)=false by simp]
   repeat first|exact zE|refine zP ?_|refine zB fun b=>?_|refine zC fun a' c' hc1 hc2=>?_|(apply GJ.a;exact rfl;intro hg)|(apply GJ.o;exact rfl;intro hg)
   refine dleast_ok (w:=w) hz ho hs hw hLP.pos hLP.le (fun ro8 p8 hl8 hp8=>?_)
   rw [hLP.again] at hp8
   repeat first|exact zE|refine zP ?_|refine zB fun b=>?_|refine zC fun a' c' hc1 hc2=>?_|(apply GJ.a;exact rfl;intro hg)|(apply GJ.o;exact rfl;intro hg)
   refine dsame_ok (hz.le hl8) hp8 ?_
   repeat first|exact zE|refine zP ?_|refine zB fun b=>?_|refine zC fun a' c' hc1 hc2=>?_|(apply GJ.a;exact rfl;intro hg)|(apply GJ.o;exact rfl;intro hg)
   refine Wk.id ⟨S++[p],?_,?_,Sub.z,Sup.z⟩
   all_goals try dsimp only
   ·exact hsn
   ·rw [List.length_append,List.length_singleton];omega
end
end Go.Proofs.YtficlekgjbnniaaGreatDoor
end
