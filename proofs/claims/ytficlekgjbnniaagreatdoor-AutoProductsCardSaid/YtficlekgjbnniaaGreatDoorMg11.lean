/- Texts of a walk, one behind the other. -/
import Derived.DeepKeys5
import Derived.Test.YtficlekgjbnniaaGreatDoorMg4
import Derived.Test.YtficlekgjbnniaaGreatDoorMg6
import Derived.Test.YtficlekgjbnniaaGreatDoorMg7
import Derived.Test.YtficlekgjbnniaaGreatDoorMg9
import Derived.Test.YtficlekgjbnniaaGreatDoorMg10
set_option linter.unusedVariables false
set_option linter.unusedSimpArgs false
set_option linter.unusedSectionVars false
set_option maxRecDepth 10000
section
namespace Go.Proofs.YtficlekgjbnniaaGreatDoor
open Go Go.E
theorem any_drop {m:List Bool}{row:List Int}{k:Nat}{z:Int} (h:row[k]?=some z):anyR m (row.drop k)=((decide (0≤z)&&getB m z.toNat)||anyR m (row.drop (k+1))):=by
 obtain ⟨hk,e⟩:=List.getElem?_eq_some_iff.1 h
 rw [List.drop_eq_getElem_cons hk,e];rfl
theorem pref_drop {a:DfaA}{s:Nat} (hs:s<a.next.length):(((List.range a.next.length).drop s).all fun s=>!(endsA a (s:Int))||!(anyR (liveA a) (rowA a s)))=((!(endsA a (s:Int))||!(anyR (liveA a) (rowA a s)))&&(((List.range a.next.length).drop (s+1)).all fun s=>!(endsA a (s:Int))||!(anyR (liveA a) (rowA a s)))):=by
 rw [List.drop_eq_getElem_cons (by simpa using hs),List.getElem_range,List.all_cons]
section
variable {ro:Ro}{own r:Chs}{K:Value→Ro→Chs→Prop}{g:Chunk→Chs}
set_option maxHeartbeats 4000000 in
theorem apref_ok {q:Nat}{D:DfaA} (hq:DAt ro q D) (hL:LeastA D) (hk:K (.bool (prefA D)) ro own):CallOk Tryz.prog 15 #[ptr' q] ro own K:=by
 obtain ⟨an,cn,aa,ca,hsv,hd⟩:=hq.rd
 have hN:=hd.ldN
 have hrs:=hd.rs
 obtain ⟨w,hw6,ho,hs,_,_⟩:=hL.ok
 have hpos:=hL.pos
 have hn:=hL.le
 have hll:=liveA_len ho
 obtain ⟨P,hP⟩:∃ P,P=prefA D:=⟨_,rfl⟩
 rw [←hP] at hk
 refine CallOk.intro (args:=[_]) (rs:=[_]) T_ok Tryz.func15 Tryz.call15 rfl rfl (by kernel_rfl) rfl rfl ?_
 repeat first|exact zE|refine zP ?_|refine zB fun b=>?_|refine zC fun a' c' hc1 hc2=>?_|(apply GJ.a;exact rfl;intro hg)|(apply GJ.o;exact rfl;intro hg)
 refine aends_ok hq ho hs hn (fun bO=>?_)
 have hlv:=boolsV_len (liveA D)
 repeat first|exact zE|refine zP ?_|refine zB fun b=>?_|refine zC fun a' c' hc1 hc2=>?_|(apply GJ.a;exact rfl;intro hg)|(apply GJ.o;exact rfl;intro hg)
 refine LoopOk.at (ι:=Nat) Keep.z (fun s=>[(11,.int .i64 (s:Int))]) (fun s=>.sl (some ⟨bO,0,none⟩) D.next.length D.next.length 4 1 (boolsV (liveA D))::own) (fun s=>s≤D.next.length∧(((List.range D.next.length).drop s).all fun s=>!(endsA D (s:Int))||!(anyR (liveA D) (rowA D s)))=P) (fun s=>D.next.length-s) 0 ?_ Sub.z Sup.z ?_
 ·exact ⟨Nat.zero_le _,by rw [List.drop_zero,hP];rfl⟩
 rintro s ⟨i1,i2⟩
 dsimp only [List.cons_append,List.nil_append] at i1 i2 ⊢
 by_cases hsl:s<D.next.length
 ·rw [pref_drop hsl] at i2
  cases he:endsA D (s:Int) with
  | false =>
    rw [he,Bool.not_false,Bool.true_or,Bool.true_and] at i2
    repeat first|exact zE|refine zP ?_|refine zB fun b=>?_|refine zC fun a' c' hc1 hc2=>?_|(apply GJ.a;exact rfl;intro hg)|(apply GJ.o;exact rfl;intro hg)
    refine dends_ok hq ?_
    rw [he]
    repeat first|exact zE|refine zP ?_|refine zB fun b=>?_|refine zC fun a' c' hc1 hc2=>?_|(apply GJ.a;exact rfl;intro hg)|(apply GJ.o;exact rfl;intro hg)
    refine Wk.id ⟨s+1,⟨rfl,?_⟩,?_,Sub.z,Sup.z⟩
    all_goals try dsimp only
    ·exact ⟨by omega,i2⟩
    ·omega
  | true =>
    rw [he,Bool.not_true,Bool.false_or] at i2
    obtain ⟨row,hrow⟩:∃ row,D.next[s]?=some row:=⟨_,List.getElem?_eq_getElem hsl⟩
    obtain ⟨ar,cr,q1,q2⟩:=hd.rows s row hrow
    rw [rowA_at hrow] at i2
    have hrl:=q2.le
    have hrm:=q2.max
    unfold maxLen at hrm
    have hml:=List.length_replicate (n:=D.next.length) (a:=true)
    have hb1:=(bangB (l:=List.replicate D.next.length true) (i:=s) (by omega)).trans (show getB (List.replicate D.next.length true) s=true by unfold getB;rw [List.getElem?_replicate,if_pos hsl];rfl)
    have hmv:=boolsV_len (List.replicate D.next.length true)
    repeat first|exact zE|refine zP ?_|refine zB fun b=>?_|refine zC fun a' c' hc1 hc2=>?_|(apply GJ.a;exact rfl;intro hg)|(apply GJ.o;exact rfl;intro hg)
    refine dends_ok hq ?_
    rw [he]
    repeat first|exact zE|refine zP ?_|refine zB fun b=>?_|refine zC fun a' c' hc1 hc2=>?_|(apply GJ.a;exact rfl;intro hg)|(apply GJ.o;exact rfl;intro hg)
    refine amet_ok hq hL (fun bM=>?_)
    repeat (first|exact zE|refine zP ?_|refine zB (fun b=>?_)|refine zC (fun a' c' hc1 hc2=>?_))
    rw [hb1]
    repeat first|exact zE|refine zP ?_|refine zB fun b=>?_|refine zC fun a' c' hc1 hc2=>?_|(apply GJ.a;exact rfl;intro hg)|(apply GJ.o;exact rfl;intro hg)
    refine OpOk.load rfl rfl (Go.E.Ld.rs hrs (by rw [Int.toNat_natCast];exact q1)) ?_
    repeat first|exact zE|refine zP ?_|refine zB fun b=>?_|refine zC fun a' c' hc1 hc2=>?_|(apply GJ.a;exact rfl;intro hg)|(apply GJ.o;exact rfl;intro hg)
    refine LoopOk.at (ι:=Nat) Keep.z (fun k=>[(34,.int .i64 (k:Int))]) (fun k=>.sl (some ⟨bO,0,none⟩) D.next.length D.next.length 4 1 (boolsV (liveA D))::own) (fun k=>k≤row.length∧anyR (liveA D) (row.drop k)=anyR (liveA D) row) (fun k=>row.length-k) 0 ?_ Sub.z Sup.z ?_
    ·exact ⟨Nat.zero_le _,by rw [List.drop_zero]⟩
    rintro k ⟨k1,k2⟩
    dsimp only [List.cons_append,List.nil_append] at k1 k2 ⊢
    by_cases hkl:k<row.length
    ·obtain ⟨z,hz⟩:∃ z,row[k]?=some z:=⟨_,List.getElem?_eq_getElem hkl⟩
     have hbz:=bang hz
     rw [any_drop hz] at k2
     rcases row_ent ho hrow hz with rfl|⟨u,rfl,hu⟩
     ·rw [decide_eq_false (by omega),Bool.false_and,Bool.false_or] at k2
      repeat (first|exact zE|refine zP ?_|refine zB (fun b=>?_)|refine zC (fun a' c' hc1 hc2=>?_))
      rw [hbz]
      repeat first|exact zE|refine zP ?_|refine zB fun b=>?_|refine zC fun a' c' hc1 hc2=>?_|(apply GJ.a;exact rfl;intro hg)|(apply GJ.o;exact rfl;intro hg)
      refine Wk.id ⟨k+1,⟨rfl,?_⟩,?_,Sub.z,Sup.z⟩
      all_goals try dsimp only
      ·exact ⟨by omega,k2⟩
      ·omega
     ·have hb2:=bangB (l:=liveA D) (i:=u) (by omega)
      rw [decide_eq_true (by omega),Bool.true_and,Int.toNat_natCast] at k2
      cases hp:getB (liveA D) u with
      | true =>
        rw [hp] at hb2 k2
        rw [Bool.true_or] at k2
        rw [←k2,Bool.not_true,Bool.false_and] at i2
        subst i2
        repeat (first|exact zE|refine zP ?_|refine zB (fun b=>?_)|refine zC (fun a' c' hc1 hc2=>?_))
        rw [hbz]
        repeat first|exact zE|refine zP ?_|refine zB fun b=>?_|refine zC fun a' c' hc1 hc2=>?_|(apply GJ.a;exact rfl;intro hg)|(apply GJ.o;exact rfl;intro hg)
        exact Wk.outS Sup.z (.refl _) hk
      | false =>
        rw [hp] at hb2 k2
        rw [Bool.false_or] at k2
        repeat (first|exact zE|refine zP ?_|refine zB (fun b=>?_)|refine zC (fun a' c' hc1 hc2=>?_))
        rw [hbz]
        repeat (first|exact zE|refine zP ?_|refine zB (fun b=>?_)|refine zC (fun a' c' hc1 hc2=>?_))
        rw [hb2]
        repeat first|exact zE|refine zP ?_|refine zB fun b=>?_|refine zC fun a' c' hc1 hc2=>?_|(apply GJ.a;exact rfl;intro hg)|(apply GJ.o;exact rfl;intro hg)
        refine Wk.id ⟨k+1,⟨rfl,?_⟩,?_,Sub.z,Sup.z⟩
        all_goals try dsimp only
        ·exact ⟨by omega,k2⟩
        ·omega
    ·obtain rfl:k=row.length:=by omega
     rw [List.drop_length] at k2
     rw [←k2] at i2
     rw [show anyR (liveA D) []=false from rfl,Bool.not_false,Bool.true_and] at i2
     repeat first|exact zE|refine zP ?_|refine zB fun b=>?_|refine zC fun a' c' hc1 hc2=>?_|(apply GJ.a;exact rfl;intro hg)|(apply GJ.o;exact rfl;intro hg)
     refine Wk.id ⟨s+1,⟨rfl,?_⟩,?_,Sub.z,Sup.z⟩
     all_goals try dsimp only
     ·exact ⟨by omega,i2⟩
     ·omega
 ·obtain rfl:s=D.next.length:=by omega
  rw [List.drop_eq_nil_of_le (by simp)] at i2
  subst i2
  repeat first|exact zE|refine zP ?_|refine zB fun b=>?_|refine zC fun a' c' hc1 hc2=>?_|(apply GJ.a;exact rfl;intro hg)|(apply GJ.o;exact rfl;intro hg)
  exact Wk.outS Sup.z (.refl _) hk
theorem ofB_ok {b:Nat}{x:Nat} (hx:x<256) (hk:K (.agg (setV (ofD x)).toArray) ro (.sl (some ⟨b,0,none⟩) 1 1 5 1 [.int .u8 (x:Int)]::r)):CallOk Tryz.prog 40 #[.slice (some ⟨b,0,none⟩) 1 1] ro (.sl (some ⟨b,0,none⟩) 1 1 5 1 [.int .u8 (x:Int)]::r) K:=by
 have hu:(UInt8.ofNat x).toNat=x:=UInt8.toNat_ofNat_of_lt' hx
 refine CallOk.borrow (l:=[.sl (some ⟨b,0,none⟩) 1 1 5 1 [.int .u8 (x:Int)]]) (own':=r) (.refl _) (fun ro1 hl1 hc1=>?_) hk
 have hB:Bys ro1 (some ⟨b,0,none⟩) [UInt8.ofNat x].length 1 [UInt8.ofNat x]:=by
  have:=Rs.last (hc1 (.sl (some ⟨b,0,none⟩) 1 1 5 1 [.int .u8 (x:Int)]) (by simp))
  show Rs ro1 _ 1 1 1 [.int .u8 ((UInt8.ofNat x).toNat:Int)]
  rw [hu];exact this
 refine of_ok (l:=[UInt8.ofNat x]) hB (by simp) (fun s h1 h2=>?_)
 have:s=ofD x:=SetD.ext h1 (of_in hx) fun d hd=>by
  have e:=h2 (UInt8.ofNat d)
  rw [UInt8.toNat_ofNat_of_lt' hd] at e
  rw [e,of_has hx hd,decide_eq_decide,List.mem_singleton]
  constructor
  ·intro h;have:=congrArg UInt8.toNat h;rwa [UInt8.toNat_ofNat_of_lt' hd,hu] at this
  ·intro h;rw [h]
 rw [this]
 exact ⟨rfl,rfl⟩
set_option maxHeartbeats 4000000 in
theorem afirst_ok {q:Nat}{D:DfaA} (hq:DAt ro q D) (hL:LeastA D) (hk:K (.agg (setV (firstA D)).toArray) ro own):CallOk Tryz.prog 18 #[ptr' q] ro own K:=by
 obtain ⟨w,hw6,ho,hs,_,_⟩:=hL.ok
 have hpos:=hL.pos
 have hn:=hL.le
 have hll:=liveA_len ho
 obtain ⟨P,hP⟩:∃ P,P=firstA D:=⟨_,rfl⟩
 rw [←hP] at hk
 refine CallOk.intro (args:=[_]) (rs:=[_]) T_ok Tryz.func18 Tryz.call18 rfl rfl (by kernel_rfl) rfl rfl ?_
 repeat first|exact zE|refine zP ?_|refine zB fun b=>?_|refine zC fun a' c' hc1 hc2=>?_|(apply GJ.a;exact rfl;intro hg)|(apply GJ.o;exact rfl;intro hg)
 obtain ⟨bR,hbR⟩:∃ z:Nat,z=b:=⟨_,rfl⟩
 subst hbR
 refine aends_ok hq ho hs hn (fun bO=>?_)
 have hlv:=boolsV_len (liveA D)
 repeat first|exact zE|refine zP ?_|refine zB fun b=>?_|refine zC fun a' c' hc1 hc2=>?_|(apply GJ.a;exact rfl;intro hg)|(apply GJ.o;exact rfl;intro hg)
 obtain ⟨bS,hbS⟩:∃ z:Nat,z=b:=⟨_,rfl⟩
 subst hbS
 rw [show [Value.int .u64 0,.int .u64 0,.int .u64 0,.int .u64 0]=setV zeroS from rfl]
 refine LoopOk.at (ι:=Nat × SetD) Keep.z (fun (c,S)=>[(9,.int .i64 (c:Int))]) (fun (c,S)=>.blk bS 40 (setV S)::.sl (some ⟨bO,0,none⟩) D.next.length D.next.length 4 1 (boolsV (liveA D))::.blk bR 40 (setV zeroS)::own) (fun (c,S)=>c≤256∧SetIn S∧firstL D (256-c) c S=P) (fun (c,S)=>256-c) (0,zeroS) ?_ Sub.z Sup.z ?_
 ·exact ⟨Nat.zero_le _,zeroS_in,hP.symm⟩
 rintro ⟨c,S⟩ ⟨i1,i2,i3⟩
 dsimp only [List.cons_append,List.nil_append] at i1 i2 i3 ⊢
 by_cases hc:c<256
 ·rw [show 256-c=(256-(c+1))+1 by omega,firstL] at i3
  unfold begB at i3
  rcases step_to ho (0:Int) hc with hz|⟨u,hz,hu⟩
  ·rw [hz] at i3
   rw [if_neg (by simp)] at i3
   repeat first|exact zE|refine zP ?_|refine zB fun b=>?_|refine zC fun a' c' hc1 hc2=>?_|(apply GJ.a;exact rfl;intro hg)|(apply GJ.o;exact rfl;intro hg)
   refine dstepY_ok (w:=w) (c:=c) (by omega) hq ho hc ?_
   rw [hz]
   repeat first|exact zE|refine zP ?_|refine zB fun b=>?_|refine zC fun a' c' hc1 hc2=>?_|(apply GJ.a;exact rfl;intro hg)|(apply GJ.o;exact rfl;intro hg)
   refine Wk.id ⟨(c+1,S),⟨rfl,?_⟩,?_,Sub.z,Sup.z⟩
   all_goals try dsimp only
   ·exact ⟨by omega,i2,i3⟩
   ·omega
  ·rw [hz,decide_eq_true (by omega),Bool.true_and,Int.toNat_natCast] at i3
   have hb2:=bangB (l:=liveA D) (i:=u) (by omega)
   cases hp:getB (liveA D) u with
   | false =>
     rw [hp] at hb2 i3
     rw [if_neg (by decide)] at i3
     repeat first|exact zE|refine zP ?_|refine zB fun b=>?_|refine zC fun a' c' hc1 hc2=>?_|(apply GJ.a;exact rfl;intro hg)|(apply GJ.o;exact rfl;intro hg)
     refine dstepY_ok (w:=w) (c:=c) (by omega) hq ho hc ?_
     rw [hz]
     repeat (first|exact zE|refine zP ?_|refine zB (fun b=>?_)|refine zC (fun a' c' hc1 hc2=>?_))
     rw [hb2]
     repeat first|exact zE|refine zP ?_|refine zB fun b=>?_|refine zC fun a' c' hc1 hc2=>?_|(apply GJ.a;exact rfl;intro hg)|(apply GJ.o;exact rfl;intro hg)
     refine Wk.id ⟨(c+1,S),⟨rfl,?_⟩,?_,Sub.z,Sup.z⟩
     all_goals try dsimp only
     ·exact ⟨by omega,i2,i3⟩
     ·omega
   | true =>
     rw [hp] at hb2 i3
     rw [if_pos rfl] at i3
     have hin:=SetIn.or i2 (show SetIn (ofD c) from add_in zeroS_in hc)
     repeat first|exact zE|refine zP ?_|refine zB fun b=>?_|refine zC fun a' c' hc1 hc2=>?_|(apply GJ.a;exact rfl;intro hg)|(apply GJ.o;exact rfl;intro hg)
     refine dstepY_ok (w:=w) (c:=c) (by omega) hq ho hc ?_
     rw [hz]
     repeat (first|exact zE|refine zP ?_|refine zB (fun b=>?_)|refine zC (fun a' c' hc1 hc2=>?_))
     rw [hb2]
     repeat first|exact zE|refine zP ?_|refine zB fun b=>?_|refine zC fun a' c' hc1 hc2=>?_|(apply GJ.a;exact rfl;intro hg)|(apply GJ.o;exact rfl;intro hg)
     rw [show ((c:Nat):Int) % 256=(c:Int) by omega]
     refine ofB_ok hc ?_
     repeat first|exact zE|refine zP ?_|refine zB fun b=>?_|refine zC fun a' c' hc1 hc2=>?_|(apply GJ.a;exact rfl;intro hg)|(apply GJ.o;exact rfl;intro hg)
     refine or_ok i2 (of_in hc) ?_
     repeat first|exact zE|refine zP ?_|refine zB fun b=>?_|refine zC fun a' c' hc1 hc2=>?_|(apply GJ.a;exact rfl;intro hg)|(apply GJ.o;exact rfl;intro hg)
     refine Wk.id ⟨(c+1,S.or (ofD c)),⟨rfl,?_⟩,?_,Sub.z,Sup.z⟩
     all_goals try dsimp only
     ·exact ⟨by omega,hin,i3⟩
     ·omega
 ·obtain rfl:c=256:=by omega
  rw [Nat.sub_self,firstL] at i3
  subst i3
  repeat first|exact zE|refine zP ?_|refine zB fun b=>?_|refine zC fun a' c' hc1 hc2=>?_|(apply GJ.a;exact rfl;intro hg)|(apply GJ.o;exact rfl;intro hg)
  exact Wk.outS Sup.z (.refl _) hk
end
end Go.Proofs.YtficlekgjbnniaaGreatDoor
end
section
namespace Go.E
open Go
section
variable {P:Program}{T:TT} [hT:TTab P T] {ty:TypeId}{env:Env}{ro:Ro}{own:Chs}{K:Value→Ro→Chs→Prop}{κ ν:Type}{kv:κ→Value}{vv:ν→Value}
theorem OpOk.entryG {x:Operand}{bi bm c:Nat}{l S:List (κ × ν × Nat)}{p:κ × ν × Nat}{f g:Chunk→Chs} (hx:ev env x=some (.pointer (some ⟨bi,0,none⟩))) [hi:HasObj own bi (iterO bm c (S++[p])) g] [hb:HasObj own bm (mapG kv vv l c) f] (hB:BornOk l c) (hp:p∈l)
  (hk:K (.tuple #[kv p.1,vv p.2.1]) ro own):OpOk P (.entry x) ty env ro own K :=
 OpOk.pu (fun h hs d pos af gd=>.mk fun ρ w hρ hw=>by
  have hgi:h[bi]?=some (iterO bm c (S++[p])):=(hi.repl (.obj 0 default)).get hs
  have hgm:h[bm]?=some (.map (l.map (entG kv vv)).toArray c):=(hb.repl (.obj 0 default)).get hs
  subst hw
  have e:iterO bm c (S++[p])=.mapIter (some bm) c ((S.map (·.2.2)).toArray.push p.2.2) c:=by simp [iterO]
  rw [e] at hgi
  have hf:(l.map (entG kv vv)).toArray.find? (·.born == p.2.2)=some (entG kv vv p):=by
   rw [←Array.find?_toList]
   have hn:((l.map (entG kv vv)).map (·.born)).Nodup:=by
    rw [List.map_map]
    exact hB.nodup
   exact find_born (entG kv vv p) (l.map (entG kv vv)) hn (List.mem_map.2 ⟨p,hp,rfl⟩)
  simp only [execOp,hρ _ _ hx,Instr.entry,getObj,Sem.run_bind,Sem.run,hgi,hgm,Result.andThen,Array.back?_push,bne_self_eq_false,Bool.false_eq_true,if_false,hf]
  rfl) hk
end
end Go.E
namespace Go.Proofs.YtficlekgjbnniaaGreatDoor
open Go Go.E
theorem bang0 {l:List Bool} (h:0<l.length):l[Int.toNat 0]! = getB l 0:=bangB (i:=0) h
structure SubM (M S:List (Int × Bool × Nat)):Prop where
 sub:∀ p∈S,p∈M
 nodup:S.Nodup
theorem SubM.len {M S:List (Int × Bool × Nat)} (h:SubM M S):S.length≤M.length:=nodup_le h.nodup h.sub
theorem SubM.snoc {M S:List (Int × Bool × Nat)} (h:SubM M S) {p:Int × Bool × Nat} (hp:p∈M) (hn:p∉S):SubM M (S++[p]):=by
 refine ⟨fun q hq=>?_,?_⟩
 ·rcases List.mem_append.1 hq with hq|hq
  ·exact h.sub q hq
  ·simp at hq;subst hq;exact hp
 ·rw [List.nodup_append]
  exact ⟨h.nodup,by simp,fun x hx y hy=>by simp at hy;subst hy;exact fun e=>hn (e▸hx)⟩
section
variable {ro:Ro}{own r:Chs}{K:Value→Ro→Chs→Prop}{g:Chunk→Chs}
set_option maxHeartbeats 8000000 in
theorem along_ok {q:Nat}{D:DfaA} (hq:DAt ro q D) (hL:LeastA D) (hk:K (.int .i64 (longF D)) ro own):CallOk Tryz.prog 21 #[ptr' q] ro own K:=by
 obtain ⟨an,cn,aa,ca,hsv,hd⟩:=hq.rd
 have hN:=hd.ldN
 have hrs:=hd.rs
 obtain ⟨w,hw6,ho,hs,_,_⟩:=hL.ok
 have hpos:=hL.pos
 have hn:=hL.le
 have hll:=liveA_len ho
 have hlv:=boolsV_len (liveA D)
 have hml:=List.length_replicate (n:=D.next.length) (a:=true)
 have hmv:=boolsV_len (List.replicate D.next.length true)
 have hb0:=bang0 (l:=liveA D) (by omega)
 obtain ⟨P,hP⟩:∃ P,P=longF D:=⟨_,rfl⟩
 rw [←hP] at hk
 unfold longF at hP
 refine CallOk.intro (args:=[_]) (rs:=[_]) T_ok Tryz.func21 Tryz.call21 rfl rfl (by kernel_rfl) rfl rfl ?_
 repeat first|exact zE|refine zP ?_|refine zB fun b=>?_|refine zC fun a' c' hc1 hc2=>?_|(apply GJ.a;exact rfl;intro hg)|(apply GJ.o;exact rfl;intro hg)
 refine aends_ok hq ho hs hn (fun bO=>?_)
 repeat first|exact zE|refine zP ?_|refine zB fun b=>?_|refine zC fun a' c' hc1 hc2=>?_|(apply GJ.a;exact rfl;intro hg)|(apply GJ.o;exact rfl;intro hg)
 refine amet_ok hq hL (fun bT=>?_)
 have hmt:∀ u,u<D.next.length→(List.replicate D.next.length true)[((u:Nat):Int).toNat]! = true:=fun u hu=>(bangB (l:=List.replicate D.next.length true) (i:=u) (by omega)).trans (by unfold getB;rw [List.getElem?_replicate,if_pos hu];rfl)
 generalize List.replicate D.next.length true=MT at *
 repeat first|exact zE|refine zP ?_|refine zB fun b=>?_|refine zC fun a' c' hc1 hc2=>?_|(apply GJ.a;exact rfl;intro hg)|(apply GJ.o;exact rfl;intro hg)
 refine dlen_ok hq ?_
 cases hg0:getB (liveA D) 0 with
 | false =>
   rw [hg0] at hb0 hP
   rw [if_neg (by decide)] at hP
   subst hP
   repeat (first|exact zE|refine zP ?_|refine zB (fun b=>?_)|refine zC (fun a' c' hc1 hc2=>?_))
   rw [hb0]
   repeat first|exact zE|refine zP ?_|refine zB fun b=>?_|refine zC fun a' c' hc1 hc2=>?_|(apply GJ.a;exact rfl;intro hg)|(apply GJ.o;exact rfl;intro hg)
   exact Wk.outS Sup.z (.refl _) hk
 | true =>
   rw [hg0] at hb0 hP
   rw [if_pos rfl] at hP
   repeat (first|exact zE|refine zP ?_|refine zB (fun b=>?_)|refine zC (fun a' c' hc1 hc2=>?_))
   rw [hb0]
   repeat first|exact zE|refine zP ?_|refine zB fun b=>?_|refine zC fun a' c' hc1 hc2=>?_|(apply GJ.a;exact rfl;intro hg)|(apply GJ.o;exact rfl;intro hg)
   refine OpOk.makeMapG (kv:=Value.int .i64) (vv:=Value.bool) (fun bM0=>?_)
   repeat first|exact zE|refine zP ?_|refine zB fun b=>?_|refine zC fun a' c' hc1 hc2=>?_|(apply GJ.a;exact rfl;intro hg)|(apply GJ.o;exact rfl;intro hg)
   refine OpOk.insertG (OpOk.mapUpdateB (kt:=3) (et:=4) (kv:=Value.int .i64) (vv:=Value.bool) (k:=0) (v:=true) rfl rfl rfl (by kernel_rfl) (KeyEnc.int (by kernel_rfl)) MapOk.nil trivial BornOk.nil (fun c1 hB1=>?_))
   have hM0:=LvM.start hpos 0 hB1
   have hl0:((List.replicate D.next.length false).set 0 true).length=D.next.length:=by simp
   generalize putG ([]:List (Int × Bool × Nat)) 0 0 true=M0 at *
   generalize (List.replicate D.next.length false).set 0 true=now0 at *
   repeat first|exact zE|refine zP ?_|refine zB fun b=>?_|refine zC fun a' c' hc1 hc2=>?_|(apply GJ.a;exact rfl;intro hg)|(apply GJ.o;exact rfl;intro hg)
   refine LoopOk.at (ι:=Nat × List Bool × List (Int × Bool × Nat) × Nat × Int × Nat) Keep.z (fun (k,now,M,cM,best,bM)=>[(7,.int .i64 (k:Int)),(5,.int .i64 best),(6,.map (some bM))]) (fun (k,now,M,cM,best,bM)=>.obj bM (mapG (Value.int .i64) Value.bool M cM)::.sl (some ⟨bT,0,none⟩) D.next.length D.next.length 4 1 (boolsV MT)::.sl (some ⟨bO,0,none⟩) D.next.length D.next.length 4 1 (boolsV (liveA D))::own) (fun (k,now,M,cM,best,bM)=>k≤D.next.length+1∧LvM D now M cM∧now.length=D.next.length∧longL D (D.next.length+1-k) k now best=P) (fun (k,now,M,cM,best,bM)=>D.next.length+1-k) (0,now0,M0,c1,-1,bM0) ?_ Sub.z Sup.z ?_
   ·exact ⟨Nat.zero_le _,hM0,hl0,hP.symm⟩
   clear hM0 hB1 hl0 hP now0 M0 hg0
   rintro ⟨k,now,M,cM,best,bM⟩ ⟨i1,i2,i3,i4⟩
   dsimp only [List.cons_append,List.nil_append] at i1 i2 i3 i4 ⊢
   by_cases hkN:k≤D.next.length
   ·rw [show D.next.length+1-k=(D.next.length-k)+1 by omega,longL] at i4
    repeat first|exact zE|refine zP ?_|refine zB fun b=>?_|refine zC fun a' c' hc1 hc2=>?_|(apply GJ.a;exact rfl;intro hg)|(apply GJ.o;exact rfl;intro hg)
    refine dlen_ok hq ?_
    repeat first|exact zE|refine zP ?_|refine zB fun b=>?_|refine zC fun a' c' hc1 hc2=>?_|(apply GJ.a;exact rfl;intro hg)|(apply GJ.o;exact rfl;intro hg)
    refine OpOk.makeMapG (kv:=Value.int .i64) (vv:=Value.bool) (fun bX=>?_)
    repeat first|exact zE|refine zP ?_|refine zB fun b=>?_|refine zC fun a' c' hc1 hc2=>?_|(apply GJ.a;exact rfl;intro hg)|(apply GJ.o;exact rfl;intro hg)
    refine OpOk.rangeG (kt:=3) (et:=4) (kv:=Value.int .i64) (vv:=Value.bool) (bm:=bM) (l:=M) (c:=cM) rfl (by kernel_rfl) (fun bI=>?_)
    repeat first|exact zE|refine zP ?_|refine zB fun b=>?_|refine zC fun a' c' hc1 hc2=>?_|(apply GJ.a;exact rfl;intro hg)|(apply GJ.o;exact rfl;intro hg)
    refine LoopOk.at (ι:=List (Int × Bool × Nat) × List (Int × Bool × Nat) × Nat × Int) Keep.z (fun (S,X,cX,b)=>[(5,.int .i64 b)]) (fun (S,X,cX,b)=>.obj bI (iterO bM cM S)::.obj bX (mapG (Value.int .i64) Value.bool X cX)::.obj bM (mapG (Value.int .i64) Value.bool M cM)::.sl (some ⟨bT,0,none⟩) D.next.length D.next.length 4 1 (boolsV MT)::.sl (some ⟨bO,0,none⟩) D.next.length D.next.length 4 1 (boolsV (liveA D))::own) (fun (S,X,cX,b)=>SubM M S∧LvR D S 0 0 X cX∧b=(if (S.any fun p=>endsA D p.1) then (k:Int) else best)) (fun (S,X,cX,b)=>M.length-S.length) ([],[],0,best) ?_ Sub.z Sup.z ?_
    ·exact ⟨⟨fun p h=>by simp at h,List.nodup_nil⟩,LvR.nil D,rfl⟩
    rintro ⟨S,X,cX,b⟩ ⟨j1,j2,j3⟩
    dsimp only [List.cons_append,List.nil_append] at j1 j2 j3 ⊢
    repeat first|exact zE|refine zP ?_|refine zB fun b=>?_|refine zC fun a' c' hc1 hc2=>?_|(apply GJ.a;exact rfl;intro hg)|(apply GJ.o;exact rfl;intro hg)
    refine OpOk.nextG (kv:=Value.int .i64) (vv:=Value.bool) (bi:=bI) (bm:=bM) (l:=M) (S:=S) rfl i2.born j1.sub (fun hall=>?_) (fun p hp hpn=>?_)
    ·have hS:∀ p,p∈S↔p∈M:=fun p=>⟨j1.sub p,hall p⟩
     have hf:=j2.fin ho i2 hS
     have hem:=hf.empty (nextV_len D now)
     rw [endV_fin i2 hS] at j3
     rw [←j3] at i4
     repeat first|exact zE|refine zP ?_|refine zB fun b=>?_|refine zC fun a' c' hc1 hc2=>?_|(apply GJ.a;exact rfl;intro hg)|(apply GJ.o;exact rfl;intro hg)
     refine OpOk.lenG (kv:=Value.int .i64) (vv:=Value.bool) (b:=bX) (l:=X) (c:=cX) (kt:=3) (et:=4) rfl (by kernel_rfl) ?_
     by_cases h0:X.length=0
     ·rw [if_pos (hem.1 h0)] at i4
      subst i4
      repeat first|exact zE|refine zP ?_|refine zB fun b=>?_|refine zC fun a' c' hc1 hc2=>?_|(apply GJ.a;exact rfl;intro hg)|(apply GJ.o;exact rfl;intro hg)
      exact Wk.outS Sup.z (.refl _) hk
     ·rw [if_neg (fun h=>h0 (hem.2 h))] at i4
      repeat first|exact zE|refine zP ?_|refine zB fun b=>?_|refine zC fun a' c' hc1 hc2=>?_|(apply GJ.a;exact rfl;intro hg)|(apply GJ.o;exact rfl;intro hg)
      refine Wk.id ⟨(k+1,nextV D now,X,cX,b,bX),⟨rfl,?_⟩,?_,Sub.z,Sup.z⟩
      all_goals try dsimp only
      ·exact ⟨by omega,hf,nextV_len D now,by rw [show D.next.length+1-(k+1)=D.next.length-k by omega];exact i4⟩
      ·omega
    ·have hkey:=(i2.keys p.1).1 (List.mem_map.2 ⟨p,hp,rfl⟩)
     have hsn:=j1.snoc hp hpn
     have hsl:=hsn.len
     rw [List.length_append,List.length_singleton] at hsl
     repeat first|exact zE|refine zP ?_|refine zB fun b=>?_|refine zC fun a' c' hc1 hc2=>?_|(apply GJ.a;exact rfl;intro hg)|(apply GJ.o;exact rfl;intro hg)
     refine OpOk.entryG (kv:=Value.int .i64) (vv:=Value.bool) (bi:=bI) (bm:=bM) (l:=M) (S:=S) (p:=p) rfl i2.born hp ?_
     obtain ⟨z0,v,t⟩:=p
     dsimp only at hkey ⊢
     obtain ⟨s,rfl⟩:∃ s:Nat,z0=(s:Int):=⟨z0.toNat,by omega⟩
     rw [Int.toNat_natCast] at hkey
     obtain ⟨row,hrow⟩:∃ row,D.next[s]?=some row:=⟨_,List.getElem?_eq_getElem hkey.2.1⟩
     obtain ⟨ar,cr,q1,q2⟩:=hd.rows s row hrow
     have hrl:=q2.le
     have hrm:=q2.max
     unfold maxLen at hrm
     have hsN:=hkey.2.1
     repeat first|exact zE|refine zP ?_|refine zB fun b=>?_|refine zC fun a' c' hc1 hc2=>?_|(apply GJ.a;exact rfl;intro hg)|(apply GJ.o;exact rfl;intro hg)
     refine dends_ok hq ?_
     cases he:endsA D (s:Int) with
     | true =>
       repeat first|exact zE|refine zP ?_|refine zB fun b=>?_|refine zC fun a' c' hc1 hc2=>?_|(apply GJ.a;exact rfl;intro hg)|(apply GJ.o;exact rfl;intro hg)
       refine OpOk.load rfl rfl (Go.E.Ld.rs hrs (by rw [Int.toNat_natCast];exact q1)) ?_
       repeat first|exact zE|refine zP ?_|refine zB fun b=>?_|refine zC fun a' c' hc1 hc2=>?_|(apply GJ.a;exact rfl;intro hg)|(apply GJ.o;exact rfl;intro hg)
       refine LoopOk.at (ι:=Nat × List (Int × Bool × Nat) × Nat) Keep.z (fun (j,X,cX)=>[(52,.int .i64 (j:Int))]) (fun (j,X,cX)=>.obj bI (iterO bM cM (S++[((s:Int),v,t)]))::.obj bX (mapG (Value.int .i64) Value.bool X cX)::.obj bM (mapG (Value.int .i64) Value.bool M cM)::.sl (some ⟨bT,0,none⟩) D.next.length D.next.length 4 1 (boolsV MT)::.sl (some ⟨bO,0,none⟩) D.next.length D.next.length 4 1 (boolsV (liveA D))::own) (fun (j,X,cX)=>j≤row.length∧LvR D S (s:Int) j X cX) (fun (j,X,cX)=>row.length-j) (0,X,cX) ?_ Sub.z Sup.z ?_
       ·exact ⟨Nat.zero_le _,j2.into _⟩
       clear j2
       rintro ⟨j,X,cX⟩ ⟨m1,m2⟩
       dsimp only [List.cons_append,List.nil_append] at m1 m2 ⊢
       by_cases hj:j<row.length
       ·obtain ⟨z,hz⟩:∃ z,row[j]?=some z:=⟨_,List.getElem?_eq_getElem hj⟩
        have hbz:=bang hz
        have hz':(rowA D ((s:Nat):Int).toNat)[j]?=some z:=by rw [Int.toNat_natCast,rowA_at hrow];exact hz
        rcases row_ent ho hrow hz with rfl|⟨u,rfl,hu⟩
        ·repeat (first|exact zE|refine zP ?_|refine zB (fun b=>?_)|refine zC (fun a' c' hc1 hc2=>?_))
         rw [hbz]
         repeat first|exact zE|refine zP ?_|refine zB fun b=>?_|refine zC fun a' c' hc1 hc2=>?_|(apply GJ.a;exact rfl;intro hg)|(apply GJ.o;exact rfl;intro hg)
         refine Wk.id ⟨(j+1,X,cX),⟨rfl,?_⟩,?_,Sub.z,Sup.z⟩
         all_goals try dsimp only
         ·exact ⟨by omega,m2.skip hz' (fun h=>by omega)⟩
         ·omega
        ·have hb2:=bangB (l:=liveA D) (i:=u) (by omega)
         have hb3:=hmt u hu
         cases hp:getB (liveA D) u with
         | false =>
           rw [hp] at hb2
           repeat (first|exact zE|refine zP ?_|refine zB (fun b=>?_)|refine zC (fun a' c' hc1 hc2=>?_))
           rw [hbz]
           repeat (first|exact zE|refine zP ?_|refine zB (fun b=>?_)|refine zC (fun a' c' hc1 hc2=>?_))
           rw [hb2]
           repeat first|exact zE|refine zP ?_|refine zB fun b=>?_|refine zC fun a' c' hc1 hc2=>?_|(apply GJ.a;exact rfl;intro hg)|(apply GJ.o;exact rfl;intro hg)
           refine Wk.id ⟨(j+1,X,cX),⟨rfl,?_⟩,?_,Sub.z,Sup.z⟩
           all_goals try dsimp only
           ·exact ⟨by omega,m2.skip hz' (fun h=>by have h2:=h.2;rw [Int.toNat_natCast,hp] at h2;cases h2)⟩
           ·omega
         | true =>
           rw [hp] at hb2
           repeat (first|exact zE|refine zP ?_|refine zB (fun b=>?_)|refine zC (fun a' c' hc1 hc2=>?_))
           rw [hbz]
           repeat (first|exact zE|refine zP ?_|refine zB (fun b=>?_)|refine zC (fun a' c' hc1 hc2=>?_))
           rw [hb2]
           repeat (first|exact zE|refine zP ?_|refine zB (fun b=>?_)|refine zC (fun a' c' hc1 hc2=>?_))
           rw [hb3]
           repeat first|exact zE|refine zP ?_|refine zB fun b=>?_|refine zC fun a' c' hc1 hc2=>?_|(apply GJ.a;exact rfl;intro hg)|(apply GJ.o;exact rfl;intro hg)
           refine OpOk.mapUpdateB (kt:=3) (et:=4) (kv:=Value.int .i64) (vv:=Value.bool) (k:=(u:Int)) (v:=true) rfl rfl rfl (by kernel_rfl) (KeyEnc.int (by kernel_rfl)) m2.map trivial m2.born (fun c2 hB2=>?_)
           have hput:=m2.put (v:=true) hz' (by omega) (by rw [Int.toNat_natCast];exact hp) hB2
           generalize putG X cX (u:Int) true=X2 at *
           repeat first|exact zE|refine zP ?_|refine zB fun b=>?_|refine zC fun a' c' hc1 hc2=>?_|(apply GJ.a;exact rfl;intro hg)|(apply GJ.o;exact rfl;intro hg)
           refine Wk.id ⟨(j+1,X2,c2),⟨rfl,?_⟩,?_,Sub.z,Sup.z⟩
           all_goals try dsimp only
           ·exact ⟨by omega,hput⟩
           ·omega
       ·obtain rfl:j=row.length:=by omega
        have hout:=m2.out (p:=((s:Int),v,t)) rfl (by rw [Int.toNat_natCast,rowA_at hrow];exact Nat.le_refl _)
        repeat first|exact zE|refine zP ?_|refine zB fun b=>?_|refine zC fun a' c' hc1 hc2=>?_|(apply GJ.a;exact rfl;intro hg)|(apply GJ.o;exact rfl;intro hg)
        refine Wk.id ⟨(S++[((s:Int),v,t)],X,cX,(k:Int)),⟨rfl,?_⟩,?_,Sub.z,Sup.z⟩
        all_goals try dsimp only
        ·exact ⟨hsn,hout,by simp [List.any_append,he]⟩
        ·rw [List.length_append,List.length_singleton];omega
     | false =>
       have hb9:b=(if ((S++[((s:Int),v,t)]).any fun p=>endsA D p.1)=true then (k:Int) else best):=by
        rw [List.any_append,List.any_cons,List.any_nil,j3]
        dsimp only
        rw [he,Bool.or_false,Bool.or_false]
       repeat first|exact zE|refine zP ?_|refine zB fun b=>?_|refine zC fun a' c' hc1 hc2=>?_|(apply GJ.a;exact rfl;intro hg)|(apply GJ.o;exact rfl;intro hg)
       refine OpOk.load rfl rfl (Go.E.Ld.rs hrs (by rw [Int.toNat_natCast];exact q1)) ?_
       repeat first|exact zE|refine zP ?_|refine zB fun b=>?_|refine zC fun a' c' hc1 hc2=>?_|(apply GJ.a;exact rfl;intro hg)|(apply GJ.o;exact rfl;intro hg)
       refine LoopOk.at (ι:=Nat × List (Int × Bool × Nat) × Nat) Keep.z (fun (j,X,cX)=>[(52,.int .i64 (j:Int))]) (fun (j,X,cX)=>.obj bI (iterO bM cM (S++[((s:Int),v,t)]))::.obj bX (mapG (Value.int .i64) Value.bool X cX)::.obj bM (mapG (Value.int .i64) Value.bool M cM)::.sl (some ⟨bT,0,none⟩) D.next.length D.next.length 4 1 (boolsV MT)::.sl (some ⟨bO,0,none⟩) D.next.length D.next.length 4 1 (boolsV (liveA D))::own) (fun (j,X,cX)=>j≤row.length∧LvR D S (s:Int) j X cX) (fun (j,X,cX)=>row.length-j) (0,X,cX) ?_ Sub.z Sup.z ?_
       ·exact ⟨Nat.zero_le _,j2.into _⟩
       clear j2
       rintro ⟨j,X,cX⟩ ⟨m1,m2⟩
       dsimp only [List.cons_append,List.nil_append] at m1 m2 ⊢
       by_cases hj:j<row.length
       ·obtain ⟨z,hz⟩:∃ z,row[j]?=some z:=⟨_,List.getElem?_eq_getElem hj⟩
        have hbz:=bang hz
        have hz':(rowA D ((s:Nat):Int).toNat)[j]?=some z:=by rw [Int.toNat_natCast,rowA_at hrow];exact hz
        rcases row_ent ho hrow hz with rfl|⟨u,rfl,hu⟩
        ·repeat (first|exact zE|refine zP ?_|refine zB (fun b=>?_)|refine zC (fun a' c' hc1 hc2=>?_))
         rw [hbz]
         repeat first|exact zE|refine zP ?_|refine zB fun b=>?_|refine zC fun a' c' hc1 hc2=>?_|(apply GJ.a;exact rfl;intro hg)|(apply GJ.o;exact rfl;intro hg)
         refine Wk.id ⟨(j+1,X,cX),⟨rfl,?_⟩,?_,Sub.z,Sup.z⟩
         all_goals try dsimp only
         ·exact ⟨by omega,m2.skip hz' (fun h=>by omega)⟩
         ·omega
        ·have hb2:=bangB (l:=liveA D) (i:=u) (by omega)
         have hb3:=hmt u hu
         cases hp:getB (liveA D) u with
         | false =>
           rw [hp] at hb2
           repeat (first|exact zE|refine zP ?_|refine zB (fun b=>?_)|refine zC (fun a' c' hc1 hc2=>?_))
           rw [hbz]
           repeat (first|exact zE|refine zP ?_|refine zB (fun b=>?_)|refine zC (fun a' c' hc1 hc2=>?_))
           rw [hb2]
           repeat first|exact zE|refine zP ?_|refine zB fun b=>?_|refine zC fun a' c' hc1 hc2=>?_|(apply GJ.a;exact rfl;intro hg)|(apply GJ.o;exact rfl;intro hg)
           refine Wk.id ⟨(j+1,X,cX),⟨rfl,?_⟩,?_,Sub.z,Sup.z⟩
           all_goals try dsimp only
           ·exact ⟨by omega,m2.skip hz' (fun h=>by have h2:=h.2;rw [Int.toNat_natCast,hp] at h2;cases h2)⟩
           ·omega
         | true =>
           rw [hp] at hb2
           repeat (first|exact zE|refine zP ?_|refine zB (fun b=>?_)|refine zC (fun a' c' hc1 hc2=>?_))
           rw [hbz]
           repeat (first|exact zE|refine zP ?_|refine zB (fun b=>?_)|refine zC (fun a' c' hc1 hc2=>?_))
           rw [hb2]
           repeat (first|exact zE|refine zP ?_|refine zB (fun b=>?_)|refine zC (fun a' c' hc1 hc2=>?_))
           rw [hb3]
           repeat first|exact zE|refine zP ?_|refine zB fun b=>?_|refine zC fun a' c' hc1 hc2=>?_|(apply GJ.a;exact rfl;intro hg)|(apply GJ.o;exact rfl;intro hg)
           refine OpOk.mapUpdateB (kt:=3) (et:=4) (kv:=Value.int .i64) (vv:=Value.bool) (k:=(u:Int)) (v:=true) rfl rfl rfl (by kernel_rfl) (KeyEnc.int (by kernel_rfl)) m2.map trivial m2.born (fun c2 hB2=>?_)
           have hput:=m2.put (v:=true) hz' (by omega) (by rw [Int.toNat_natCast];exact hp) hB2
           generalize putG X cX (u:Int) true=X2 at *
           repeat first|exact zE|refine zP ?_|refine zB fun b=>?_|refine zC fun a' c' hc1 hc2=>?_|(apply GJ.a;exact rfl;intro hg)|(apply GJ.o;exact rfl;intro hg)
           refine Wk.id ⟨(j+1,X2,c2),⟨rfl,?_⟩,?_,Sub.z,Sup.z⟩
           all_goals try dsimp only
           ·exact ⟨by omega,hput⟩
           ·omega
       ·obtain rfl:j=row.length:=by omega
        have hout:=m2.out (p:=((s:Int),v,t)) rfl (by rw [Int.toNat_natCast,rowA_at hrow];exact Nat.le_refl _)
        repeat first|exact zE|refine zP ?_|refine zB fun b=>?_|refine zC fun a' c' hc1 hc2=>?_|(apply GJ.a;exact rfl;intro hg)|(apply GJ.o;exact rfl;intro hg)
        refine Wk.id ⟨(S++[((s:Int),v,t)],X,cX,b),⟨rfl,?_⟩,?_,Sub.z,Sup.z⟩
        all_goals try dsimp only
        ·exact ⟨hsn,hout,hb9⟩
        ·rw [List.length_append,List.length_singleton];omega
   ·obtain rfl:k=D.next.length+1:=by omega
    rw [Nat.sub_self,longL] at i4
    subst i4
    repeat first|exact zE|refine zP ?_|refine zB fun b=>?_|refine zC fun a' c' hc1 hc2=>?_|(apply GJ.a;exact rfl;intro hg)|(apply GJ.o;exact rfl;intro hg)
    refine dlen_ok hq ?_
    repeat first|exact zE|refine zP ?_|refine zB fun b=>?_|refine zC fun a' c' hc1 hc2=>?_|(apply GJ.a;exact rfl;intro hg)|(apply GJ.o;exact rfl;intro hg)
    exact Wk.outS Sup.z (.refl _) hk
end
def twoV (p:Nat × Nat):Value:=.agg #[.int .u8 (p.1:Int),.int .u8 (p.2:Int)]
def okT (p:Nat × Nat):Prop:=(Lit.int .u8 (p.1:Int)).wf=true∧(Lit.int .u8 (p.2:Int)).wf=true
def nU (n:Nat):Value:=.int .u8 (n:Int)
theorem okT_of {x y:Nat} (hx:x<256) (hy:y<256):okT (x,y):=by
 have h:∀ z:Nat,z<256→(Lit.int .u8 (z:Int)).wf=true:=fun z hz=>by
  show (decide (IntKind.u8.min≤(z:Int))&&decide ((z:Int)≤IntKind.u8.max))=true
  rw [show IntKind.u8.min=0 by decide,show IntKind.u8.max=255 by decide,decide_eq_true (by omega),decide_eq_true (by omega)]
  rfl
 exact ⟨h x hx,h y hy⟩
theorem clsV_one (C:List Nat):(clsV C).all (fun u=>u.oneCell')=true:=by rw [List.all_eq_true];intro u hu;obtain ⟨c,_,rfl⟩:=List.mem_map.1 hu;rfl
theorem two_enc:KeyEnc Tryz.prog 111 twoV okT:=(KeyEnc.two (q:=.u8) (e:=5) (deep_law_gate (by kernel_rfl) (by decide +kernel) (by decide +kernel) (by kernel_rfl) (by kernel_rfl)) (by kernel_rfl) (by decide +kernel) (by kernel_rfl) (by kernel_rfl) (by kernel_rfl) (by kernel_rfl)).comap (fun p:Nat × Nat=>((p.1:Int),(p.2:Int))) (fun a b h=>Prod.ext (Int.ofNat.inj (Prod.mk.inj h).1) (Int.ofNat.inj (Prod.mk.inj h).2))
theorem idx_beq {κ:Type} [DecidableEq κ] [b:BEq κ] [LawfulBEq κ] (l:List κ) (x:κ):@List.idxOf? κ instBEqOfDecidableEq x l=l.idxOf? x:=by
 unfold List.idxOf?
 congr 1
 funext y
 rw [Bool.eq_iff_iff]
 exact (@beq_iff_eq κ instBEqOfDecidableEq _ y x).trans beq_iff_eq.symm
section
variable {ro:Ro}{own r:Chs}{K:Value→Ro→Chs→Prop}{g:Chunk→Chs}
set_option maxHeartbeats 8000000 in
theorem ajoint_ok {q1 q2 w1 w2:Nat}{A B:DfaA} (h1:DAt ro q1 A) (h2:DAt ro q2 B) (o1:DfaOk w1 A) (o2:DfaOk w2 B) (hw1:w1≤256) (hw2:w2≤256)
  (hk:∀ ro' a c,Le ro ro'→Rs ro' a (jointA A B).2.length c 1 (clsV (jointA A B).2)→K (.tuple #[.agg (clsV (jointA A B).1).toArray,.slice a (jointA A B).2.length c]) ro' own):CallOk Tryz.prog 42 #[ptr' q1,ptr' q2] ro own K:=by
 obtain ⟨an,cn,aa,ca,hsv,hd⟩:=h1.rd
 obtain ⟨an2,cn2,aa2,ca2,hsv2,hd2⟩:=h2.rd
 refine CallOk.intro (args:=[_,_]) (rs:=[_,_]) T_ok Tryz.func42 Tryz.call42 rfl rfl (by kernel_rfl) rfl rfl ?_
 obtain ⟨R,hR⟩:∃ R,R=jointL A B 256 0 [] [] []:=⟨_,rfl⟩
 unfold jointA at hk
 rw [←hR] at hk
 repeat first|exact zE|refine zP ?_|refine zB fun b=>?_|refine zC fun a' c' hc1 hc2=>?_|(apply GJ.a;exact rfl;intro hg)|(apply GJ.o;exact rfl;intro hg)
 rename_i bR
 obtain ⟨bO,hbO⟩:∃ z:Nat,z=b:=⟨_,rfl⟩
 subst hbO
 rw [clsV_zero]
 refine OpOk.makeMapG (kv:=twoV) (vv:=nU) (fun bM=>?_)
 repeat first|exact zE|refine zP ?_|refine zB fun b=>?_|refine zC fun a' c' hc1 hc2=>?_|(apply GJ.a;exact rfl;intro hg)|(apply GJ.o;exact rfl;intro hg)
 refine LoopOk.at (ι:=Nat × List (Nat × Nat) × List Nat × List Nat × Option Addr × Nat × List ((Nat × Nat) × Nat × Nat) × Nat) Keep.z (fun (c,seen,out,first,fa,fc,M,cM)=>[(14,.int .i64 (c:Int)),(7,.slice fa first.length fc)]) (fun (c,seen,out,first,fa,fc,M,cM)=>.sl fa first.length fc 5 1 (clsV first)::.obj bM (mapG twoV nU M cM)::.blk bO 65 (clsV (out++List.replicate (256-c) 0))::.blk bR 65 (clsV (List.replicate 256 0))::own) (fun (c,seen,out,first,fa,fc,M,cM)=>c≤256∧JointI A B c seen out first∧jointL A B (256-c) c seen out first=R∧NumM okT seen M∧first.length≤fc∧fc≤maxLen∧first.length≤c) (fun (c,seen,out,first,fa,fc,M,cM)=>256-c) (0,[],[],[],none,0,[],0) ?_ Sub.z Sup.z ?_
 ·exact ⟨Nat.zero_le _,⟨rfl,rfl,fun d hd=>by omega,fun k e h=>by simp at h⟩,hR.symm,NumM.nil,Nat.le_refl _,Nat.zero_le _,Nat.le_refl _⟩
 clear hR
 rintro ⟨c,seen,out,first,fa,fc,M,cM⟩ ⟨i1,i2,i3,i4,i5,i6,i7⟩
 dsimp only [List.cons_append,List.nil_append] at i1 i2 i3 i4 i5 i6 i7 ⊢
 have hol:=i2.olen
 have hfn:=i2.flen
 have hrl:(clsV (out++List.replicate (256-c) 0)).length=256:=by rw [clsV_len,List.length_append,List.length_replicate];omega
 by_cases hc:c<256
 ·obtain ⟨ha1,ha2⟩:=cls_lt o1 hc
  obtain ⟨hb1,hb2⟩:=cls_lt o2 hc
  have hCa:=hd.ldC c _ ha2
  have hCb:=hd2.ldC c _ hb2
  repeat first|exact zE|refine zP ?_|refine zB fun b=>?_|refine zC fun a' c' hc1 hc2=>?_|(apply GJ.a;exact rfl;intro hg)|(apply GJ.o;exact rfl;intro hg)
  refine QOk.load rfl rfl (hCa.ldE (by simp)) ?_
  repeat (first|exact zE|refine wkU ?_|(show QOk _ _ _ _ _ _ _;refine QOk.build rfl rfl Nf.auto ?_)|(show GJ _ _ _ _ _ _ _;first|with_reducible refine GJ.neF ?_|with_reducible refine GJ.neT ?_)|(show Br _ _ _;with_reducible refine Br.ne ?_)|refine zB (fun b=>?_)|refine zC (fun a' c' hc1 hc2=>?_)|(apply GJ.a;exact rfl;intro hg)|(apply GJ.o;exact rfl;intro hg))
  refine QOk.load rfl rfl (hCb.ldE (by simp)) ?_
  repeat (first|exact zE|refine wkU ?_|(show QOk _ _ _ _ _ _ _;refine QOk.build rfl rfl Nf.auto ?_)|(show GJ _ _ _ _ _ _ _;first|with_reducible refine GJ.neF ?_|with_reducible refine GJ.neT ?_)|(show Br _ _ _;with_reducible refine Br.ne ?_)|refine zB (fun b=>?_)|refine zC (fun a' c' hc1 hc2=>?_)|(apply GJ.a;exact rfl;intro hg)|(apply GJ.o;exact rfl;intro hg))
  refine QOk.buildK (ps:=[(0,.tmp 22),(1,.tmp 28)]) [.int .u8 (clsA A c:Int),.int .u8 (clsA B c:Int)] rfl (by kernel_rfl) ?_
  repeat (first|exact zE|refine wkU ?_|(show QOk _ _ _ _ _ _ _;refine QOk.build rfl rfl Nf.auto ?_)|(show GJ _ _ _ _ _ _ _;first|with_reducible refine GJ.neF ?_|with_reducible refine GJ.neT ?_)|(show Br _ _ _;with_reducible refine Br.ne ?_)|refine zB (fun b=>?_)|refine zC (fun a' c' hc1 hc2=>?_)|(apply GJ.a;exact rfl;intro hg)|(apply GJ.o;exact rfl;intro hg))
  repeat first|exact zE|refine zP ?_|refine zB fun b=>?_|refine zC fun a' c' hc1 hc2=>?_|(apply GJ.a;exact rfl;intro hg)|(apply GJ.o;exact rfl;intro hg)
  have hkey:keyJ A B c=(clsA A c,clsA B c):=rfl
  have hok:okT (clsA A c,clsA B c):=okT_of (by omega) (by omega)
  have hat:=i4.at' (clsA A c,clsA B c)
  rw [idx_beq] at hat
  rw [show 256-c=(256-(c+1))+1 by omega,jointL,hkey] at i3
  have hj1:=joint_ok (a:=A) (b:=B) 1 c seen out first i2
  rw [jointL,hkey] at hj1
  refine OpOk.lookupOkG (kt:=111) (et:=5) (kv:=twoV) (vv:=nU) (k:=(clsA A c,clsA B c)) (z:=.int .u8 0) rfl rfl (by kernel_rfl) two_enc i4.map hok (by kernel_rfl) ?_
  rw [hat]
  cases hidx:seen.idxOf? (clsA A c,clsA B c) with
  | some n =>
    rw [hidx] at i3 hj1
    dsimp only at i3 hj1
    rw [jointL] at hj1
    have hnl:=(List.getElem?_eq_some_iff.1 (idx_some hidx)).1
    simp only [Option.map_some,Option.getD_some,Option.isSome_some,nU]
    repeat first|exact zE|refine zP ?_|refine zB fun b=>?_|refine zC fun a' c' hc1 hc2=>?_|(apply GJ.a;exact rfl;intro hg)|(apply GJ.o;exact rfl;intro hg)
    refine OpOk.storeAt rfl rfl rfl rfl (by rw [hrl];simp;omega) ?_
    rw [show 0+((c:Nat):Int).toNat*1=c by simp,clsV_set,snoc_set hol hc]
    repeat first|exact zE|refine zP ?_|refine zB fun b=>?_|refine zC fun a' c' hc1 hc2=>?_|(apply GJ.a;exact rfl;intro hg)|(apply GJ.o;exact rfl;intro hg)
    refine Wk.id ⟨(c+1,seen,out++[n],first,fa,fc,M,cM),⟨rfl,?_⟩,?_,Sub.z,Sup.z⟩
    all_goals try dsimp only
    ·exact ⟨by omega,hj1,i3,i4,i5,i6,by omega⟩
    ·omega
  | none =>
    rw [hidx] at i3 hj1
    dsimp only at i3 hj1
    rw [jointL] at hj1
    simp only [Option.map_none,Option.getD_none,Option.isSome_none]
    have hcl:clsV first++[.int .u8 (c:Int)]=clsV (first++[c]):=by simp [clsV]
    have hnl:first.length+1=(first++[c]).length:=by simp
    have hfv:=clsV_len first
    repeat first|exact zE|refine zP ?_|refine zB fun b=>?_|refine zC fun a' c' hc1 hc2=>?_|(apply GJ.a;exact rfl;intro hg)|(apply GJ.o;exact rfl;intro hg)
    rw [show ((first.length:Nat):Int) % 256=(seen.length:Int) by omega]
    refine OpOk.mapUpdateG (kt:=111) (et:=5) (kv:=twoV) (vv:=nU) (k:=(clsA A c,clsA B c)) (v:=seen.length) rfl rfl rfl (by kernel_rfl) two_enc i4.map hok (fun cM3=>?_)
    have hpu:=i4.push hok (by rw [idx_beq];exact hidx) cM
    generalize putG M cM (clsA A c,clsA B c) seen.length=M3 at *
    repeat first|exact zE|refine zP ?_|refine zB fun b=>?_|refine zC fun a' c' hc1 hc2=>?_|(apply GJ.a;exact rfl;intro hg)|(apply GJ.o;exact rfl;intro hg)
    rw [show ((c:Nat):Int) % 256=(c:Int) by omega,hcl]
    rw [hnl] at hc1 ⊢
    refine OpOk.storeAt rfl rfl rfl rfl (by rw [hrl];simp;omega) ?_
    rw [show 0+((c:Nat):Int).toNat*1=c by simp,clsV_set,snoc_set hol hc]
    repeat first|exact zE|refine zP ?_|refine zB fun b=>?_|refine zC fun a' c' hc1 hc2=>?_|(apply GJ.a;exact rfl;intro hg)|(apply GJ.o;exact rfl;intro hg)
    refine Wk.id ⟨(c+1,seen++[(clsA A c,clsA B c)],out++[seen.length],first++[c],a',c',M3,cM3),⟨rfl,?_⟩,?_,Sub.z,Sup.z⟩
    all_goals try dsimp only
    ·exact ⟨by omega,hj1,i3,hpu,hc1,hc2,by rw [←hnl];omega⟩
    ·omega
 ·obtain rfl:c=256:=by omega
  rw [Nat.sub_self,jointL] at i3
  rw [←i3] at hk
  dsimp only at hk
  rw [Nat.sub_self,List.replicate_zero,List.append_nil]
  rw [Nat.sub_self,List.replicate_zero,List.append_nil] at hrl
  repeat first|exact zE|refine zP ?_|refine zB fun b=>?_|refine zC fun a' c' hc1 hc2=>?_|(apply GJ.a;exact rfl;intro hg)|(apply GJ.o;exact rfl;intro hg)
  refine OpOk.loadRow rfl rfl LdN.hasBlk hrl ?_
  repeat first|exact zE|refine zP ?_|refine zB fun b=>?_|refine zC fun a' c' hc1 hc2=>?_|(apply GJ.a;exact rfl;intro hg)|(apply GJ.o;exact rfl;intro hg)
  refine OpOk.storeRow rfl rfl rfl hrl (by rw [clsV_len];simp) (clsV_one out) ?_
  repeat first|exact zE|refine zP ?_|refine zB fun b=>?_|refine zC fun a' c' hc1 hc2=>?_|(apply GJ.a;exact rfl;intro hg)|(apply GJ.o;exact rfl;intro hg)
  refine RetOk.of (T:=T) (RL.row rfl rfl LdN.hasBlk hrl (RL.tmp rfl RL.nil)) ?_
  refine Wk.freeze (c:=.sl fa _ _ _ _ _) Take.auto (fun ro2 hl2 hc2=>?_)
  exact Wk.outS Sup.z (.refl _) (hk ro2 fa fc hl2 (Rs.last hc2))
end
end Go.Proofs.YtficlekgjbnniaaGreatDoor
end
section
namespace Go.E
open Go
theorem Take.ofMem {c:Chunk}:∀ {l:Chs},c∈l→∃ r,Take l c r∧l.Perm (c::r)
 | [],h=>by cases h
 | x::l,h=>by
   rcases List.mem_cons.1 h with rfl|h
   ·exact ⟨l,Take.hit _ _,.refl _⟩
   ·obtain ⟨r,h1,h2⟩:=Take.ofMem h
    exact ⟨x::r,Take.miss _ h1,(h2.cons x).trans (List.Perm.swap _ _ _)⟩
theorem Sup.ofPerm:∀ {o l:Chs},l.Perm o→Sup l o
 | [],l,h=>Sup.nil _
 | c::o,l,h=>by
   obtain ⟨r,h1,h2⟩:=Take.ofMem (l:=l) (c:=c) (h.symm.subset (List.mem_cons_self ..))
   exact Sup.cons h1 (Sup.ofPerm ((List.perm_cons c).1 (h2.symm.trans h)))
end Go.E
namespace Go.Proofs.YtficlekgjbnniaaGreatDoor
open Go Go.E
abbrev RowJ:=(Option Addr × Nat) × List Int
def hdrJ (r:RowJ):Value:=.slice r.1.1 r.2.length r.1.2
def rowJ (r:RowJ):Chunk:=.sl r.1.1 r.2.length r.1.2 3 1 (intV r.2)
def nilJ:RowJ:=((none,0),[])
theorem rowsJ_split {R:List RowJ}{i:Nat}{x:RowJ} (h:R[i]?=some x) (r:Chs):(R.map rowJ++r).Perm (rowJ x::((R.take i++R.drop (i+1)).map rowJ++r)):=by
 obtain ⟨hi,hx⟩:=List.getElem?_eq_some_iff.1 h
 have e:R=R.take i++x::R.drop (i+1):=by rw [←hx,←List.drop_eq_getElem_cons hi,List.take_append_drop]
 have e2:=congrArg (List.map rowJ) e
 rw [List.map_append,List.map_cons] at e2
 rw [e2,List.map_append,List.append_assoc,List.append_assoc,List.cons_append]
 exact List.perm_middle
theorem rowsJ_join {R:List RowJ}{i:Nat} (hi:i<R.length) (y:RowJ) (r:Chs):(rowJ y::((R.take i++R.drop (i+1)).map rowJ++r)).Perm ((R.set i y).map rowJ++r):=by
 rw [List.set_eq_take_append_cons_drop,if_pos hi,List.map_append,List.map_append,List.map_cons,List.append_assoc,List.append_assoc,List.cons_append]
 exact List.perm_middle.symm
theorem Sup.nilsJ (n:Nat) {l o:Chs} (h:Sup l o):Sup l ((List.replicate n nilJ).map rowJ++o):=by
 induction n with
 | zero=>exact h
 | succ n ih=>rw [List.replicate_succ];exact Sup.nilc ih
theorem supJ {R:List RowJ}{s:Nat} (pre r:Chs) (hs:s≤R.length):Sup (pre++(R.map rowJ++r)) (rowJ (R[s]?.getD nilJ)::(pre++((R.take s++R.drop (s+1)).map rowJ++r))):=by
 by_cases h:s<R.length
 ·obtain ⟨x,hx⟩:∃ x,R[s]?=some x:=⟨_,List.getElem?_eq_getElem h⟩
  rw [hx]
  exact Sup.ofPerm (((rowsJ_split hx r).append_left pre).trans List.perm_middle)
 ·have e:R.take s++R.drop (s+1)=R:=by rw [List.take_of_length_le (by omega),List.drop_eq_nil_of_le (by omega),List.append_nil]
  rw [e,List.getElem?_eq_none (by omega)]
  exact Sup.nilc (Sup.all _)
theorem supJn {R:List RowJ}{s:Nat} (y:RowJ) (pre r:Chs) (hs:s<R.length):Sup (rowJ y::(pre++((R.take s++R.drop (s+1)).map rowJ++r))) (rowJ ((R.set s y)[s+1]?.getD nilJ)::(pre++(((R.set s y).take (s+1)++(R.set s y).drop (s+1+1)).map rowJ++r))):=by
 have hp:(rowJ y::(pre++((R.take s++R.drop (s+1)).map rowJ++r))).Perm (pre++((R.set s y).map rowJ++r)):=List.perm_middle.symm.trans ((rowsJ_join hs y r).append_left pre)
 generalize R.set s y=S at *
 by_cases h:s+1<S.length
 ·obtain ⟨x,hx⟩:∃ x,S[s+1]?=some x:=⟨_,List.getElem?_eq_getElem h⟩
  rw [hx]
  exact Sup.ofPerm (hp.trans (((rowsJ_split hx r).append_left pre).trans List.perm_middle))
 ·have e:S.take (s+1)++S.drop (s+1+1)=S:=by rw [List.take_of_length_le (by omega),List.drop_eq_nil_of_le (by omega),List.append_nil]
  rw [e,List.getElem?_eq_none (by omega)]
  exact Sup.nilc (Sup.ofPerm hp)
def rowsJ (n:Nat) (seen:List (List Int)):List (List Int):=(List.range n).map fun s=>seen.map fun col=>(col[s]?.getD 0)-1
theorem rowsJ_nil (n:Nat):rowsJ n []=List.replicate n []:=by
 apply List.ext_getElem?
 intro i
 unfold rowsJ
 rw [List.getElem?_map,List.getElem?_replicate]
 by_cases h:i<n
 ·rw [List.getElem?_range h,if_pos h];rfl
 ·rw [List.getElem?_eq_none (by simp;omega),if_neg h];rfl
theorem rowsJ_get {n s:Nat} (seen:List (List Int)) (h:s<n):(rowsJ n seen)[s]?=some (seen.map fun col=>(col[s]?.getD 0)-1):=by
 unfold rowsJ
 rw [List.getElem?_map,List.getElem?_range h];rfl
def mixJ (n:Nat) (seen:List (List Int)) (col:List Int) (s:Nat):List (List Int):=(rowsJ n (seen++[col])).take s++(rowsJ n seen).drop s
theorem mixJ_zero (n:Nat) (seen:List (List Int)) (col:List Int):mixJ n seen col 0=rowsJ n seen:=by simp [mixJ]
theorem rowsJ_len (n:Nat) (seen:List (List Int)):(rowsJ n seen).length=n:=by simp [rowsJ]
theorem mixJ_all (n:Nat) (seen:List (List Int)) (col:List Int):mixJ n seen col n=rowsJ n (seen++[col]):=by
 unfold mixJ
 rw [List.take_of_length_le (by rw [rowsJ_len];exact Nat.le_refl _),List.drop_eq_nil_of_le (by rw [rowsJ_len];exact Nat.le_refl _),List.append_nil]
theorem mixJ_get {n s:Nat} (seen:List (List Int)) (col:List Int) (h:s<n):(mixJ n seen col s)[s]?=some (seen.map fun c=>(c[s]?.getD 0)-1):=by
 unfold mixJ
 rw [List.getElem?_append_right (by simp [rowsJ_len];omega),List.length_take,rowsJ_len,Nat.min_eq_left (by omega),Nat.sub_self,List.getElem?_drop,Nat.add_zero]
 exact rowsJ_get seen h
theorem mixJ_set {n s:Nat} (seen:List (List Int)) (col:List Int) {z:Int} (h:s<n) (hz:col[s]?=some z):(mixJ n seen col s).set s ((seen.map fun c=>(c[s]?.getD 0)-1)++[z-1])=mixJ n seen col (s+1):=by
 have hg:=rowsJ_get (seen++[col]) h
 unfold mixJ
 have hl:((rowsJ n (seen++[col])).take s).length=s:=by simp [rowsJ_len];omega
 rw [List.set_append_right _ _ (by omega),hl,Nat.sub_self,List.drop_eq_getElem_cons (by rw [rowsJ_len];exact h),List.set_cons_zero,List.take_add_one,hg]
 simp [hz]
structure NarI (d:DfaA) (c:Nat) (seen:List (List Int)) (out:List Nat):Prop where
 fin:narL d (256-c) c seen out=narL d 256 0 [] []
 len:out.length=c
 few:seen.length≤c
theorem NarI.start (d:DfaA):NarI d 0 [] []:=⟨rfl,rfl,Nat.le_refl _⟩
theorem NarI.old {d:DfaA}{c k:Nat}{seen:List (List Int)}{out:List Nat} (h:NarI d c seen out) (hc:c<256) (hk:seen.idxOf? (colA d c)=some k):NarI d (c+1) seen (out++[k]):=by
 refine ⟨?_,by simp [h.len],by have:=h.few;omega⟩
 have:=h.fin
 rw [show 256-c=(256-(c+1))+1 by omega,narL,hk] at this
 exact this
theorem NarI.new {d:DfaA}{c:Nat}{seen:List (List Int)}{out:List Nat} (h:NarI d c seen out) (hc:c<256) (hk:seen.idxOf? (colA d c)=none):NarI d (c+1) (seen++[colA d c]) (out++[seen.length]):=by
 refine ⟨?_,by simp [h.len],by have:=h.few;simp;omega⟩
 have:=h.fin
 rw [show 256-c=(256-(c+1))+1 by omega,narL,hk] at this
 exact this
theorem colA_adm {w:Nat}{d:DfaA} (ho:DfaOk w d) (hn:d.next.length≤1024) {c:Nat} (hc:c<256):AdmK (colA d c)∧(colA d c).length=d.next.length:=by
 refine ⟨fun z hz=>?_,by simp [colA]⟩
 obtain ⟨s,hs,e⟩:=List.getElem_of_mem hz
 have hs:s<d.next.length:=by simpa [colA] using hs
 have h1:=col_get ho hs hc
 rw [List.getElem?_eq_getElem (by simpa [colA] using hs),e] at h1
 rw [Option.some.inj h1]
 rcases step_to ho (s:Int) hc with h|⟨t,h,h2⟩<;>rw [h]<;>omega
def u8V (k:Nat):Value:=.int .u8 (k:Int)
section
variable {ro:Ro}{own r:Chs}{K:Value→Ro→Chs→Prop}{g:Chunk→Chs}
set_option maxHeartbeats 8000000 in
theorem dnarrow_ok {q w:Nat}{d:DfaA} (hD:DAt ro q d) (ho:DfaOk w d) (hn:d.next.length≤1024)
  (hk:∀ ro' p,Le ro ro'→DAt ro' p (narrowA d)→K (ptr' p) ro' own):CallOk Tryz.prog 49 #[ptr' q] ro own K:=by
 obtain ⟨an,cn,aa,ca,hsv,hd⟩:=hD.rd
 have hN:=hd.ldN
 have hA:=hd.ldA
 have hrs:=hd.rs
 have hra:=hd.ra
 have hcm:=hrs.max
 have hcl:=hrs.le
 unfold maxLen at hcm
 refine CallOk.intro (args:=[_]) (rs:=[_]) T_ok Tryz.func49 Tryz.call49 rfl rfl (by kernel_rfl) rfl rfl ?_
 repeat first|exact zE|refine zP ?_|refine zB fun b=>?_|refine zC fun a' c' hc1 hc2=>?_|(apply GJ.a;exact rfl;intro hg)|(apply GJ.o;exact rfl;intro hg)
 refine dlen_ok hD ?_
 repeat first|exact zE|refine zP ?_|refine zB fun b=>?_|refine zC fun a' c' hc1 hc2=>?_|(apply GJ.a;exact rfl;intro hg)|(apply GJ.o;exact rfl;intro hg)
 refine OpOk.makeMapG (kv:=str) (vv:=u8V) (fun bM=>?_)
 repeat first|exact zE|refine zP ?_|refine zB fun b=>?_|refine zC fun a' c' hc1 hc2=>?_|(apply GJ.a;exact rfl;intro hg)|(apply GJ.o;exact rfl;intro hg)
 rename_i bN
 have hN0:(List.replicate (d.next.length:Int).toNat (Value.slice none 0 0))=(List.replicate d.next.length nilJ).map hdrJ:=by rw [Int.toNat_natCast,List.map_replicate];rfl
 rw [hN0,Int.toNat_natCast]
 have hst:rowsJ d.next.length []=(List.replicate d.next.length nilJ).map (·.2):=by rw [rowsJ_nil,List.map_replicate];rfl
 refine LoopOk.at (ι:=Nat × List Nat × List (List Int) × List (List UInt8 × Nat × Nat) × Nat × List RowJ) Keep.z (fun (c,out,seen,M,cM,R)=>[(22,.int .i64 (c:Int))])
  (fun (c,out,seen,M,cM,R)=>.blk b 68 (autV (out++List.replicate (256-c) 0) (.slice (some ⟨bN,0,none⟩) d.next.length d.next.length) (.slice aa d.acc.length ca))::.obj bM (mapG str u8V M cM)::.sl (some ⟨bN,0,none⟩) d.next.length d.next.length 59 1 (R.map hdrJ)::(R.map rowJ++own))
  (fun (c,out,seen,M,cM,R)=>c≤256∧NarI d c seen out∧KeyM d.next.length seen M∧R.map (·.2)=rowsJ d.next.length seen) (fun (c,out,seen,M,cM,R)=>256-c) (0,[],[],[],0,List.replicate d.next.length nilJ) ?_ Sub.z (Sup.cons Take.auto (Sup.cons Take.auto (Sup.cons Take.auto (Sup.nilsJ _ (Sup.all _))))) ?_
 ·exact ⟨Nat.zero_le _,NarI.start d,KeyM.nil _,hst.symm⟩
 rintro ⟨c,out,seen,M,cM,R⟩ ⟨i1,i2,i3,i4⟩
 dsimp only [List.cons_append,List.nil_append] at i1 i2 i3 i4 ⊢
 have hRl:R.length=d.next.length:=by have:=congrArg List.length i4;rwa [List.length_map,rowsJ_len] at this
 have hol:=i2.len
 have hCl:(out++List.replicate (256-c) 0).length=256:=by simp;omega
 by_cases hc:c<256
 ·obtain ⟨hka,hkl⟩:=colA_adm ho hn hc
  have hgk:=i3.at' _ hka
  have hold:=fun k=>i2.old (k:=k) hc
  have hnew:=i2.new hc
  have hpush:=i3.push (by omega) hka (by omega)
  obtain ⟨hcw,hcc⟩:=cls_lt ho hc
  have hC:=hd.ldC c _ hcc
  have hcg:∀ s,s<d.next.length→(colA d c)[s]?=some (stepA d (s:Int) c+1):=fun s hs=>col_get ho hs hc
  have hss:∀ u:Nat,(autV (out++List.replicate (256-c) 0) (.slice (some ⟨bN,0,none⟩) d.next.length d.next.length) (.slice aa d.acc.length ca)).set (0+0+((c:Nat):Int).toNat*1) (.int .u8 (u:Int))=autV ((out++[u])++List.replicate (256-(c+1)) 0) (.slice (some ⟨bN,0,none⟩) d.next.length d.next.length) (.slice aa d.acc.length ca):=fun u=>by
   rw [show 0+0+((c:Nat):Int).toNat*1=c by simp,aut_set (by omega),snoc_set hol hc]
  have hsl:=autV_len hCl (.slice (some ⟨bN,0,none⟩) d.next.length d.next.length) (.slice aa d.acc.length ca)
  generalize colA d c=col at *
  repeat first|exact zE|refine zP ?_|refine zB fun b=>?_|refine zC fun a' c' hc1 hc2=>?_|(apply GJ.a;exact rfl;intro hg)|(apply GJ.o;exact rfl;intro hg)
  refine LoopOk.at (ι:=Nat × Option Addr × Nat) Keep.z (fun (j,a1,c1)=>[(30,.int .i64 (j:Int)),(6,.slice a1 j c1)]) (fun (j,a1,c1)=>.sl a1 j c1 3 1 (intV (col.take j))::.blk b 68 (autV (out++List.replicate (256-c) 0) (.slice (some ⟨bN,0,none⟩) d.next.length d.next.length) (.slice aa d.acc.length ca))::.obj bM (mapG str u8V M cM)::.sl (some ⟨bN,0,none⟩) d.next.length d.next.length 59 1 (R.map hdrJ)::(R.map rowJ++own)) (fun (j,a1,c1)=>j≤d.next.length∧j≤c1∧c1≤maxLen) (fun (j,a1,c1)=>d.next.length-j) (0,none,0) ?_ Sub.z Sup.z ?_
  ·exact ⟨Nat.zero_le _,Nat.le_refl _,Nat.zero_le _⟩
  rintro ⟨j,a1,c1⟩ ⟨j1,j2,j3⟩
  dsimp only [List.cons_append,List.nil_append] at j1 j2 j3 ⊢
  have htl:(intV (col.take j)).length=j:=by rw [intV_len];simp;omega
  by_cases hj:j<d.next.length
  ·obtain ⟨row,hrow⟩:∃ row,d.next[j]?=some row:=⟨_,List.getElem?_eq_getElem hj⟩
   obtain ⟨ar,cr,q1,q2⟩:=hd.rows j row hrow
   have hrl:=ho.row row (List.mem_of_getElem? hrow)
   obtain ⟨k,row',p1,p2,p3,p4⟩:=step_at ho hj hc
   rw [hrow] at p3;cases p3
   rw [hcc] at p1;cases p1
   have hbr:=bang p4
   have hst:=step_to ho (j:Int) hc
   have hcj:=hcg j hj
   generalize stepA d (j:Int) c=z at *
   have htk:col.take (j+1)=col.take j++[z+1]:=by rw [List.take_add_one,hcj];rfl
   repeat first|exact zE|refine zP ?_|refine zB fun b=>?_|refine zC fun a' c' hc1 hc2=>?_|(apply GJ.a;exact rfl;intro hg)|(apply GJ.o;exact rfl;intro hg)
   refine OpOk.load rfl rfl (Go.E.Ld.rs hrs (by rw [Int.toNat_natCast];exact q1)) ?_
   repeat first|exact zE|refine zP ?_|refine zB fun b=>?_|refine zC fun a' c' hc1 hc2=>?_|(apply GJ.a;exact rfl;intro hg)|(apply GJ.o;exact rfl;intro hg)
   refine OpOk.load rfl rfl (hC.ldE (by simp)) ?_
   repeat first|exact zE|refine zP ?_|refine zB fun b=>?_|refine zC fun a' c' hc1 hc2=>?_|(apply GJ.a;exact rfl;intro hg)|(apply GJ.o;exact rfl;intro hg)
   rw [hbr]
   refine ⟨⟨by omega,by omega⟩,?_⟩
   repeat first|exact zE|refine zP ?_|refine zB fun b=>?_|refine zC fun a' c' hc1 hc2=>?_|(apply GJ.a;exact rfl;intro hg)|(apply GJ.o;exact rfl;intro hg)
   have hap:intV (col.take j)++[.int .i64 (z+1)]=intV (col.take (j+1)):=by rw [htk];simp [intV]
   rw [hap]
   repeat first|exact zE|refine zP ?_|refine zB fun b=>?_|refine zC fun a' c' hc1 hc2=>?_|(apply GJ.a;exact rfl;intro hg)|(apply GJ.o;exact rfl;intro hg)
   refine Wk.id ⟨(j+1,a',c'),⟨rfl,?_⟩,?_,Sub.z,Sup.z⟩
   all_goals try dsimp only
   ·exact ⟨by omega,hc1,hc2⟩
   ·omega
  ·obtain rfl:j=d.next.length:=by omega
   have htc:col.take d.next.length=col:=List.take_of_length_le (by omega)
   rw [htc] at *
   have hkt:(keyT col).length≤maxLen:=by rw [keyT_len,hkl];unfold maxLen;omega
   have hfew:=i2.few
   repeat first|exact zE|refine zP ?_|refine zB fun b=>?_|refine zC fun a' c' hc1 hc2=>?_|(apply GJ.a;exact rfl;intro hg)|(apply GJ.o;exact rfl;intro hg)
   have hkr:Rds ro (.sl a1 d.next.length c1 3 1 (intV col)::.blk b 68 (autV (out++List.replicate (256-c) 0) (.slice (some ⟨bN,0,none⟩) d.next.length d.next.length) (.slice aa d.acc.length ca))::.obj bM (mapG str u8V M cM)::.sl (some ⟨bN,0,none⟩) d.next.length d.next.length 59 1 (R.map hdrJ)::(R.map rowJ++own)) a1 d.next.length c1 1 (col.map (Value.int .i64)):=Rds.hasSl j2 j3 (by show (intV _).length=_;rw [intV_len,hkl,Nat.mul_one])
   refine key_ok (l:=col) hkr hkl (by omega) hka ?_
   repeat first|exact zE|refine zP ?_|refine zB fun b=>?_|refine zC fun a' c' hc1 hc2=>?_|(apply GJ.a;exact rfl;intro hg)|(apply GJ.o;exact rfl;intro hg)
   refine OpOk.lookupOkG (kt:=9) (et:=5) (kv:=str) (vv:=u8V) (k:=keyT col) (z:=.int .u8 0) rfl rfl (by kernel_rfl) (KeyEnc.text (by kernel_rfl)) i3.map hkt (by kernel_rfl) ?_
   rw [hgk]
   cases hidx:seen.idxOf? col with
   | some u =>
     have hold:=hold u hidx
     have hu:u<seen.length:=(List.findIdx?_eq_some_iff_getElem.1 hidx).1
     simp only [Option.map_some,Option.getD_some,Option.isSome_some,u8V]
     repeat first|exact zE|refine zP ?_|refine zB fun b=>?_|refine zC fun a' c' hc1 hc2=>?_|(apply GJ.a;exact rfl;intro hg)|(apply GJ.o;exact rfl;intro hg)
     refine OpOk.storeAt rfl rfl rfl rfl (by rw [hsl];simp;omega) ?_
     rw [hss]
     repeat first|exact zE|refine zP ?_|refine zB fun b=>?_|refine zC fun a' c' hc1 hc2=>?_|(apply GJ.a;exact rfl;intro hg)|(apply GJ.o;exact rfl;intro hg)
     repeat first|exact zE|refine zP ?_|refine zB fun b=>?_|refine zC fun a' c' hc1 hc2=>?_|(apply GJ.a;exact rfl;intro hg)|(apply GJ.o;exact rfl;intro hg)
     refine Wk.id ⟨(c+1,out++[u],seen,M,cM,R),⟨rfl,?_⟩,?_,Sub.z,Sup.z⟩
     all_goals try dsimp only
     ·exact ⟨by omega,hold,i3,i4⟩
     ·omega
   | none =>
     have hnew:=hnew hidx
     have hpush:=hpush hidx cM
     have hMl:=i3.len
     simp only [Option.map_none,Option.getD_none,Option.isSome_none]
     repeat first|exact zE|refine zP ?_|refine zB fun b=>?_|refine zC fun a' c' hc1 hc2=>?_|(apply GJ.a;exact rfl;intro hg)|(apply GJ.o;exact rfl;intro hg)
     refine OpOk.lenG (kv:=str) (vv:=u8V) (et:=5) (kt:=9) rfl (by kernel_rfl) ?_
     rw [hMl]
     repeat first|exact zE|refine zP ?_|refine zB fun b=>?_|refine zC fun a' c' hc1 hc2=>?_|(apply GJ.a;exact rfl;intro hg)|(apply GJ.o;exact rfl;intro hg)
     rw [show ((seen.length:Nat):Int) % 256=(seen.length:Int) by omega]
     refine key_ok (l:=col) hkr hkl (by omega) hka ?_
     repeat first|exact zE|refine zP ?_|refine zB fun b=>?_|refine zC fun a' c' hc1 hc2=>?_|(apply GJ.a;exact rfl;intro hg)|(apply GJ.o;exact rfl;intro hg)
     refine OpOk.mapUpdateG (kt:=9) (et:=5) (kv:=str) (vv:=u8V) (k:=keyT col) (v:=seen.length) rfl rfl rfl (by kernel_rfl) (KeyEnc.text (by kernel_rfl)) i3.map hkt (fun c2=>?_)
     generalize putG M cM (keyT col) seen.length=M2 at *
     repeat first|exact zE|refine zP ?_|refine zB fun b=>?_|refine zC fun a' c' hc1 hc2=>?_|(apply GJ.a;exact rfl;intro hg)|(apply GJ.o;exact rfl;intro hg)
     refine LoopOk.at (ι:=Nat × List RowJ) Keep.z (fun (s,S)=>[(69,.int .i64 (s:Int))])
      (fun (s,S)=>rowJ (S[s]?.getD nilJ)::([.sl a1 d.next.length c1 3 1 (intV col),.blk b 68 (autV (out++List.replicate (256-c) 0) (.slice (some ⟨bN,0,none⟩) d.next.length d.next.length) (.slice aa d.acc.length ca)),.obj bM (mapG str u8V M2 c2),.sl (some ⟨bN,0,none⟩) d.next.length d.next.length 59 1 (S.map hdrJ)]++((S.take s++S.drop (s+1)).map rowJ++own)))
      (fun (s,S)=>s≤d.next.length∧S.length=d.next.length∧S.map (·.2)=mixJ d.next.length seen col s) (fun (s,S)=>d.next.length-s) (0,R) ?_ Sub.z (supJ (s:=0) (R:=R) [_,_,_,_] own (Nat.zero_le _)) ?_
     ·exact ⟨Nat.zero_le _,hRl,by rw [mixJ_zero];exact i4⟩
     rintro ⟨s,S⟩ ⟨s1,s2,s3⟩
     dsimp only [List.cons_append,List.nil_append] at s1 s2 s3 ⊢
     by_cases hs:s<d.next.length
     ·obtain ⟨x,hx⟩:∃ x,S[s]?=some x:=⟨_,List.getElem?_eq_getElem (by omega)⟩
      have hxr:x.2=seen.map fun c=>(c[s]?.getD 0)-1:=by
       have:=mixJ_get seen col hs
       rw [←s3,List.getElem?_map,hx] at this
       exact Option.some.inj this
      have hcs:=hcg s hs
      have hst:=step_to ho (s:Int) hc
      generalize stepA d (s:Int) c=z at *
      have hms:=mixJ_set seen col hs hcs
      have hbz:=bang hcs
      have hbx:=bang hx
      rw [hx]
      obtain ⟨⟨ra,rc⟩,rl⟩:=x
      simp only [Option.getD_some,rowJ] at hxr ⊢
      have hrl:=intV_len rl
      have hrlen:rl.length=seen.length:=by rw [hxr];simp
      repeat (first|exact zE|refine wkT ?_|refine zB (fun b=>?_)|refine zC (fun a' c' hc1 hc2=>?_)|(apply GJ.a;exact rfl;intro hg)|(apply GJ.o;exact rfl;intro hg))
      refine Bs.mk ⟨[.sl a1 d.next.length c1 3 1 (intV col),.blk b 68 (autV (out++List.replicate (256-c) 0) (.slice (some ⟨bN,0,none⟩) d.next.length d.next.length) (.slice aa d.acc.length ca)),.sl (some ⟨bN,0,none⟩) d.next.length d.next.length 59 1 (S.map hdrJ)],Sup.z,?_⟩
      repeat (first|exact zE|refine wkU ?_|(show QOk _ _ _ _ _ _ _;refine QOk.build rfl rfl Nf.auto ?_)|(show GJ _ _ _ _ _ _ _;first|with_reducible refine GJ.neF ?_|with_reducible refine GJ.neT ?_)|(show Br _ _ _;with_reducible refine Br.ne ?_)|refine zB (fun b=>?_)|refine zC (fun a' c' hc1 hc2=>?_)|(apply GJ.a;exact rfl;intro hg)|(apply GJ.o;exact rfl;intro hg))
      rw [hbx]
      dsimp only [hdrJ]
      repeat (first|exact zE|refine wkU ?_|(show QOk _ _ _ _ _ _ _;refine QOk.build rfl rfl Nf.auto ?_)|(show GJ _ _ _ _ _ _ _;first|with_reducible refine GJ.neF ?_|with_reducible refine GJ.neT ?_)|(show Br _ _ _;with_reducible refine Br.ne ?_)|refine zB (fun b=>?_)|refine zC (fun a' c' hc1 hc2=>?_)|(apply GJ.a;exact rfl;intro hg)|(apply GJ.o;exact rfl;intro hg))
      rw [hbz]
      refine ⟨⟨by omega,by omega⟩,?_⟩
      repeat (first|exact zE|refine wkU ?_|(show QOk _ _ _ _ _ _ _;refine QOk.build rfl rfl Nf.auto ?_)|(show GJ _ _ _ _ _ _ _;first|with_reducible refine GJ.neF ?_|with_reducible refine GJ.neT ?_)|(show Br _ _ _;with_reducible refine Br.ne ?_)|refine zB (fun b=>?_)|refine zC (fun a' c' hc1 hc2=>?_)|(apply GJ.a;exact rfl;intro hg)|(apply GJ.o;exact rfl;intro hg))
      rw [Int.toNat_natCast]
      refine OpOk.storeSl (k:=s) rfl rfl rfl rfl (by rw [List.length_map,s2];exact hs) ?_
      repeat (first|exact zE|refine wkU ?_|(show QOk _ _ _ _ _ _ _;refine QOk.build rfl rfl Nf.auto ?_)|(show GJ _ _ _ _ _ _ _;first|with_reducible refine GJ.neF ?_|with_reducible refine GJ.neT ?_)|(show Br _ _ _;with_reducible refine Br.ne ?_)|refine zB (fun b=>?_)|refine zC (fun a' c' hc1 hc2=>?_)|(apply GJ.a;exact rfl;intro hg)|(apply GJ.o;exact rfl;intro hg))
      have e1:rl.length+1=(rl++[z+1-1]).length:=by simp
      have e2:intV rl++[.int .i64 (z+1-1)]=intV (rl++[z+1-1]):=by simp [intV]
      have e3:(S.map hdrJ).set s (.slice a' (rl++[z+1-1]).length c')=(S.set s ((a',c'),rl++[z+1-1])).map hdrJ:=by rw [List.map_set];rfl
      rw [e1] at hc1 ⊢
      rw [e2,e3]
      repeat first|exact zE|refine zP ?_|refine zB fun b=>?_|refine zC fun a' c' hc1 hc2=>?_|(apply GJ.a;exact rfl;intro hg)|(apply GJ.o;exact rfl;intro hg)
      refine Wk.id ⟨(s+1,S.set s ((a',c'),rl++[z+1-1])),⟨rfl,?_⟩,?_,Sub.z,(supJn ((a',c'),rl++[z+1-1]) [_,_,_,_] own (by omega))⟩
      all_goals try dsimp only
      ·refine ⟨by omega,by rw [List.length_set,s2],?_⟩
       rw [List.map_set,s3,←hms,hxr]
      ·omega
     ·obtain rfl:s=d.next.length:=by omega
      rw [mixJ_all] at s3
      have e:S.take d.next.length++S.drop (d.next.length+1)=S:=by rw [List.take_of_length_le (by omega),List.drop_eq_nil_of_le (by omega),List.append_nil]
      rw [e]
      repeat first|exact zE|refine zP ?_|refine zB fun b=>?_|refine zC fun a' c' hc1 hc2=>?_|(apply GJ.a;exact rfl;intro hg)|(apply GJ.o;exact rfl;intro hg)
      refine OpOk.storeAt rfl rfl rfl rfl (by rw [hsl];simp;omega) ?_
      rw [hss]
      repeat first|exact zE|refine zP ?_|refine zB fun b=>?_|refine zC fun a' c' hc1 hc2=>?_|(apply GJ.a;exact rfl;intro hg)|(apply GJ.o;exact rfl;intro hg)
      repeat first|exact zE|refine zP ?_|refine zB fun b=>?_|refine zC fun a' c' hc1 hc2=>?_|(apply GJ.a;exact rfl;intro hg)|(apply GJ.o;exact rfl;intro hg)
      refine Wk.id ⟨(c+1,out++[seen.length],seen++[col],M2,c2,S),⟨rfl,?_⟩,?_,Sub.z,Sup.z⟩
      all_goals try dsimp only
      ·exact ⟨by omega,hnew,hpush,s3⟩
      ·omega
 ·have hc6:c=256:=by omega
  subst hc6
  have hfin:=i2.fin
  rw [show 256-256=0 from rfl,narL] at hfin
  have hC0:out++List.replicate (256-256) 0=out:=by simp
  rw [hC0] at hCl ⊢
  repeat first|exact zE|refine zP ?_|refine zB fun b=>?_|refine zC fun a' c' hc1 hc2=>?_|(apply GJ.a;exact rfl;intro hg)|(apply GJ.o;exact rfl;intro hg)
  refine Wk.freezeL (l:=.blk b 68 (autV out (.slice (some ⟨bN,0,none⟩) d.next.length d.next.length) (.slice aa d.acc.length ca))::.sl (some ⟨bN,0,none⟩) d.next.length d.next.length 59 1 (R.map hdrJ)::R.map rowJ) (rest:=.obj bM (mapG str u8V M cM)::own) ?_ (fun ro2 hl2 hc2=>?_)
  ·refine (List.Perm.cons _ ?_)
   refine (List.Perm.swap _ _ _).trans (List.Perm.cons _ ?_)
   exact List.perm_middle.symm
  have hnar:narrowA d=⟨out,rowsJ d.next.length seen,d.acc⟩:=by unfold narrowA;rw [←hfin];rfl
  refine Wk.outS (Sup.drop _ (Sup.all _)) (.refl _) (hk ro2 b hl2 ?_)
  rw [hnar]
  refine ⟨⟨some ⟨bN,0,none⟩,d.next.length,aa,ca,R.map hdrJ,?_,hCl,?_,fun i row hi=>?_,Rs.up hra⟩⟩
  ·dsimp only
   rw [rowsJ_len]
   exact hc2 _ (List.mem_cons_self ..)
  ·dsimp only
   rw [rowsJ_len]
   exact Rs.last (hc2 _ (List.mem_cons_of_mem _ (List.mem_cons_self ..)))
  ·dsimp only at hi
   rw [←i4,List.getElem?_map] at hi
   obtain ⟨x,hx,rfl⟩:=Option.map_eq_some_iff.1 hi
   refine ⟨x.1.1,x.1.2,by rw [List.getElem?_map,hx];rfl,?_⟩
   exact Rs.last (t:=3) (hc2 (rowJ x) (List.mem_cons_of_mem _ (List.mem_cons_of_mem _ (List.mem_map_of_mem (List.mem_of_getElem? hx)))))
end
structure OrdM (g:List Int) (order:List Nat) (M:List (Int × Nat × Nat)):Prop where
 map:MapOk (fun _=>True) M
 at':∀ z,getG M z=order.findIdx? fun s=>getI' g s == z
theorem OrdM.start (g:List Int) (c:Nat):OrdM g [0] (putG [] c (getI' g 0) 0):=by
 refine ⟨MapOk.nil.put trivial c 0,fun z=>?_⟩
 rw [getG_putG,List.findIdx?_cons]
 by_cases e:z=getI' g 0
 ·rw [if_pos e];simp [e]
 ·rw [if_neg e]
  have:(getI' g 0 == z)=false:=by simpa using fun h=>e h.symm
  rw [this];rfl
theorem OrdM.push {g:List Int}{order:List Nat}{M:List (Int × Nat × Nat)} (h:OrdM g order M) {s:Nat} (hn:order.findIdx? (fun t=>getI' g t == getI' g s)=none) (c:Nat):OrdM g (order++[s]) (putG M c (getI' g s) order.length):=by
 refine ⟨h.map.put trivial c _,fun z=>?_⟩
 rw [getG_putG,List.findIdx?_append,List.findIdx?_cons]
 by_cases e:z=getI' g s
 ·subst e
  rw [if_pos rfl,hn];simp
 ·rw [if_neg e,h.at' z]
  have:(getI' g s == z)=false:=by simpa using fun h=>e h.symm
  rw [this]
  cases order.findIdx? fun t=>getI' g t == z<;>simp
theorem OrdI.step {w:Nat}{a:DfaA}{g:List Int}{order:List Nat}{next:List (List Int)}{acc:List Bool}{cur:Nat}{order2:List Nat}{row2:List Int} (h:OrdI a g w order next acc) (hcur:order[next.length]?=some cur) (hr:RowI a g cur w order order2 row2 256):OrdI a g w order2 (next++[row2]) (acc++[getB a.acc cur]):=by
 obtain ⟨e,he⟩:=hr.pre
 have hlt:=(List.getElem?_eq_some_iff.1 hcur).1
 have hold:∀ (i t:Nat),order[i]?=some t→order2[i]?=some t:=fun i t hi=>by
  rw [he,List.getElem?_append_left (List.getElem?_eq_some_iff.1 hi).1,hi]
 have hold2:∀ (i t:Nat),i<order.length→order2[i]?=some t→order[i]?=some t:=fun i t h1 hi=>by
  rw [he,List.getElem?_append_left h1] at hi;exact hi
 have hsn:(next++[row2])[next.length]?=some row2:=snoc_new _ _
 refine ⟨hr.ord,?_,by simp [h.alen],?_,?_,?_,?_⟩
 ·rw [he];simp;omega
 ·intro s r cs hs hcs
  rcases snoc_get hs with ⟨h1,h2⟩|⟨h1,h2⟩
  ·obtain ⟨q1,q2⟩:=h.row s r cs h2 (hold2 s cs (by have:=h.nlen;omega) hcs)
   refine ⟨q1,fun c hc=>?_⟩
   rcases q2 c hc with q|⟨i,t,q3,q4,q5⟩
   ·exact .inl q
   ·exact .inr ⟨i,t,q3,hold _ _ q4,q5⟩
  ·subst h1;subst h2
   have hcc:=hold2 _ _ hlt hcs
   rw [hcur] at hcc;cases hcc
   exact ⟨hr.len,fun c hc=>hr.at' c hc⟩
 ·intro s cs hs hcs
  rw [List.length_append,List.length_singleton] at hs
  by_cases e1:s<next.length
  ·exact snoc_old (h.acc s cs e1 (hold2 s cs (by have:=h.nlen;omega) hcs))
  ·have e2:s=next.length:=by omega
   subst e2
   have hcc:=hold2 _ _ hlt hcs
   rw [hcur] at hcc;cases hcc
   rw [←h.alen];exact snoc_new _ _
 ·intro u h0 h1
  by_cases e1:u<order.length
  ·obtain ⟨s,c,r,q1,q2,q3,q4⟩:=h.met u h0 e1
   exact ⟨s,c,r,q1,q2,snoc_old q3,q4⟩
  ·obtain ⟨d,hd,hrd⟩:=hr.new u (by omega) h1
   exact ⟨next.length,d,row2,by omega,hd,hsn,hrd⟩
 ·intro s c r t hs hc ht u hu1 hu2
  rcases snoc_get hs with ⟨h1,h2⟩|⟨h1,h2⟩
  ·obtain ⟨s2,c2,r2,q1,q2,q3,q4⟩:=h.first s c r t h2 hc ht u hu1 hu2
   exact ⟨s2,c2,r2,q1,q2,snoc_old q3,q4⟩
  ·subst h1;subst h2
   by_cases e1:u<order.length
   ·obtain ⟨s,c3,r3,q1,q2,q3,q4⟩:=h.met u hu1 e1
    exact ⟨s,c3,r3,.inl (List.getElem?_eq_some_iff.1 q3).1,q2,snoc_old q3,q4⟩
   ·obtain ⟨e,he1,he2⟩:=hr.first c t hc ht u (by omega) hu2
    exact ⟨next.length,e,r,.inr ⟨rfl,he1⟩,by omega,hsn,he2⟩
theorem Nf.self:∀ l:List Value,Nf l l
 | []=>Nf.nil
 | x::l=>Nf.cons x (Nf.self l)
theorem freezeC {P:Program}{f:FuncId}{args:Array Value}{ro:Ro}{l own' own:Chs}{K:Value→Ro→Chs→Prop} (hp:own.Perm (l++own')) (h:∀ ro',Le ro ro'→(∀ c∈l,c.holds ro')→CallOk P f args ro' own' K):CallOk P f args ro own K :=
 ⟨fun w hw=>by
  obtain ⟨r1,h1,h2,h3⟩:=Sat.freezeL (hw.perm hp)
  exact ((h r1 h1 h2).run w h3).mono fun v w' ⟨hh,ro2,own2,hl2,hs2,hk⟩=>⟨hh,ro2,own2,h1.trans hl2,hs2,hk⟩⟩
structure RowsH (ro:Ro) (rows:List (List Int)) (H:List Value):Prop where
 len:H.length=rows.length
 row:∀ (i:Nat) (row:List Int),rows[i]?=some row→∃ (ar:Option Addr) (cr:Nat),H[i]?=some (.slice ar row.length cr)∧Rs ro ar row.length cr 1 (row.map (Value.int .i64))
theorem RowsH.nil (ro:Ro):RowsH ro [] []:=⟨rfl,fun i row h=>by simp at h⟩
theorem RowsH.le {ro ro':Ro}{rows:List (List Int)}{H:List Value} (h:RowsH ro rows H) (hl:Le ro ro'):RowsH ro' rows H:=⟨h.len,fun i row hr=>by
 obtain ⟨ar,cr,h1,h2⟩:=h.row i row hr
 exact ⟨ar,cr,h1,Rs.up h2⟩⟩
theorem RowsH.snoc {ro:Ro}{rows:List (List Int)}{H:List Value} (h:RowsH ro rows H) {row:List Int}{ar:Option Addr}{cr:Nat} (hr:Rs ro ar row.length cr 1 (row.map (Value.int .i64))):RowsH ro (rows++[row]) (H++[.slice ar row.length cr]):=⟨by simp [h.len],fun i x hx=>by
 rcases snoc_get hx with ⟨h1,h2⟩|⟨h1,h2⟩
 ·obtain ⟨a,c,p1,p2⟩:=h.row i x h2
  exact ⟨a,c,snoc_old p1,p2⟩
 ·subst h1;subst h2
  exact ⟨ar,cr,by rw [←h.len];exact snoc_new _ _,hr⟩⟩
section
variable {ro:Ro}{own r:Chs}{K:Value→Ro→Chs→Prop}{g:Chunk→Chs}
set_option maxHeartbeats 8000000 in
theorem dleast_ok {q w:Nat}{d:DfaA} (hD:DAt ro q d) (ho:DfaOk w d) (hs:SurA w d) (hw:w≤256) (hp:0<d.next.length) (hn:d.next.length≤1024)
  (hk:∀ ro' p,Le ro ro'→DAt ro' p (leastA d)→K (ptr' p) ro' own):CallOk Tryz.prog 28 #[ptr' q] ro own K:=by
 obtain ⟨an,cn,aa,ca,hsv,hd⟩:=hD.rd
 have hN:=hd.ldN
 have hA:=hd.ldA
 have hrs:=hd.rs
 have hra:=hd.ra
 have hal:=ho.acc
 have hcm:=hrs.max
 have hcl:=hrs.le
 unfold maxLen at hcm
 have hgf:=(grp_fin ho hs).ok
 have hgl:=hgf.len
 unfold leastA at hk
 rw [if_neg (by intro e;rw [e] at hp;cases hp)] at hk
 obtain ⟨gr,hgr⟩:∃ gr,gr=grpA d:=⟨_,rfl⟩
 rw [←hgr] at hk hgf hgl
 refine CallOk.intro (args:=[_]) (rs:=[_]) T_ok Tryz.func28 Tryz.call28 rfl rfl (by kernel_rfl) rfl rfl ?_
 repeat first|exact zE|refine zP ?_|refine zB fun b=>?_|refine zC fun a' c' hc1 hc2=>?_|(apply GJ.a;exact rfl;intro hg)|(apply GJ.o;exact rfl;intro hg)
 refine dlen_ok hD ?_
 repeat first|exact zE|refine zP ?_|refine zB fun b=>?_|refine zC fun a' c' hc1 hc2=>?_|(apply GJ.a;exact rfl;intro hg)|(apply GJ.o;exact rfl;intro hg)
 refine dgroups_ok hD ho hs (by omega) hw (fun ag cg g1 g2=>?_)
 rw [←hgr]
 have hgI:=intV_len gr
 obtain ⟨z0,hz0⟩:∃ z,gr[0]?=some z:=⟨_,List.getElem?_eq_getElem (by omega)⟩
 have hb0:=bang hz0
 have hb1:gr[Int.toNat 0]! = z0:=hb0
 rw [getI_some hz0] at hk
 by_cases h0:z0=-1
 ·rw [if_pos h0] at hk
  subst h0
  repeat first|exact zE|refine zP ?_|refine zB fun b=>?_|refine zC fun a' c' hc1 hc2=>?_|(apply GJ.a;exact rfl;intro hg)|(apply GJ.o;exact rfl;intro hg)
  refine Wk.freezeL (l:=[_,_,_,_]) (.refl _) (fun ro2 hl2 hc2=>?_)
  refine Wk.outS (Sup.drop _ (Sup.drop _ (Sup.all _))) (.refl _) (hk ro2 _ hl2 ?_)
  refine ⟨⟨_,_,_,_,_,hc2 _ (List.mem_cons_self ..),by simp [deadA],Rs.last (hc2 _ (List.mem_cons_of_mem _ (List.mem_cons_of_mem _ (List.mem_cons_self ..)))),fun i row hi=>?_,Rs.last (hc2 _ (List.mem_cons_of_mem _ (List.mem_cons_self ..)))⟩⟩
  cases i with
  | zero =>
    cases hi
    exact ⟨_,_,rfl,Rs.last (hc2 _ (List.mem_cons_of_mem _ (List.mem_cons_of_mem _ (List.mem_cons_of_mem _ (List.mem_cons_self ..)))))⟩
  | succ i=>cases hi
 ·rw [if_neg h0] at hk
  obtain ⟨Z,hZ⟩:∃ Z,Z=ordL d gr (d.next.length+1) [0] [] []:=⟨_,rfl⟩
  rw [←hZ] at hk
  have hl0:LiveA d 0:=Classical.byContradiction fun hh=>h0 (by rw [←getI_some hz0];exact (hgf.dead 0 hp).2 hh)
  have hI0:OrdI d gr w [0] [] []:=⟨⟨rfl,(fun s hs=>by rw [List.mem_singleton] at hs;rw [hs];exact hp),(fun s hs=>by rw [List.mem_singleton] at hs;rw [hs];exact hl0),by simp⟩,by simp,rfl,(fun s r cur hs=>by simp at hs),(fun s cur hs=>by simp at hs),(fun u h0 h1=>by simp at h1;omega),fun s c r t hs=>by simp at hs⟩
  have hM0:=OrdM.start gr
  rw [getI_some hz0] at hM0
  have hwd:=width_is ho hp
  obtain ⟨C0,hC0⟩:∃ C:List Nat,C=List.replicate 256 0:=⟨_,rfl⟩
  have hC0l:C0.length=256:=by rw [hC0];simp
  repeat first|exact zE|refine zP ?_|refine zB fun b=>?_|refine zC fun a' c' hc1 hc2=>?_|(apply GJ.a;exact rfl;intro hg)|(apply GJ.o;exact rfl;intro hg)
  obtain ⟨bO,hbO⟩:∃ z:Nat,z=b:=⟨_,rfl⟩
  subst hbO
  refine OpOk.makeMapG (kv:=Value.int .i64) (vv:=nV) (fun bM=>?_)
  repeat first|exact zE|refine zP ?_|refine zB fun b=>?_|refine zC fun a' c' hc1 hc2=>?_|(apply GJ.a;exact rfl;intro hg)|(apply GJ.o;exact rfl;intro hg)
  rw [hb1]
  refine OpOk.insertG (OpOk.mapUpdateG (kt:=3) (et:=3) (kv:=Value.int .i64) (vv:=nV) (k:=z0) (v:=0) rfl rfl rfl (by kernel_rfl) (KeyEnc.int (by kernel_rfl)) MapOk.nil trivial (fun c1=>?_))
  repeat first|exact zE|refine zP ?_|refine zB fun b=>?_|refine zC fun a' c' hc1 hc2=>?_|(apply GJ.a;exact rfl;intro hg)|(apply GJ.o;exact rfl;intro hg)
  refine LoopOk.auto (ι:=(List Nat × Option Addr × Nat) × (List (List Int) × List Value × Option Addr × Nat) × (List Bool × Option Addr × Nat) × List (Int × Nat × Nat) × Nat) Keep.z (fun ((order,ao,co),(nx,H,an2,cn2),(acc,aa2,ca2),M,cM)=>[(7,.int .i64 (nx.length:Int)),(6,.slice ao order.length co)])
   (fun ((order,ao,co),(nx,H,an2,cn2),(acc,aa2,ca2),M,cM)=>.sl ao order.length co 3 1 (natsV order)::.obj bM (mapG (Value.int .i64) nV M cM)::.blk bO 68 (autV C0 (.slice an2 nx.length cn2) (.slice aa2 acc.length ca2))::.sl an2 nx.length cn2 59 1 H::.sl aa2 acc.length ca2 4 1 (boolsV acc)::.sl ag d.next.length cg 3 1 (intV gr)::own)
   (fun ((order,ao,co),(nx,H,an2,cn2),(acc,aa2,ca2),M,cM) ro2=>OrdI d gr w order nx acc∧ordL d gr (d.next.length+1-nx.length) order nx acc=Z∧OrdM gr order M∧RowsH ro2 nx H∧(order.length≤co∧co≤maxLen)∧(nx.length≤cn2∧cn2≤maxLen)∧(acc.length≤ca2∧ca2≤maxLen))
   (fun ((order,ao,co),(nx,H,an2,cn2),(acc,aa2,ca2),M,cM)=>d.next.length-nx.length) (([0],some ⟨b,0,none⟩,1),([],[],none,0),([],none,0),_,_) ?_ Sub.z (by subst hC0;exact Sup.z) ?_
  ·exact ⟨hI0,hZ.symm,hM0 0,RowsH.nil _,⟨Nat.le_refl _,by unfold maxLen;decide⟩,⟨Nat.le_refl _,Nat.zero_le _⟩,⟨Nat.le_refl _,Nat.zero_le _⟩⟩
  rintro ⟨⟨order,ao,co⟩,⟨nx,H,an2,cn2⟩,⟨acc,aa2,ca2⟩,M,cM⟩ ro2 hl2 ⟨i1,i2,i3,i4,⟨i5,i6⟩,⟨i7,i8⟩,⟨i9,i10⟩⟩
  dsimp only [List.cons_append,List.nil_append] at i1 i2 i3 i4 i5 i6 i7 i8 i9 i10 ⊢
  have hol:=ord_len (w:=w) i1.ord
  have hnl:=i1.nlen
  have hacl:=i1.alen
  have hHl:=i4.len
  by_cases hlt:nx.length<order.length
  ·obtain ⟨cur,hcur⟩:∃ cur,order[nx.length]?=some cur:=⟨_,List.getElem?_eq_getElem hlt⟩
   have hcn:=i1.ord.lt cur (List.mem_of_getElem? hcur)
   have hbc:=bang hcur
   obtain ⟨F,hF⟩:∃ F,d.next.length+1-nx.length=F+1:=⟨d.next.length-nx.length,by omega⟩
   rw [hF,ordL,hcur] at i2
   dsimp only at i2
   rw [hwd] at i2
   have hR0:RowI d gr cur w order order (List.replicate w 0) 0:=⟨⟨[],by simp⟩,by simp,i1.ord,fun d hd=>by omega,fun i h1 h2=>by omega,fun d t hd=>by omega⟩
   have hRf:=fun k c o r (h:c+k≤256)=>rowO_ok (cur:=cur) (base:=order) (w:=w) ho hgf k c o r h
   obtain ⟨R,hR⟩:∃ R,R=rowO d gr cur 256 0 order (List.replicate w 0):=⟨_,rfl⟩
   rw [←hR] at i2
   repeat first|exact zE|refine zP ?_|refine zB fun b=>?_|refine zC fun a' c' hc1 hc2=>?_|(apply GJ.a;exact rfl;intro hg)|(apply GJ.o;exact rfl;intro hg)
   refine dwidth_ok (hD.le hl2) ?_
   rw [hwd]
   repeat first|exact zE|refine zP ?_|refine zB fun b=>?_|refine zC fun a' c' hc1 hc2=>?_|(apply GJ.a;exact rfl;intro hg)|(apply GJ.o;exact rfl;intro hg)
   rw [Int.toNat_natCast,intV_zero]
   obtain ⟨bR,hbR⟩:∃ z:Nat,z=b:=⟨_,rfl⟩
   subst hbR
   refine LoopOk.at (ι:=Nat × (List Nat × Option Addr × Nat) × List Int × List (Int × Nat × Nat) × Nat) Keep.z (fun (c,(order,ao,co),row,M,cM)=>[(47,.int .i64 (c:Int)),(6,.slice ao order.length co)])
    (fun (c,(order,ao,co),row,M,cM)=>.sl (some ⟨bR,0,none⟩) w w 3 1 (intV row)::.sl ao order.length co 3 1 (natsV order)::.obj bM (mapG (Value.int .i64) nV M cM)::.blk bO 68 (autV C0 (.slice an2 nx.length cn2) (.slice aa2 acc.length ca2))::.sl an2 nx.length cn2 59 1 H::.sl aa2 acc.length ca2 4 1 (boolsV acc)::.sl ag d.next.length cg 3 1 (intV gr)::own)
    (fun (c,(order2,ao,co),row,M,cM)=>c≤256∧RowI d gr cur w order order2 row c∧rowO d gr cur (256-c) c order2 row=R∧OrdM gr order2 M∧(order2.length≤co∧co≤maxLen)) (fun (c,(order,ao,co),row,M,cM)=>256-c) (0,(order,ao,co),List.replicate w 0,M,cM) ?_ Sub.z Sup.z ?_
   ·exact ⟨Nat.zero_le _,hR0,hR.symm,i3,⟨i5,i6⟩⟩
   clear i3 i5 i6
   rintro ⟨c,⟨order2,ao2,co2⟩,row,M2,cM2⟩ ⟨c1,c2,c3,c4,⟨c5,c6⟩⟩
   dsimp only [List.cons_append,List.nil_append] at c1 c2 c3 c4 c5 c6 ⊢
   obtain ⟨eo,heo⟩:=c2.pre
   have hlt2:nx.length<order2.length:=by rw [heo];simp;omega
   have hcur2:order2[nx.length]?=some cur:=by rw [heo,List.getElem?_append_left hlt];exact hcur
   have hbc2:=bang hcur2
   have hol2:=ord_len (w:=w) c2.ord
   have hrl2:=c2.len
   have hiv2:=intV_len row
   by_cases hc:c<256
   ·obtain ⟨hcw,hcc⟩:=cls_lt ho hc
    have hC:=hd.ldC c _ hcc
    have hst:=hRf (0+1) c order2 row (by omega) c2
    rw [show 256-c=(256-(c+1))+1 by omega,rowO] at c3
    rw [rowO] at hst
    obtain ⟨k',nrow,p1,p2,p3,p4⟩:=step_at ho hcn hc
    rw [hcc] at p1;cases p1
    obtain ⟨ar,cr,q1,q2⟩:=hd.rows cur nrow p3
    have hnw:=ho.row nrow (List.mem_of_getElem? p3)
    have hzt:=step_to ho (cur:Int) hc
    have hbn:=bang p4
    generalize stepA d (cur:Int) c=z at *
    generalize clsA d c=kk at *
    have hrs2:=intV_len (row.set kk (-1))
    rw [List.length_set] at hrs2
    have hset:∀ v:Int,(intV (row.set kk (-1))).set kk (.int .i64 v)=intV (row.set kk v):=fun v=>by rw [intV_set,List.set_set]
    rcases hzt with hz|⟨u,hz,hu⟩
    ·have hgz:grpAt gr z=-1:=by rw [hz];rfl
     rw [if_pos hgz] at c3 hst
     rw [rowO] at hst
     subst hz
     repeat first|exact zE|refine zP ?_|refine zB fun b=>?_|refine zC fun a' c' hc1 hc2=>?_|(apply GJ.a;exact rfl;intro hg)|(apply GJ.o;exact rfl;intro hg)
     refine OpOk.load rfl rfl (hC.ldE (by simp)) ?_
     repeat first|exact zE|refine zP ?_|refine zB fun b=>?_|refine zC fun a' c' hc1 hc2=>?_|(apply GJ.a;exact rfl;intro hg)|(apply GJ.o;exact rfl;intro hg)
     refine OpOk.storeSlAt' (k:=kk) rfl rfl rfl rfl (by rw [Int.toNat_natCast]) (by omega) ?_
     rw [intV_set]
     repeat first|exact zE|refine zP ?_|refine zB fun b=>?_|refine zC fun a' c' hc1 hc2=>?_|(apply GJ.a;exact rfl;intro hg)|(apply GJ.o;exact rfl;intro hg)
     repeat (first|exact zE|refine wkU ?_|(show QOk _ _ _ _ _ _ _;refine QOk.build rfl rfl Nf.auto ?_)|(show GJ _ _ _ _ _ _ _;first|with_reducible refine GJ.neF ?_|with_reducible refine GJ.neT ?_)|(show Br _ _ _;with_reducible refine Br.ne ?_)|refine zB (fun b=>?_)|refine zC (fun a' c' hc1 hc2=>?_)|(apply GJ.a;exact rfl;intro hg)|(apply GJ.o;exact rfl;intro hg))
     refine QOk.load rfl rfl (Go.E.Ld.rs hrs (by rw [hbc2,Int.toNat_natCast];exact q1)) ?_
     repeat first|exact zE|refine zP ?_|refine zB fun b=>?_|refine zC fun a' c' hc1 hc2=>?_|(apply GJ.a;exact rfl;intro hg)|(apply GJ.o;exact rfl;intro hg)
     repeat first|exact zE|refine zP ?_|refine zB fun b=>?_|refine zC fun a' c' hc1 hc2=>?_|(apply GJ.a;exact rfl;intro hg)|(apply GJ.o;exact rfl;intro hg)
     refine Wk.id ⟨(c+1,(order2,ao2,co2),row.set kk (-1),M2,cM2),⟨rfl,?_⟩,?_,Sub.z,Sup.z⟩
     all_goals try dsimp only
     ·exact ⟨by omega,hst,c3,c4,⟨c5,c6⟩⟩
     ·omega
    ·subst hz
     obtain ⟨y,hy⟩:∃ y,gr[u]?=some y:=⟨_,List.getElem?_eq_getElem (by omega)⟩
     have hgz:grpAt gr (u:Int)=y:=by unfold grpAt;rw [if_pos (by omega),Int.toNat_natCast,getI_some hy]
     have hby:=bang hy
     have hby2:gr[(nrow[((kk:Nat):Int).toNat]!).toNat]! = y:=by rw [hbn];exact hby
     rw [hgz] at c3 hst
     by_cases hy1:y=-1
     ·rw [if_pos hy1] at c3 hst
      rw [rowO] at hst
      repeat first|exact zE|refine zP ?_|refine zB fun b=>?_|refine zC fun a' c' hc1 hc2=>?_|(apply GJ.a;exact rfl;intro hg)|(apply GJ.o;exact rfl;intro hg)
      refine OpOk.load rfl rfl (hC.ldE (by simp)) ?_
      repeat first|exact zE|refine zP ?_|refine zB fun b=>?_|refine zC fun a' c' hc1 hc2=>?_|(apply GJ.a;exact rfl;intro hg)|(apply GJ.o;exact rfl;intro hg)
      refine OpOk.storeSlAt' (k:=kk) rfl rfl rfl rfl (by rw [Int.toNat_natCast]) (by omega) ?_
      rw [intV_set]
      repeat first|exact zE|refine zP ?_|refine zB fun b=>?_|refine zC fun a' c' hc1 hc2=>?_|(apply GJ.a;exact rfl;intro hg)|(apply GJ.o;exact rfl;intro hg)
      repeat (first|exact zE|refine wkU ?_|(show QOk _ _ _ _ _ _ _;refine QOk.build rfl rfl Nf.auto ?_)|(show GJ _ _ _ _ _ _ _;first|with_reducible refine GJ.neF ?_|with_reducible refine GJ.neT ?_)|(show Br _ _ _;with_reducible refine Br.ne ?_)|refine zB (fun b=>?_)|refine zC (fun a' c' hc1 hc2=>?_)|(apply GJ.a;exact rfl;intro hg)|(apply GJ.o;exact rfl;intro hg))
      refine QOk.load rfl rfl (Go.E.Ld.rs hrs (by rw [hbc2,Int.toNat_natCast];exact q1)) ?_
      repeat first|exact zE|refine zP ?_|refine zB fun b=>?_|refine zC fun a' c' hc1 hc2=>?_|(apply GJ.a;exact rfl;intro hg)|(apply GJ.o;exact rfl;intro hg)
      repeat first|exact zE|refine zP ?_|refine zB fun b=>?_|refine zC fun a' c' hc1 hc2=>?_|(apply GJ.a;exact rfl;intro hg)|(apply GJ.o;exact rfl;intro hg)
      refine Wk.id ⟨(c+1,(order2,ao2,co2),row.set kk (-1),M2,cM2),⟨rfl,?_⟩,?_,Sub.z,Sup.z⟩
      all_goals try dsimp only
      ·exact ⟨by omega,hst,c3,c4,⟨c5,c6⟩⟩
      ·omega
     ·rw [if_neg hy1] at c3 hst
      have hat:=c4.at' y
      repeat first|exact zE|refine zP ?_|refine zB fun b=>?_|refine zC fun a' c' hc1 hc2=>?_|(apply GJ.a;exact rfl;intro hg)|(apply GJ.o;exact rfl;intro hg)
      refine OpOk.load rfl rfl (hC.ldE (by simp)) ?_
      repeat first|exact zE|refine zP ?_|refine zB fun b=>?_|refine zC fun a' c' hc1 hc2=>?_|(apply GJ.a;exact rfl;intro hg)|(apply GJ.o;exact rfl;intro hg)
      refine OpOk.storeSlAt' (k:=kk) rfl rfl rfl rfl (by rw [Int.toNat_natCast]) (by omega) ?_
      rw [intV_set]
      repeat first|exact zE|refine zP ?_|refine zB fun b=>?_|refine zC fun a' c' hc1 hc2=>?_|(apply GJ.a;exact rfl;intro hg)|(apply GJ.o;exact rfl;intro hg)
      repeat (first|exact zE|refine wkU ?_|(show QOk _ _ _ _ _ _ _;refine QOk.build rfl rfl Nf.auto ?_)|(show GJ _ _ _ _ _ _ _;first|with_reducible refine GJ.neF ?_|with_reducible refine GJ.neT ?_)|(show Br _ _ _;with_reducible refine Br.ne ?_)|refine zB (fun b=>?_)|refine zC (fun a' c' hc1 hc2=>?_)|(apply GJ.a;exact rfl;intro hg)|(apply GJ.o;exact rfl;intro hg))
      refine QOk.load rfl rfl (Go.E.Ld.rs hrs (by rw [hbc2,Int.toNat_natCast];exact q1)) ?_
      repeat first|exact zE|refine zP ?_|refine zB fun b=>?_|refine zC fun a' c' hc1 hc2=>?_|(apply GJ.a;exact rfl;intro hg)|(apply GJ.o;exact rfl;intro hg)
      rw [hby2]
      refine OpOk.lookupOkG (kt:=3) (et:=3) (kv:=Value.int .i64) (vv:=nV) (k:=y) (z:=.int .i64 0) rfl rfl (by kernel_rfl) (KeyEnc.int (by kernel_rfl)) c4.map trivial (by kernel_rfl) ?_
      rw [hat]
      cases hidx:order2.findIdx? (fun s=>getI' gr s == y) with
      | some m =>
        rw [hidx] at c3 hst
        dsimp only at c3 hst
        rw [rowO] at hst
        simp only [Option.map_some,Option.getD_some,Option.isSome_some,nV]
        repeat first|exact zE|refine zP ?_|refine zB fun b=>?_|refine zC fun a' c' hc1 hc2=>?_|(apply GJ.a;exact rfl;intro hg)|(apply GJ.o;exact rfl;intro hg)
        refine OpOk.storeSlAt' (k:=kk) rfl rfl rfl rfl (by rw [Int.toNat_natCast]) (by omega) ?_
        rw [hset]
        repeat first|exact zE|refine zP ?_|refine zB fun b=>?_|refine zC fun a' c' hc1 hc2=>?_|(apply GJ.a;exact rfl;intro hg)|(apply GJ.o;exact rfl;intro hg)
        repeat first|exact zE|refine zP ?_|refine zB fun b=>?_|refine zC fun a' c' hc1 hc2=>?_|(apply GJ.a;exact rfl;intro hg)|(apply GJ.o;exact rfl;intro hg)
        refine Wk.id ⟨(c+1,(order2,ao2,co2),row.set kk (m:Int),M2,cM2),⟨rfl,?_⟩,?_,Sub.z,Sup.z⟩
        all_goals try dsimp only
        ·exact ⟨by omega,hst,c3,c4,⟨c5,c6⟩⟩
        ·omega
      | none =>
        rw [hidx] at c3 hst
        dsimp only at c3 hst
        rw [rowO,Int.toNat_natCast] at hst
        rw [Int.toNat_natCast] at c3
        have hpu:=c4.push (s:=u) (by rw [getI_some hy];exact hidx) cM2
        rw [getI_some hy] at hpu
        have hnat:natsV order2++[.int .i64 (u:Int)]=natsV (order2++[u]):=by simp [natsV]
        have hnl2:order2.length+1=(order2++[u]).length:=by simp
        simp only [Option.map_none,Option.getD_none,Option.isSome_none]
        repeat first|exact zE|refine zP ?_|refine zB fun b=>?_|refine zC fun a' c' hc1 hc2=>?_|(apply GJ.a;exact rfl;intro hg)|(apply GJ.o;exact rfl;intro hg)
        rw [hby2]
        refine OpOk.mapUpdateG (kt:=3) (et:=3) (kv:=Value.int .i64) (vv:=nV) (k:=y) (v:=order2.length) rfl rfl rfl (by kernel_rfl) (KeyEnc.int (by kernel_rfl)) c4.map trivial (fun cM3=>?_)
        generalize putG M2 cM2 y order2.length=M3 at *
        repeat first|exact zE|refine zP ?_|refine zB fun b=>?_|refine zC fun a' c' hc1 hc2=>?_|(apply GJ.a;exact rfl;intro hg)|(apply GJ.o;exact rfl;intro hg)
        rw [hbn,hnat,hnl2]
        rw [hnl2] at hc1
        refine OpOk.storeSlAt' (k:=kk) rfl rfl rfl rfl (by rw [Int.toNat_natCast]) (by omega) ?_
        rw [hset]
        repeat first|exact zE|refine zP ?_|refine zB fun b=>?_|refine zC fun a' c' hc1 hc2=>?_|(apply GJ.a;exact rfl;intro hg)|(apply GJ.o;exact rfl;intro hg)
        repeat first|exact zE|refine zP ?_|refine zB fun b=>?_|refine zC fun a' c' hc1 hc2=>?_|(apply GJ.a;exact rfl;intro hg)|(apply GJ.o;exact rfl;intro hg)
        refine Wk.id ⟨(c+1,(order2++[u],a',c'),row.set kk (order2.length:Int),M3,cM3),⟨rfl,?_⟩,?_,Sub.z,Sup.z⟩
        all_goals try dsimp only
        ·exact ⟨by omega,hst,c3,hpu,⟨hc1,hc2⟩⟩
        ·omega
   ·have hc6:c=256:=by omega
    subst hc6
    have hst:=i1.step hcur c2
    rw [Nat.sub_self,rowO] at c3
    subst c3
    obtain ⟨pv,hpv⟩:∃ p,d.acc[cur]?=some p:=⟨_,List.getElem?_eq_getElem (by omega)⟩
    have hbp:=bang hpv
    have hbp2:d.acc[(order2[((nx.length:Nat):Int).toNat]!:Int).toNat]! = pv:=by rw [hbc2];exact hbp
    have hacn:boolsV acc++[.bool pv]=boolsV (acc++[pv]):=by simp [boolsV]
    have hnn:nx.length+1=(nx++[row]).length:=by simp
    have hnnI:(nx.length:Int)+1=((nx++[row]).length:Int):=by simp
    have han:acc.length+1=(acc++[pv]).length:=by simp
    rw [getB_some hpv] at hst i2
    dsimp only at i2
    repeat (first|exact zE|refine wkT ?_|refine zB (fun b=>?_)|refine zC (fun a' c' hc1 hc2=>?_)|(apply GJ.a;exact rfl;intro hg)|(apply GJ.o;exact rfl;intro hg))
    obtain ⟨aN,haN⟩:∃ z,z=a':=⟨_,rfl⟩
    subst haN
    obtain ⟨cN,hcN⟩:∃ z,z=c':=⟨_,rfl⟩
    subst hcN
    have hq1:=hc1
    have hq2:=hc2
    refine Bs.mk ⟨[.sl ao2 order2.length co2 3 1 (natsV order2),.blk bO 68 (autV C0 (.slice aN (nx.length+1) cN) (.slice aa2 acc.length ca2))],Sup.z,?_⟩
    repeat (first|exact zE|refine wkU ?_|(show QOk _ _ _ _ _ _ _;refine QOk.build rfl rfl Nf.auto ?_)|(show GJ _ _ _ _ _ _ _;first|with_reducible refine GJ.neF ?_|with_reducible refine GJ.neT ?_)|(show Br _ _ _;with_reducible refine Br.ne ?_)|refine zB (fun b=>?_)|refine zC (fun a' c' hc1 hc2=>?_)|(apply GJ.a;exact rfl;intro hg)|(apply GJ.o;exact rfl;intro hg))
    rw [hbp2,hacn,hnnI,hnn,han]
    rw [hnn] at hq1
    rw [han] at hc1
    repeat first|exact zE|refine zP ?_|refine zB fun b=>?_|refine zC fun a' c' hc1 hc2=>?_|(apply GJ.a;exact rfl;intro hg)|(apply GJ.o;exact rfl;intro hg)
    refine Wk.freeze (c:=.sl (some ⟨bR,0,none⟩) _ _ _ _ _) Take.auto (fun ro3 hl3 hc3=>?_)
    have hrR:Rs ro3 (some ⟨bR,0,none⟩) row.length w 1 (row.map (Value.int .i64)):=by rw [hrl2];exact Rs.last hc3
    have hRH:=(i4.le hl3).snoc hrR
    rw [hrl2] at hRH
    refine Wk.id ⟨((order2,ao2,co2),(nx++[row],H++[.slice (some ⟨bR,0,none⟩) w w],aN,cN),(acc++[pv],a',c'),M2,cM2),?_,?_,Sub.z,Sup.z⟩
    all_goals try dsimp only
    ·refine ⟨hst,?_,c4,hRH,⟨c5,c6⟩,⟨hq1,hq2⟩,⟨hc1,hc2⟩⟩
     rw [show d.next.length+1-(nx++[row]).length=F by simp;omega]
     exact i2
    ·simp;omega
  ·obtain ⟨F,hF⟩:∃ F,d.next.length+1-nx.length=F+1:=⟨d.next.length-nx.length,by omega⟩
   rw [hF,ordL,List.getElem?_eq_none (by omega)] at i2
   dsimp only at i2
   obtain ⟨q1,q2,q3⟩:=quot_ok ho hs (hgr▸grp_fin ho hs) i1 (by omega)
   have hlc:∀ own',LdN ro2 own' q (0+0) (clsV d.cls):=fun own'=>by
    have:=LdN.part 0 256 (LdN.lastBlk (own:=own') (hl2.le _ _ hd.row))
    rwa [List.drop_zero,show (autV d.cls (.slice an d.next.length cn) (.slice aa d.acc.length ca)).take 256=clsV d.cls by unfold autV;rw [List.take_append_of_le_length (by rw [clsV_len,hd.c256];exact Nat.le_refl _),List.take_of_length_le (by rw [clsV_len,hd.c256];exact Nat.le_refl _)]] at this
   have hl6:(clsV d.cls).length=256:=by rw [clsV_len,hd.c256]
   have hone:(clsV d.cls).all (fun u=>u.oneCell')=true:=by rw [List.all_eq_true];intro u hu;obtain ⟨c,_,rfl⟩:=List.mem_map.1 hu;rfl
   have hsp:Go.E.splice (autV C0 (.slice an2 nx.length cn2) (.slice aa2 acc.length ca2)) (0+0) (clsV d.cls)=autV d.cls (.slice an2 nx.length cn2) (.slice aa2 acc.length ca2):=by
    have e1:(clsV C0).length=256:=by rw [clsV_len,hC0l]
    unfold Go.E.splice autV
    rw [Nat.add_zero,List.take_zero,List.nil_append,Nat.zero_add,hl6,List.drop_append,e1,Nat.sub_self,List.drop_zero,List.drop_eq_nil_of_le (by omega),List.nil_append]
   repeat first|exact zE|refine zP ?_|refine zB fun b=>?_|refine zC fun a' c' hc1 hc2=>?_|(apply GJ.a;exact rfl;intro hg)|(apply GJ.o;exact rfl;intro hg)
   refine OpOk.loadRow rfl rfl (hlc _) hl6 ?_
   repeat first|exact zE|refine zP ?_|refine zB fun b=>?_|refine zC fun a' c' hc1 hc2=>?_|(apply GJ.a;exact rfl;intro hg)|(apply GJ.o;exact rfl;intro hg)
   refine OpOk.storePart rfl rfl rfl hl6 hone (by rw [autV_len hC0l];omega) (cs':=autV d.cls (.slice an2 nx.length cn2) (.slice aa2 acc.length ca2)) (by rw [hsp];exact Nf.self _) ?_
   repeat first|exact zE|refine zP ?_|refine zB fun b=>?_|refine zC fun a' c' hc1 hc2=>?_|(apply GJ.a;exact rfl;intro hg)|(apply GJ.o;exact rfl;intro hg)
   refine freezeC (l:=[.blk bO 68 (autV d.cls (.slice an2 nx.length cn2) (.slice aa2 acc.length ca2)),.sl an2 nx.length cn2 59 1 H,.sl aa2 acc.length ca2 4 1 (boolsV acc)]) (own':=.sl ao order.length co 3 1 (natsV order)::.obj bM (mapG (Value.int .i64) nV M cM)::.sl ag d.next.length cg 3 1 (intV gr)::own) ?_ (fun ro3 hl3 hc3=>?_)
   ·exact (List.perm_append_comm (l₁:=[_,_]) (l₂:=[_,_,_])).append_right _
   have hDt:DAt ro3 bO ⟨d.cls,nx,acc⟩:=⟨⟨an2,cn2,aa2,ca2,H,hc3 _ (List.mem_cons_self ..),hd.c256,by rw [←hHl];exact Rs.last (by rw [hHl];exact hc3 _ (List.mem_cons_of_mem _ (List.mem_cons_self ..))),fun i row hi=>(i4.le hl3).row i row hi,Rs.last (hc3 _ (List.mem_cons_of_mem _ (List.mem_cons_of_mem _ (List.mem_cons_self ..))))⟩⟩
   refine dnarrow_ok hDt q1 (by dsimp only;omega) (fun ro4 p4 hl4 hp4=>?_)
   rw [←i2] at hk
   repeat first|exact zE|refine zP ?_|refine zB fun b=>?_|refine zC fun a' c' hc1 hc2=>?_|(apply GJ.a;exact rfl;intro hg)|(apply GJ.o;exact rfl;intro hg)
   exact Wk.outS Sup.z (.refl _) (hk ro4 p4 ((hl2.trans hl3).trans hl4) hp4)
end
end Go.Proofs.YtficlekgjbnniaaGreatDoor
end
