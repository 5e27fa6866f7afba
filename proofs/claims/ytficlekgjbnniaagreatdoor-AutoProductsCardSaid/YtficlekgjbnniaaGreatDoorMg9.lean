/- Texts of a walk, one behind the other. -/
import Derived.Shelf.Sort.Plain
import Derived.Shelf.Slices.In.SortNone
import Derived.Ground.NamesProg
import Derived.Test.YtficlekgjbnniaaGreatDoorMg2
import Derived.Test.YtficlekgjbnniaaGreatDoorMg3
import Derived.Test.YtficlekgjbnniaaGreatDoorMg4
import Derived.Test.YtficlekgjbnniaaGreatDoorMg5
import Derived.Test.YtficlekgjbnniaaGreatDoorMg6
import Derived.Test.YtficlekgjbnniaaGreatDoorMg7
import Derived.Test.YtficlekgjbnniaaGreatDoorMg8
set_option linter.unusedVariables false
set_option linter.unusedSimpArgs false
set_option linter.unusedSectionVars false
set_option maxRecDepth 10000
section
namespace Go.Proofs.YtficlekgjbnniaaGreatDoor
open Go Go.E
mutual
theorem check_left:∀ (n:RgD) (M:Int),(checkD n M).1=0→0≤(checkD n M).2∧(checkD n M).2≤M-1
 | .mk k s l a b,M,h=>by
   rw [checkD] at h ⊢
   split at h
   ·cases h
   ·rename_i h1
    rw [if_neg h1]
    split at h
    ·rename_i h2;exact absurd h h2
    ·rename_i h2
     rw [if_neg h2]
     split at h
     ·rename_i h3;rw [if_pos h3];dsimp only;omega
     ·rename_i h3
      rw [if_neg h3]
      have:=checkK_left l (M-1) (by omega) h
      omega
theorem checkK_left:∀ (l:List RgD) (M:Int),0≤M→(checkK l M).1=0→0≤(checkK l M).2∧(checkK l M).2≤M
 | [],M,h0,h=>by rw [checkK];exact ⟨h0,Int.le_refl _⟩
 | x::r,M,h0,h=>by
   rw [checkK] at h ⊢
   split at h
   ·rename_i h1;exact absurd h h1
   ·rename_i h1
    rw [if_neg h1]
    have h2:=check_left x M (Decidable.of_not_not h1)
    have:=checkK_left r (checkD x M).2 h2.1 h
    omega
end
structure ChC (n:RgD):Prop where
 run:∀ {ro:Ro}{r:Chs}{K:Value→Ro→Chs→Prop}{p:Nat}{v:List Value}{M d:Int},RgOk ro n v→0≤M→M≤100000→0≤d→d+M≤512→K (.int .i64 ((checkD n M).1:Int)) ro (.blk p 3 [.int .i64 (checkD n M).2]::r) →
  CallOk Tryz.prog 69 #[.agg v.toArray,.int .i64 d,ptr' p] ro (.blk p 3 [.int .i64 M]::r) K
set_option maxHeartbeats 16000000 in
theorem chC:∀ n,ChC n:=RgD.ind fun k z l x y ih=>⟨fun {ro r K p v M d} hv hM hM2 hd hdm hk=>by
 rw [RgOk] at hv
 obtain ⟨ad,cp,cs,rfl,hs,hrs,hks⟩:=hv
 have hle:=hrs.le
 have hmx:=hrs.max
 unfold maxLen at hmx
 rw [checkD] at hk
 by_cases h0:M-1<0
 ·rw [if_pos h0] at hk
  refine CallOk.intro (args:=[_,_,_]) (rs:=[_]) T_ok Tryz.func69 Tryz.call69 rfl rfl (by kernel_rfl) rfl rfl ?_
  repeat first|exact zE|refine zP ?_|refine zB fun b=>?_|refine zC fun a' c' hc1 hc2=>?_|(apply GJ.a;exact rfl;intro hg)|(apply GJ.o;exact rfl;intro hg)
  exact Wk.outS Sup.z (.refl _) hk
 rw [if_neg h0] at hk
 have hformD:formD (.mk k z l x y)=(if k=1∨k=2 then (if l≠[] then 5 else if k=2∧z=zeroS then 160 else 0) else if k=3∨k=4 then (if l.length<2 then 5 else 0)
  else if k=5 then (if l.length≠1 then 5 else if x<0∨256<x∨256<y∨(0≤y∧y<x) then 1 else 0) else 5):=rfl
 have hbad:∀ e:Nat,formD (.mk k z l x y)=e→e≠0→K (.int .i64 (e:Int)) ro (.blk p 3 [.int .i64 (M-1)]::r):=fun e h1 h2=>by
  rw [h1,if_pos h2] at hk;exact hk
 have hgood:formD (.mk k z l x y)=0→K (.int .i64 ((checkK l (M-1)).1:Int)) ro (.blk p 3 [.int .i64 (checkK l (M-1)).2]::r):=fun h1=>by
  rw [h1,if_neg (by decide)] at hk
  by_cases h12:k=1∨k=2
  ·rw [if_pos h12] at hk
   have:l=[]:=by
    by_cases hl:l=[]
    ·exact hl
    ·rw [hformD,if_pos h12,if_pos hl] at h1;cases h1
   subst this
   rw [checkK];exact hk
  ·rw [if_neg h12] at hk;exact hk
 clear hk
 have hle0:l≠[]↔0<l.length:=List.length_pos_iff.symm
 by_cases h1:k=1
 ·subst h1
  rw [if_pos (.inl rfl)] at hformD
  by_cases hl0:l≠[]
  ·rw [if_pos hl0] at hformD
   have hk:=hbad _ hformD (by decide)
   have:=hle0.1 hl0
   refine CallOk.intro (args:=[_,_,_]) (rs:=[_]) T_ok Tryz.func69 Tryz.call69 rfl rfl (by kernel_rfl) rfl rfl ?_
   repeat first|exact zE|refine zP ?_|refine zB fun b=>?_|refine zC fun a' c' hc1 hc2=>?_|(apply GJ.a;exact rfl;intro hg)|(apply GJ.o;exact rfl;intro hg)
   exact Wk.outS Sup.z (.refl _) hk
  ·rw [if_neg hl0,if_neg (fun x=>absurd x.1 (by decide))] at hformD
   have hk:=hgood hformD
   have hl0:¬0<l.length:=fun h=>hl0 (hle0.2 h)
   refine CallOk.intro (args:=[_,_,_]) (rs:=[_]) T_ok Tryz.func69 Tryz.call69 rfl rfl (by kernel_rfl) rfl rfl ?_
   repeat first|exact zE|refine zP ?_|refine zB fun b=>?_|refine zC fun a' c' hc1 hc2=>?_|(apply GJ.a;exact rfl;intro hg)|(apply GJ.o;exact rfl;intro hg)
   refine LoopOk.at (ι:=Nat × Int) Keep.z (fun (i,Mi)=>[(75,.int .i64 (i:Int))]) (fun (i,Mi)=>.blk p 3 [.int .i64 Mi]::r) (fun (i,Mi)=>i≤l.length∧checkK l (M-1)=checkK (l.drop i) Mi) (fun (i,Mi)=>l.length-i) (0,M-1) ?_ Sub.z Sup.z ?_
   ·exact ⟨Nat.zero_le _,by simp⟩
   rintro ⟨i,Mi⟩ ⟨i1,i4⟩
   dsimp only [List.cons_append,List.nil_append] at i1 i4 ⊢
   obtain rfl:i=l.length:=by omega
   rw [List.drop_length,checkK] at i4
   rw [i4] at hk
   repeat first|exact zE|refine zP ?_|refine zB fun b=>?_|refine zC fun a' c' hc1 hc2=>?_|(apply GJ.a;exact rfl;intro hg)|(apply GJ.o;exact rfl;intro hg)
   exact Wk.outS Sup.z (.refl _) hk
 by_cases h2:k=2
 ·subst h2
  rw [if_pos (.inr rfl)] at hformD
  by_cases hl0:l≠[]
  ·rw [if_pos hl0] at hformD
   have hk:=hbad _ hformD (by decide)
   have:=hle0.1 hl0
   refine CallOk.intro (args:=[_,_,_]) (rs:=[_]) T_ok Tryz.func69 Tryz.call69 rfl rfl (by kernel_rfl) rfl rfl ?_
   repeat first|exact zE|refine zP ?_|refine zB fun b=>?_|refine zC fun a' c' hc1 hc2=>?_|(apply GJ.a;exact rfl;intro hg)|(apply GJ.o;exact rfl;intro hg)
   exact Wk.outS Sup.z (.refl _) hk
  ·rw [if_neg hl0] at hformD
   have hl0':¬0<l.length:=fun h=>hl0 (hle0.2 h)
   by_cases hz:z=zeroS
   ·rw [if_pos ⟨rfl,hz⟩] at hformD
    have hk:=hbad _ hformD (by decide)
    refine CallOk.intro (args:=[_,_,_]) (rs:=[_]) T_ok Tryz.func69 Tryz.call69 rfl rfl (by kernel_rfl) rfl rfl ?_
    repeat first|exact zE|refine zP ?_|refine zB fun b=>?_|refine zC fun a' c' hc1 hc2=>?_|(apply GJ.a;exact rfl;intro hg)|(apply GJ.o;exact rfl;intro hg)
    refine check_ok ?_
    rw [if_pos (show z=⟨0,0,0,0⟩ from hz)]
    repeat first|exact zE|refine zP ?_|refine zB fun b=>?_|refine zC fun a' c' hc1 hc2=>?_|(apply GJ.a;exact rfl;intro hg)|(apply GJ.o;exact rfl;intro hg)
    exact Wk.outS Sup.z (.refl _) hk
   ·rw [if_neg (fun x=>hz x.2)] at hformD
    have hk:=hgood hformD
    have hl0:=Decidable.of_not_not hl0
    rw [hl0,checkK] at hk
    refine CallOk.intro (args:=[_,_,_]) (rs:=[_]) T_ok Tryz.func69 Tryz.call69 rfl rfl (by kernel_rfl) rfl rfl ?_
    repeat first|exact zE|refine zP ?_|refine zB fun b=>?_|refine zC fun a' c' hc1 hc2=>?_|(apply GJ.a;exact rfl;intro hg)|(apply GJ.o;exact rfl;intro hg)
    refine check_ok ?_
    rw [if_neg (show ¬z=⟨0,0,0,0⟩ from hz)]
    repeat first|exact zE|refine zP ?_|refine zB fun b=>?_|refine zC fun a' c' hc1 hc2=>?_|(apply GJ.a;exact rfl;intro hg)|(apply GJ.o;exact rfl;intro hg)
    exact Wk.outS Sup.z (.refl _) hk
 rw [if_neg (by omega)] at hformD
 by_cases h34:k=3∨k=4
 ·rw [if_pos h34] at hformD
  by_cases hl2:l.length<2
  ·rw [if_pos hl2] at hformD
   have hk:=hbad _ hformD (by decide)
   rcases h34 with rfl|rfl
   all_goals
    refine CallOk.intro (args:=[_,_,_]) (rs:=[_]) T_ok Tryz.func69 Tryz.call69 rfl rfl (by kernel_rfl) rfl rfl ?_
    repeat first|exact zE|refine zP ?_|refine zB fun b=>?_|refine zC fun a' c' hc1 hc2=>?_|(apply GJ.a;exact rfl;intro hg)|(apply GJ.o;exact rfl;intro hg)
    exact Wk.outS Sup.z (.refl _) hk
  ·rw [if_neg hl2] at hformD
   have hk:=hgood hformD
   rcases h34 with rfl|rfl
   all_goals
    refine CallOk.intro (args:=[_,_,_]) (rs:=[_]) T_ok Tryz.func69 Tryz.call69 rfl rfl (by kernel_rfl) rfl rfl ?_
    repeat first|exact zE|refine zP ?_|refine zB fun b=>?_|refine zC fun a' c' hc1 hc2=>?_|(apply GJ.a;exact rfl;intro hg)|(apply GJ.o;exact rfl;intro hg)
    refine LoopOk.at (ι:=Nat × Int) Keep.z (fun (i,Mi)=>[(75,.int .i64 (i:Int))]) (fun (i,Mi)=>.blk p 3 [.int .i64 Mi]::r) (fun (i,Mi)=>i≤l.length∧0≤Mi∧Mi≤M-1∧checkK l (M-1)=checkK (l.drop i) Mi) (fun (i,Mi)=>l.length-i) (0,M-1) ?_ Sub.z Sup.z ?_
    ·exact ⟨Nat.zero_le _,by omega,Int.le_refl _,by simp⟩
    rintro ⟨i,Mi⟩ ⟨i1,i2,i3,i4⟩
    dsimp only [List.cons_append,List.nil_append] at i1 i2 i3 i4 ⊢
    by_cases hi:i<l.length
    ·obtain ⟨kd,hkd⟩:∃ kd,l[i]?=some kd:=⟨_,List.getElem?_eq_getElem hi⟩
     have hvv:=hks.get hkd
     obtain ⟨ak,ck,hvk⟩:=hvv.cells
     rw [hvk] at hvv
     have hdr:l.drop i=kd::l.drop (i+1):=by
      rw [List.drop_eq_getElem_cons hi]
      congr 1
      rw [List.getElem?_eq_getElem hi] at hkd
      exact Option.some.inj hkd
     rw [hdr,checkK] at i4
     have hleft:=check_left kd Mi
     repeat first|exact zE|refine zP ?_|refine zB fun b=>?_|refine zC fun a' c' hc1 hc2=>?_|(apply GJ.a;exact rfl;intro hg)|(apply GJ.o;exact rfl;intro hg)
     rw [Int.toNat_natCast]
     refine OpOk.loadRow rfl rfl (LdN.at hrs hvk) rfl ?_
     repeat first|exact zE|refine zP ?_|refine zB fun b=>?_|refine zC fun a' c' hc1 hc2=>?_|(apply GJ.a;exact rfl;intro hg)|(apply GJ.o;exact rfl;intro hg)
     refine CallOk.sup (own0:=.blk p 3 [.int .i64 Mi]::r) Sup.z ?_
     refine (ih kd (List.mem_of_getElem? hkd)).run hvv i2 (by omega) (by omega) (by omega) ?_
     generalize checkD kd Mi=R at i4 hleft ⊢
     obtain ⟨R1,R2⟩:=R
     dsimp only at i4 hleft ⊢
     by_cases hz:R1=0
     ·rw [if_neg (by omega)] at i4
      obtain ⟨h5,h6⟩:=hleft hz
      subst hz
      repeat first|exact zE|refine zP ?_|refine zB fun b=>?_|refine zC fun a' c' hc1 hc2=>?_|(apply GJ.a;exact rfl;intro hg)|(apply GJ.o;exact rfl;intro hg)
      refine Wk.id ⟨(i+1,R2),⟨rfl,?_⟩,?_,Sub.z,Sup.z⟩
      all_goals try dsimp only
      ·exact ⟨by omega,h5,by omega,i4⟩
      ·omega
     ·rw [if_pos hz] at i4
      rw [i4] at hk
      repeat first|exact zE|refine zP ?_|refine zB fun b=>?_|refine zC fun a' c' hc1 hc2=>?_|(apply GJ.a;exact rfl;intro hg)|(apply GJ.o;exact rfl;intro hg)
      exact Wk.outS Sup.z (.refl _) hk
    ·obtain rfl:i=l.length:=by omega
     rw [List.drop_length,checkK] at i4
     rw [i4] at hk
     repeat first|exact zE|refine zP ?_|refine zB fun b=>?_|refine zC fun a' c' hc1 hc2=>?_|(apply GJ.a;exact rfl;intro hg)|(apply GJ.o;exact rfl;intro hg)
     exact Wk.outS Sup.z (.refl _) hk
 rw [if_neg h34] at hformD
 by_cases h5:k=5
 ·subst h5
  rw [if_pos rfl] at hformD
  by_cases hl1:l.length≠1
  ·rw [if_pos hl1] at hformD
   have hk:=hbad _ hformD (by decide)
   refine CallOk.intro (args:=[_,_,_]) (rs:=[_]) T_ok Tryz.func69 Tryz.call69 rfl rfl (by kernel_rfl) rfl rfl ?_
   repeat first|exact zE|refine zP ?_|refine zB fun b=>?_|refine zC fun a' c' hc1 hc2=>?_|(apply GJ.a;exact rfl;intro hg)|(apply GJ.o;exact rfl;intro hg)
   exact Wk.outS Sup.z (.refl _) hk
  ·rw [if_neg hl1] at hformD
   by_cases hb:x<0∨256<x∨256<y∨(0≤y∧y<x)
   ·rw [if_pos hb] at hformD
    have hk:=hbad _ hformD (by decide)
    rcases hb with hb|hb|hb|hb
    all_goals
     refine CallOk.intro (args:=[_,_,_]) (rs:=[_]) T_ok Tryz.func69 Tryz.call69 rfl rfl (by kernel_rfl) rfl rfl ?_
     repeat first|exact zE|refine zP ?_|refine zB fun b=>?_|refine zC fun a' c' hc1 hc2=>?_|(apply GJ.a;exact rfl;intro hg)|(apply GJ.o;exact rfl;intro hg)
     exact Wk.outS Sup.z (.refl _) hk
   ·rw [if_neg hb] at hformD
    have hk:=hgood hformD
    refine CallOk.intro (args:=[_,_,_]) (rs:=[_]) T_ok Tryz.func69 Tryz.call69 rfl rfl (by kernel_rfl) rfl rfl ?_
    repeat first|exact zE|refine zP ?_|refine zB fun b=>?_|refine zC fun a' c' hc1 hc2=>?_|(apply GJ.a;exact rfl;intro hg)|(apply GJ.o;exact rfl;intro hg)
    refine LoopOk.at (ι:=Nat × Int) Keep.z (fun (i,Mi)=>[(75,.int .i64 (i:Int))]) (fun (i,Mi)=>.blk p 3 [.int .i64 Mi]::r) (fun (i,Mi)=>i≤l.length∧0≤Mi∧Mi≤M-1∧checkK l (M-1)=checkK (l.drop i) Mi) (fun (i,Mi)=>l.length-i) (0,M-1) ?_ Sub.z Sup.z ?_
    ·exact ⟨Nat.zero_le _,by omega,Int.le_refl _,by simp⟩
    rintro ⟨i,Mi⟩ ⟨i1,i2,i3,i4⟩
    dsimp only [List.cons_append,List.nil_append] at i1 i2 i3 i4 ⊢
    by_cases hi:i<l.length
    ·obtain ⟨kd,hkd⟩:∃ kd,l[i]?=some kd:=⟨_,List.getElem?_eq_getElem hi⟩
     have hvv:=hks.get hkd
     obtain ⟨ak,ck,hvk⟩:=hvv.cells
     rw [hvk] at hvv
     have hdr:l.drop i=kd::l.drop (i+1):=by
      rw [List.drop_eq_getElem_cons hi]
      congr 1
      rw [List.getElem?_eq_getElem hi] at hkd
      exact Option.some.inj hkd
     rw [hdr,checkK] at i4
     have hleft:=check_left kd Mi
     repeat first|exact zE|refine zP ?_|refine zB fun b=>?_|refine zC fun a' c' hc1 hc2=>?_|(apply GJ.a;exact rfl;intro hg)|(apply GJ.o;exact rfl;intro hg)
     rw [Int.toNat_natCast]
     refine OpOk.loadRow rfl rfl (LdN.at hrs hvk) rfl ?_
     repeat first|exact zE|refine zP ?_|refine zB fun b=>?_|refine zC fun a' c' hc1 hc2=>?_|(apply GJ.a;exact rfl;intro hg)|(apply GJ.o;exact rfl;intro hg)
     refine CallOk.sup (own0:=.blk p 3 [.int .i64 Mi]::r) Sup.z ?_
     refine (ih kd (List.mem_of_getElem? hkd)).run hvv i2 (by omega) (by omega) (by omega) ?_
     generalize checkD kd Mi=R at i4 hleft ⊢
     obtain ⟨R1,R2⟩:=R
     dsimp only at i4 hleft ⊢
     by_cases hz:R1=0
     ·rw [if_neg (by omega)] at i4
      obtain ⟨h5,h6⟩:=hleft hz
      subst hz
      repeat first|exact zE|refine zP ?_|refine zB fun b=>?_|refine zC fun a' c' hc1 hc2=>?_|(apply GJ.a;exact rfl;intro hg)|(apply GJ.o;exact rfl;intro hg)
      refine Wk.id ⟨(i+1,R2),⟨rfl,?_⟩,?_,Sub.z,Sup.z⟩
      all_goals try dsimp only
      ·exact ⟨by omega,h5,by omega,i4⟩
      ·omega
     ·rw [if_pos hz] at i4
      rw [i4] at hk
      repeat first|exact zE|refine zP ?_|refine zB fun b=>?_|refine zC fun a' c' hc1 hc2=>?_|(apply GJ.a;exact rfl;intro hg)|(apply GJ.o;exact rfl;intro hg)
      exact Wk.outS Sup.z (.refl _) hk
    ·obtain rfl:i=l.length:=by omega
     rw [List.drop_length,checkK] at i4
     rw [i4] at hk
     repeat first|exact zE|refine zP ?_|refine zB fun b=>?_|refine zC fun a' c' hc1 hc2=>?_|(apply GJ.a;exact rfl;intro hg)|(apply GJ.o;exact rfl;intro hg)
     exact Wk.outS Sup.z (.refl _) hk
 ·rw [if_neg h5] at hformD
  have hk:=hbad _ hformD (by decide)
  refine CallOk.intro (args:=[_,_,_]) (rs:=[_]) T_ok Tryz.func69 Tryz.call69 rfl rfl (by kernel_rfl) rfl rfl ?_
  repeat first|exact zE|refine zP ?_|refine zB fun b=>?_|refine zC fun a' c' hc1 hc2=>?_|(apply GJ.a;exact rfl;intro hg)|(apply GJ.o;exact rfl;intro hg)
  exact Wk.outS Sup.z (.refl _) hk⟩
section
variable {ro:Ro}{own r:Chs}{K:Value→Ro→Chs→Prop}{g:Chunk→Chs}
theorem rcheck_ok {n:RgD}{v:List Value} (hv:RgOk ro n v) (hk:K (.int .i64 ((checkD n 512).1:Int)) ro own):CallOk Tryz.prog 54 #[.agg v.toArray] ro own K:=by
 obtain ⟨a1,c1,hvc⟩:=hv.cells
 rw [hvc] at hv ⊢
 refine CallOk.intro (args:=[_]) (rs:=[_]) T_ok Tryz.func54 Tryz.call54 rfl rfl (by kernel_rfl) rfl rfl ?_
 repeat first|exact zE|refine zP ?_|refine zB fun b=>?_|refine zC fun a' c' hc1 hc2=>?_|(apply GJ.a;exact rfl;intro hg)|(apply GJ.o;exact rfl;intro hg)
 refine CallOk.sup (own0:=.blk b 3 [.int .i64 512]::own) Sup.z ?_
 refine (chC n).run hv (by decide) (by decide) (by decide) (by decide) ?_
 repeat first|exact zE|refine zP ?_|refine zB fun b=>?_|refine zC fun a' c' hc1 hc2=>?_|(apply GJ.a;exact rfl;intro hg)|(apply GJ.o;exact rfl;intro hg)
 exact Wk.outS Sup.z (.refl _) hk
end
end Go.Proofs.YtficlekgjbnniaaGreatDoor
end
section
namespace Go.E
open Go
theorem Sup.app {l l':Chs}:∀ (G:Chs),Sup l l'→Sup (G++l) l'
 | [],h=>h
 | c::G,h=>Sup.drop _ (Sup.app G h)
theorem Wk.freezeL {k:Kt}{env:Env}:∀ {l:Chs}{own rest:Chs}{ro:Ro},own.Perm (l++rest)→(∀ ro',Le ro ro'→(∀ c∈l,c.holds ro')→Wk k env ro' rest)→Wk k env ro own
 | [],ow,rest,ro,hp,h=>.perm hp (h ro (Le.refl _) (by simp))
 | c::l,ow,rest,ro,hp,h=>by
   refine .perm hp (.freeze (c:=c) (own':=l++rest) (.hit _ _) (fun r1 h1 h2=>?_))
   refine Wk.freezeL (.refl _) (fun r2 h3 h4=>h r2 (h1.trans h3) (fun d hd=>?_))
   simp at hd
   rcases hd with rfl|hd
   ·exact h2.le h3
   ·exact h4 d hd
end Go.E
namespace Go.Proofs.YtficlekgjbnniaaGreatDoor
open Go Go.E
structure RowsOk (ro:Ro) (R:RowsN) (hs:List Value):Prop where
 len:hs.length=R.length
 row:∀ (i:Nat) (row:List EdgeD),R[i]?=some row→∃ (ad:Option Addr) (cp:Nat),hs[i]?=some (Value.slice ad row.length cp)∧Rs ro ad row.length cp 6 (edgesV row)
def AutoOk (ro:Ro) (a:NfaD) (v:List Value):Prop :=
 ∃ (ad:Option Addr) (cp:Nat) (hs:List Value),v=[Value.slice ad a.rows.length cp,.int .i64 a.last]∧Rs ro ad a.rows.length cp 1 hs∧RowsOk ro a.rows hs
theorem AutoOk.nil (ro:Ro):AutoOk ro nilN [Value.slice none 0 0,.int .i64 0]:=⟨none,0,[],rfl,Rs.nil _ _,rfl,fun i row h=>by simp [nilN] at h⟩
theorem RowsOk.ofM {ro:Ro}{R:List RowM} (h:∀ c∈R.map rowC,c.holds ro):RowsOk ro (rowsOf R) (R.map hdrV) :=
 ⟨by simp [rowsOf],fun i row hr=>by
  unfold rowsOf at hr
  rw [List.getElem?_map] at hr
  cases hx:R[i]? with
  | none=>rw [hx] at hr;cases hr
  | some x =>
    rw [hx] at hr
    cases hr
    refine ⟨x.1.1,x.1.2,by rw [List.getElem?_map,hx];rfl,Rs.last (h _ (List.mem_map.2 ⟨x,List.mem_of_getElem? hx,rfl⟩))⟩⟩
theorem mk_rows (q:Nat) (a:Option Addr) (c:Nat) (e:Int) (full:Bool) (R:List RowM) (r:Chs):(mkC q a c e full R r).Perm ((.sl a R.length c 127 1 (R.map hdrV)::R.map rowC)++(.blk q 99 [.slice a R.length c,.int .i64 e,.bool full]::r)):=by
 unfold mkC
 refine (List.Perm.swap _ _ _).trans ?_
 rw [List.cons_append]
 refine List.Perm.cons _ ?_
 exact List.perm_middle.symm
mutual
theorem check_zero:∀ (n:RgD) (M:Int),(checkD n M).1=0→wrongD n=0∧(sizeD n:Int)≤M∧(checkD n M).2=M-sizeD n
 | .mk k s l a b,M,h=>by
   rw [checkD] at h ⊢
   split at h
   ·cases h
   rename_i h0
   rw [if_neg h0]
   split at h
   ·rename_i h1;exact absurd h h1
   rename_i h1
   rw [if_neg h1]
   have h1:formD (.mk k s l a b)=0:=by simpa using h1
   rw [wrongD,if_neg (by rw [h1];decide),sizeD]
   split at h
   ·rename_i h2
    rw [if_pos h2]
    have hl:l=[]:=by
     cases form_cases h1 with
     | none=>rfl
     | one=>rfl
     | cat=>exact absurd h2 (by decide)
     | alt=>exact absurd h2 (by decide)
     | rep=>exact absurd h2 (by decide)
    subst hl
    rw [wrongK,sizeK]
    exact ⟨rfl,by omega,by dsimp only;omega⟩
   ·rename_i h2
    rw [if_neg h2]
    obtain ⟨h3,h4,h5⟩:=checkK_zero l (M-1) (by omega) h
    exact ⟨h3,by omega,by omega⟩
theorem checkK_zero:∀ (l:List RgD) (M:Int),0≤M→(checkK l M).1=0→wrongK l=0∧(sizeK l:Int)≤M∧(checkK l M).2=M-sizeK l
 | [],M,hM,_=>by rw [checkK,wrongK,sizeK];exact ⟨rfl,by omega,by simp⟩
 | x::r,M,hM,h=>by
   rw [checkK] at h ⊢
   split at h
   ·rename_i h1;exact absurd h h1
   rename_i h1
   rw [if_neg h1]
   obtain ⟨h3,h4,h5⟩:=check_zero x M (by simpa using h1)
   obtain ⟨h6,h7,h8⟩:=checkK_zero r _ (by omega) h
   rw [wrongK,if_neg (by rw [h3];decide),sizeK]
   exact ⟨h6,by omega,by omega⟩
end
section
variable {ro:Ro}{own r:Chs}{K:Value→Ro→Chs→Prop}{g:Chunk→Chs}
theorem bud_st0 {n:RgD} (h:(checkD n 512).1=0):budN st0+4*sizeD n≤900000:=by
 have:=(check_zero n 512 h).2.1
 have h0:budN st0=4*4095:=by decide
 omega
set_option maxHeartbeats 4000000 in
theorem nmake_ok {n:RgD}{v:List Value} (hv:RgOk ro n v)
  (hk:∀ ro' v',Le ro ro'→AutoOk ro' (makeN n).2 v'→K (.tuple #[.agg v'.toArray,.int .i64 ((makeN n).1:Int)]) ro' own) :
  CallOk Tryz.prog 37 #[.agg v.toArray] ro own K:=by
 obtain ⟨a1,c1,hvc⟩:=hv.cells
 rw [hvc] at hv ⊢
 unfold makeN at hk
 refine CallOk.intro (args:=[_]) (rs:=[_,_]) T_ok Tryz.func37 Tryz.call37 rfl rfl (by kernel_rfl) rfl rfl ?_
 repeat first|exact zE|refine zP ?_|refine zB fun b=>?_|refine zC fun a' c' hc1 hc2=>?_|(apply GJ.a;exact rfl;intro hg)|(apply GJ.o;exact rfl;intro hg)
 obtain ⟨bX,hbX⟩:∃ z:Nat,z=b:=⟨_,rfl⟩
 subst hbX
 refine rcheck_ok hv ?_
 by_cases hc:(checkD n 512).1=0
 ·rw [if_neg (by rw [hc];decide)] at hk
  rw [hc]
  have hw:=(check_zero n 512 hc).1
  have hbs:=bud_st0 hc
  have m:=made_node n hw 0 st0 st0_ok (by decide)
  have e0:stateN (stM [] false)=(0,st0):=rfl
  repeat first|exact zE|refine zP ?_|refine zB fun b=>?_|refine zC fun a' c' hc1 hc2=>?_|(apply GJ.a;exact rfl;intro hg)|(apply GJ.o;exact rfl;intro hg)
  obtain ⟨bM,hbM⟩:∃ z:Nat,z=b:=⟨_,rfl⟩
  subst hbM
  obtain ⟨bN,hbN⟩:∃ z:Nat,z=b:=⟨_,rfl⟩
  refine CallOk.sup (own0:=.sl none 0 0 127 1 []::.blk bM 99 [.slice none 0 0,.int .i64 0,.bool false]::.blk bX 71 [.slice none 0 0,.int .i64 0]::.blk b 26 (nodeV n.kind n.set a1 n.kids.length c1 n.min n.max)::own) (Sup.nilc (Sup.all _)) ?_
  refine CallOk.perm (List.Perm.swap _ _ _) ?_
  refine nstate_ok (R:=[]) (full:=false) (a:=none) (c:=0) (e:=0) (r:=.blk bX 71 [.slice none 0 0,.int .i64 0]::.blk b 26 (nodeV n.kind n.set a1 n.kids.length c1 n.min n.max)::own) (by decide) (fun a2 c2 R2 h2=>?_)
  have e1:stateN ⟨rowsOf [],false⟩=(0,st0):=rfl
  rw [e1] at h2 ⊢
  have h2:stM R2 st0.full=st0:=stM_eq h2
  have f2:st0.full=false:=rfl
  rw [f2] at h2
  have l2:R2.length=st0.rows.length:=by rw [←h2,stM_len]
  rw [f2]
  dsimp only
  repeat first|exact zE|refine zP ?_|refine zB fun b=>?_|refine zC fun a' c' hc1 hc2=>?_|(apply GJ.a;exact rfl;intro hg)|(apply GJ.o;exact rfl;intro hg)
  refine (nodeC n).run hv hw (by rw [h2];exact st0_ok) (by rw [l2];decide) (.inr (by rw [h2];exact hbs)) (fun a3 c3 R3 h3=>?_)
  rw [h2] at h3 ⊢
  generalize nodeN n 0 st0=p at *
  obtain ⟨p1,p2,pf⟩:=p
  dsimp only at *
  cases pf with
  | true =>
    rw [if_pos rfl] at hk
    repeat first|exact zE|refine zP ?_|refine zB fun b=>?_|refine zC fun a' c' hc1 hc2=>?_|(apply GJ.a;exact rfl;intro hg)|(apply GJ.o;exact rfl;intro hg)
    exact Wk.outS (Sup.drop _ (Sup.drop _ (Sup.app _ (Sup.drop _ (Sup.drop _ (Sup.all _)))))) (.refl _) (hk ro _ (Le.refl _) (AutoOk.nil _))
  | false =>
    rw [if_neg (by decide)] at hk
    unfold mkC
    repeat first|exact zE|refine zP ?_|refine zB fun b=>?_|refine zC fun a' c' hc1 hc2=>?_|(apply GJ.a;exact rfl;intro hg)|(apply GJ.o;exact rfl;intro hg)
    refine Wk.freezeL (mk_rows _ _ _ _ _ _ _) (fun ro2 hl2 hc2=>?_)
    have hr2:=RowsOk.ofM (R:=R3) (fun c hc=>hc2 c (List.mem_cons_of_mem _ hc))
    have hs2:=Rs.last (hc2 _ (List.mem_cons_self ..))
    have e3:R3.length=p2.length:=by rw [←h3];simp [rowsOf]
    rw [h3] at hr2
    rw [e3] at hs2 ⊢
    exact Wk.outS Sup.z (.refl _) (hk ro2 _ hl2 ⟨_,_,_,rfl,hs2,hr2⟩)
 ·rw [if_pos hc] at hk
  repeat first|exact zE|refine zP ?_|refine zB fun b=>?_|refine zC fun a' c' hc1 hc2=>?_|(apply GJ.a;exact rfl;intro hg)|(apply GJ.o;exact rfl;intro hg)
  exact Wk.outS Sup.z (.refl _) (hk ro _ (Le.refl _) (AutoOk.nil _))
end
end Go.Proofs.YtficlekgjbnniaaGreatDoor
end
section
namespace Go.Proofs
open Go.Shelf
def Tryz.laysSort_ren:Go.Shelf.Ren:=⟨fun|189=>85|125=>90|257=>89|128=>102|129=>103|294=>93|295=>94|296=>95|297=>96|298=>97|299=>98|216=>99|300=>100|301=>101|328=>108|329=>109|330=>110|331=>111|332=>112|215=>113|343=>119|n=>n,fun|28=>59|3=>3|46=>77|0=>0|51=>150|53=>22|4=>4|183=>143|182=>142|131=>85|5=>5|9=>9|218=>153|222=>58|228=>165|229=>139|n=>n,fun n=>n⟩
theorem Tryz.laysSort:Go.Proofs.Lays.n189 Tryz.prog Tryz.laysSort_ren:={
 mixed:=by kernel_rfl
 f125:=Tryz.func90.trans (congrArg some (by kernel_rfl))
 f128:=Tryz.func102.trans (congrArg some (by kernel_rfl))
 f129:=Tryz.func103.trans (congrArg some (by kernel_rfl))
 f189:=Tryz.func85.trans (congrArg some (by kernel_rfl))
 f215:=Tryz.func113.trans (congrArg some (by kernel_rfl))
 f216:=Tryz.func99.trans (congrArg some (by kernel_rfl))
 f257:=Tryz.func89.trans (congrArg some (by kernel_rfl))
 f294:=Tryz.func93.trans (congrArg some (by kernel_rfl))
 f295:=Tryz.func94.trans (congrArg some (by kernel_rfl))
 f296:=Tryz.func95.trans (congrArg some (by kernel_rfl))
 f297:=Tryz.func96.trans (congrArg some (by kernel_rfl))
 f298:=Tryz.func97.trans (congrArg some (by kernel_rfl))
 f299:=Tryz.func98.trans (congrArg some (by kernel_rfl))
 f300:=Tryz.func100.trans (congrArg some (by kernel_rfl))
 f301:=Tryz.func101.trans (congrArg some (by kernel_rfl))
 f328:=Tryz.func108.trans (congrArg some (by kernel_rfl))
 f329:=Tryz.func109.trans (congrArg some (by kernel_rfl))
 f330:=Tryz.func110.trans (congrArg some (by kernel_rfl))
 f331:=Tryz.func111.trans (congrArg some (by kernel_rfl))
 f332:=Tryz.func112.trans (congrArg some (by kernel_rfl))
 f343:=Tryz.func119.trans (congrArg some (by kernel_rfl))
 t0:=Tryz.underlying0
 a0:=Tryz.isAgg0
 z0:=Tryz.sizeOf0
 v0:=Tryz.zeroValue0
 t3:=Tryz.underlying3
 a3:=Tryz.isAgg3
 z3:=Tryz.sizeOf3
 v3:=Tryz.zeroValue3
 t4:=Tryz.underlying4
 a4:=Tryz.isAgg4
 z4:=Tryz.sizeOf4
 v4:=Tryz.zeroValue4
 t5:=Tryz.underlying5
 a5:=Tryz.isAgg5
 z5:=Tryz.sizeOf5
 v5:=Tryz.zeroValue5
 t9:=Tryz.underlying9
 a9:=Tryz.isAgg9
 z9:=Tryz.sizeOf9
 v9:=Tryz.zeroValue9
 t28:=Tryz.underlying59
 a28:=Tryz.isAgg59
 z28:=Tryz.sizeOf59
 v28:=Tryz.zeroValue59
 t46:=Tryz.underlying77
 a46:=Tryz.isAgg77
 z46:=Tryz.sizeOf77
 v46:=Tryz.zeroValue77
 t51:=Tryz.underlying150
 a51:=Tryz.isAgg150
 z51:=Tryz.sizeOf150
 v51:=Tryz.zeroValue150
 t53:=Tryz.underlying22
 a53:=Tryz.isAgg22
 z53:=Tryz.sizeOf22
 v53:=Tryz.zeroValue22
 t131:=Tryz.underlying85
 a131:=Tryz.isAgg85
 z131:=Tryz.sizeOf85
 v131:=Tryz.zeroValue85
 t182:=Tryz.underlying142
 a182:=Tryz.isAgg142
 z182:=Tryz.sizeOf142
 v182:=Tryz.zeroValue142
 t183:=Tryz.underlying143
 a183:=Tryz.isAgg143
 z183:=Tryz.sizeOf143
 v183:=Tryz.zeroValue143
 t218:=Tryz.underlying153
 a218:=Tryz.isAgg153
 z218:=Tryz.sizeOf153
 v218:=Tryz.zeroValue153
 t222:=Tryz.underlying58
 a222:=Tryz.isAgg58
 z222:=Tryz.sizeOf58
 v222:=Tryz.zeroValue58
 t228:=Tryz.underlying165
 a228:=Tryz.isAgg165
 z228:=Tryz.sizeOf165
 v228:=Tryz.zeroValue165
 t229:=Tryz.underlying139
 a229:=Tryz.isAgg139
 z229:=Tryz.sizeOf139
 v229:=Tryz.zeroValue139 }
end Go.Proofs
namespace Go.Proofs.YtficlekgjbnniaaGreatDoor
open Go.Shelf Go.RowKit
open Go Go.E
theorem map_putCells {f:Int→Value} (l m:List Int) (sp:List Value) (h:m.length=l.length):Go.Sort.putCells f 0 m.toArray (l.map f++sp).toArray=(m.map f++sp).toArray:=by
 refine Array.ext_getElem? fun k=>?_
 unfold Go.Sort.putCells
 rw [Array.getElem?_mapIdx,List.getElem?_toArray,List.getElem?_toArray]
 by_cases hk:k<m.length
 ·rw [List.getElem?_append_left (by simp;omega),List.getElem?_append_left (by simpa using hk)]
  have hk2:k<l.length:=by omega
  simp [hk,hk2]
 ·rw [List.getElem?_append_right (by simp;omega),List.getElem?_append_right (by simp;omega)]
  simp only [List.length_map,h]
  cases sp[k-l.length]? with
  | none=>rfl
  | some v =>
    simp only [Option.map_some,List.size_toArray]
    rw [if_neg (by omega)]
theorem sortI_ok {ro:Ro}{own:Chs}{K:Value→Ro→Chs→Prop}{a:Option Addr}{c:Nat}{t:TypeId}{l:List Int} (hn:l.length≤1000000000)
  (hk:K (.tuple #[]) ro (.sl a l.length c t 1 ((l.mergeSort fun x y=>decide (x≤y)).map (Value.int .i64))::own)):CallOk Tryz.prog 85 #[.slice a l.length c] ro (.sl a l.length c t 1 (l.map (Value.int .i64))::own) K:=by
 have hsl:(l.mergeSort fun x y=>decide (x≤y)).length=l.length:=(List.mergeSort_perm _ _).length_eq
 refine ⟨fun w hs=>.inl ⟨Tryz.call85 _ _,?_⟩⟩
 obtain ⟨hc,_,_⟩:=hs.cons
 obtain ⟨h1,h2,h3,h4⟩:=hc
 rcases h4 with ⟨rfl,h5,_⟩|⟨b,sp,rfl,h5,h6⟩
 ·obtain rfl:=List.eq_nil_of_length_eq_zero h5
  have h:=Go.Proofs.Any.slices_Sort_int_none Tryz.laysSort none c w
  rw [show Tryz.laysSort_ren.f 189=85 by kernel_rfl] at h
  refine h.mono fun e w' ⟨he,hw⟩=>?_
  subst hw
  exact ⟨_,he,⟨rfl,rfl,rfl,rfl⟩,ro,_,Le.refl _,by simpa using hs,hk⟩
 ·have hrow:w.heap[b]?=some (.cells (l.map (Value.int .i64)++sp).toArray t (0,0)):=h5
  have hlt:b<w.heap.size:=(Array.getElem?_eq_some_iff.1 hrow).1
  have hH:Go.Sort.Holds (Value.int .i64) w b 0 l.toArray:=fun j hj=>by
   have hj2:j<l.length:=by simpa using hj
   refine ⟨?_,?_⟩
   ·rw [cell_eq]
    refine Row.cell (h:=w.heap) (t:=t) hrow ?_
    rw [Nat.zero_add,List.getElem?_append_left (by simpa using hj2)]
    simp [hj2]
   ·simp [World.frozen?,hrow]
  have h:=Go.Proofs.Any.slices_Sort_int Tryz.laysSort b 0 c l w hH hlt (by omega)
  rw [show Tryz.laysSort_ren.f 189=85 by kernel_rfl] at h
  refine h.mono fun e w' ⟨he,n,os,hw⟩=>?_
  have hnew:w'.heap=w.heap.modify b (Go.Sort.onCells (Go.Sort.putCells (Value.int .i64) 0 (l.mergeSort fun x y=>decide (x≤y)).toArray))++os:=by rw [hw];rfl
  have hsz:(w.heap.modify b (Go.Sort.onCells (Go.Sort.putCells (Value.int .i64) 0 (l.mergeSort fun x y=>decide (x≤y)).toArray))).size=w.heap.size:=by simp
  refine ⟨_,he,by rw [hw];exact ⟨rfl,rfl,rfl,rfl⟩,ro,_,Le.refl _,?_,hk⟩
  refine hs.put (fun k hk1 hk2=>?_) ⟨?_,h2,h3,.inr ⟨b,sp,rfl,?_,?_⟩⟩ (fun k hk=>.inl hk) (by simp [Chunk.fp])
  ·simp only [Chunk.fp,List.mem_singleton] at hk2
   rw [hnew,Array.getElem?_append_left (by rw [hsz];exact hk1),Array.getElem?_modify,if_neg (Ne.symm hk2)]
  ·simp [hsl]
  ·show w'.heap[b]?=_
   rw [hnew,Array.getElem?_append_left (by rw [hsz];exact hlt),Array.getElem?_modify,if_pos rfl,hrow]
   simp only [Option.map_some,Go.Sort.onCells]
   rw [map_putCells l _ sp hsl]
  ·simp only [List.length_map] at h6 ⊢;rw [hsl];exact h6
end Go.Proofs.YtficlekgjbnniaaGreatDoor
end
section
namespace Go.E
open Go
theorem Ld.slAt' {ro:Ro}{own:Chs}{a:Option Addr}{n c s:Nat}{t:TypeId}{cs:List Value}{f:Chunk→Chs}{o k:Nat}{v:Value} [hb:HasSl own a n c t s cs f] (ho:o=ao a+k) (hv:cs[k]?=some v):Ld ro own (ab a) o v:=by subst ho;exact Ld.hasSl hv
theorem OpOk.storeSlAt' {P:Program}{T:TT} [hT:TTab P T] {ty:TypeId}{env:Env}{ro:Ro}{own:Chs}{K:Value→Ro→Chs→Prop}{t:TypeId}{x y:Operand}{a:Option Addr}{o k:Nat}{v:Value}{n c s:Nat}{t0:TypeId}{cs:List Value}{f:Chunk→Chs} (hx:ev env x=some (.pointer (some ⟨ab a,o,none⟩))) (hy:ev env y=some v) (ht:cell1 T t=true) (h1:v.oneCell'=true)
  [hb:HasSl own a n c t0 s cs f] (ho:o=ao a+k) (hlt:k<cs.length) (hk:K undef ro (f (.sl a n c t0 s (cs.set k v)))):OpOk P (.store t x y) ty env ro own K:=by
 subst ho;exact OpOk.storeSl hx hy ht h1 hlt hk
theorem Sub2.weak {e e':Env}{t:Nat}{u:Value} (h:Sub2 e e') (hn:look e t=none):Sub2 e ((t,u)::e'):=fun x v hx=>by
 show (bif Nat.beq t x then some u else look e' x)=some v
 cases hb:Nat.beq t x with
 | false=>exact h x v hx
 | true=>rw [Nat.eq_of_beq_eq_true hb] at hn;rw [hn] at hx;cases hx
theorem Sub2.both {e e':Env}{t:Nat}{u:Value} (h:Sub2 e e'):Sub2 ((t,u)::e) ((t,u)::e'):=fun x v hx=>by
 change (bif Nat.beq t x then some u else look e x)=some v at hx
 show (bif Nat.beq t x then some u else look e' x)=some v
 cases hb:Nat.beq t x with
 | false=>rw [hb] at hx;exact h x v hx
 | true=>rw [hb] at hx;exact hx
def app2 (x y n m:Nat) (t:TypeId) (vs ws:List Value) (env:Env) (ro:Ro) (r:Chs):Kt:=fun env' ro' own'=>ro'=ro∧∃ (a:Option Addr) (c:Nat) (b:Option Addr) (d:Nat),(n≤c∧c≤maxLen)∧(m≤d∧d≤maxLen)∧Sub2 ((y,.slice b m d)::(x,.slice a n c)::env) env'∧Sup own' (.sl b m d t 1 ws::.sl a n c t 1 vs::r)
theorem app2.ok {P:Program}{T:TT}{all:List Oper}{B:Chs}{fo:Fo}{k:Kt}{env:Env}{ro:Ro}{own:Chs} (x y n m:Nat) (t:TypeId) (vs ws:List Value) (r:Chs)
  (h:vFo P T all B (app2 x y n m t vs ws env ro r) fo env ro own) (hk:∀ (a:Option Addr) (c:Nat) (b:Option Addr) (d:Nat),(n≤c∧c≤maxLen)→(m≤d∧d≤maxLen)→k ((y,.slice b m d)::(x,.slice a n c)::env) ro (.sl b m d t 1 ws::.sl a n c t 1 vs::r)):AllOk (fun Φ=>vFo P T all B Φ fo env ro own) k ro :=
 ⟨_,h,fun env' ro' own' _ ⟨e,a,c,b,d,h1,h2,h3,h4⟩=>⟨_,_,h3,h4,by rw [e];exact hk a c b d h1 h2⟩⟩
theorem vOne.at {P:Program}{T:TT}{all:List Oper}{i:Nat}{k:Kt}{env:Env}{ro:Ro}{own:Chs}{d:Option Nat}{op:Op}{ty:TypeId}{pos:String}{af:Array Edge} (hi:all[i]?=some ⟨d,op,ty,pos,af,none⟩) (h:vOp P T op ty d k env ro own):vOne P T all i k env ro own:=by
 unfold vOne;rw [hi];exact h
theorem vFo.cons {P:Program}{T:TT}{all:List Oper}{B:Chs}{Φ:Kt}{i:Nat}{s b:Fo}{env:Env}{ro:Ro}{own:Chs} (h1:vOne P T all i (fun env' ro' own'=>Stop (Sup own' B∧vFo P T all B Φ s env' ro' own')) env ro own) (h2:vFo P T all B Φ b env ro own):vFo P T all B Φ (.cons i s b) env ro own:=⟨h1,h2⟩
theorem vFo.nil {P:Program}{T:TT}{all:List Oper}{B:Chs}{Φ:Kt}{env:Env}{ro:Ro}{own:Chs}:vFo P T all B Φ .nil env ro own:=trivial
theorem vFo.stop {own B:Chs}{p:Prop} (h1:Sup own B) (h2:p):Stop (Sup own B∧p):=⟨⟨h1,h2⟩⟩
theorem vFo.leaf {P:Program}{T:TT}{all:List Oper}{B:Chs}{Φ:Kt}{env:Env}{ro:Ro}{own:Chs} (h:Φ env ro own):vFo P T all B Φ .leaf env ro own:=h
end Go.E
namespace Go.Proofs.YtficlekgjbnniaaGreatDoor
open Go Go.E
def boolsV (l:List Bool):List Value:=l.map fun z=>.bool z
def natsV (l:List Nat):List Value:=l.map fun (z:Nat)=>.int .i64 (z:Int)
theorem natsV_one (l:List Nat):∀ u∈natsV l,u.oneCell'=true:=fun u hu=>by obtain ⟨c,_,rfl⟩:=List.mem_map.1 hu;rfl
theorem natsV_len (l:List Nat):(natsV l).length=l.length:=by simp [natsV]
theorem boolsV_len (l:List Bool):(boolsV l).length=l.length:=by simp [boolsV]
theorem boolsV_set (o:List Bool) (k:Nat) (b:Bool):(boolsV o).set k (.bool b)=boolsV (o.set k b):=by simp [boolsV,List.map_set]
theorem count_set:∀ (o:List Bool) (k:Nat),o[k]?=some false→(o.set k true).count false+1=o.count false
 | [],k,h=>by simp at h
 | x::o,0,h=>by simp at h;subst h;simp
 | x::o,k+1,h=>by
   have:=count_set o k (by simpa using h)
   rw [List.set_cons_succ,List.count_cons,List.count_cons];omega
theorem mark_get {o:List Bool}{k:Nat} (hk:k<o.length) (i:Nat):(o.set k true)[i]?=some true↔i=k∨o[i]?=some true:=by
 by_cases e:k=i
 ·subst e;simp [hk]
 ·rw [List.getElem?_set_ne e]
  exact ⟨.inr,fun h=>h.resolve_left (fun e2=>e e2.symm)⟩
structure Seen (rows:RowsN) (list:List Int) (o:List Bool) (out w:List Nat):Prop where
 len:o.length=rows.length
 mem:∀ i:Nat,o[i]?=some true↔i∈out
 rch:∀ i∈out,Rch rows list i
 nd:out.Nodup
 work:∀ i∈w,i∈out
 cnt:out.length+o.count false=rows.length
def ShutN (rows:RowsN) (out:List Nat) (ex:Nat→Prop):Prop:=∀ i∈out,¬ex i→∀ j∈freeTo rows i,j∈out
theorem Seen.init (rows:RowsN) (list:List Int):Seen rows list (List.replicate rows.length false) [] [] where
 len:=by simp
 mem i:=by simp [List.getElem?_replicate]
 rch i hi:=by simp at hi
 nd:=List.nodup_nil
 work i hi:=by simp at hi
 cnt:=by simp
theorem Seen.push {rows:RowsN}{list:List Int}{o:List Bool}{out w:List Nat}{k:Nat} (h:Seen rows list o out w) (hk:o[k]?=some false) (hr:Rch rows list k):Seen rows list (o.set k true) (out++[k]) (w++[k]) where
 len:=by simp [h.len]
 mem i:=by
  have hl:k<o.length:=(List.getElem?_eq_some_iff.1 hk).1
  rw [mark_get hl,h.mem,List.mem_append,List.mem_singleton]
  exact ⟨fun h=>h.symm,fun h=>h.symm⟩
 rch i hi:=by
  rcases List.mem_append.1 hi with hi|hi
  ·exact h.rch i hi
  ·simp only [List.mem_singleton] at hi;subst hi;exact hr
 nd:=by
  rw [List.nodup_append]
  refine ⟨h.nd,(by simp),fun x hx y hy e=>?_⟩
  simp only [List.mem_singleton] at hy
  subst hy;subst e
  have:=(h.mem x).2 hx
  rw [hk] at this;cases this
 work i hi:=by
  rw [List.mem_append] at hi ⊢
  exact hi.imp (h.work i) id
 cnt:=by
  have h1:=count_set o k hk
  have h2:=h.cnt
  simp only [List.length_append,List.length_singleton];omega
theorem ShutN.push {rows:RowsN}{out w:List Nat}{k i:Nat} (h:ShutN rows out (fun z=>z∈w∨z=i)):ShutN rows (out++[k]) (fun z=>z∈w++[k]∨z=i):=by
 intro z hz hne y hy
 have hne:¬((z∈w∨z=k)∨z=i):=by
  have:=hne
  dsimp only at this
  rwa [List.mem_append,List.mem_singleton] at this
 rcases List.mem_append.1 hz with hz|hz
 ·exact List.mem_append.2 (.inl (h z hz (fun e=>hne (e.imp .inl id)) y hy))
 ·simp only [List.mem_singleton] at hz
  exact absurd (.inl (.inr hz)) hne
theorem Seen.all {rows:RowsN}{list:List Int}{o:List Bool}{out l:List Nat} (ht:ToIn rows) (h:Seen rows list o out []) (hs:ShutN rows out (fun z=>z∈([]:List Nat))) (hb:∀ z:Nat,(z:Int)∈list→z<rows.length→z∈out) (hp:l.Perm out) (hl:l.Pairwise (·≤·)):l=reachN rows list:=by
 have hnd:l.Nodup:=hp.symm.nodup h.nd
 refine sorted_ext ?_ (reach_sorted _ _) (fun x=>?_)
 ·refine (hl.and hnd).imp ?_
  intro a b hab
  omega
 ·rw [hp.mem_iff,reach_iff ht]
  refine ⟨h.rch x,fun hr=>?_⟩
  induction hr with
  | base h1 h2=>exact hb _ h1 h2
  | step h1 h2 ih=>exact hs _ ih (by simp) _ h2
section
variable {ro:Ro}{own r:Chs}{K:Value→Ro→Chs→Prop}{g:Chunk→Chs}
theorem cloneI_ok {a:Option Addr}{l:List Nat}{n c:Nat} (hc1:n≤c) (hc2:c≤maxLen) (hl:l.length=n) (hb:n≤65536)
  (hk:∀ a' c',n≤c'→c'≤maxLen→K (.slice a' n c') ro (.sl a' n c' 3 1 (natsV l)::.sl a n c 3 1 (natsV l)::own)) :
  CallOk Tryz.prog 84 #[.slice a n c] ro (.sl a n c 3 1 (natsV l)::own) K:=by
 have hm:=hc2
 unfold maxLen at hm
 refine CallOk.intro (args:=[_]) (rs:=[_]) T_ok Tryz.func84 Tryz.call84 rfl rfl (by kernel_rfl) rfl rfl ?_
 cases a with
 | none =>
   repeat first|exact zE|refine zP ?_|refine zB fun b=>?_|refine zC fun a' c' hc1 hc2=>?_|(apply GJ.a;exact rfl;intro hg)|(apply GJ.o;exact rfl;intro hg)
   refine Wk.know (n=0) (fun h hs=>Decidable.byContradiction fun hn=>by
    obtain ⟨b,hb⟩:=Sat.slSome (Take.hit _ _) hs hn
    cases hb) (fun hn=>?_)
   subst hn
   obtain rfl:=List.eq_nil_of_length_eq_zero hl
   exact Wk.own _ (Sup.nilc (Sup.all _)) (Wk.id (hk none 0 (Nat.le_refl _) (Nat.zero_le _)))
 | some z =>
   repeat first|exact zE|refine zP ?_|refine zB fun b=>?_|refine zC fun a' c' hc1 hc2=>?_|(apply GJ.a;exact rfl;intro hg)|(apply GJ.o;exact rfl;intro hg)
   rw [show (some z).isNone=false from rfl]
   repeat first|exact zE|refine zP ?_|refine zB fun b=>?_|refine zC fun a' c' hc1 hc2=>?_|(apply GJ.a;exact rfl;intro hg)|(apply GJ.o;exact rfl;intro hg)
   refine OpOk.appendE (m:=n) (ys:=natsV l) rfl rfl rfl rfl (Rds.hasSl hc1 hc2 (by simp [natsV,hl])) (natsV_one l) (by omega) (fun a' c' h3 h4=>?_)
   repeat first|exact zE|refine zP ?_|refine zB fun b=>?_|refine zC fun a' c' hc1 hc2=>?_|(apply GJ.a;exact rfl;intro hg)|(apply GJ.o;exact rfl;intro hg)
   exact Wk.id (hk a' c' h3 h4)
theorem sortN_ok {a:Option Addr}{c n:Nat}{l:List Nat} (hl:l.length=n) (hn:n≤65536)
  (hk:∀ l2:List Nat,l2.Perm l→l2.Pairwise (·≤·)→K (.tuple #[]) ro (.sl a n c 3 1 (natsV l2)::own)):CallOk Tryz.prog 85 #[.slice a n c] ro (.sl a n c 3 1 (natsV l)::own) K:=by
 subst hl
 have h:=@sortI_ok ro own K a c 3 (intsN l) (by simp [intsN];omega)
 have e1:(intsN l).length=l.length:=by simp [intsN]
 have e2:(intsN l).map (Value.int .i64)=natsV l:=by unfold intsN natsV;rw [List.map_map];rfl
 rw [e1,e2] at h
 refine h ?_
 have hp:=List.mergeSort_perm (intsN l) (fun x y=>decide (x≤y))
 have hs:=List.pairwise_mergeSort (le:=fun (x y:Int)=>decide (x≤y)) (fun a b c h1 h2=>by simp at *;omega) (fun a b=>by simp;omega) (intsN l)
 generalize (intsN l).mergeSort (fun x y=>decide (x≤y))=m at *
 obtain ⟨l2,hm⟩:∃ l2:List Nat,m=intsN l2:=by
  refine ⟨m.map Int.toNat,?_⟩
  unfold intsN
  rw [List.map_map]
  refine ((List.map_congr_left (g:=id) (fun x hx=>?_)).trans (List.map_id m)).symm
  obtain ⟨y,hy,rfl⟩:=List.mem_map.1 (hp.mem_iff.1 hx)
  rfl
 subst hm
 have e3:(intsN l2).map (Value.int .i64)=natsV l2:=by unfold intsN natsV;rw [List.map_map];rfl
 rw [e3]
 refine hk l2 ?_ ?_
 ·have:=hp.map Int.toNat
  unfold intsN at this
  rw [List.map_map,List.map_map] at this
  simpa [Function.comp_def] using this
 ·unfold intsN at hs
  rw [List.pairwise_map] at hs
  exact hs.imp (fun {a b} h=>by simpa using h)
end
def BaseN (rows:RowsN) (l:List Int) (out:List Nat):Prop:=∀ z:Nat,(z:Int)∈l→z<rows.length→z∈out
theorem BaseN.snoc {rows:RowsN}{list:List Int}{i:Nat}{z:Int}{out:List Nat} (hz:list[i]?=some z) (h:BaseN rows (list.take i) out) (h2:∀ k:Nat,z=(k:Int)→k<rows.length→k∈out):BaseN rows (list.take (i+1)) out:=by
 intro k hk hl
 rw [List.take_add_one,hz] at hk
 rcases List.mem_append.1 hk with hk|hk
 ·exact h k hk hl
 ·simp at hk
  exact h2 k hk.symm hl
theorem BaseN.up {rows:RowsN}{l:List Int}{out out':List Nat} (h:BaseN rows l out) (hs:∀ x∈out,x∈out'):BaseN rows l out':=fun z h1 h2=>hs z (h z h1 h2)
section
variable {ro:Ro}{own r:Chs}{K:Value→Ro→Chs→Prop}{g:Chunk→Chs}
set_option maxHeartbeats 4000000 in
theorem nreach_ok {a:NfaD}{v:List Value}{list:List Int}{al:Option Addr}{nl cl:Nat} (hv:AutoOk ro a v) (ha:NfaOk a) (hr:Rds ro own al nl cl 1 (list.map (Value.int .i64))) (hnl:list.length=nl)
  (hk:∀ a' c',(reachN a.rows list).length≤c'→c'≤maxLen→K (.slice a' (reachN a.rows list).length c') ro (.sl a' (reachN a.rows list).length c' 3 1 (natsV (reachN a.rows list))::own)) :
  CallOk Tryz.prog 77 #[.agg v.toArray,.slice al nl cl] ro own K:=by
 obtain ⟨ad,cp,hs,rfl,hrs,hrw⟩:=hv
 have hle:=ha.le
 have hto:=ha.to
 have hmx:=hr.max
 have hncl:=hr.le
 have hmr:=hrs.max
 have hncr:=hrs.le
 unfold maxLen at hmx hmr
 subst hnl
 refine CallOk.intro (args:=[_,_]) (rs:=[_]) T_ok Tryz.func77 Tryz.call77 rfl rfl (by kernel_rfl) rfl rfl ?_
 repeat first|exact zE|refine zP ?_|refine zB fun b=>?_|refine zC fun a' c' hc1 hc2=>?_|(apply GJ.a;exact rfl;intro hg)|(apply GJ.o;exact rfl;intro hg)
 rename_i b1
 obtain ⟨bO,hbO⟩:∃ z:Nat,z=b:=⟨_,rfl⟩
 subst hbO
 rw [Int.toNat_natCast,show List.replicate a.rows.length (Value.bool false)=boolsV (List.replicate a.rows.length false) by simp [boolsV]]
 refine LoopOk.at (ι:=Nat × List Bool × List Nat × Option Addr × Nat) Keep.z (fun (i,o,w,aw,cw)=>[(19,.int .i64 (i:Int)),(6,.slice aw w.length cw)]) (fun (i,o,w,aw,cw)=>.sl aw w.length cw 3 1 (natsV w)::.sl (some ⟨bO,0,none⟩) a.rows.length a.rows.length 4 1 (boolsV o)::.blk b1 71 [.slice ad a.rows.length cp,.int .i64 a.last]::own) (fun (i,o,w,aw,cw)=>i≤list.length∧Seen a.rows list o w w∧BaseN a.rows (list.take i) w∧w.length≤cw∧cw≤maxLen) (fun (i,o,w,aw,cw)=>list.length-i) (0,List.replicate a.rows.length false,[],none,0) ?_ Sub.z Sup.z ?_
 ·exact ⟨Nat.zero_le _,Seen.init _ _,(fun z hz=>by simp at hz),Nat.le_refl _,Nat.zero_le _⟩
 rintro ⟨i,o,w,aw,cw⟩ ⟨i1,i2,i3,i4,i5⟩
 dsimp only [List.cons_append,List.nil_append] at i1 i2 i3 i4 i5 ⊢
 have hcnt:=i2.cnt
 have hO:=(boolsV_len o).trans i2.len
 have hW:=natsV_len w
 by_cases hi:i<list.length
 ·obtain ⟨z,hz⟩:∃ z,list[i]?=some z:=⟨_,List.getElem?_eq_getElem hi⟩
  have hgz:(list.map (Value.int .i64))[i]?=some (.int .i64 z):=by simp [hz]
  have hzb:list[((i:Nat):Int).toNat]! = z:=by rw [Int.toNat_natCast,List.getElem!_eq_getElem?_getD,hz];rfl
  by_cases hz0:z<0
  ·repeat first|exact zE|refine zP ?_|refine zB fun b=>?_|refine zC fun a' c' hc1 hc2=>?_|(apply GJ.a;exact rfl;intro hg)|(apply GJ.o;exact rfl;intro hg)
   repeat first|exact zE|refine zP ?_|refine zB fun b=>?_|refine zC fun a' c' hc1 hc2=>?_|(apply GJ.a;exact rfl;intro hg)|(apply GJ.o;exact rfl;intro hg)
   refine Wk.id ⟨(i+1,o,w,aw,cw),⟨rfl,?_⟩,?_,Sub.z,Sup.z⟩
   all_goals try dsimp only
   ·exact ⟨by omega,i2,i3.snoc hz (fun k e=>by omega),i4,i5⟩
   ·omega
  ·obtain ⟨k,rfl⟩:∃ k:Nat,z=(k:Int):=⟨z.toNat,by omega⟩
   by_cases hkn:¬k<a.rows.length
   ·repeat first|exact zE|refine zP ?_|refine zB fun b=>?_|refine zC fun a' c' hc1 hc2=>?_|(apply GJ.a;exact rfl;intro hg)|(apply GJ.o;exact rfl;intro hg)
    repeat first|exact zE|refine zP ?_|refine zB fun b=>?_|refine zC fun a' c' hc1 hc2=>?_|(apply GJ.a;exact rfl;intro hg)|(apply GJ.o;exact rfl;intro hg)
    refine Wk.id ⟨(i+1,o,w,aw,cw),⟨rfl,?_⟩,?_,Sub.z,Sup.z⟩
    all_goals try dsimp only
    ·exact ⟨by omega,i2,i3.snoc hz (fun k2 e h=>by omega),i4,i5⟩
    ·omega
   have hkn:=Decidable.of_not_not hkn
   obtain ⟨q,hq⟩:∃ q,o[k]?=some q:=⟨_,List.getElem?_eq_getElem (by rw [i2.len];exact hkn)⟩
   have hgq:(boolsV o)[k]?=some (.bool q):=by simp [boolsV,hq]
   cases q with
   | true =>
     repeat first|exact zE|refine zP ?_|refine zB fun b=>?_|refine zC fun a' c' hc1 hc2=>?_|(apply GJ.a;exact rfl;intro hg)|(apply GJ.o;exact rfl;intro hg)
     refine OpOk.load rfl rfl (Ld.slAt' (k:=k) (by rw [hzb];rfl) hgq) ?_
     repeat first|exact zE|refine zP ?_|refine zB fun b=>?_|refine zC fun a' c' hc1 hc2=>?_|(apply GJ.a;exact rfl;intro hg)|(apply GJ.o;exact rfl;intro hg)
     repeat first|exact zE|refine zP ?_|refine zB fun b=>?_|refine zC fun a' c' hc1 hc2=>?_|(apply GJ.a;exact rfl;intro hg)|(apply GJ.o;exact rfl;intro hg)
     refine Wk.id ⟨(i+1,o,w,aw,cw),⟨rfl,?_⟩,?_,Sub.z,Sup.z⟩
     all_goals try dsimp only
     ·exact ⟨by omega,i2,i3.snoc hz (fun k2 e h=>by rw [←Int.ofNat.inj e];exact (i2.mem k).1 hq),i4,i5⟩
     ·omega
   | false =>
     have hpu:=i2.push hq (.base (List.mem_of_getElem? hz) hkn)
     repeat first|exact zE|refine zP ?_|refine zB fun b=>?_|refine zC fun a' c' hc1 hc2=>?_|(apply GJ.a;exact rfl;intro hg)|(apply GJ.o;exact rfl;intro hg)
     refine OpOk.load rfl rfl (Ld.slAt' (k:=k) (by rw [hzb];rfl) hgq) ?_
     repeat first|exact zE|refine zP ?_|refine zB fun b=>?_|refine zC fun a' c' hc1 hc2=>?_|(apply GJ.a;exact rfl;intro hg)|(apply GJ.o;exact rfl;intro hg)
     refine OpOk.storeSlAt' (k:=k) rfl rfl rfl rfl (by rw [hzb];rfl) (by rw [hO];exact hkn) ?_
     rw [boolsV_set]
     repeat first|exact zE|refine zP ?_|refine zB fun b=>?_|refine zC fun a' c' hc1 hc2=>?_|(apply GJ.a;exact rfl;intro hg)|(apply GJ.o;exact rfl;intro hg)
     rw [hzb,show natsV w++[Value.int .i64 (k:Int)]=natsV (w++[k]) by simp [natsV],show w.length+1=(w++[k]).length by simp]
     rw [show w.length+1=(w++[k]).length by simp] at hc1
     repeat first|exact zE|refine zP ?_|refine zB fun b=>?_|refine zC fun a' c' hc1 hc2=>?_|(apply GJ.a;exact rfl;intro hg)|(apply GJ.o;exact rfl;intro hg)
     refine Wk.id ⟨(i+1,o.set k true,w++[k],a',c'),⟨rfl,?_⟩,?_,Sub.z,Sup.z⟩
     all_goals try dsimp only
     ·exact ⟨by omega,hpu,(i3.up (fun x h=>List.mem_append.2 (.inl h))).snoc hz (fun k2 e h=>by rw [←Int.ofNat.inj e];simp),hc1,hc2⟩
     ·omega
 ·obtain rfl:i=list.length:=by omega
  rw [List.take_length] at i3
  repeat first|exact zE|refine zP ?_|refine zB fun b=>?_|refine zC fun a' c' hc1 hc2=>?_|(apply GJ.a;exact rfl;intro hg)|(apply GJ.o;exact rfl;intro hg)
  refine cloneI_ok i4 i5 rfl (by omega) (fun a0 c0 hc1 hc2=>?_)
  repeat first|exact zE|refine zP ?_|refine zB fun b=>?_|refine zC fun a' c' hc1 hc2=>?_|(apply GJ.a;exact rfl;intro hg)|(apply GJ.o;exact rfl;intro hg)
  refine LoopOk.at (ι:=List Bool × (List Nat × Option Addr × Nat) × (List Nat × Option Addr × Nat)) Keep.z (fun (o,(w,aw,cw),(out,ao,co))=>[(6,.slice aw w.length cw),(9,.slice ao out.length co)]) (fun (o,(w,aw,cw),(out,ao,co))=>.sl ao out.length co 3 1 (natsV out)::.sl aw w.length cw 3 1 (natsV w)::.sl (some ⟨bO,0,none⟩) a.rows.length a.rows.length 4 1 (boolsV o)::.blk b1 71 [.slice ad a.rows.length cp,.int .i64 a.last]::own) (fun (o,(w,aw,cw),(out,ao,co))=>Seen a.rows list o out w∧ShutN a.rows out (fun z=>z∈w)∧BaseN a.rows list out∧(w.length≤cw∧cw≤maxLen)∧(out.length≤co∧co≤maxLen)∧w.length+o.count false≤a.rows.length) (fun (o,(w,aw,cw),(out,ao,co))=>w.length+o.count false) (o,(w,aw,cw),(w,a0,c0)) ?_ Sub.z Sup.z ?_
  ·exact ⟨i2,(fun x hx h=>absurd hx h),i3,⟨i4,i5⟩,⟨hc1,hc2⟩,by omega⟩
  clear i2 i3 i4 i5 hc1 hc2 hcnt hO hW
  rintro ⟨o,⟨w,aw,cw⟩,⟨out,ao,co⟩⟩ ⟨i1,i2,i3,i4,i5,i6⟩
  dsimp only [List.cons_append,List.nil_append] at i1 i2 i3 i4 i5 i6 ⊢
  repeat first|exact zE|refine zP ?_|refine zB fun b=>?_|refine zC fun a' c' hc1 hc2=>?_|(apply GJ.a;exact rfl;intro hg)|(apply GJ.o;exact rfl;intro hg)
  refine Br.cases (fun hg=>?_) (fun hg=>?_)
  ·obtain ⟨w,i,rfl⟩:∃ w' i,w=w'++[i]:=⟨w.dropLast,w.getLast (by intro e;subst e;simp at hg),(List.dropLast_concat_getLast _).symm⟩
   rw [List.length_append,List.length_singleton] at i4 i6 hg ⊢
   have hL:(natsV (w++[i])).length=(w.length+1)*1:=by simp [natsV]
   have hgi:(natsV (w++[i]))[w.length]?=some (.int .i64 (i:Int)):=by simp [natsV]
   have hsh:(natsV (w++[i])).take (w.length*1)=natsV w:=by
    rw [Nat.mul_one]
    simp only [natsV,List.map_append]
    rw [List.take_left' (List.length_map _)]
   have hio:=i1.work i (by simp)
   have hiR:=rch_lt hto (i1.rch i hio)
   obtain ⟨row,hrow⟩:∃ row,a.rows[i]?=some row:=⟨_,List.getElem?_eq_getElem hiR⟩
   obtain ⟨ar,cr,hhs,hrr⟩:=hrw.row i row hrow
   repeat first|exact zE|refine zP ?_|refine zB fun b=>?_|refine zC fun a' c' hc1 hc2=>?_|(apply GJ.a;exact rfl;intro hg)|(apply GJ.o;exact rfl;intro hg)
   refine OpOk.load rfl rfl (Ld.slAt' (k:=w.length) (by congr 1;omega) hgi) ?_
   repeat first|exact zE|refine zP ?_|refine zB fun b=>?_|refine zC fun a' c' hc1 hc2=>?_|(apply GJ.a;exact rfl;intro hg)|(apply GJ.o;exact rfl;intro hg)
   rw [Int.toNat_natCast]
   refine OpOk.shrink (a:=aw) (m:=w.length) (Nat.le_succ _) ?_
   rw [hsh]
   refine OpOk.load rfl rfl (Ld.rs hrs hhs) ?_
   repeat first|exact zE|refine zP ?_|refine zB fun b=>?_|refine zC fun a' c' hc1 hc2=>?_|(apply GJ.a;exact rfl;intro hg)|(apply GJ.o;exact rfl;intro hg)
   have hc0:∀ s,cutA aw (Int.toNat 0) cw s=aw:=fun s=>cutA_zero aw cw s
   rw [hc0,show (((w.length+1:Nat):Int)-1).toNat-Int.toNat 0=w.length by omega,show cw-Int.toNat 0=cw from rfl]
   obtain ⟨M,hM⟩:∃ M,M=w.length+o.count false:=⟨_,rfl⟩
   have hfr:∀ x∈row,x.free=true→Rch a.rows list x.to:=fun x h1 h2=>.step (i1.rch i hio) (by unfold freeTo;rw [hrow];exact List.mem_map.2 ⟨x,List.mem_filter.2 ⟨h1,h2⟩,rfl⟩)
   have hrl:=hrr.le
   have hrm:=hrr.max
   unfold maxLen at hrm
   refine LoopOk.at (ι:=Nat × List Bool × (List Nat × Option Addr × Nat) × (List Nat × Option Addr × Nat)) Keep.z (fun (j,o,(w,aw,cw),(out,ao,co))=>[(68,.int .i64 (j:Int)),(6,.slice aw w.length cw),(9,.slice ao out.length co)]) (fun (j,o,(w,aw,cw),(out,ao,co))=>.sl ao out.length co 3 1 (natsV out)::.sl aw w.length cw 3 1 (natsV w)::.sl (some ⟨bO,0,none⟩) a.rows.length a.rows.length 4 1 (boolsV o)::.blk b1 71 [.slice ad a.rows.length cp,.int .i64 a.last]::own) (fun (j,o,(w,aw,cw),(out,ao,co))=>j≤row.length∧Seen a.rows list o out w∧ShutN a.rows out (fun z=>z∈w∨z=i)∧BaseN a.rows list out∧(∀ x∈row.take j,x.free=true→x.to∈out)∧(w.length≤cw∧cw≤maxLen)∧(out.length≤co∧co≤maxLen)∧w.length+o.count false≤M∧i∈out) (fun (j,o,(w,aw,cw),(out,ao,co))=>row.length-j) (0,o,(w,aw,cw),(out,ao,co)) ?_ Sub.z Sup.z ?_
   ·exact ⟨Nat.zero_le _,⟨i1.len,i1.mem,i1.rch,i1.nd,fun z h=>i1.work z (by simp [h]),i1.cnt⟩,(fun z h1 h2=>i2 z h1 (fun h3=>h2 (by simpa using h3))),i3,by simp,⟨by omega,i4.2⟩,i5,by omega,hio⟩
   clear hL hgi hsh
   rintro ⟨j,o',⟨w',aw',cw'⟩,⟨out',ao',co'⟩⟩ ⟨j1,j2,j3,j4,j5,j6,j7,j8,j9⟩
   dsimp only [List.cons_append,List.nil_append] at j1 j2 j3 j4 j5 j6 j7 j8 j9 ⊢
   by_cases hj:j<row.length
   ·obtain ⟨x,hx⟩:∃ x,row[j]?=some x:=⟨_,List.getElem?_eq_getElem hj⟩
    have htk:row.take (j+1)=row.take j++[x]:=by rw [List.take_add_one,hx];rfl
    have hnx:∀ out2:List Nat,(∀ y∈out',y∈out2)→(x.free=true→x.to∈out2)→∀ y∈row.take (j+1),y.free=true→y.to∈out2:=fun out2 h1 h2 y hy hyf=>by
     rw [htk,List.mem_append,List.mem_singleton] at hy
     rcases hy with hy|rfl
     ·exact h1 _ (j5 y hy hyf)
     ·exact h2 hyf
    have hxR:=hfr x (List.mem_of_getElem? hx)
    have hcnt:=j2.cnt
    have hO:=(boolsV_len o').trans j2.len
    have hW:=natsV_len w'
    have hW2:=natsV_len out'
    have hlx:=edgesV_drop row j x hx
    obtain ⟨k,xs,xf⟩:=x
    dsimp only [edgeV] at hxR hnx hlx
    repeat first|exact zE|refine zP ?_|refine zB fun b=>?_|refine zC fun a' c' hc1 hc2=>?_|(apply GJ.a;exact rfl;intro hg)|(apply GJ.o;exact rfl;intro hg)
    rw [Int.toNat_natCast]
    refine OpOk.loadRow rfl rfl (LdN.at hrr hlx) rfl ?_
    cases xf with
    | false =>
      repeat first|exact zE|refine zP ?_|refine zB fun b=>?_|refine zC fun a' c' hc1 hc2=>?_|(apply GJ.a;exact rfl;intro hg)|(apply GJ.o;exact rfl;intro hg)
      refine Wk.id ⟨(j+1,o',(w',aw',cw'),(out',ao',co')),⟨rfl,?_⟩,?_,Sub.z,Sup.z⟩
      all_goals try dsimp only
      ·exact ⟨by omega,j2,j3,j4,hnx out' (fun _ h=>h) (fun h=>by cases h),j6,j7,j8,j9⟩
      ·omega
    | true =>
      have hxR:=hxR rfl
      have hkn:=rch_lt hto hxR
      obtain ⟨q,hq⟩:∃ q,o'[k]?=some q:=⟨_,List.getElem?_eq_getElem (by rw [j2.len];exact hkn)⟩
      have hgq:(boolsV o')[k]?=some (.bool q):=by simp [boolsV,hq]
      cases q with
      | true =>
        repeat first|exact zE|refine zP ?_|refine zB fun b=>?_|refine zC fun a' c' hc1 hc2=>?_|(apply GJ.a;exact rfl;intro hg)|(apply GJ.o;exact rfl;intro hg)
        refine OpOk.load rfl rfl (Ld.slAt' (k:=k) (by congr 1) hgq) ?_
        repeat first|exact zE|refine zP ?_|refine zB fun b=>?_|refine zC fun a' c' hc1 hc2=>?_|(apply GJ.a;exact rfl;intro hg)|(apply GJ.o;exact rfl;intro hg)
        repeat first|exact zE|refine zP ?_|refine zB fun b=>?_|refine zC fun a' c' hc1 hc2=>?_|(apply GJ.a;exact rfl;intro hg)|(apply GJ.o;exact rfl;intro hg)
        refine Wk.id ⟨(j+1,o',(w',aw',cw'),(out',ao',co')),⟨rfl,?_⟩,?_,Sub.z,Sup.z⟩
        all_goals try dsimp only
        ·exact ⟨by omega,j2,j3,j4,hnx out' (fun _ h=>h) (fun _=>(j2.mem k).1 hq),j6,j7,j8,j9⟩
        ·omega
      | false =>
        have hpu:=j2.push hq hxR
        have hcs:=count_set o' k hq
        repeat first|exact zE|refine zP ?_|refine zB fun b=>?_|refine zC fun a' c' hc1 hc2=>?_|(apply GJ.a;exact rfl;intro hg)|(apply GJ.o;exact rfl;intro hg)
        refine OpOk.load rfl rfl (Ld.slAt' (k:=k) (by congr 1) hgq) ?_
        repeat first|exact zE|refine zP ?_|refine zB fun b=>?_|refine zC fun a' c' hc1 hc2=>?_|(apply GJ.a;exact rfl;intro hg)|(apply GJ.o;exact rfl;intro hg)
        refine OpOk.storeSlAt' (k:=k) rfl rfl rfl rfl (by congr 1) (by rw [hO];exact hkn) ?_
        rw [boolsV_set]
        repeat (first|exact zE|refine wkT ?_|refine zB (fun b=>?_)|refine zC (fun a' c' hc1 hc2=>?_)|(apply GJ.a;exact rfl;intro hg)|(apply GJ.o;exact rfl;intro hg))
        obtain ⟨bE,hbE⟩:∃ z:Nat,z=b:=⟨_,rfl⟩
        subst hbE
        refine Bs.mk ⟨[.blk bE 122 [.int .i64 (k:Int),wV xs.a,wV xs.b,wV xs.c,wV xs.d,.bool true]],Sup.z,?_⟩
        repeat (first|exact zE|refine wkT ?_|refine zB (fun b=>?_)|refine zC (fun a' c' hc1 hc2=>?_)|(apply GJ.a;exact rfl;intro hg)|(apply GJ.o;exact rfl;intro hg))
        refine app2.ok 6 9 (w'.length+1) (out'.length+1) 3 (natsV w'++[.int .i64 (k:Int)]) (natsV out'++[.int .i64 (k:Int)]) (.blk bE 122 [.int .i64 (k:Int),wV xs.a,wV xs.b,wV xs.c,wV xs.d,.bool true]::.sl (some ⟨bO,0,none⟩) a.rows.length a.rows.length 4 1 (boolsV (o'.set k true))::.blk b1 71 [.slice ad a.rows.length cp,.int .i64 a.last]::own) ?_ (fun a4 c4 a5 c5 hc4 hc5=>?_)
        ·have hone:∀ u∈[Value.int .i64 (k:Int)],u.oneCell'=true:=fun u hu=>by simp only [List.mem_singleton] at hu;subst hu;rfl
         repeat' (first|with_reducible exact vFo.nil|((with_reducible refine vFo.cons ?_ ?_);refine vOne.at (by rfl) ?_)|((with_reducible refine vFo.leaf ?_);refine ⟨rfl,_,_,_,_,⟨by assumption,by assumption⟩,⟨by assumption,by assumption⟩,Sub2.both (Sub2.both ?_),Sup.z⟩;repeat (first|exact Sub2.refl _|refine Sub2.weak ?_ rfl))|(show Stop (OpOk _ _ _ _ _ _ _);refine Stop.mk ?_)|(show Stop (Sup _ _∧_);refine vFo.stop Sup.z ?_)|refine zB (fun b=>?_)|refine zC (fun a' c' hc1 hc2=>?_))
        rw [show natsV w'++[Value.int .i64 (k:Int)]=natsV (w'++[k]) by simp [natsV],show natsV out'++[Value.int .i64 (k:Int)]=natsV (out'++[k]) by simp [natsV],show w'.length+1=(w'++[k]).length by simp,show out'.length+1=(out'++[k]).length by simp]
        rw [show w'.length+1=(w'++[k]).length by simp] at hc4
        rw [show out'.length+1=(out'++[k]).length by simp] at hc5
        repeat first|exact zE|refine zP ?_|refine zB fun b=>?_|refine zC fun a' c' hc1 hc2=>?_|(apply GJ.a;exact rfl;intro hg)|(apply GJ.o;exact rfl;intro hg)
        repeat first|exact zE|refine zP ?_|refine zB fun b=>?_|refine zC fun a' c' hc1 hc2=>?_|(apply GJ.a;exact rfl;intro hg)|(apply GJ.o;exact rfl;intro hg)
        refine Wk.id ⟨(j+1,o'.set k true,(w'++[k],a4,c4),(out'++[k],a5,c5)),⟨rfl,?_⟩,?_,Sub.z,Sup.z⟩
        all_goals try dsimp only
        ·exact ⟨by omega,hpu,j3.push,j4.up (fun x h=>List.mem_append.2 (.inl h)),hnx _ (fun x h=>List.mem_append.2 (.inl h)) (fun _=>by simp),hc4,hc5,by simp only [List.length_append,List.length_singleton];omega,List.mem_append.2 (.inl j9)⟩
        ·omega
   ·obtain rfl:j=row.length:=by omega
    rw [List.take_length] at j5
    repeat first|exact zE|refine zP ?_|refine zB fun b=>?_|refine zC fun a' c' hc1 hc2=>?_|(apply GJ.a;exact rfl;intro hg)|(apply GJ.o;exact rfl;intro hg)
    repeat first|exact zE|refine zP ?_|refine zB fun b=>?_|refine zC fun a' c' hc1 hc2=>?_|(apply GJ.a;exact rfl;intro hg)|(apply GJ.o;exact rfl;intro hg)
    refine Wk.id ⟨(o',(w',aw',cw'),(out',ao',co')),⟨rfl,?_⟩,?_,Sub.z,Sup.z⟩
    all_goals try dsimp only
    ·refine ⟨j2,fun z h1 h2 y h3=>?_,j4,j6,j7,by omega⟩
     by_cases hz:z=i
     ·subst hz
      unfold freeTo at h3
      rw [hrow] at h3
      obtain ⟨x,hx,rfl⟩:=List.mem_map.1 h3
      obtain ⟨hx1,hx2⟩:=List.mem_filter.1 hx
      exact j5 x hx1 hx2
     ·exact j3 z h1 (fun e=>e.elim h2 hz) y h3
    ·omega
  ·obtain rfl:w=[]:=List.eq_nil_of_length_eq_zero (by omega)
   repeat first|exact zE|refine zP ?_|refine zB fun b=>?_|refine zC fun a' c' hc1 hc2=>?_|(apply GJ.a;exact rfl;intro hg)|(apply GJ.o;exact rfl;intro hg)
   refine sortN_ok rfl (by have:=i1.cnt;omega) (fun l2 hp hs2=>?_)
   obtain rfl:=i1.all hto i2 i3 hp hs2
   rw [←hp.length_eq] at i5 ⊢
   repeat first|exact zE|refine zP ?_|refine zB fun b=>?_|refine zC fun a' c' hc1 hc2=>?_|(apply GJ.a;exact rfl;intro hg)|(apply GJ.o;exact rfl;intro hg)
   exact Wk.outS Sup.z (.refl _) (hk _ _ i5.1 i5.2)
end
def allE (rows:RowsN):Nat:=(rows.map List.length).sum
mutual
theorem ones_ins:∀ n:RgD,insD n→∀ s∈onesN n,SetIn s
 | .mk k s l a b,h,y,hy=>by
   rw [insD] at h
   rw [onesN] at hy
   split at hy
   ·simp only [List.mem_singleton] at hy;subst hy;exact h.1
   ·exact onesK_ins l h.2 y hy
theorem onesK_ins:∀ l:List RgD,insK l→∀ s∈onesK l,SetIn s
 | [],h,y,hy=>by rw [onesK] at hy;cases hy
 | x::r,h,y,hy=>by
   rw [insK] at h
   rw [onesK,List.mem_append] at hy
   rcases hy with hy|hy
   ·exact ones_ins x h.1 y hy
   ·exact onesK_ins r h.2 y hy
end
structure AutoK (a:NfaD):Prop where
 ok:NfaOk a
 sets:∀ s∈setsN a.rows,SetIn s
 edges:allE a.rows≤900000
theorem nil_k:AutoK nilN:=⟨nil_ok,(fun s hs=>by simp [setsN,nilN] at hs),by decide⟩
theorem make_k {n:RgD} (h:insD n):AutoK (makeN n).2:=by
 by_cases hc:(checkD n 512).1=0
 ·have hw:=(check_zero n 512 hc).1
  refine ⟨make_ok hw,fun s hs=>ones_ins n h s (sets_few s hs),?_⟩
  have hb:=bud_st0 hc
  have m:=made_node n hw 0 st0 st0_ok (by decide)
  have hm:=(bud_made m.1).1
  unfold makeN
  rw [if_neg (by rw [hc];decide)]
  split
  ·decide
  ·unfold budN at hm hb
   show edgesN _≤_
   omega
 ·unfold makeN
  rw [if_pos hc]
  exact nil_k
theorem allE_drop:∀ (rows:RowsN) (k:Nat),allE (rows.drop k)≤allE rows
 | rows,0=>Nat.le_refl _
 | [],k+1=>Nat.le_refl _
 | x::rows,k+1=>by have:=allE_drop rows k;unfold allE at *;simp only [List.drop_succ_cons,List.map_cons,List.sum_cons];omega
theorem byte_len (rows:RowsN) (c i:Nat):(byteTo rows c (i:Int)).length≤(rows[i]?.getD []).length:=by
 unfold byteTo
 split
 ·rw [List.length_map,Int.toNat_natCast];exact List.length_filter_le _ _
 ·exact Nat.zero_le _
theorem step_lenA (rows:RowsN) (c:Nat):∀ (l:List Nat) (k:Nat),l.Pairwise (· < ·)→(∀ x∈l,k≤x)→((intsN l).flatMap (byteTo rows c)).length≤allE (rows.drop k)
 | [],k,_,_=>Nat.zero_le _
 | x::l,k,h,hk=>by
   obtain ⟨h1,h2⟩:=List.pairwise_cons.1 h
   have ih:=step_lenA rows c l (x+1) h2 (fun y hy=>h1 y hy)
   have hx:=hk x (by simp)
   have hb:=byte_len rows c x
   have e:intsN (x::l)=(x:Int)::intsN l:=rfl
   rw [e,List.flatMap_cons,List.length_append]
   have e2:rows.drop x=(rows.drop k).drop (x-k):=by rw [List.drop_drop];congr 1;omega
   have e3:=allE_drop (rows.drop k) (x-k)
   rw [←e2] at e3
   by_cases hl:x<rows.length
   ·rw [List.drop_eq_getElem_cons hl] at e3
    rw [List.getElem?_eq_getElem hl] at hb
    unfold allE at *
    simp only [List.map_cons,List.sum_cons,Option.getD_some] at *
    omega
   ·rw [List.getElem?_eq_none (by omega)] at hb
    rw [List.drop_eq_nil_of_le (by omega)] at ih
    unfold allE at *
    have hb2:(byteTo rows c (x:Int)).length=0:=by simpa using hb
    have ih2:((intsN l).flatMap (byteTo rows c)).length=0:=by simpa using ih
    omega
theorem step_len {rows:RowsN}{c:Nat}{l:List Nat} (h:l.Pairwise (· < ·)):((intsN l).flatMap (byteTo rows c)).length≤allE rows:=step_lenA rows c l 0 h (fun _ _=>Nat.zero_le _)
theorem ints_nats (l:List Nat):(intsN l).map (Value.int .i64)=natsV l:=by unfold intsN natsV;rw [List.map_map];rfl
theorem ints_len (l:List Nat):(intsN l).length=l.length:=by simp [intsN]
section
variable {ro:Ro}{own r:Chs}{K:Value→Ro→Chs→Prop}{g:Chunk→Chs}
theorem nlen_ok {a:NfaD}{v:List Value} (hv:AutoOk ro a v) (hk:K (.int .i64 (a.rows.length:Int)) ro own):CallOk Tryz.prog 57 #[.agg v.toArray] ro own K:=by
 obtain ⟨ad,cp,hs,rfl,hrs,hrw⟩:=hv
 refine CallOk.intro (args:=[_]) (rs:=[_]) T_ok Tryz.func57 Tryz.call57 rfl rfl (by kernel_rfl) rfl rfl ?_
 repeat first|exact zE|refine zP ?_|refine zB fun b=>?_|refine zC fun a' c' hc1 hc2=>?_|(apply GJ.a;exact rfl;intro hg)|(apply GJ.o;exact rfl;intro hg)
 exact Wk.outS Sup.z (.refl _) hk
theorem nstart_ok {a:NfaD}{v:List Value} (hv:AutoOk ro a v) (ha:NfaOk a)
  (hk:∀ a' c',(startN a.rows).length≤c'→c'≤maxLen→K (.slice a' (startN a.rows).length c') ro (.sl a' (startN a.rows).length c' 3 1 (natsV (startN a.rows))::own)) :
  CallOk Tryz.prog 61 #[.agg v.toArray] ro own K:=by
 have hv0:=hv
 obtain ⟨ad,cp,hs,rfl,hrs,hrw⟩:=hv
 have hle:=ha.le
 unfold startN at hk
 by_cases h:a.rows=[]
 ·rw [if_pos h] at hk
  have h0:a.rows.length=0:=by rw [h];rfl
  refine CallOk.intro (args:=[_]) (rs:=[_]) T_ok Tryz.func61 Tryz.call61 rfl rfl (by kernel_rfl) rfl rfl ?_
  repeat first|exact zE|refine zP ?_|refine zB fun b=>?_|refine zC fun a' c' hc1 hc2=>?_|(apply GJ.a;exact rfl;intro hg)|(apply GJ.o;exact rfl;intro hg)
  exact Wk.own _ (Sup.nilc (Sup.drop _ (Sup.all _))) (Wk.id (hk none 0 (Nat.le_refl _) (Nat.zero_le _)))
 ·rw [if_neg h] at hk
  have h0:0<a.rows.length:=List.length_pos_iff.2 h
  refine CallOk.intro (args:=[_]) (rs:=[_]) T_ok Tryz.func61 Tryz.call61 rfl rfl (by kernel_rfl) rfl rfl ?_
  repeat first|exact zE|refine zP ?_|refine zB fun b=>?_|refine zC fun a' c' hc1 hc2=>?_|(apply GJ.a;exact rfl;intro hg)|(apply GJ.o;exact rfl;intro hg)
  refine nreach_ok (list:=[0]) hv0 ha (Rds.hasSl (t:=3) (Nat.le_refl _) (by decide) rfl) rfl (fun a' c' h1 h2=>?_)
  repeat first|exact zE|refine zP ?_|refine zB fun b=>?_|refine zC fun a' c' hc1 hc2=>?_|(apply GJ.a;exact rfl;intro hg)|(apply GJ.o;exact rfl;intro hg)
  exact Wk.outS Sup.z (.refl _) (hk a' c' h1 h2)
theorem nindex_ok {al:Option Addr}{nl cl:Nat}{list:List Int}{x:Int} (hr:Rds ro own al nl cl 1 (list.map (Value.int .i64))) (hnl:list.length=nl)
  (hk:∀ z:Int,decide (z ≥ 0)=list.contains x→K (.int .i64 z) ro own):CallOk Tryz.prog 86 #[.slice al nl cl,.int .i64 x] ro own K:=by
 have hmx:=hr.max
 have hncl:=hr.le
 unfold maxLen at hmx
 subst hnl
 refine CallOk.intro (args:=[_,_]) (rs:=[_]) T_ok Tryz.func86 Tryz.call86 rfl rfl (by kernel_rfl) rfl rfl ?_
 repeat first|exact zE|refine zP ?_|refine zB fun b=>?_|refine zC fun a' c' hc1 hc2=>?_|(apply GJ.a;exact rfl;intro hg)|(apply GJ.o;exact rfl;intro hg)
 refine LoopOk.at (ι:=Nat) Keep.z (fun i=>[(8,.int .i64 (i:Int))]) (fun i=>own) (fun i=>i≤list.length∧x∉list.take i) (fun i=>list.length-i) 0 ?_ Sub.z Sup.z ?_
 ·exact ⟨Nat.zero_le _,by simp⟩
 rintro i ⟨i1,i2⟩
 dsimp only [List.cons_append,List.nil_append] at i1 i2 ⊢
 by_cases hi:i<list.length
 ·obtain ⟨z,hz⟩:∃ z,list[i]?=some z:=⟨_,List.getElem?_eq_getElem hi⟩
  have hzb:list[((i:Nat):Int).toNat]! = z:=by rw [Int.toNat_natCast,List.getElem!_eq_getElem?_getD,hz];rfl
  by_cases hx:x=z
  ·subst hx
   repeat first|exact zE|refine zP ?_|refine zB fun b=>?_|refine zC fun a' c' hc1 hc2=>?_|(apply GJ.a;exact rfl;intro hg)|(apply GJ.o;exact rfl;intro hg)
   refine Wk.id (hk _ ?_)
   rw [decide_eq_true (show (i:Int) ≥ 0 by omega)]
   exact (List.contains_iff_mem.2 (List.mem_of_getElem? hz)).symm
  ·repeat first|exact zE|refine zP ?_|refine zB fun b=>?_|refine zC fun a' c' hc1 hc2=>?_|(apply GJ.a;exact rfl;intro hg)|(apply GJ.o;exact rfl;intro hg)
   repeat first|exact zE|refine zP ?_|refine zB fun b=>?_|refine zC fun a' c' hc1 hc2=>?_|(apply GJ.a;exact rfl;intro hg)|(apply GJ.o;exact rfl;intro hg)
   refine Wk.id ⟨i+1,⟨rfl,?_⟩,?_,Sub.z,Sup.z⟩
   all_goals try dsimp only
   ·refine ⟨by omega,fun hm=>?_⟩
    rw [List.take_add_one,hz] at hm
    rcases List.mem_append.1 hm with hm|hm
    ·exact i2 hm
    ·simp at hm;exact hx hm
   ·omega
 ·obtain rfl:i=list.length:=by omega
  rw [List.take_length] at i2
  repeat first|exact zE|refine zP ?_|refine zB fun b=>?_|refine zC fun a' c' hc1 hc2=>?_|(apply GJ.a;exact rfl;intro hg)|(apply GJ.o;exact rfl;intro hg)
  refine Wk.id (hk _ ?_)
  simpa using i2
theorem ncontains_ok {al:Option Addr}{nl cl:Nat}{list:List Int}{x:Int} (hr:Rds ro own al nl cl 1 (list.map (Value.int .i64))) (hnl:list.length=nl)
  (hk:K (.bool (list.contains x)) ro own):CallOk Tryz.prog 78 #[.slice al nl cl,.int .i64 x] ro own K:=by
 refine CallOk.intro (args:=[_,_]) (rs:=[_]) T_ok Tryz.func78 Tryz.call78 rfl rfl (by kernel_rfl) rfl rfl ?_
 repeat first|exact zE|refine zP ?_|refine zB fun b=>?_|refine zC fun a' c' hc1 hc2=>?_|(apply GJ.a;exact rfl;intro hg)|(apply GJ.o;exact rfl;intro hg)
 refine nindex_ok hr hnl (fun z hz=>?_)
 repeat first|exact zE|refine zP ?_|refine zB fun b=>?_|refine zC fun a' c' hc1 hc2=>?_|(apply GJ.a;exact rfl;intro hg)|(apply GJ.o;exact rfl;intro hg)
 exact Wk.val hk (congrArg Value.bool hz.symm)
theorem nends_ok {a:NfaD}{v:List Value}{al:Option Addr}{nl cl:Nat}{list:List Int} (hv:AutoOk ro a v) (ha:NfaOk a) (hr:Rds ro own al nl cl 1 (list.map (Value.int .i64))) (hnl:list.length=nl)
  (hk:K (.bool (endsN a list)) ro own):CallOk Tryz.prog 64 #[.agg v.toArray,.slice al nl cl] ro own K:=by
 obtain ⟨ad,cp,hs,rfl,hrs,hrw⟩:=hv
 unfold endsN at hk
 by_cases h:0<a.rows.length
 ·rw [decide_eq_true h,Bool.true_and] at hk
  refine CallOk.intro (args:=[_,_]) (rs:=[_]) T_ok Tryz.func64 Tryz.call64 rfl rfl (by kernel_rfl) rfl rfl ?_
  repeat first|exact zE|refine zP ?_|refine zB fun b=>?_|refine zC fun a' c' hc1 hc2=>?_|(apply GJ.a;exact rfl;intro hg)|(apply GJ.o;exact rfl;intro hg)
  refine ncontains_ok (x:=a.last) hr.up hnl ?_
  repeat first|exact zE|refine zP ?_|refine zB fun b=>?_|refine zC fun a' c' hc1 hc2=>?_|(apply GJ.a;exact rfl;intro hg)|(apply GJ.o;exact rfl;intro hg)
  exact Wk.outS Sup.z (.refl _) hk
 ·rw [decide_eq_false h,Bool.false_and] at hk
  have h0:a.rows.length=0:=by omega
  refine CallOk.intro (args:=[_,_]) (rs:=[_]) T_ok Tryz.func64 Tryz.call64 rfl rfl (by kernel_rfl) rfl rfl ?_
  repeat first|exact zE|refine zP ?_|refine zB fun b=>?_|refine zC fun a' c' hc1 hc2=>?_|(apply GJ.a;exact rfl;intro hg)|(apply GJ.o;exact rfl;intro hg)
  exact Wk.outS Sup.z (.refl _) hk
end
end Go.Proofs.YtficlekgjbnniaaGreatDoor
namespace Go.Proofs.YtficlekgjbnniaaGreatDoor
open Go Go.E
def rowTo (c:Nat) (l:List EdgeD):List Int:=(l.filter fun x=>!x.free&&x.set.has c).map fun x=>Int.ofNat x.to
theorem rowTo_snoc {c:Nat}{row:List EdgeD}{j:Nat}{x:EdgeD} (hx:row[j]?=some x):rowTo c (row.take (j+1))=rowTo c (row.take j)++if (!x.free&&x.set.has c)=true then [Int.ofNat x.to] else []:=by
 unfold rowTo
 rw [List.take_add_one,hx,List.filter_append,List.map_append]
 congr 1
 simp only [Option.toList_some,List.filter_cons,List.filter_nil]
 split<;>rfl
theorem rowTo_all {rows:RowsN}{c i:Nat}{row:List EdgeD} (h:rows[i]?=some row):byteTo rows c (i:Int)=rowTo c row:=by
 have hl:=(List.getElem?_eq_some_iff.1 h).1
 unfold byteTo rowTo
 rw [if_pos ⟨Int.natCast_nonneg _,by omega⟩,Int.toNat_natCast,h];rfl
theorem rowTo_len (c:Nat) (row:List EdgeD) (j:Nat):(rowTo c (row.take j)).length≤(rowTo c row).length:=by
 unfold rowTo
 rw [List.length_map,List.length_map]
 exact ((List.take_sublist j row).filter _).length_le
theorem flat_snoc {list:List Int}{f:Int→List Int}{i:Nat}{z:Int} (hz:list[i]?=some z):(list.take (i+1)).flatMap f=(list.take i).flatMap f++f z:=by
 rw [List.take_add_one,hz,List.flatMap_append]
 congr 1
 simp
theorem flat_le {list:List Int}{f:Int→List Int} (i:Nat):((list.take i).flatMap f).length≤(list.flatMap f).length:=by
 have:=congrArg List.length (List.flatMap_append (xs:=list.take i) (ys:=list.drop i) (f:=f))
 rw [List.take_append_drop,List.length_append] at this
 omega
section
variable {ro:Ro}{own r:Chs}{K:Value→Ro→Chs→Prop}{g:Chunk→Chs}
set_option maxHeartbeats 4000000 in
theorem nstep_ok {a:NfaD}{v:List Value}{list:List Int}{al:Option Addr}{nl cl c:Nat} (hv:AutoOk ro a v) (ha:AutoK a) (hr:Rds ro own al nl cl 1 (list.map (Value.int .i64))) (hnl:list.length=nl) (hc:c<256) (hL:(list.flatMap (byteTo a.rows c)).length≤1000000)
  (hk:∀ a' c',(stepN a.rows list c).length≤c'→c'≤maxLen→K (.slice a' (stepN a.rows list c).length c') ro (.sl a' (stepN a.rows list c).length c' 3 1 (natsV (stepN a.rows list c))::own)) :
  CallOk Tryz.prog 63 #[.agg v.toArray,.slice al nl cl,.int .u8 (c:Int)] ro own K:=by
 have hv0:=hv
 obtain ⟨ad,cp,hs,rfl,hrs,hrw⟩:=hv
 have hle:=ha.ok.le
 have hmx:=hr.max
 have hncl:=hr.le
 have hmr:=hrs.max
 have hncr:=hrs.le
 unfold maxLen at hmx hmr
 subst hnl
 refine CallOk.intro (args:=[_,_,_]) (rs:=[_]) T_ok Tryz.func63 Tryz.call63 rfl rfl (by kernel_rfl) rfl rfl ?_
 repeat first|exact zE|refine zP ?_|refine zB fun b=>?_|refine zC fun a' c' hc1 hc2=>?_|(apply GJ.a;exact rfl;intro hg)|(apply GJ.o;exact rfl;intro hg)
 obtain ⟨b1,hb1⟩:∃ z:Nat,z=b:=⟨_,rfl⟩
 subst hb1
 refine LoopOk.at (ι:=Nat × List Int × Option Addr × Nat) Keep.z (fun (i,o,ao,co)=>[(14,.int .i64 (i:Int)),(7,.slice ao o.length co)]) (fun (i,o,ao,co)=>.sl ao o.length co 3 1 (o.map (Value.int .i64))::.blk b1 71 [.slice ad a.rows.length cp,.int .i64 a.last]::own) (fun (i,o,ao,co)=>i≤list.length∧o=(list.take i).flatMap (byteTo a.rows c)∧o.length≤co∧co≤maxLen) (fun (i,o,ao,co)=>list.length-i) (0,[],none,0) ?_ Sub.z Sup.z ?_
 ·exact ⟨Nat.zero_le _,rfl,Nat.le_refl _,Nat.zero_le _⟩
 rintro ⟨i,o,ao,co⟩ ⟨i1,i2,i3,i4⟩
 dsimp only [List.cons_append,List.nil_append] at i1 i2 i3 i4 ⊢
 by_cases hi:i<list.length
 ·obtain ⟨z,hz⟩:∃ z,list[i]?=some z:=⟨_,List.getElem?_eq_getElem hi⟩
  have hgz:(list.map (Value.int .i64))[i]?=some (.int .i64 z):=by simp [hz]
  have hzb:list[((i:Nat):Int).toNat]! = z:=by rw [Int.toNat_natCast,List.getElem!_eq_getElem?_getD,hz];rfl
  have hfs:=flat_snoc (f:=byteTo a.rows c) hz
  have hfl:=flat_le (list:=list) (f:=byteTo a.rows c) (i+1)
  rw [hfs,List.length_append,←i2] at hfl
  by_cases hz0:z<0∨(a.rows.length:Int)≤z
  ·have hb0:byteTo a.rows c z=[]:=by unfold byteTo;rw [if_neg (by omega)]
   rw [hb0,List.append_nil,←i2] at hfs
   repeat first|exact zE|refine zP ?_|refine zB fun b=>?_|refine zC fun a' c' hc1 hc2=>?_|(apply GJ.a;exact rfl;intro hg)|(apply GJ.o;exact rfl;intro hg)
   repeat first|exact zE|refine zP ?_|refine zB fun b=>?_|refine zC fun a' c' hc1 hc2=>?_|(apply GJ.a;exact rfl;intro hg)|(apply GJ.o;exact rfl;intro hg)
   refine Wk.id ⟨(i+1,o,ao,co),⟨rfl,?_⟩,?_,Sub.z,Sup.z⟩
   all_goals try dsimp only
   ·exact ⟨by omega,hfs.symm,i3,i4⟩
   ·omega
  ·obtain ⟨k,rfl⟩:∃ k:Nat,z=(k:Int):=⟨z.toNat,by omega⟩
   have hkn:k<a.rows.length:=by omega
   obtain ⟨row,hrow⟩:∃ row,a.rows[k]?=some row:=⟨_,List.getElem?_eq_getElem hkn⟩
   obtain ⟨ar,cr,hhs,hrr⟩:=hrw.row k row hrow
   have hrt:=rowTo_all (c:=c) hrow
   rw [hrt] at hfs hfl
   have hrm:=hrr.max
   have hrl:=hrr.le
   unfold maxLen at hrm
   repeat first|exact zE|refine zP ?_|refine zB fun b=>?_|refine zC fun a' c' hc1 hc2=>?_|(apply GJ.a;exact rfl;intro hg)|(apply GJ.o;exact rfl;intro hg)
   rw [hzb,Int.toNat_natCast]
   refine OpOk.load rfl rfl (Ld.rs hrs hhs) ?_
   repeat first|exact zE|refine zP ?_|refine zB fun b=>?_|refine zC fun a' c' hc1 hc2=>?_|(apply GJ.a;exact rfl;intro hg)|(apply GJ.o;exact rfl;intro hg)
   refine LoopOk.at (ι:=Nat × List Int × Option Addr × Nat) Keep.z (fun (j,o,ao,co)=>[(33,.int .i64 (j:Int)),(7,.slice ao o.length co)]) (fun (j,o,ao,co)=>.sl ao o.length co 3 1 (o.map (Value.int .i64))::.blk b1 71 [.slice ad a.rows.length cp,.int .i64 a.last]::own) (fun (j,o,ao,co)=>j≤row.length∧o=(list.take i).flatMap (byteTo a.rows c)++rowTo c (row.take j)∧o.length≤co∧co≤maxLen) (fun (j,o,ao,co)=>row.length-j) (0,o,ao,co) ?_ Sub.z Sup.z ?_
   ·exact ⟨Nat.zero_le _,by rw [i2];simp [rowTo],i3,i4⟩
   rintro ⟨j,o',ao',co'⟩ ⟨j1,j2,j3,j4⟩
   dsimp only [List.cons_append,List.nil_append] at j1 j2 j3 j4 ⊢
   rw [←i2] at j2
   by_cases hj:j<row.length
   ·obtain ⟨x,hx⟩:∃ x,row[j]?=some x:=⟨_,List.getElem?_eq_getElem hj⟩
    have hsn:=rowTo_snoc (c:=c) hx
    have hrl2:=rowTo_len c row (j+1)
    rw [hsn,List.length_append] at hrl2
    have hol:=congrArg List.length j2
    rw [List.length_append] at hol
    have hlx:=edgesV_drop row j x hx
    have hsi:x.free=false→SetIn x.set:=fun hf=>ha.sets _ (sets_mem.2 ⟨row,List.mem_of_getElem? hrow,x,List.mem_of_getElem? hx,hf,rfl⟩)
    obtain ⟨k2,⟨s1,s2,s3,s4⟩,xf⟩:=x
    dsimp only [edgeV] at hlx hsi hsn hrl2
    repeat first|exact zE|refine zP ?_|refine zB fun b=>?_|refine zC fun a' c' hc1 hc2=>?_|(apply GJ.a;exact rfl;intro hg)|(apply GJ.o;exact rfl;intro hg)
    rw [Int.toNat_natCast]
    refine OpOk.loadRow rfl rfl (LdN.at hrr hlx) rfl ?_
    cases xf with
    | true =>
      rw [if_neg (by simp),List.append_nil] at hsn
      repeat first|exact zE|refine zP ?_|refine zB fun b=>?_|refine zC fun a' c' hc1 hc2=>?_|(apply GJ.a;exact rfl;intro hg)|(apply GJ.o;exact rfl;intro hg)
      repeat first|exact zE|refine zP ?_|refine zB fun b=>?_|refine zC fun a' c' hc1 hc2=>?_|(apply GJ.a;exact rfl;intro hg)|(apply GJ.o;exact rfl;intro hg)
      refine Wk.id ⟨(j+1,o',ao',co'),⟨rfl,?_⟩,?_,Sub.z,Sup.z⟩
      all_goals try dsimp only
      ·exact ⟨by omega,by rw [hsn,←i2];exact j2,j3,j4⟩
      ·omega
    | false =>
      have hsi:=hsi rfl
      repeat first|exact zE|refine zP ?_|refine zB fun b=>?_|refine zC fun a' c' hc1 hc2=>?_|(apply GJ.a;exact rfl;intro hg)|(apply GJ.o;exact rfl;intro hg)
      refine has_ok (s:=⟨s1,s2,s3,s4⟩) hsi hc ?_
      cases hb:SetD.has ⟨s1,s2,s3,s4⟩ c with
      | false =>
        rw [hb,if_neg (by simp),List.append_nil] at hsn
        repeat first|exact zE|refine zP ?_|refine zB fun b=>?_|refine zC fun a' c' hc1 hc2=>?_|(apply GJ.a;exact rfl;intro hg)|(apply GJ.o;exact rfl;intro hg)
        repeat first|exact zE|refine zP ?_|refine zB fun b=>?_|refine zC fun a' c' hc1 hc2=>?_|(apply GJ.a;exact rfl;intro hg)|(apply GJ.o;exact rfl;intro hg)
        refine Wk.id ⟨(j+1,o',ao',co'),⟨rfl,?_⟩,?_,Sub.z,Sup.z⟩
        all_goals try dsimp only
        ·exact ⟨by omega,by rw [hsn,←i2];exact j2,j3,j4⟩
        ·omega
      | true =>
        rw [hb,if_pos (by simp)] at hsn
        rw [hb,if_pos (by simp)] at hrl2
        have hl1:([Int.ofNat k2]:List Int).length=1:=rfl
        rw [hl1] at hrl2
        have hs1:o'.map (Value.int .i64)++[.int .i64 (k2:Int)]=(o'++[(k2:Int)]).map (Value.int .i64):=by simp
        have hs2:o'.length+1=(o'++[(k2:Int)]).length:=by simp
        have hO:(o'.map (Value.int .i64)).length=o'.length:=by simp
        repeat first|exact zE|refine zP ?_|refine zB fun b=>?_|refine zC fun a' c' hc1 hc2=>?_|(apply GJ.a;exact rfl;intro hg)|(apply GJ.o;exact rfl;intro hg)
        rw [hs1,hs2]
        rw [hs2] at hc1
        repeat first|exact zE|refine zP ?_|refine zB fun b=>?_|refine zC fun a' c' hc1 hc2=>?_|(apply GJ.a;exact rfl;intro hg)|(apply GJ.o;exact rfl;intro hg)
        refine Wk.id ⟨(j+1,o'++[(k2:Int)],a',c'),⟨rfl,?_⟩,?_,Sub.z,Sup.z⟩
        all_goals try dsimp only
        ·exact ⟨by omega,by rw [hsn,j2,List.append_assoc,←i2];rfl,hc1,hc2⟩
        ·omega
   ·obtain rfl:j=row.length:=by omega
    rw [List.take_length] at j2
    repeat first|exact zE|refine zP ?_|refine zB fun b=>?_|refine zC fun a' c' hc1 hc2=>?_|(apply GJ.a;exact rfl;intro hg)|(apply GJ.o;exact rfl;intro hg)
    repeat first|exact zE|refine zP ?_|refine zB fun b=>?_|refine zC fun a' c' hc1 hc2=>?_|(apply GJ.a;exact rfl;intro hg)|(apply GJ.o;exact rfl;intro hg)
    refine Wk.id ⟨(i+1,o',ao',co'),⟨rfl,?_⟩,?_,Sub.z,Sup.z⟩
    all_goals try dsimp only
    ·exact ⟨by omega,by rw [hfs,←i2];exact j2,j3,j4⟩
    ·omega
 ·obtain rfl:i=list.length:=by omega
  rw [List.take_length] at i2
  subst i2
  repeat first|exact zE|refine zP ?_|refine zB fun b=>?_|refine zC fun a' c' hc1 hc2=>?_|(apply GJ.a;exact rfl;intro hg)|(apply GJ.o;exact rfl;intro hg)
  refine nreach_ok hv0 ha.ok (Rds.hasSl (t:=3) i3 i4 (by simp)) rfl (fun a' c' h1 h2=>?_)
  repeat first|exact zE|refine zP ?_|refine zB fun b=>?_|refine zC fun a' c' hc1 hc2=>?_|(apply GJ.a;exact rfl;intro hg)|(apply GJ.o;exact rfl;intro hg)
  exact Wk.outS Sup.z (.refl _) (hk a' c' h1 h2)
end
end Go.Proofs.YtficlekgjbnniaaGreatDoor
namespace Go.Proofs.YtficlekgjbnniaaGreatDoor
open Go Go.E
theorem start_sorted (rows:RowsN):(startN rows).Pairwise (· < ·):=by
 unfold startN
 split
 ·exact List.Pairwise.nil
 ·exact reach_sorted _ _
theorem start_lt {rows:RowsN}{j:Nat} (h:j∈startN rows):j<rows.length:=by
 unfold startN at h
 split at h
 ·cases h
 ·exact reach_lt h
theorem sorted_len:∀ (l:List Nat) (k n:Nat),l.Pairwise (· < ·)→(∀ x∈l,k≤x∧x<n)→l.length≤n-k
 | [],k,n,_,_=>Nat.zero_le _
 | x::l,k,n,h,hk=>by
   obtain ⟨h1,h2⟩:=List.pairwise_cons.1 h
   have ih:=sorted_len l (x+1) n h2 (fun y hy=>⟨h1 y hy,(hk y (List.mem_cons_of_mem _ hy)).2⟩)
   have:=hk x (by simp)
   rw [List.length_cons];omega
section
variable {ro:Ro}{own r:Chs}{K:Value→Ro→Chs→Prop}{g:Chunk→Chs}
end
end Go.Proofs.YtficlekgjbnniaaGreatDoor
namespace Go.Proofs.YtficlekgjbnniaaGreatDoor
open Go Go.E
end Go.Proofs.YtficlekgjbnniaaGreatDoor
end
section
namespace Go.E
open Go
theorem keyLits_u64 {P:Program}{t:TypeId} (d:Nat) (hu:P.underlying t=some (.int .u64)) {z:Int} (h0:0≤z) (h1:z≤18446744073709551615):P.keyLits (d+1) t [.int .u64 z]=some [.int .u64 z]:=by
 unfold Program.keyLits
 rw [hu]
 dsimp only
 rw [if_pos ⟨rfl,by simp only [Lit.wf,Bool.and_eq_true,decide_eq_true_iff];exact ⟨h0,h1⟩⟩]
theorem keyLits_four {P:Program}{k e:TypeId} (d:Nat) (hk:P.underlying k=some (.array 4 e)) (he:P.underlying e=some (.int .u64)) (c1:P.cellsOf e=1) (c4:P.cellsOf k=4) {w x y z:Int} (hw:0≤w∧w≤18446744073709551615) (hx:0≤x∧x≤18446744073709551615) (hy:0≤y∧y≤18446744073709551615) (hz:0≤z∧z≤18446744073709551615) :
  P.keyLits (d+1+1) k [.int .u64 w,.int .u64 x,.int .u64 y,.int .u64 z]=some [.int .u64 w,.int .u64 x,.int .u64 y,.int .u64 z]:=by
 unfold Program.keyLits
 rw [hk]
 dsimp only
 rw [if_pos (by rw [c4];rfl),c1,show List.range 4=[0,1,2,3] from rfl]
 have e1:=keyLits_u64 d he hw.1 hw.2
 have e2:=keyLits_u64 d he hx.1 hx.2
 have e3:=keyLits_u64 d he hy.1 hy.2
 have e4:=keyLits_u64 d he hz.1 hz.2
 simp [List.mapM_cons,e1,e2,e3,e4]
end Go.E
namespace Go.Proofs.YtficlekgjbnniaaGreatDoor
open Go Go.E
def setKV (s:SetD):Value:=.agg (setV s).toArray
theorem set_enc:KeyEnc Tryz.prog 40 setKV SetIn:=KeyEnc.ofLaw (deep_law_gate (by kernel_rfl) (by decide +kernel) (by decide +kernel) (by kernel_rfl) (by kernel_rfl))
 (fun s h=>by
  have b:∀ k,(0:Int)≤(s.w k:Int)∧(s.w k:Int)≤18446744073709551615:=fun k=>⟨Int.natCast_nonneg _,by have:=h k;omega⟩
  have hu:Tryz.prog.underlying 40=some (.array 4 22):=by kernel_rfl
  have he:Tryz.prog.underlying 22=some (.int .u64):=by kernel_rfl
  have c1:Tryz.prog.cellsOf 22=1:=by kernel_rfl
  have c4:Tryz.prog.cellsOf 40=4:=by kernel_rfl
  obtain ⟨d,hd⟩:∃ d,Tryz.prog.types.size+1=d+1+1:=⟨Tryz.prog.types.size-1,by
   have:0<Tryz.prog.types.size:=by decide +kernel
   omega⟩
  have hl:=keyLits_four d hu he c1 c4 (b 0) (b 1) (b 2) (b 3)
  rw [←hd] at hl
  unfold keyOf
  rw [hu]
  dsimp only
  rw [if_pos (by
   rw [Bool.and_eq_true]
   refine ⟨by kernel_rfl,?_⟩
   show Value.formed _ _ (.agg _)=true
   unfold Value.formed
   rw [hu]
   dsimp only
   rw [c4];rfl)]
  rw [show (setKV s).cells.toList=[.int .u64 (s.w 0:Int),.int .u64 (s.w 1:Int),.int .u64 (s.w 2:Int),.int .u64 (s.w 3:Int)] from rfl,hl]
  exact ⟨_,rfl⟩)
 (fun a b h=>by
  obtain ⟨a1,a2,a3,a4⟩:=a
  obtain ⟨b1,b2,b3,b4⟩:=b
  simp only [setKV,setV,wV] at h
  simp at h
  simp;omega)
def rowS (o:List SetD) (l:List EdgeD):List SetD:=l.foldl addS o
def MarkS (o:List SetD) (M:List (SetD × Bool × Nat)):Prop:=MapOk SetIn M∧∀ s,getG M s=if s∈o then some true else none
theorem MarkS.nil:MarkS [] []:=⟨MapOk.nil,fun s=>by simp [getG]⟩
theorem MarkS.push {o:List SetD}{M:List (SetD × Bool × Nat)} (h:MarkS o M) {s:SetD} (hs:SetIn s) (c:Nat):MarkS (o++[s]) (putG M c s true):=by
 refine ⟨h.1.put hs c true,fun t=>?_⟩
 rw [getG_putG,h.2 t]
 by_cases e:t=s
 ·rw [if_pos e,if_pos (List.mem_append.2 (.inr (List.mem_singleton.2 e)))]
 ·rw [if_neg e]
  by_cases h2:t∈o
  ·rw [if_pos h2,if_pos (List.mem_append.2 (.inl h2))]
  ·rw [if_neg h2,if_neg (fun h=>(List.mem_append.1 h).elim h2 (fun h3=>e (List.mem_singleton.1 h3)))]
theorem MarkS.is {o:List SetD}{M:List (SetD × Bool × Nat)} (h:MarkS o M) (s:SetD):((getG M s).map Value.bool).getD (.bool false)=.bool (decide (s∈o)):=by
 rw [h.2 s]
 by_cases e:s∈o
 ·rw [if_pos e,decide_eq_true e];rfl
 ·rw [if_neg e,decide_eq_false e];rfl
section
variable {ro:Ro}{own r:Chs}{K:Value→Ro→Chs→Prop}{g:Chunk→Chs}
set_option maxHeartbeats 4000000 in
theorem nsets_ok {a:NfaD}{v:List Value} (hv:AutoOk ro a v) (ha:AutoK a)
  (hk:∀ a' c',(setsN a.rows).length≤c'→c'≤maxLen→K (.slice a' (setsN a.rows).length c') ro (.sl a' (setsN a.rows).length c' 40 4 (setsV (setsN a.rows))::own)) :
  CallOk Tryz.prog 59 #[.agg v.toArray] ro own K:=by
 obtain ⟨ad,cp,hs,rfl,hrs,hrw⟩:=hv
 have hle:=ha.ok.le
 have hmr:=hrs.max
 have hncr:=hrs.le
 unfold maxLen at hmr
 refine CallOk.intro (args:=[_]) (rs:=[_]) T_ok Tryz.func59 Tryz.call59 rfl rfl (by kernel_rfl) rfl rfl ?_
 repeat first|exact zE|refine zP ?_|refine zB fun b=>?_|refine zC fun a' c' hc1 hc2=>?_|(apply GJ.a;exact rfl;intro hg)|(apply GJ.o;exact rfl;intro hg)
 obtain ⟨b1,hb1⟩:∃ z:Nat,z=b:=⟨_,rfl⟩
 subst hb1
 refine OpOk.makeMapG (kv:=setKV) (vv:=Value.bool) (fun bM=>?_)
 repeat first|exact zE|refine zP ?_|refine zB fun b=>?_|refine zC fun a' c' hc1 hc2=>?_|(apply GJ.a;exact rfl;intro hg)|(apply GJ.o;exact rfl;intro hg)
 refine LoopOk.at (ι:=Nat × List SetD × (Option Addr × Nat) × List (SetD × Bool × Nat) × Nat) Keep.z (fun (i,o,(ao,co),M,cM)=>[(13,.int .i64 (i:Int)),(4,.slice ao o.length co)]) (fun (i,o,(ao,co),M,cM)=>.sl ao o.length co 40 4 (setsV o)::.obj bM (mapG setKV Value.bool M cM)::.blk b1 71 [.slice ad a.rows.length cp,.int .i64 a.last]::own) (fun (i,o,(ao,co),M,cM)=>i≤a.rows.length∧(a.rows.drop i).foldl rowS o=setsN a.rows∧MarkS o M∧(o.length≤co∧co≤maxLen)∧o.length+allE (a.rows.drop i)≤900000) (fun (i,o,(ao,co),M,cM)=>a.rows.length-i) (0,[],(none,0),[],0) ?_ Sub.z Sup.z ?_
 ·exact ⟨Nat.zero_le _,rfl,MarkS.nil,⟨Nat.le_refl _,Nat.zero_le _⟩,by have:=ha.edges;simpa using this⟩
 rintro ⟨i,o,⟨ao,co⟩,M,cM⟩ ⟨i1,i2,i3,i4,i5⟩
 dsimp only [List.cons_append,List.nil_append] at i1 i2 i3 i4 i5 ⊢
 by_cases hi:i<a.rows.length
 ·obtain ⟨row,hrow⟩:∃ row,a.rows[i]?=some row:=⟨_,List.getElem?_eq_getElem hi⟩
  obtain ⟨ar,cr,hhs,hrr⟩:=hrw.row i row hrow
  have hrm:=hrr.max
  have hrl:=hrr.le
  unfold maxLen at hrm
  rw [dropN_cons hrow,List.foldl_cons] at i2
  have i5:o.length+(row.length+allE (a.rows.drop (i+1)))≤900000:=by
   rw [dropN_cons hrow] at i5
   unfold allE at i5 ⊢
   simpa using i5
  repeat first|exact zE|refine zP ?_|refine zB fun b=>?_|refine zC fun a' c' hc1 hc2=>?_|(apply GJ.a;exact rfl;intro hg)|(apply GJ.o;exact rfl;intro hg)
  rw [Int.toNat_natCast]
  refine OpOk.load rfl rfl (Ld.rs hrs hhs) ?_
  repeat first|exact zE|refine zP ?_|refine zB fun b=>?_|refine zC fun a' c' hc1 hc2=>?_|(apply GJ.a;exact rfl;intro hg)|(apply GJ.o;exact rfl;intro hg)
  refine LoopOk.at (ι:=Nat × List SetD × (Option Addr × Nat) × List (SetD × Bool × Nat) × Nat) Keep.z (fun (j,o,(ao,co),M,cM)=>[(19,.int .i64 (j:Int)),(4,.slice ao o.length co)]) (fun (j,o,(ao,co),M,cM)=>.sl ao o.length co 40 4 (setsV o)::.obj bM (mapG setKV Value.bool M cM)::.blk b1 71 [.slice ad a.rows.length cp,.int .i64 a.last]::own) (fun (j,o,(ao,co),M,cM)=>j≤row.length∧(a.rows.drop (i+1)).foldl rowS (rowS o (row.drop j))=setsN a.rows∧MarkS o M∧(o.length≤co∧co≤maxLen)∧o.length+((row.length-j)+allE (a.rows.drop (i+1)))≤900000) (fun (j,o,(ao,co),M,cM)=>row.length-j) (0,o,(ao,co),M,cM) ?_ Sub.z Sup.z ?_
  ·exact ⟨Nat.zero_le _,i2,i3,i4,i5⟩
  clear i2 i3 i4 i5
  rintro ⟨j,o,⟨ao,co⟩,M,cM⟩ ⟨j1,j2,j3,j4,j5⟩
  dsimp only [List.cons_append,List.nil_append] at j1 j2 j3 j4 j5 ⊢
  by_cases hj:j<row.length
  ·obtain ⟨x,hx⟩:∃ x,row[j]?=some x:=⟨_,List.getElem?_eq_getElem hj⟩
   have hlx:=edgesV_drop row j x hx
   have hsi:x.free=false→SetIn x.set:=fun hf=>ha.sets _ (sets_mem.2 ⟨row,List.mem_of_getElem? hrow,x,List.mem_of_getElem? hx,hf,rfl⟩)
   rw [dropN_cons hx,rowS,List.foldl_cons] at j2
   have hadd:addS o x=if x.free=true∨x.set∈o then o else o++[x.set]:=rfl
   obtain ⟨k2,⟨s1,s2,s3,s4⟩,xf⟩:=x
   dsimp only [edgeV] at hlx hsi hadd
   repeat first|exact zE|refine zP ?_|refine zB fun b=>?_|refine zC fun a' c' hc1 hc2=>?_|(apply GJ.a;exact rfl;intro hg)|(apply GJ.o;exact rfl;intro hg)
   rw [Int.toNat_natCast]
   refine OpOk.loadRow rfl rfl (LdN.at hrr hlx) rfl ?_
   cases xf with
   | true =>
     rw [if_pos (.inl rfl)] at hadd
     rw [hadd] at j2
     repeat first|exact zE|refine zP ?_|refine zB fun b=>?_|refine zC fun a' c' hc1 hc2=>?_|(apply GJ.a;exact rfl;intro hg)|(apply GJ.o;exact rfl;intro hg)
     repeat first|exact zE|refine zP ?_|refine zB fun b=>?_|refine zC fun a' c' hc1 hc2=>?_|(apply GJ.a;exact rfl;intro hg)|(apply GJ.o;exact rfl;intro hg)
     refine Wk.id ⟨(j+1,o,(ao,co),M,cM),⟨rfl,?_⟩,?_,Sub.z,Sup.z⟩
     all_goals try dsimp only
     ·exact ⟨by omega,j2,j3,j4,by omega⟩
     ·omega
   | false =>
     have hsi:=hsi rfl
     repeat first|exact zE|refine zP ?_|refine zB fun b=>?_|refine zC fun a' c' hc1 hc2=>?_|(apply GJ.a;exact rfl;intro hg)|(apply GJ.o;exact rfl;intro hg)
     refine OpOk.lookupG (et:=4) (kv:=setKV) (vv:=Value.bool) (k:=⟨s1,s2,s3,s4⟩) (z:=.bool false) rfl rfl (by kernel_rfl) set_enc j3.1 hsi (by kernel_rfl) ?_
     rw [j3.is]
     by_cases hm:(⟨s1,s2,s3,s4⟩:SetD)∈o
     ·rw [if_pos (.inr hm)] at hadd
      rw [hadd] at j2
      rw [decide_eq_true hm]
      repeat first|exact zE|refine zP ?_|refine zB fun b=>?_|refine zC fun a' c' hc1 hc2=>?_|(apply GJ.a;exact rfl;intro hg)|(apply GJ.o;exact rfl;intro hg)
      repeat first|exact zE|refine zP ?_|refine zB fun b=>?_|refine zC fun a' c' hc1 hc2=>?_|(apply GJ.a;exact rfl;intro hg)|(apply GJ.o;exact rfl;intro hg)
      refine Wk.id ⟨(j+1,o,(ao,co),M,cM),⟨rfl,?_⟩,?_,Sub.z,Sup.z⟩
      all_goals try dsimp only
      ·exact ⟨by omega,j2,j3,j4,by omega⟩
      ·omega
     ·rw [if_neg (fun h=>h.elim (fun h=>by cases h) hm)] at hadd
      rw [hadd] at j2
      rw [decide_eq_false hm]
      have hsl:=setsV_len o
      have hsn:=setsV_snoc o ⟨s1,s2,s3,s4⟩
      have hol:(o++[(⟨s1,s2,s3,s4⟩:SetD)]).length=o.length+1:=by simp
      repeat first|exact zE|refine zP ?_|refine zB fun b=>?_|refine zC fun a' c' hc1 hc2=>?_|(apply GJ.a;exact rfl;intro hg)|(apply GJ.o;exact rfl;intro hg)
      refine OpOk.mapUpdateG (et:=4) (kv:=setKV) (vv:=Value.bool) (k:=⟨s1,s2,s3,s4⟩) (v:=true) rfl rfl rfl (by kernel_rfl) set_enc j3.1 hsi (fun c2=>?_)
      repeat first|exact zE|refine zP ?_|refine zB fun b=>?_|refine zC fun a' c' hc1 hc2=>?_|(apply GJ.a;exact rfl;intro hg)|(apply GJ.o;exact rfl;intro hg)
      rw [show setsV o++flat [Value.agg #[wV s1,wV s2,wV s3,wV s4]]=setsV (o++[⟨s1,s2,s3,s4⟩]) from hsn.symm,←hol]
      rw [←hol] at hc1
      repeat first|exact zE|refine zP ?_|refine zB fun b=>?_|refine zC fun a' c' hc1 hc2=>?_|(apply GJ.a;exact rfl;intro hg)|(apply GJ.o;exact rfl;intro hg)
      refine Wk.id ⟨(j+1,o++[⟨s1,s2,s3,s4⟩],(a',c'),putG M cM ⟨s1,s2,s3,s4⟩ true,c2),⟨rfl,?_⟩,?_,Sub.z,Sup.z⟩
      all_goals try dsimp only
      ·exact ⟨by omega,j2,j3.push hsi cM,⟨hc1,hc2⟩,by rw [hol];omega⟩
      ·omega
  ·obtain rfl:j=row.length:=by omega
   rw [List.drop_length] at j2
   repeat first|exact zE|refine zP ?_|refine zB fun b=>?_|refine zC fun a' c' hc1 hc2=>?_|(apply GJ.a;exact rfl;intro hg)|(apply GJ.o;exact rfl;intro hg)
   repeat first|exact zE|refine zP ?_|refine zB fun b=>?_|refine zC fun a' c' hc1 hc2=>?_|(apply GJ.a;exact rfl;intro hg)|(apply GJ.o;exact rfl;intro hg)
   refine Wk.id ⟨(i+1,o,(ao,co),M,cM),⟨rfl,?_⟩,?_,Sub.z,Sup.z⟩
   all_goals try dsimp only
   ·exact ⟨by omega,j2,j3,j4,by omega⟩
   ·omega
 ·obtain rfl:i=a.rows.length:=by omega
  rw [List.drop_length,List.foldl_nil] at i2
  subst i2
  repeat first|exact zE|refine zP ?_|refine zB fun b=>?_|refine zC fun a' c' hc1 hc2=>?_|(apply GJ.a;exact rfl;intro hg)|(apply GJ.o;exact rfl;intro hg)
  exact Wk.outS Sup.z (.refl _) (hk _ _ i4.1 i4.2)
end
end Go.Proofs.YtficlekgjbnniaaGreatDoor
namespace Go.Proofs.YtficlekgjbnniaaGreatDoor
open Go Go.E
mutual
theorem rg_ins {ro:Ro}:∀ {n:RgD}{v:List Value},RgOk ro n v→insD n
 | .mk k z l x y,v,h=>by
   rw [RgOk] at h
   obtain ⟨a,c,cs,h1,h2,h3,h4⟩:=h
   rw [insD]
   exact ⟨h2,rgs_ins h4⟩
theorem rgs_ins {ro:Ro}:∀ {l:List RgD}{cs:List Value},RgsOk ro l cs→insK l
 | [],cs,h=>by rw [insK];trivial
 | n::l,cs,h=>by
   rw [RgsOk] at h
   obtain ⟨v,r,h0,h1,h2⟩:=h
   rw [insK]
   exact ⟨rg_ins h1,rgs_ins h2⟩
end
theorem RowsOk.le {ro ro':Ro}{R:RowsN}{hs:List Value} (h:RowsOk ro R hs) (hl:Le ro ro'):RowsOk ro' R hs:=⟨h.len,fun i row hr=>by
 obtain ⟨ad,cp,h1,h2⟩:=h.row i row hr
 exact ⟨ad,cp,h1,h2.up⟩⟩
theorem AutoOk.le {ro ro':Ro}{a:NfaD}{v:List Value} (h:AutoOk ro a v) (hl:Le ro ro'):AutoOk ro' a v:=by
 obtain ⟨ad,cp,hs,e,hr,hw⟩:=h
 exact ⟨ad,cp,hs,e,hr.up,hw.le hl⟩
section
variable {ro:Ro}{own r:Chs}{K:Value→Ro→Chs→Prop}{g:Chunk→Chs}
end
end Go.Proofs.YtficlekgjbnniaaGreatDoor
namespace Go.Proofs.YtficlekgjbnniaaGreatDoor
open Go Go.E
theorem take_eq_next {α:Type}{l m:List α}{i:Nat}{x y:α} (hx:l[i]?=some x) (hy:m[i]?=some y) (h:l.take i=m.take i):x=y↔l.take (i+1)=m.take (i+1):=by
 rw [List.take_add_one,List.take_add_one,hx,hy,h]
 simp
section
variable {ro:Ro}{own r:Chs}{K:Value→Ro→Chs→Prop}{g:Chunk→Chs}
theorem equalI_ok {a1 a2:Option Addr}{n1 n2 c1 c2:Nat}{l m:List Int} (h1:Rds ro own a1 n1 c1 1 (l.map (Value.int .i64))) (h2:Rds ro own a2 n2 c2 1 (m.map (Value.int .i64))) (e1:l.length=n1) (e2:m.length=n2)
  (hk:∀ b:Bool,(b=true↔l=m)→K (.bool b) ro own):CallOk Tryz.prog 46 #[.slice a1 n1 c1,.slice a2 n2 c2] ro own K:=by
 have m1:=h1.max
 have m2:=h2.max
 have k1:=h1.le
 have k2:=h2.le
 unfold maxLen at m1 m2
 subst e1;subst e2
 by_cases hl:l.length=m.length
 ·refine CallOk.intro (args:=[_,_]) (rs:=[_]) T_ok Tryz.func46 Tryz.call46 rfl rfl (by kernel_rfl) rfl rfl ?_
  repeat first|exact zE|refine zP ?_|refine zB fun b=>?_|refine zC fun a' c' hc1 hc2=>?_|(apply GJ.a;exact rfl;intro hg)|(apply GJ.o;exact rfl;intro hg)
  refine LoopOk.at (ι:=Nat) Keep.z (fun i=>[(13,.int .i64 (i:Int))]) (fun i=>own) (fun i=>i≤l.length∧l.take i=m.take i) (fun i=>l.length-i) 0 ?_ Sub.z Sup.z ?_
  ·exact ⟨Nat.zero_le _,by simp⟩
  rintro i ⟨i1,i2⟩
  dsimp only [List.cons_append,List.nil_append] at i1 i2 ⊢
  by_cases hi:i<l.length
  ·obtain ⟨x,hx⟩:∃ x,l[i]?=some x:=⟨_,List.getElem?_eq_getElem hi⟩
   obtain ⟨y,hy⟩:∃ y,m[i]?=some y:=⟨_,List.getElem?_eq_getElem (by omega)⟩
   have hxb:l[((i:Nat):Int).toNat]! = x:=by rw [Int.toNat_natCast,List.getElem!_eq_getElem?_getD,hx];rfl
   have hyb:m[((i:Nat):Int).toNat]! = y:=by rw [Int.toNat_natCast,List.getElem!_eq_getElem?_getD,hy];rfl
   have hn:=take_eq_next hx hy i2
   by_cases hxy:x=y
   ·repeat first|exact zE|refine zP ?_|refine zB fun b=>?_|refine zC fun a' c' hc1 hc2=>?_|(apply GJ.a;exact rfl;intro hg)|(apply GJ.o;exact rfl;intro hg)
    repeat first|exact zE|refine zP ?_|refine zB fun b=>?_|refine zC fun a' c' hc1 hc2=>?_|(apply GJ.a;exact rfl;intro hg)|(apply GJ.o;exact rfl;intro hg)
    refine Wk.id ⟨i+1,⟨rfl,?_⟩,?_,Sub.z,Sup.z⟩
    all_goals try dsimp only
    ·exact ⟨by omega,hn.1 hxy⟩
    ·omega
   ·repeat first|exact zE|refine zP ?_|refine zB fun b=>?_|refine zC fun a' c' hc1 hc2=>?_|(apply GJ.a;exact rfl;intro hg)|(apply GJ.o;exact rfl;intro hg)
    refine Wk.id (hk false ⟨(fun h=>by cases h),fun h=>?_⟩)
    subst h
    exact absurd (Option.some.inj (hx.symm.trans hy)) hxy
  ·obtain rfl:i=l.length:=by omega
   repeat first|exact zE|refine zP ?_|refine zB fun b=>?_|refine zC fun a' c' hc1 hc2=>?_|(apply GJ.a;exact rfl;intro hg)|(apply GJ.o;exact rfl;intro hg)
   refine Wk.id (hk true ⟨fun _=>?_,fun _=>rfl⟩)
   rw [List.take_length,hl,List.take_length] at i2
   exact i2
 ·refine CallOk.intro (args:=[_,_]) (rs:=[_]) T_ok Tryz.func46 Tryz.call46 rfl rfl (by kernel_rfl) rfl rfl ?_
  repeat first|exact zE|refine zP ?_|refine zB fun b=>?_|refine zC fun a' c' hc1 hc2=>?_|(apply GJ.a;exact rfl;intro hg)|(apply GJ.o;exact rfl;intro hg)
  exact Wk.id (hk false ⟨(fun h=>by cases h),fun h=>absurd (congrArg List.length h) hl⟩)
end
theorem read_set4 {ro:Ro}{cs:List Value} (h:Wf Tryz.prog ro 23 cs):∃ s:SetD,cs=setV s∧SetIn s:=by
 have hl:cs.length=4:=(Wf.array_inv Tryz.underlying23 h).1.trans (by kernel_rfl)
 have ha:=(Wf.array_inv Tryz.underlying23 h).2
 rw [show Tryz.prog.cellsOf 22=1 by kernel_rfl] at ha
 match cs,hl,ha with
 | [v0,v1,v2,v3],_,ha =>
   obtain ⟨n0,rfl,w0⟩:=Wf.int_inv Tryz.underlying22 (ha 0 (by decide))
   obtain ⟨n1,rfl,w1⟩:=Wf.int_inv Tryz.underlying22 (ha 1 (by decide))
   obtain ⟨n2,rfl,w2⟩:=Wf.int_inv Tryz.underlying22 (ha 2 (by decide))
   obtain ⟨n3,rfl,w3⟩:=Wf.int_inv Tryz.underlying22 (ha 3 (by decide))
   obtain ⟨m0,rfl,b0⟩:=wf_u64 w0
   obtain ⟨m1,rfl,b1⟩:=wf_u64 w1
   obtain ⟨m2,rfl,b2⟩:=wf_u64 w2
   obtain ⟨m3,rfl,b3⟩:=wf_u64 w3
   refine ⟨⟨m0,m1,m2,m3⟩,rfl,fun k=>?_⟩
   unfold SetD.w
   dsimp only
   repeat' split
   all_goals assumption
theorem rgs_of {ro:Ro}:∀ {css:List (List Value)},(∀ (i:Nat) (x:List Value),css[i]?=some x→∃ n,RgOk ro n x)→∃ l,RgsOk ro l css.flatten∧l.length=css.length
 | [],_=>⟨[],by rw [RgsOk];rfl,rfl⟩
 | c::css,h=>by
   obtain ⟨n,hn⟩:=h 0 c rfl
   obtain ⟨l,hl,hlen⟩:=rgs_of (css:=css) (fun i x hx=>h (i+1) x (by simpa using hx))
   exact ⟨n::l,by rw [RgsOk];exact ⟨c,css.flatten,rfl,hn,hl⟩,by simp [hlen]⟩
theorem read_rgx' {ro:Ro}{t:TypeId}{cs:List Value} (h:Wf Tryz.prog ro t cs):(t=26→∃ n,RgOk ro n cs)∧(t=24→∃ l a c vs,cs=[.slice a l.length c]∧Rs ro a l.length c 8 vs∧RgsOk ro l vs):=by
 have hu:=Tryz.underlying26
 have hu2:=Tryz.underlying24
 induction h with
 | bool h=>exact ⟨fun e=>(by subst e;rw [hu] at h;cases h),fun e=>(by subst e;rw [hu2] at h;cases h)⟩
 | int h _=>exact ⟨fun e=>(by subst e;rw [hu] at h;cases h),fun e=>(by subst e;rw [hu2] at h;cases h)⟩
 | str h _=>exact ⟨fun e=>(by subst e;rw [hu] at h;cases h),fun e=>(by subst e;rw [hu2] at h;cases h)⟩
 | array h _ _ _=>exact ⟨fun e=>(by subst e;rw [hu] at h;cases h),fun e=>(by subst e;rw [hu2] at h;cases h)⟩
 | nought h h0 =>
   refine ⟨fun e=>(by subst e;rw [hu] at h;cases h),fun e=>?_⟩
   subst e;rw [hu2] at h;cases h
   exact absurd h0 (by rw [show Tryz.prog.cellsOf 26=8 by kernel_rfl];decide)
 | other h =>
   refine ⟨fun e=>?_,fun e=>?_⟩
   ·subst e;exact absurd rfl ((h _ hu).2.2.2.2.1 _)
   ·subst e;exact absurd rfl ((h _ hu2).2.2.2.1 _)
 | slice h h0 hr hl hs hw ih =>
   refine ⟨fun e=>(by subst e;rw [hu] at h;cases h),fun e=>?_⟩
   subst e;rw [hu2] at h;cases h
   obtain ⟨l,h1,h2⟩:=rgs_of (fun i x hx=>(ih i x hx).1 rfl)
   rw [show Tryz.prog.cellsOf 26=8 by kernel_rfl] at hr
   rw [hl] at h2
   exact ⟨l,_,_,_,by rw [h2],by rw [h2];exact hr,h1⟩
 | @struct t fs cs h hl hw ih =>
   refine ⟨fun e=>?_,fun e=>(by subst e;rw [hu2] at h;cases h)⟩
   subst e
   have hW:Wf Tryz.prog ro 26 cs:=.struct h hl hw
   have hl:cs.length=8:=hl.trans (by kernel_rfl)
   rw [hu] at h;cases h
   have i2:=(ih 2 _ rfl).2 rfl
   match cs,hl,hW,i2 with
   | [v0,v1,v2,v3,v4,v5,v6,v7],_,hW,i2 =>
     obtain ⟨n0,rfl,_⟩:=Wf.int_inv Tryz.underlying3 (Wf.fld (i:=0) (off:=0) (k:=1) hu hW rfl rfl rfl (by kernel_rfl))
     obtain ⟨z,hz,hzi⟩:=read_set4 (Wf.fld (i:=1) (off:=1) (k:=4) hu hW rfl rfl rfl (by kernel_rfl))
     obtain ⟨n6,rfl,_⟩:=Wf.int_inv Tryz.underlying3 (Wf.fld (i:=3) (off:=6) (k:=1) hu hW rfl rfl rfl (by kernel_rfl))
     obtain ⟨n7,rfl,_⟩:=Wf.int_inv Tryz.underlying3 (Wf.fld (i:=4) (off:=7) (k:=1) hu hW rfl rfl rfl (by kernel_rfl))
     obtain ⟨l,a,c,vs,e5,hrs,hks⟩:=i2
     have hz:[v1,v2,v3,v4]=setV z:=hz
     have e5:[v5]=[.slice a l.length c]:=by
      have:(([.int .i64 n0,v1,v2,v3,v4,v5,.int .i64 n6,.int .i64 n7]:List Value).drop 5).take 1=[v5]:=rfl
      rw [←this]
      exact e5
     cases e5
     unfold setV at hz
     cases hz
     refine ⟨.mk n0 z l n6 n7,?_⟩
     rw [RgOk]
     exact ⟨a,c,vs,rfl,hzi,hrs,hks⟩
theorem read_rgx {ro:Ro}{cs:List Value} (h:Wf Tryz.prog ro 26 cs):∃ n,RgOk ro n cs:=(read_rgx' h).1 rfl
section
variable {A:List UInt8→RgD→Prop}
end
theorem add_in {z:SetD}{c:Nat} (hz:SetIn z) (hc:c<256):SetIn (z.add c):=SetIn.add hz hc
end Go.Proofs.YtficlekgjbnniaaGreatDoor
end
section
namespace Go.E
open Go
theorem SetR.ofSet {v:Value}:∀ {l:List Value}{k:Nat},k<l.length→SetR l k v (l.set k v)
 | [],_,h=>absurd h (Nat.not_lt_zero _)
 | x::l,0,_=>SetR.hit _ _ _
 | x::l,k+1,h=>SetR.miss _ (SetR.ofSet (by simpa using h))
def DLd (ro:Ro) (b o:Nat) (v:Value):Prop:=∀ own,Ld ro own b o v
theorem DLd.ld {ro ro':Ro}{own:Chs}{b o:Nat}{v:Value} (h:DLd ro b o v) [hl:Leq ro ro']:Ld ro' own b o v:=fun g hs=>h own g (hs.leq hl)
theorem DLd.ldE {ro ro':Ro}{own:Chs}{b o o':Nat}{v:Value} (h:DLd ro b o v) [hl:Leq ro ro'] (e:o'=o):Ld ro' own b o' v:=e▸h.ld
end Go.E
namespace Go.Proofs.YtficlekgjbnniaaGreatDoor
open Go Go.E
def clsV (C:List Nat):List Value:=C.map fun (k:Nat)=>.int .u8 (k:Int)
def autV (C:List Nat) (x y:Value):List Value:=clsV C++[x,y]
theorem clsV_len (C:List Nat):(clsV C).length=C.length:=by simp [clsV]
theorem autV_len {C:List Nat} (h:C.length=256) (x y:Value):(autV C x y).length=258:=by simp [autV,clsV,h]
theorem aut_next {C:List Nat}{x y:Value} (h:C.length=256):(autV C x y)[256]?=some x:=by
 unfold autV;rw [List.getElem?_append_right (by rw [clsV_len];omega),clsV_len,h];rfl
theorem aut_acc {C:List Nat}{x y:Value} (h:C.length=256):(autV C x y)[257]?=some y:=by
 unfold autV;rw [List.getElem?_append_right (by rw [clsV_len];omega),clsV_len,h];rfl
theorem aut_cls {C:List Nat}{x y:Value}{c k:Nat} (h:C[c]?=some k):(autV C x y)[c]?=some (.int .u8 (k:Int)):=by
 have hc:=(List.getElem?_eq_some_iff.1 h).1
 unfold autV clsV
 rw [List.getElem?_append_left (by simpa using hc),List.getElem?_map,h];rfl
theorem aut_set {C:List Nat}{x y:Value}{c:Nat} (hc:c<C.length) (k:Nat):(autV C x y).set c (.int .u8 (k:Int))=autV (C.set c k) x y:=by
 unfold autV clsV
 rw [List.set_append_left _ _ (by simpa using hc),List.map_set]
theorem aut_set1 {C:List Nat}{x y v:Value} (h:C.length=256):SetR (autV C x y) 256 v (autV C v y):=by
 have e:(autV C x y).set 256 v=autV C v y:=by
  unfold autV
  rw [List.set_append_right _ _ (by rw [clsV_len];omega),clsV_len,h];rfl
 rw [←e]
 exact SetR.ofSet (by rw [autV_len h];omega)
theorem aut_set2 {C:List Nat}{x y v:Value} (h:C.length=256):SetR (autV C x y) 257 v (autV C x v):=by
 have e:(autV C x y).set 257 v=autV C x v:=by
  unfold autV
  rw [List.set_append_right _ _ (by rw [clsV_len];omega),clsV_len,h];rfl
 rw [←e]
 exact SetR.ofSet (by rw [autV_len h];omega)
theorem Ld.auto {ro:Ro}{own:Chs}{b o:Nat}{v:Value} (h:Ld ro own b o v:=by first|exact Go.E.Ld.hasBlk rfl|exact Go.E.DLd.ld (by assumption)|exact Go.E.Ld.hasBlkAt (aut_next (by assumption))|exact Go.E.Ld.hasBlkAt (aut_acc (by assumption))|exact Go.E.Ld.rs (by assumption) (getMap (by omega))|exact Go.E.Ld.rds (by assumption) (getMap (by omega))|exact Go.E.Ld.hasSl (getMap (by omega))|exact Go.E.Ld.hasBlkAt (getMap (by omega))):Ld ro own b o v:=h
theorem SetR.auto {cs:List Value}{o:Nat}{v:Value}{cs2:List Value} (h:SetR cs o v cs2:=by first|((repeat (first|exact Go.E.SetR.hit _ _ _|apply Go.E.SetR.miss));done)|exact aut_set1 (by assumption)|exact aut_set2 (by assumption)):SetR cs o v cs2:=h
structure DAt (ro:Ro) (q:Nat) (d:DfaA):Prop where
 ex:∃ (an:Option Addr) (cn:Nat) (aa:Option Addr) (ca:Nat) (hs:List Value),RowR ro q 68 (autV d.cls (.slice an d.next.length cn) (.slice aa d.acc.length ca))∧d.cls.length=256∧Rs ro an d.next.length cn 1 hs ∧
  (∀ (i:Nat) (row:List Int),d.next[i]?=some row→∃ (ar:Option Addr) (cr:Nat),hs[i]?=some (.slice ar row.length cr)∧Rs ro ar row.length cr 1 (row.map (Value.int .i64)))∧Rs ro aa d.acc.length ca 1 (d.acc.map Value.bool)
theorem DAt.le {ro ro':Ro}{q:Nat}{d:DfaA} (h:DAt ro q d) (hl:Le ro ro'):DAt ro' q d:=by
 obtain ⟨an,cn,aa,ca,hs,h1,h2,h3,h4,h5⟩:=h.ex
 refine ⟨an,cn,aa,ca,hs,hl.le _ _ h1,h2,Rs.up h3,fun i row hr=>?_,Rs.up h5⟩
 obtain ⟨ar,cr,p1,p2⟩:=h4 i row hr
 exact ⟨ar,cr,p1,Rs.up p2⟩
structure DRd (ro:Ro) (q:Nat) (d:DfaA) (an:Option Addr) (cn:Nat) (aa:Option Addr) (ca:Nat) (hs:List Value):Prop where
 row:RowR ro q 68 (autV d.cls (.slice an d.next.length cn) (.slice aa d.acc.length ca))
 c256:d.cls.length=256
 ldN:DLd ro q 256 (.slice an d.next.length cn)
 ldA:DLd ro q 257 (.slice aa d.acc.length ca)
 ldC:∀ c k:Nat,d.cls[c]?=some k→DLd ro q c (.int .u8 (k:Int))
 rs:Rs ro an d.next.length cn 1 hs
 ra:Rs ro aa d.acc.length ca 1 (d.acc.map Value.bool)
 rows:∀ (i:Nat) (row:List Int),d.next[i]?=some row→∃ (ar:Option Addr) (cr:Nat),hs[i]?=some (.slice ar row.length cr)∧Rs ro ar row.length cr 1 (row.map (Value.int .i64))
theorem DLd.row {ro:Ro}{q o:Nat}{t:TypeId}{cs:List Value}{v:Value} (h:RowR ro q t cs) (hv:cs[o]?=some v):DLd ro q o v:=fun own g hs=>Row.cell (h:=g) (t:=t) (cs:=cs) (hs.last _ _ h) hv
theorem DAt.rd {ro:Ro}{q:Nat}{d:DfaA} (h:DAt ro q d):∃ an cn aa ca hs,DRd ro q d an cn aa ca hs:=by
 obtain ⟨an,cn,aa,ca,hs,h1,h2,h3,h4,h5⟩:=h.ex
 exact ⟨an,cn,aa,ca,hs,h1,h2,DLd.row h1 (aut_next h2),DLd.row h1 (aut_acc h2),fun c k hk=>DLd.row h1 (aut_cls hk),h3,h5,h4⟩
theorem getB_get {m:List Bool}{i:Nat} (h:i<m.length):m[(i:Int).toNat]! = getB m i:=by
 rw [Int.toNat_natCast,List.getElem!_eq_getElem?_getD]
 unfold getB
 rw [List.getElem?_eq_getElem h];rfl
section
variable {ro:Ro}{own r:Chs}{K:Value→Ro→Chs→Prop}{g:Chunk→Chs}
theorem dlen_ok {q:Nat}{d:DfaA} (hD:DAt ro q d) (hk:K (.int .i64 (d.next.length:Int)) ro own):CallOk Tryz.prog 24 #[ptr' q] ro own K:=by
 obtain ⟨an,cn,aa,ca,hs,hd⟩:=hD.rd
 have hN:=hd.ldN
 refine CallOk.intro (args:=[_]) (rs:=[_]) T_ok Tryz.func24 Tryz.call24 rfl rfl (by kernel_rfl) rfl rfl ?_
 repeat first|exact zE|refine zP ?_|refine zB fun b=>?_|refine zC fun a' c' hc1 hc2=>?_|(apply GJ.a;exact rfl;intro hg)|(apply GJ.o;exact rfl;intro hg)
 exact Wk.id hk
theorem dwidth_ok {q:Nat}{d:DfaA} (hD:DAt ro q d) (hk:K (.int .i64 (widthA d:Int)) ro own):CallOk Tryz.prog 48 #[ptr' q] ro own K:=by
 obtain ⟨an,cn,aa,ca,hs,hd⟩:=hD.rd
 have hN:=hd.ldN
 have hrs:=hd.rs
 unfold widthA at hk
 refine CallOk.intro (args:=[_]) (rs:=[_]) T_ok Tryz.func48 Tryz.call48 rfl rfl (by kernel_rfl) rfl rfl ?_
 repeat first|exact zE|refine zP ?_|refine zB fun b=>?_|refine zC fun a' c' hc1 hc2=>?_|(apply GJ.a;exact rfl;intro hg)|(apply GJ.o;exact rfl;intro hg)
 by_cases h0:d.next.length=0
 ·have hn:d.next=[]:=List.eq_nil_of_length_eq_zero h0
  rw [hn] at hk
  repeat first|exact zE|refine zP ?_|refine zB fun b=>?_|refine zC fun a' c' hc1 hc2=>?_|(apply GJ.a;exact rfl;intro hg)|(apply GJ.o;exact rfl;intro hg)
  exact Wk.id hk
 ·obtain ⟨row,hrow⟩:∃ row,d.next[0]?=some row:=⟨_,List.getElem?_eq_getElem (by omega)⟩
  obtain ⟨ar,cr,h1,h2⟩:=hd.rows 0 row hrow
  rw [hrow] at hk
  repeat first|exact zE|refine zP ?_|refine zB fun b=>?_|refine zC fun a' c' hc1 hc2=>?_|(apply GJ.a;exact rfl;intro hg)|(apply GJ.o;exact rfl;intro hg)
  refine OpOk.load rfl rfl (Go.E.Ld.rs hrs h1) ?_
  repeat first|exact zE|refine zP ?_|refine zB fun b=>?_|refine zC fun a' c' hc1 hc2=>?_|(apply GJ.a;exact rfl;intro hg)|(apply GJ.o;exact rfl;intro hg)
  exact Wk.id hk
theorem dstep_ok {q:Nat}{d:DfaA}{w:Nat}{s:Int}{c:Nat} (hD:DAt ro q d) (ho:DfaOk w d) (hc:c<256) (hk:K (.int .i64 (stepA d s c)) ro own):CallOk Tryz.prog 22 #[ptr' q,.int .i64 s,.int .u8 (c:Int)] ro own K:=by
 obtain ⟨an,cn,aa,ca,hs,hd⟩:=hD.rd
 have hN:=hd.ldN
 have hrs:=hd.rs
 refine CallOk.intro (args:=[_,_,_]) (rs:=[_]) T_ok Tryz.func22 Tryz.call22 rfl rfl (by kernel_rfl) rfl rfl ?_
 by_cases h0:s<0
 ·unfold stepA at hk
  rw [if_pos (.inl h0)] at hk
  repeat first|exact zE|refine zP ?_|refine zB fun b=>?_|refine zC fun a' c' hc1 hc2=>?_|(apply GJ.a;exact rfl;intro hg)|(apply GJ.o;exact rfl;intro hg)
  exact Wk.id hk
 by_cases h1:(d.next.length:Int)≤s
 ·unfold stepA at hk
  rw [if_pos (.inr h1)] at hk
  repeat first|exact zE|refine zP ?_|refine zB fun b=>?_|refine zC fun a' c' hc1 hc2=>?_|(apply GJ.a;exact rfl;intro hg)|(apply GJ.o;exact rfl;intro hg)
  exact Wk.id hk
 obtain ⟨n,rfl⟩:∃ n:Nat,s=(n:Int):=⟨s.toNat,by omega⟩
 obtain ⟨k,row,p1,p2,p3,p4⟩:=step_at ho (s:=n) (by omega) hc
 obtain ⟨ar,cr,q1,q2⟩:=hd.rows n row p3
 have hC:=hd.ldC c k p1
 have hrl:=ho.row row (List.mem_of_getElem? p3)
 have hgr:(row.map (Value.int .i64))[k]?=some (.int .i64 (stepA d (n:Int) c)):=by rw [List.getElem?_map,p4];rfl
 repeat first|exact zE|refine zP ?_|refine zB fun b=>?_|refine zC fun a' c' hc1 hc2=>?_|(apply GJ.a;exact rfl;intro hg)|(apply GJ.o;exact rfl;intro hg)
 repeat (first|exact zE|refine wkU ?_|(show QOk _ _ _ _ _ _ _;refine QOk.build rfl rfl Nf.auto ?_)|(show GJ _ _ _ _ _ _ _;first|with_reducible refine GJ.neF ?_|with_reducible refine GJ.neT ?_)|(show Br _ _ _;with_reducible refine Br.ne ?_)|refine zB (fun b=>?_)|refine zC (fun a' c' hc1 hc2=>?_)|(apply GJ.a;exact rfl;intro hg)|(apply GJ.o;exact rfl;intro hg))
 refine QOk.load rfl rfl (Go.E.Ld.rs hrs (by rw [Int.toNat_natCast];exact q1)) ?_
 repeat (first|exact zE|refine wkU ?_|(show QOk _ _ _ _ _ _ _;refine QOk.build rfl rfl Nf.auto ?_)|(show GJ _ _ _ _ _ _ _;first|with_reducible refine GJ.neF ?_|with_reducible refine GJ.neT ?_)|(show Br _ _ _;with_reducible refine Br.ne ?_)|refine zB (fun b=>?_)|refine zC (fun a' c' hc1 hc2=>?_)|(apply GJ.a;exact rfl;intro hg)|(apply GJ.o;exact rfl;intro hg))
 refine QOk.load rfl rfl (hC.ldE (by simp)) ?_
 repeat (first|exact zE|refine wkU ?_|(show QOk _ _ _ _ _ _ _;refine QOk.build rfl rfl Nf.auto ?_)|(show GJ _ _ _ _ _ _ _;first|with_reducible refine GJ.neF ?_|with_reducible refine GJ.neT ?_)|(show Br _ _ _;with_reducible refine Br.ne ?_)|refine zB (fun b=>?_)|refine zC (fun a' c' hc1 hc2=>?_)|(apply GJ.a;exact rfl;intro hg)|(apply GJ.o;exact rfl;intro hg))
 repeat first|exact zE|refine zP ?_|refine zB fun b=>?_|refine zC fun a' c' hc1 hc2=>?_|(apply GJ.a;exact rfl;intro hg)|(apply GJ.o;exact rfl;intro hg)
 exact Wk.val hk (by rw [Int.toNat_natCast,List.getElem!_eq_getElem?_getD,p4];rfl)
theorem dends_ok {q:Nat}{d:DfaA}{s:Int} (hD:DAt ro q d) (hk:K (.bool (endsA d s)) ro own):CallOk Tryz.prog 32 #[ptr' q,.int .i64 s] ro own K:=by
 obtain ⟨an,cn,aa,ca,hs,hd⟩:=hD.rd
 have hA:=hd.ldA
 have hra:=hd.ra
 unfold endsA at hk
 refine CallOk.intro (args:=[_,_]) (rs:=[_]) T_ok Tryz.func32 Tryz.call32 rfl rfl (by kernel_rfl) rfl rfl ?_
 by_cases h0:s<0
 ·rw [decide_eq_false (by omega)] at hk
  repeat first|exact zE|refine zP ?_|refine zB fun b=>?_|refine zC fun a' c' hc1 hc2=>?_|(apply GJ.a;exact rfl;intro hg)|(apply GJ.o;exact rfl;intro hg)
  exact Wk.id hk
 by_cases h1:(d.acc.length:Int)≤s
 ·rw [decide_eq_false (p:=s<_) (by omega),Bool.and_false] at hk
  repeat first|exact zE|refine zP ?_|refine zB fun b=>?_|refine zC fun a' c' hc1 hc2=>?_|(apply GJ.a;exact rfl;intro hg)|(apply GJ.o;exact rfl;intro hg)
  exact Wk.id hk
 obtain ⟨n,rfl⟩:∃ n:Nat,s=(n:Int):=⟨s.toNat,by omega⟩
 obtain ⟨z,hz⟩:∃ z,d.acc[n]?=some z:=⟨_,List.getElem?_eq_getElem (by omega)⟩
 rw [decide_eq_true (by omega),decide_eq_true (by omega),Int.toNat_natCast,hz] at hk
 have hgz:(d.acc.map Value.bool)[n]?=some (.bool z):=by rw [List.getElem?_map,hz];rfl
 repeat first|exact zE|refine zP ?_|refine zB fun b=>?_|refine zC fun a' c' hc1 hc2=>?_|(apply GJ.a;exact rfl;intro hg)|(apply GJ.o;exact rfl;intro hg)
 exact Wk.val hk (by rw [Int.toNat_natCast,List.getElem!_eq_getElem?_getD,hz];rfl)
theorem dmatch_ok {q w:Nat}{d:DfaA}{a:Option Addr}{n c:Nat}{tx:List UInt8} (hD:DAt ro q d) (ho:DfaOk w d) (hb:Rds ro own a n c 1 (tx.map u8)) (hn:tx.length=n) (hk:K (.bool (matchA d tx)) ro own):CallOk Tryz.prog 26 #[ptr' q,.slice a n c] ro own K:=by
 subst hn
 have hmx:=hb.max
 have hle:=hb.le
 unfold maxLen at hmx
 refine CallOk.intro (args:=[_,_]) (rs:=[_]) T_ok Tryz.func26 Tryz.call26 rfl rfl (by kernel_rfl) rfl rfl ?_
 repeat first|exact zE|refine zP ?_|refine zB fun b=>?_|refine zC fun a' c' hc1 hc2=>?_|(apply GJ.a;exact rfl;intro hg)|(apply GJ.o;exact rfl;intro hg)
 refine LoopOk.at (ι:=Nat) Keep.z (fun i=>[(10,.int .i64 (i:Int)),(5,.int .i64 (runA d (tx.take i)))]) (fun i=>own) (fun i=>i≤tx.length) (fun i=>tx.length-i) 0 ?_ Sub.z Sup.z ?_
 ·exact Nat.zero_le _
 rintro i i1
 dsimp only [List.cons_append,List.nil_append] at i1 ⊢
 by_cases hi:i<tx.length
 ·obtain ⟨z,hz⟩:∃ z,tx[i]?=some z:=⟨_,List.getElem?_eq_getElem hi⟩
  have hzb:tx[((i:Nat):Int).toNat]! = z:=by rw [Int.toNat_natCast,List.getElem!_eq_getElem?_getD,hz];rfl
  have htk:tx.take (i+1)=tx.take i++[z]:=by rw [List.take_add_one,hz];rfl
  have hr:stepA d (runA d (tx.take i)) z.toNat=runA d (tx.take (i+1)):=by rw [htk];unfold runA;rw [List.foldl_append];rfl
  generalize runA d (tx.take i)=s at *
  generalize hs2:runA d (tx.take (i+1))=s2 at *
  repeat first|exact zE|refine zP ?_|refine zB fun b=>?_|refine zC fun a' c' hc1 hc2=>?_|(apply GJ.a;exact rfl;intro hg)|(apply GJ.o;exact rfl;intro hg)
  rw [hzb]
  refine dstep_ok (c:=z.toNat) hD ho (UInt8.toNat_lt z) ?_
  rw [hr]
  repeat first|exact zE|refine zP ?_|refine zB fun b=>?_|refine zC fun a' c' hc1 hc2=>?_|(apply GJ.a;exact rfl;intro hg)|(apply GJ.o;exact rfl;intro hg)
  subst hs2
  refine Wk.id ⟨i+1,⟨rfl,?_⟩,?_,Sub.z,Sup.z⟩
  all_goals try dsimp only
  ·omega
  ·omega
 ·obtain rfl:i=tx.length:=by omega
  rw [List.take_length] at *
  repeat first|exact zE|refine zP ?_|refine zB fun b=>?_|refine zC fun a' c' hc1 hc2=>?_|(apply GJ.a;exact rfl;intro hg)|(apply GJ.o;exact rfl;intro hg)
  refine dends_ok hD ?_
  repeat first|exact zE|refine zP ?_|refine zB fun b=>?_|refine zC fun a' c' hc1 hc2=>?_|(apply GJ.a;exact rfl;intro hg)|(apply GJ.o;exact rfl;intro hg)
  exact Wk.id hk
end
end Go.Proofs.YtficlekgjbnniaaGreatDoor
end
