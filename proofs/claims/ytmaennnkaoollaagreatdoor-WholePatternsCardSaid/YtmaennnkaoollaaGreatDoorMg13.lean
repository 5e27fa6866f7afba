/- Texts of a walk, one behind the other. -/
import Derived.ChangeKeysEq
import Derived.Tactics
import Derived.Tactics2
import Derived.Laws.Pointers
import Derived.RegionTactic
import Derived.RegionCalls
import Derived.ChangeAlike
import Derived.Test.YtmaennnkaoollaaGreatDoorMg3
import Derived.Test.YtmaennnkaoollaaGreatDoorMg4
import Derived.Test.YtmaennnkaoollaaGreatDoorMg7
import Derived.Test.YtmaennnkaoollaaGreatDoorMg8
import Derived.Test.YtmaennnkaoollaaGreatDoorMg9
import Derived.Test.YtmaennnkaoollaaGreatDoorMg10
import Derived.Test.YtmaennnkaoollaaGreatDoorMg11
import Derived.Test.YtmaennnkaoollaaGreatDoorMg12
set_option linter.unusedVariables false
set_option linter.unusedSimpArgs false
set_option linter.unusedSectionVars false
set_option maxRecDepth 10000
section
namespace Go.Proofs.YtmaennnkaoollaaGreatDoor
open Go Go.E
def clsU (P:List SetD) (i:Nat):List Nat:=(List.range 256).map fun c=>((P.take i).findIdx? fun p=>p.has c).getD 0
theorem zNJ (P:List SetD):clsU P 0=List.replicate 256 0:=by
 apply List.ext_getElem?
 intro c
 unfold clsU
 rw [List.getElem?_map,List.getElem?_replicate]
 by_cases h:c<256
 ·rw [List.getElem?_range h,if_pos h];rfl
 ·rw [List.getElem?_eq_none (by simp;omega),if_neg h];rfl
theorem clsU_all (P:List SetD):clsU P P.length=clsG P:=by unfold clsU clsG;rw [List.take_length]
theorem zHx (P:List SetD) (i:Nat):(clsU P i).length=256:=by simp [clsU]
theorem zKC (P:List SetD) (i:Nat) {c:Nat} (h:c<256):(clsU P i)[c]?=some (((P.take i).findIdx? fun p=>p.has c).getD 0):=by
 unfold clsU;rw [List.getElem?_map,List.getElem?_range h];rfl
structure ClsP (P:List SetD) (i:Nat) (pre:List Nat) (C:List Nat):Prop where
 len:C.length=256
 at':∀ c,c<256→C[c]?=some (if c∈pre then i else ((P.take i).findIdx? fun p=>p.has c).getD 0)
theorem ClsP.start (P:List SetD) (i:Nat):ClsP P i [] (clsU P i):=⟨zHx P i,fun c hc=>by rw [zKC P i hc,if_neg (by simp)]⟩
theorem ClsP.step {P:List SetD}{i:Nat}{pre C:List Nat} (h:ClsP P i pre C) {x:Nat} (hx:x<256):ClsP P i (pre++[x]) (C.set x i):=by
 refine ⟨by rw [List.length_set,h.len],fun c hc=>?_⟩
 by_cases e:c=x
 ·subst e;rw [List.getElem?_set_self (by rw [h.len];exact hc),if_pos (by simp)]
 ·rw [List.getElem?_set_ne (fun h=>e h.symm),h.at' c hc]
  congr 1
  by_cases hm:c∈pre
  ·rw [if_pos hm,if_pos (by simp [hm])]
  ·rw [if_neg hm,if_neg (by simp [hm,e])]
theorem ClsP.fin {P l:List SetD} (hcut:Cuts P l) {i:Nat}{p:SetD} (hp:P[i]?=some p) {C:List Nat} (h:ClsP P i (zEZ p) C):C=clsU P (i+1):=by
 apply List.ext_getElem?
 intro c
 by_cases hc:c<256
 ·rw [h.at' c hc,zKC P _ hc,List.take_add_one,hp,Option.toList_some,List.findIdx?_append,List.findIdx?_cons]
  congr 1
  have hmem:c∈zEZ p↔p.has c=true:=by unfold zEZ;rw [List.mem_filter,List.mem_range];exact ⟨fun h=>h.2,fun h=>⟨hc,h⟩⟩
  have hi:=(List.getElem?_eq_some_iff.1 hp).1
  by_cases hh:p.has c=true
  ·have hnone:(P.take i).findIdx? (fun p=>p.has c)=none:=by
    rw [List.findIdx?_eq_none_iff]
    intro q hq
    obtain ⟨j,hj,e⟩:=List.getElem_of_mem hq
    rw [List.length_take] at hj
    have hjq:P[j]?=some q:=by rw [List.getElem_take] at e;rw [List.getElem?_eq_getElem (by omega),e]
    have:=(hcut.at (show j<i by omega) hjq hp).2 c hc
    cases e2:q.has c with
    | false=>rfl
    | true=>exact absurd ⟨e2,hh⟩ this
   rw [if_pos (hmem.2 hh),hnone,hh]
   simp;omega
  ·rw [if_neg (fun h=>hh (hmem.1 h)),Bool.eq_false_iff.2 hh]
   cases (P.take i).findIdx? fun p=>p.has c<;>rfl
 ·rw [List.getElem?_eq_none (by rw [h.len];omega),List.getElem?_eq_none (by rw [zHx];omega)]
theorem ints_inj {a b:List Nat} (h:zAp a=zAp b):a=b:=by
 unfold zAp at h
 exact List.map_inj_right (fun x y e=>Int.ofNat.inj e) |>.1 h
theorem zKq (sets:List (List Nat)) (t:List Nat):(sets.map zAp).idxOf? (zAp t)=sets.idxOf? t:=by
 unfold List.idxOf?
 rw [List.findIdx?_map]
 congr 1
 funext x
 show (zAp x == zAp t)=(x == t)
 rw [Bool.eq_iff_iff,beq_iff_eq,beq_iff_eq]
 exact ⟨ints_inj,fun e=>by rw [e]⟩
def SetN (n:Nat) (t:List Nat):Prop:=t.Pairwise (· < ·)∧∀ x∈t,x<n
theorem SetN.len {n:Nat}{t:List Nat} (h:SetN n t):t.length≤n:=zGt t 0 n h.1 (fun x hx=>⟨Nat.zero_le _,h.2 x hx⟩)
theorem SetN.adm {n:Nat}{t:List Nat} (h:SetN n t) (hn:n≤4096):AdmK (zAp t):=fun z hz=>by
 obtain ⟨x,hx,rfl⟩:=List.mem_map.1 hz
 have:=h.2 x hx
 exact ⟨Int.natCast_nonneg _,by show (x:Int)<_;omega⟩
theorem step_set (rows:zAy) (list:List Int) (c:Nat):SetN rows.length (zBJ rows list c):=⟨zDt _ _,fun x hx=>zJX hx⟩
theorem zLQ (rows:zAy):SetN rows.length (zBK rows):=⟨zHB rows,fun x hx=>start_lt hx⟩
structure SetsH (ro:Ro) (sets:List (List Nat)) (H:List Value):Prop where
 len:H.length=sets.length
 row:∀ (i:Nat) (t:List Nat),sets[i]?=some t→∃ (ar:Option Addr) (cr:Nat),H[i]?=some (.slice ar t.length cr)∧Rs ro ar t.length cr 1 (zAq t)
theorem SetsH.nil (ro:Ro):SetsH ro [] []:=⟨rfl,fun i row h=>by simp at h⟩
theorem SetsH.le {ro ro':Ro}{sets:List (List Nat)}{H:List Value} (h:SetsH ro sets H) (hl:Le ro ro'):SetsH ro' sets H:=⟨h.len,fun i row hr=>by
 obtain ⟨ar,cr,h1,h2⟩:=h.row i row hr
 exact ⟨ar,cr,h1,Rs.up h2⟩⟩
theorem SetsH.snoc {ro:Ro}{sets:List (List Nat)}{H:List Value} (h:SetsH ro sets H) {t:List Nat}{ar:Option Addr}{cr:Nat} (hr:Rs ro ar t.length cr 1 (zAq t)):SetsH ro (sets++[t]) (H++[.slice ar t.length cr]):=⟨by simp [h.len],fun i x hx=>by
 rcases zAI hx with ⟨h1,h2⟩|⟨h1,h2⟩
 ·obtain ⟨a,c,p1,p2⟩:=h.row i x h2
  exact ⟨a,c,zAf p1,p2⟩
 ·subst h1;subst h2
  exact ⟨ar,cr,by rw [←h.len];exact zAH _ _,hr⟩⟩
theorem zNs {p:SetD}{c:Nat} (hc:c<256) (h1:p.has c=true) (h2:∀ j,j<c→p.has j=false):zCg p=c:=by
 refine zI1 ?_
 unfold SetD.firstIs
 rw [beq_iff_eq,List.find?_range_eq_some]
 exact ⟨h1,List.mem_range.2 hc,fun j hj=>by simpa using h2 j hj⟩
section
variable {ro:Ro}{own r:Chs}{K:Value→Ro→Chs→Prop}{g:Chunk→Chs}
theorem zLc (R:List RowJ) (y:RowJ) (r:Chs):(rowJ y::(R.map rowJ++r)).Perm ((R++[y]).map rowJ++r):=by
 rw [List.map_append,List.append_assoc]
 exact List.perm_middle.symm
set_option maxHeartbeats 16000000 in
theorem zN8 {a:NfaD}{v:List Value} (hv:AutoOk ro a v) (hK:zL6 a) (ht:TabOk ro) (hsl:(zB4 a.rows).length≤1000)
  (hk1:(zAP a).1≠0→K (.tuple #[.pointer none,.int .i64 ((zAP a).1:Int)]) ro own)
  (hk2:(zAP a).1=0→∀ (p:Nat) (an:Option Addr) (cn:Nat) (aa:Option Addr) (ca:Nat) (R:List RowJ),R.map (·.2)=(zAP a).2.next →
   K (.tuple #[ptr' p,.int .i64 0]) ro (.blk p 83 (autV (zAP a).2.cls (.slice an R.length cn) (.slice aa (zAP a).2.acc.length ca))::.sl an R.length cn 84 1 (R.map hdrJ)::.sl aa (zAP a).2.acc.length ca 4 1 (zAh (zAP a).2.acc)::(R.map rowJ++own))) :
  CallOk Tryz.prog 26 #[.agg v.toArray] ro own K:=by
 have hv0:=hv
 obtain ⟨ad,cp,hs,rfl,hrs,hrw⟩:=hv
 have hle:=hK.ok.le
 have hmr:=hrs.max
 have hncr:=hrs.le
 unfold maxLen at hmr
 obtain ⟨P,hP⟩:∃ P,P=zCv a:=⟨_,rfl⟩
 have hcut:Cuts P (zB4 a.rows):=by rw [hP];exact zCO hK.sets
 have hpl:=hcut.len
 unfold zAP at hk1 hk2
 rw [←hP] at hk1 hk2
 refine CallOk.introM (args:=[_]) (rs:=[_,_]) T_ok Tryz.func26 Tryz.call26 rfl rfl (by kernel_rfl) rfl ?_
 repeat first|exact zE|refine zP ?_|refine zB fun b=>?_|refine zC fun a' c' hc1 hc2=>?_|(apply GJ.a;exact rfl;intro hg)|(apply GJ.o;exact rfl;intro hg)
 refine nlen_ok hv0 ?_
 by_cases h0:a.rows.length=0
 ·have hn:a.rows=[]:=List.eq_nil_of_length_eq_zero h0
  rw [if_pos hn] at hk1
  repeat first|exact zE|refine zP ?_|refine zB fun b=>?_|refine zC fun a' c' hc1 hc2=>?_|(apply GJ.a;exact rfl;intro hg)|(apply GJ.o;exact rfl;intro hg)
  exact Wk.own own Sup.z (Wk.id (hk1 (by decide)))
 ·rw [if_neg (fun e=>h0 (by rw [e];rfl))] at hk1 hk2
  obtain ⟨C0,hC0⟩:∃ C:List Nat,C=List.replicate 256 0:=⟨_,rfl⟩
  repeat first|exact zE|refine zP ?_|refine zB fun b=>?_|refine zC fun a' c' hc1 hc2=>?_|(apply GJ.a;exact rfl;intro hg)|(apply GJ.o;exact rfl;intro hg)
  obtain ⟨b4,hb4⟩:∃ z:Nat,z=b:=⟨_,rfl⟩
  subst hb4
  rename_i bA
  obtain ⟨bO,hbO⟩:∃ z:Nat,z=b:=⟨_,rfl⟩
  subst hbO
  refine nsets_ok hv0 hK (fun aS cS z1 z2=>?_)
  repeat first|exact zE|refine zP ?_|refine zB fun b=>?_|refine zC fun a' c' hc1 hc2=>?_|(apply GJ.a;exact rfl;intro hg)|(apply GJ.o;exact rfl;intro hg)
  refine split_ok ht hK.sets hsl (Rds.hasSl z1 z2 (zDr _)) (fun ap cq p1 p2=>?_)
  have hcls:=clsU_all P
  rw [show zEd (zB4 a.rows)=P from hP.symm] at p1 ⊢
  have hps:=fun i (p:SetD) (h:P[i]?=some p)=>zCA P i p h
  have hpvl:=zDr P
  have p3:=p2
  unfold maxLen at p3
  obtain ⟨AV,hAV⟩:∃ A:List Value,A=[Value.slice ad a.rows.length cp,.int .i64 a.last]:=⟨_,rfl⟩
  repeat first|exact zE|refine zP ?_|refine zB fun b=>?_|refine zC fun a' c' hc1 hc2=>?_|(apply GJ.a;exact rfl;intro hg)|(apply GJ.o;exact rfl;intro hg)
  refine LoopOk.auto (ι:=Nat) Keep.z (fun i=>[(30,.int .i64 (i:Int))])
   (fun i=>.sl ap P.length cq 113 4 (zB3 P)::.blk b4 40 [.pointer (some ⟨bO,0,none⟩)]::.blk bO 83 (autV (clsU P i) (.slice none 0 0) (.slice none 0 0))::.blk bA 74 [.slice ad a.rows.length cp,.int .i64 a.last]::own)
   (fun i ro2=>i≤P.length) (fun i=>P.length-i) 0 ?_ Sub.z (by rw [zNJ];exact Sup.z) ?_
  ·exact Nat.zero_le _
  rintro i ro2 hl2 i1
  dsimp only [List.cons_append,List.nil_append] at i1 ⊢
  have hUl:=zHx P i
  by_cases hi:i<P.length
  ·obtain ⟨p,hp⟩:∃ p,P[i]?=some p:=⟨_,List.getElem?_eq_getElem hi⟩
   have hpe:=hcut.each p (List.mem_of_getElem? hp)
   have hdr:=hps i p hp
   have hstart:=ClsP.start P i
   have hfin:=fun C (h:ClsP P i (zEZ p) C)=>ClsP.fin hcut hp h
   obtain ⟨w1,w2,w3,w4⟩:=p
   repeat first|exact zE|refine zP ?_|refine zB fun b=>?_|refine zC fun a' c' hc1 hc2=>?_|(apply GJ.a;exact rfl;intro hg)|(apply GJ.o;exact rfl;intro hg)
   rw [Int.toNat_natCast]
   refine OpOk.loadRow rfl rfl (LdN.slRow hdr) rfl ?_
   repeat first|exact zE|refine zP ?_|refine zB fun b=>?_|refine zC fun a' c' hc1 hc2=>?_|(apply GJ.a;exact rfl;intro hg)|(apply GJ.o;exact rfl;intro hg)
   rename_i b6
   refine CodeOk.rangeFuncR (T:=T) (α:=Nat) (ps:=[_]) (bs:=[_]) (encs:=fun c=>[.int .u8 (c:Int)]) rfl Tryz.call60 (zN5 (s:=⟨w1,w2,w3,w4⟩) hpe.1) (fun _=>rfl) rfl (ι:=List Nat × List Nat) (κ:=Empty)
    (fun (pre,C)=>.blk b6 3 [.int .i64 (i:Int)]::.sl ap P.length cq 113 4 (zB3 P)::.blk b4 40 [.pointer (some ⟨bO,0,none⟩)]::.blk bO 83 (autV C (.slice none 0 0) (.slice none 0 0))::.blk bA 74 [.slice ad a.rows.length cp,.int .i64 a.last]::own)
    (fun pre (q,C)=>q=pre∧ClsP P i pre C) (fun e=>e.elim) (fun _ e=>e.elim) (fun x=>[(8,.int .u8 (x:Int)),(6,.pointer (some ⟨b6,0,none⟩)),(4,.pointer (some ⟨b4,0,none⟩))]) ([],clsU P i) ⟨rfl,hstart⟩ Sup.z ?_ ?_ ?_ (fun _ e=>e.elim)
   ·intro x own' ro' hl
    repeat first|exact zE|refine wkT ?_|refine zB fun b=>?_|refine zC fun a' c' hc1 hc2=>?_|(apply GJ.a;exact rfl;intro hg)|(apply GJ.o;exact rfl;intro hg)
    exact ⟨(by repeat (first|exact trivial|refine Sub.cons rfl ?_)),Sup.all _⟩
   ·rintro pre x rest ⟨q,C⟩ ro' hl hx ⟨rfl,h1⟩
    have hx6:x<256:=zNO (s:=⟨w1,w2,w3,w4⟩) (by rw [hx];simp)
    have hCl:=h1.len
    have hst:=h1.step hx6
    dsimp only
    refine CodeRR.block ?_
    refine CodeRR.drawn NfT.auto rfl (by kernel_rfl) (by rfl) (by rfl) (by kernel_rfl) ?_
    repeat first|exact zE|refine wkT ?_|refine zB fun b=>?_|refine zC fun a' c' hc1 hc2=>?_|(apply GJ.a;exact rfl;intro hg)|(apply GJ.o;exact rfl;intro hg)
    refine OpOk.storeAt rfl rfl rfl rfl (by rw [zDA hCl];simp;omega) ?_
    rw [show (i:Int) % 256=(i:Int) by omega,show 0+0+((x:Nat):Int).toNat*1=x by simp,zNV (by omega)]
    repeat first|exact zE|refine wkT ?_|refine zB fun b=>?_|refine zC fun a' c' hc1 hc2=>?_|(apply GJ.a;exact rfl;intro hg)|(apply GJ.o;exact rfl;intro hg)
    exact Wk.id ⟨(q++[x],C.set x i),⟨rfl,hst⟩,Sup.z⟩
   ·rintro ⟨q,C⟩ ro' hl ⟨rfl,h1⟩
    have:=hfin C h1
    subst this
    dsimp only
    repeat first|exact zE|refine zP ?_|refine zB fun b=>?_|refine zC fun a' c' hc1 hc2=>?_|(apply GJ.a;exact rfl;intro hg)|(apply GJ.o;exact rfl;intro hg)
    refine Wk.id ⟨i+1,?_,?_,Sub.z,Sup.z⟩
    all_goals try dsimp only
    ·omega
    ·omega
  ·obtain rfl:i=P.length:=by omega
   rw [hcls]
   repeat first|exact zE|refine zP ?_|refine zB fun b=>?_|refine zC fun a' c' hc1 hc2=>?_|(apply GJ.a;exact rfl;intro hg)|(apply GJ.o;exact rfl;intro hg)
   have hv2:=hv0.le hl2
   refine zMI hv2 hK.ok (fun aT cT y1 y2=>?_)
   have hss:=zLQ a.rows
   obtain ⟨T0,hT0⟩:∃ T0,T0=zBK a.rows:=⟨_,rfl⟩
   rw [←hT0] at hss y1 hk1 hk2 ⊢
   have hTl:=hss.len
   have hTa:=hss.adm (by omega)
   have hTk:=zEv T0
   have hnat:(zAp T0).map (Value.int .i64)=zAq T0:=hTk
   have hil:=zFn T0
   repeat first|exact zE|refine zP ?_|refine zB fun b=>?_|refine zC fun a' c' hc1 hc2=>?_|(apply GJ.a;exact rfl;intro hg)|(apply GJ.o;exact rfl;intro hg)
   refine OpOk.makeMapG (kv:=str) (vv:=nV) (fun bM=>?_)
   repeat first|exact zE|refine zP ?_|refine zB fun b=>?_|refine zC fun a' c' hc1 hc2=>?_|(apply GJ.a;exact rfl;intro hg)|(apply GJ.o;exact rfl;intro hg)
   refine OpOk.load rfl rfl (Ld.slAt' (k:=0) rfl rfl) ?_
   repeat first|exact zE|refine zP ?_|refine zB fun b=>?_|refine zC fun a' c' hc1 hc2=>?_|(apply GJ.a;exact rfl;intro hg)|(apply GJ.o;exact rfl;intro hg)
   refine CallOk.freeze (c:=.sl aT _ _ _ _ _) Take.auto (fun ro3 hl3 hc3=>?_)
   have hrT:Rs ro3 aT T0.length cT 1 (zAq T0):=Rs.last hc3
   refine zFG (l:=zAp T0) (by rw [hnat];exact hrT.rds) hil (by omega) hTa ?_
   repeat first|exact zE|refine zP ?_|refine zB fun b=>?_|refine zC fun a' c' hc1 hc2=>?_|(apply GJ.a;exact rfl;intro hg)|(apply GJ.o;exact rfl;intro hg)
   refine OpOk.insertG (OpOk.mapUpdateG (kt:=9) (et:=3) (kv:=str) (vv:=nV) (k:=keyT (zAp T0)) (v:=0) rfl rfl rfl (by kernel_rfl) (KeyEnc.text (by kernel_rfl)) MapOk.nil (by rw [zCm,hil];unfold maxLen;omega) (fun c1=>?_))
   have hM0:=(KeyM.nil 4096).push (by decide) hTa (by omega) rfl 0
   have hT1:[].idxOf? (zAp T0)=none:=rfl
   obtain ⟨Zo,hZo⟩:∃ Z,Z=subG a P 1025 [T0] [] []:=⟨_,rfl⟩
   rw [←hZo] at hk1 hk2
   have hH0:SetsH ro3 [T0] [.slice aT T0.length cT]:=(SetsH.nil ro3).snoc hrT
   obtain ⟨bS,hbS⟩:∃ z:Nat,z=b:=⟨_,rfl⟩
   subst hbS
   obtain ⟨CP,hCP⟩:∃ C,C=clsG P:=⟨_,rfl⟩
   have hCPl:CP.length=256:=by rw [hCP,zJy]
   repeat first|exact zE|refine zP ?_|refine zB fun b=>?_|refine zC fun a' c' hc1 hc2=>?_|(apply GJ.a;exact rfl;intro hg)|(apply GJ.o;exact rfl;intro hg)
   refine LoopOk.auto (ι:=(List (List Nat) × Option Addr × Nat × List Value) × (List RowJ × Option Addr × Nat) × (List Bool × Option Addr × Nat) × List (List UInt8 × Nat × Nat) × Nat) Keep.z (fun ((sets,aH,cH,HS),(R,an,cn),(acc,aa,ca),M,cM)=>[(11,.int .i64 (R.length:Int)),(9,.slice aH sets.length cH)])
    (fun ((sets,aH,cH,HS),(R,an,cn),(acc,aa,ca),M,cM)=>.sl aH sets.length cH 84 1 HS::.obj bM (mapG str nV M cM)::.sl ap P.length cq 113 4 (zB3 P)::.blk b4 40 [.pointer (some ⟨bO,0,none⟩)]::.blk bO 83 (autV (CP) (.slice an R.length cn) (.slice aa acc.length ca))::.blk bA 74 [.slice ad a.rows.length cp,.int .i64 a.last]::.sl an R.length cn 84 1 (R.map hdrJ)::.sl aa acc.length ca 4 1 (zAh acc)::(R.map rowJ++own))
    (fun ((sets,aH,cH,HS),(R,an,cn),(acc,aa,ca),M,cM) ro2=>SetsH ro2 sets HS∧(∀ t∈sets,SetN a.rows.length t)∧sets.length≤1024∧KeyM 4096 (sets.map zAp) M∧(R.length≤sets.length∧acc.length=R.length)∧subG a P (1025-R.length) sets (R.map (·.2)) acc=Zo∧(sets.length≤cH∧cH≤maxLen)∧(R.length≤cn∧cn≤maxLen)∧(acc.length≤ca∧ca≤maxLen))
    (fun ((sets,aH,cH,HS),(R,an,cn),(acc,aa,ca),M,cM)=>1025-R.length) (([T0],some ⟨bS,0,none⟩,1,[.slice aT T0.length cT]),([],none,0),([],none,0),_,_) ?_ Sub.z (by rw [hCP];exact Sup.z) ?_
   ·exact ⟨hH0,(fun t ht=>by rw [List.mem_singleton] at ht;rw [ht];exact hss),(by simp),hM0,⟨Nat.zero_le _,rfl⟩,hZo.symm,⟨Nat.le_refl _,by unfold maxLen;decide⟩,⟨Nat.le_refl _,Nat.zero_le _⟩,⟨Nat.le_refl _,Nat.zero_le _⟩⟩
   clear hM0 hH0 hT1
   rintro ⟨⟨sets,aH,cH,HS⟩,⟨R,an,cn⟩,⟨acc,aa,ca⟩,M,cM⟩ ro4 hl4 ⟨j1,j2,j3,j4,⟨j5,j6⟩,j7,⟨j8,j9⟩,⟨j10,j11⟩,⟨j12,j13⟩⟩
   dsimp only [List.cons_append,List.nil_append] at j1 j2 j3 j4 j5 j6 j7 j8 j9 j10 j11 j12 j13 ⊢
   have hHl:=j1.len
   have hRh:(R.map hdrJ).length=R.length:=List.length_map _
   have hRm:(R.map (·.2)).length=R.length:=List.length_map _
   obtain ⟨F,hF⟩:∃ F,1025-R.length=F+1:=⟨1024-R.length,by omega⟩
   by_cases hlt:R.length<sets.length
   ·obtain ⟨cur,hcur⟩:∃ cur,sets[R.length]?=some cur:=⟨_,List.getElem?_eq_getElem hlt⟩
    rw [hF,subG,hRm,hcur] at j7
    dsimp only at j7
    obtain ⟨Ro,hRo⟩:∃ Z,Z=rowG a.rows cur P sets []:=⟨_,rfl⟩
    rw [←hRo] at j7
    repeat first|exact zE|refine zP ?_|refine zB fun b=>?_|refine zC fun a' c' hc1 hc2=>?_|(apply GJ.a;exact rfl;intro hg)|(apply GJ.o;exact rfl;intro hg)
    rw [Int.toNat_natCast,zCI]
    obtain ⟨bR,hbR⟩:∃ z:Nat,z=b:=⟨_,rfl⟩
    subst hbR
    refine LoopOk.auto (ι:=Nat × (List (List Nat) × Option Addr × Nat × List Value) × List Int × List (List UInt8 × Nat × Nat) × Nat) Keep.z (fun (i,(sets,aH,cH,HS),row,M,cM)=>[(66,.int .i64 (i:Int)),(9,.slice aH sets.length cH)])
     (fun (i,(sets,aH,cH,HS),row,M,cM)=>.sl (some ⟨bR,0,none⟩) P.length P.length 3 1 (intV (row++List.replicate (P.length-i) 0))::.sl aH sets.length cH 84 1 HS::.obj bM (mapG str nV M cM)::.sl ap P.length cq 113 4 (zB3 P)::.blk b4 40 [.pointer (some ⟨bO,0,none⟩)]::.blk bO 83 (autV CP (.slice an R.length cn) (.slice aa acc.length ca))::.blk bA 74 [.slice ad a.rows.length cp,.int .i64 a.last]::.sl an R.length cn 84 1 (R.map hdrJ)::.sl aa acc.length ca 4 1 (zAh acc)::(R.map rowJ++own))
     (fun (i,(sets2,aH,cH,HS),row,M,cM) ro5=>i≤P.length∧row.length=i∧SetsH ro5 sets2 HS∧(∀ t∈sets2,SetN a.rows.length t)∧sets2.length≤1024∧KeyM 4096 (sets2.map zAp) M∧(R.length<sets2.length∧sets2[R.length]?=some cur)∧rowG a.rows cur (P.drop i) sets2 row=Ro∧(sets2.length≤cH∧cH≤maxLen))
     (fun (i,(sets,aH,cH,HS),row,M,cM)=>P.length-i) (0,(sets,aH,cH,HS),[],M,cM) ?_ Sub.z Sup.z ?_
    ·exact ⟨Nat.zero_le _,rfl,j1,j2,j3,j4,⟨hlt,hcur⟩,hRo.symm,⟨j8,j9⟩⟩
    clear j1 j2 j3 j4 j8 j9 hcur hlt hHl
    rintro ⟨i,⟨sets2,aH2,cH2,HS2⟩,row,M2,cM2⟩ ro5 hl5 ⟨i1,i2,i3,i4,i5,i6,⟨i7,i8⟩,i9,⟨i10,i11⟩⟩
    dsimp only [List.cons_append,List.nil_append] at i1 i2 i3 i4 i5 i6 i7 i8 i9 i10 i11 ⊢
    have hHl:=i3.len
    obtain ⟨ac,cc,hc1h,hc2h⟩:=i3.row R.length cur i8
    have hcs:=i4 cur (List.mem_of_getElem? i8)
    have hcurl:=hcs.len
    have hbl:=zAO (row++List.replicate (P.length-i) 0)
    rw [show (row++List.replicate (P.length-i) (0:Int)).length=P.length by simp;omega] at hbl
    have hv5:=((hv2.le hl3).le hl4).le hl5
    by_cases hi:i<P.length
    ·obtain ⟨p,hp⟩:∃ p,P[i]?=some p:=⟨_,List.getElem?_eq_getElem hi⟩
     have hpe:=hcut.each p (List.mem_of_getElem? hp)
     have hdr:=hps i p hp
     have hstl:=fun c=>step_len (rows:=a.rows) (c:=c) hcs.1
     have hsts:=fun c=>step_set a.rows (zAp cur) c
     have hed:=hK.edges
     have hss:∀ v:Int,(intV (row++List.replicate (P.length-i) 0)).set i (.int .i64 v)=intV ((row++[v])++List.replicate (P.length-(i+1)) 0):=fun v=>by rw [zAz,zD7 i2 hi]
     rw [zB2 hp,rowG] at i9
     have hfc:=fun c=>zNs (p:=p) (c:=c)
     have ht5:=(((ht.le hl2).le hl3).le hl4).le hl5
     obtain ⟨w1,w2,w3,w4⟩:=p
     repeat first|exact zE|refine zP ?_|refine zB fun b=>?_|refine zC fun a' c' hc1 hc2=>?_|(apply GJ.a;exact rfl;intro hg)|(apply GJ.o;exact rfl;intro hg)
     rw [Int.toNat_natCast]
     refine OpOk.loadRow rfl rfl (LdN.slRow hdr) rfl ?_
     repeat first|exact zE|refine zP ?_|refine zB fun b=>?_|refine zC fun a' c' hc1 hc2=>?_|(apply GJ.a;exact rfl;intro hg)|(apply GJ.o;exact rfl;intro hg)
     refine zHm (s:=⟨w1,w2,w3,w4⟩) ht5 hpe.1 (fun e=>absurd e hpe.2) (fun c f1 f2 f3=>?_)
     rw [hfc c f1 f2 f3] at i9
     have hstc:=hstl c
     have htoS:=hsts c
     repeat first|exact zE|refine zP ?_|refine zB fun b=>?_|refine zC fun a' c' hc1 hc2=>?_|(apply GJ.a;exact rfl;intro hg)|(apply GJ.o;exact rfl;intro hg)
     refine QOk.load rfl rfl (Ld.slAt' (k:=R.length) (by rw [Int.toNat_natCast]) hc1h) ?_
     repeat first|exact zE|refine zP ?_|refine zB fun b=>?_|refine zC fun a' c' hc1 hc2=>?_|(apply GJ.a;exact rfl;intro hg)|(apply GJ.o;exact rfl;intro hg)
     refine nstep_ok (list:=zAp cur) (c:=c) hv5 hK (by rw [zEv];exact hc2h.rds) (zFn _) f1 (by omega) (fun a5 c5 u1 u2=>?_)
     generalize zBJ a.rows (zAp cur) c=to at *
     have htol:=htoS.len
     have htoa:=htoS.adm (by omega)
     have htn:(zAp to).map (Value.int .i64)=zAq to:=zEv to
     have htil:=zFn to
     by_cases h0:to=[]
     ·rw [if_pos h0] at i9
      subst h0
      repeat first|exact zE|refine zP ?_|refine zB fun b=>?_|refine zC fun a' c' hc1 hc2=>?_|(apply GJ.a;exact rfl;intro hg)|(apply GJ.o;exact rfl;intro hg)
      refine OpOk.storeSlAt' (k:=i) rfl rfl rfl rfl (by rw [Int.toNat_natCast]) (by omega) ?_
      rw [hss]
      repeat first|exact zE|refine zP ?_|refine zB fun b=>?_|refine zC fun a' c' hc1 hc2=>?_|(apply GJ.a;exact rfl;intro hg)|(apply GJ.o;exact rfl;intro hg)
      repeat first|exact zE|refine zP ?_|refine zB fun b=>?_|refine zC fun a' c' hc1 hc2=>?_|(apply GJ.a;exact rfl;intro hg)|(apply GJ.o;exact rfl;intro hg)
      refine Wk.id ⟨(i+1,(sets2,aH2,cH2,HS2),row++[-1],M2,cM2),?_,?_,Sub.z,Sup.z⟩
      all_goals try dsimp only
      ·exact ⟨by omega,by simp [i2],i3,i4,i5,i6,⟨i7,i8⟩,i9,⟨i10,i11⟩⟩
      ·omega
     ·rw [if_neg h0] at i9
      have htp:0<to.length:=List.length_pos_iff.2 h0
      have hgk:=i6.at' _ htoa
      rw [zKq] at hgk
      have hkt:(keyT (zAp to)).length≤maxLen:=by rw [zCm,htil];unfold maxLen;omega
      have hMl:=i6.len
      rw [List.length_map] at hMl
      have hpush:=fun h=>i6.push (by decide) htoa (by omega) h cM2
      rw [zKq,List.length_map,show sets2.map zAp++[zAp to]=(sets2++[to]).map zAp by simp] at hpush
      repeat first|exact zE|refine zP ?_|refine zB fun b=>?_|refine zC fun a' c' hc1 hc2=>?_|(apply GJ.a;exact rfl;intro hg)|(apply GJ.o;exact rfl;intro hg)
      refine CallOk.freeze (c:=.sl a5 _ _ _ _ _) Take.auto (fun ro6 hl6 hc6=>?_)
      have hrT6:Rs ro6 a5 to.length c5 1 (zAq to):=Rs.last hc6
      refine zFG (l:=zAp to) (by rw [htn];exact hrT6.rds) htil (by omega) htoa ?_
      repeat first|exact zE|refine zP ?_|refine zB fun b=>?_|refine zC fun a' c' hc1 hc2=>?_|(apply GJ.a;exact rfl;intro hg)|(apply GJ.o;exact rfl;intro hg)
      refine OpOk.lookupOkG (kt:=9) (et:=3) (kv:=str) (vv:=nV) (k:=keyT (zAp to)) (z:=.int .i64 0) rfl rfl (by kernel_rfl) (KeyEnc.text (by kernel_rfl)) i6.map hkt (by kernel_rfl) ?_
      rw [hgk]
      cases hidx:sets2.idxOf? to with
      | some u =>
        rw [hidx] at i9
        dsimp only at i9
        simp only [Option.map_some,Option.getD_some,Option.isSome_some,nV]
        repeat first|exact zE|refine zP ?_|refine zB fun b=>?_|refine zC fun a' c' hc1 hc2=>?_|(apply GJ.a;exact rfl;intro hg)|(apply GJ.o;exact rfl;intro hg)
        refine OpOk.storeSlAt' (k:=i) rfl rfl rfl rfl (by rw [Int.toNat_natCast]) (by omega) ?_
        rw [hss]
        repeat first|exact zE|refine zP ?_|refine zB fun b=>?_|refine zC fun a' c' hc1 hc2=>?_|(apply GJ.a;exact rfl;intro hg)|(apply GJ.o;exact rfl;intro hg)
        repeat first|exact zE|refine zP ?_|refine zB fun b=>?_|refine zC fun a' c' hc1 hc2=>?_|(apply GJ.a;exact rfl;intro hg)|(apply GJ.o;exact rfl;intro hg)
        refine Wk.id ⟨(i+1,(sets2,aH2,cH2,HS2),row++[(u:Int)],M2,cM2),?_,?_,Sub.z,Sup.z⟩
        all_goals try dsimp only
        ·exact ⟨by omega,by simp [i2],i3.le hl6,i4,i5,i6,⟨i7,i8⟩,i9,⟨i10,i11⟩⟩
        ·omega
      | none =>
        rw [hidx] at i9
        dsimp only at i9
        have hpush:=hpush hidx
        simp only [Option.map_none,Option.getD_none,Option.isSome_none]
        by_cases hmx:sets2.length=1024
        ·rw [if_pos hmx] at i9
         rw [←i9] at j7
         dsimp only at j7
         rw [←j7] at hk1
         dsimp only at hk1
         repeat first|exact zE|refine zP ?_|refine zB fun b=>?_|refine zC fun a' c' hc1 hc2=>?_|(apply GJ.a;exact rfl;intro hg)|(apply GJ.o;exact rfl;intro hg)
         exact Wk.own own (by repeat (first|exact Sup.app _ (Sup.all _)|refine Sup.drop _ ?_)) (Wk.id (hk1 (by decide)))
        ·rw [if_neg hmx] at i9
         have e1:sets2.length+1=(sets2++[to]).length:=by simp
         repeat first|exact zE|refine zP ?_|refine zB fun b=>?_|refine zC fun a' c' hc1 hc2=>?_|(apply GJ.a;exact rfl;intro hg)|(apply GJ.o;exact rfl;intro hg)
         refine zFG (l:=zAp to) (by rw [htn];exact hrT6.rds) htil (by omega) htoa ?_
         repeat first|exact zE|refine zP ?_|refine zB fun b=>?_|refine zC fun a' c' hc1 hc2=>?_|(apply GJ.a;exact rfl;intro hg)|(apply GJ.o;exact rfl;intro hg)
         refine OpOk.mapUpdateG (kt:=9) (et:=3) (kv:=str) (vv:=nV) (k:=keyT (zAp to)) (v:=sets2.length) rfl rfl rfl (by kernel_rfl) (KeyEnc.text (by kernel_rfl)) i6.map hkt (fun c2=>?_)
         generalize putG M2 cM2 (keyT (zAp to)) sets2.length=M3 at *
         repeat first|exact zE|refine zP ?_|refine zB fun b=>?_|refine zC fun a' c' hc1 hc2=>?_|(apply GJ.a;exact rfl;intro hg)|(apply GJ.o;exact rfl;intro hg)
         rw [e1]
         rw [e1] at hc1
         refine OpOk.storeSlAt' (k:=i) rfl rfl rfl rfl (by rw [Int.toNat_natCast]) (by omega) ?_
         rw [hss]
         repeat first|exact zE|refine zP ?_|refine zB fun b=>?_|refine zC fun a' c' hc1 hc2=>?_|(apply GJ.a;exact rfl;intro hg)|(apply GJ.o;exact rfl;intro hg)
         repeat first|exact zE|refine zP ?_|refine zB fun b=>?_|refine zC fun a' c' hc1 hc2=>?_|(apply GJ.a;exact rfl;intro hg)|(apply GJ.o;exact rfl;intro hg)
         refine Wk.id ⟨(i+1,(sets2++[to],a',c',HS2++[.slice a5 to.length c5]),row++[(sets2.length:Int)],M3,c2),?_,?_,Sub.z,Sup.z⟩
         all_goals try dsimp only
         ·refine ⟨by omega,by simp [i2],(i3.le hl6).snoc hrT6,fun t ht=>?_,by simp;omega,hpush,⟨by simp;omega,zAf i8⟩,i9,⟨hc1,hc2⟩⟩
          rcases List.mem_append.1 ht with ht|ht
          ·exact i4 t ht
          ·rw [List.mem_singleton] at ht;rw [ht];exact htoS
         ·omega
    ·obtain rfl:i=P.length:=by omega
     rw [List.drop_length,rowG] at i9
     rw [Nat.sub_self,List.replicate_zero,List.append_nil]
     rw [←i9] at j7
     dsimp only at j7
     obtain ⟨eb,heb⟩:∃ z,z=zHo a (zAp cur):=⟨_,rfl⟩
     rw [←heb] at j7
     repeat first|exact zE|refine wkT ?_|refine zB fun b=>?_|refine zC fun a' c' hc1 hc2=>?_|(apply GJ.a;exact rfl;intro hg)|(apply GJ.o;exact rfl;intro hg)
     refine Bs.mk ⟨[.blk b4 40 [.pointer (some ⟨bO,0,none⟩)],.blk bO 83 (autV CP (.slice an R.length cn) (.slice aa acc.length ca))],Sup.z,?_⟩
     repeat (first|exact zE|refine wkU ?_|(show QOk _ _ _ _ _ _ _;refine QOk.build rfl rfl Nf.auto ?_)|(show GJ _ _ _ _ _ _ _;first|with_reducible refine GJ.neF ?_|with_reducible refine GJ.neT ?_)|(show Br _ _ _;with_reducible refine Br.ne ?_)|refine zB (fun b=>?_)|refine zC (fun a' c' hc1 hc2=>?_)|(apply GJ.a;exact rfl;intro hg)|(apply GJ.o;exact rfl;intro hg))
     obtain ⟨aN,haN⟩:∃ z,z=a':=⟨_,rfl⟩
     subst haN
     obtain ⟨cN,hcN⟩:∃ z,z=c':=⟨_,rfl⟩
     subst hcN
     have hq1:=hc1
     have hq2:=hc2
     repeat first|exact zE|refine wkT ?_|refine zB fun b=>?_|refine zC fun a' c' hc1 hc2=>?_|(apply GJ.a;exact rfl;intro hg)|(apply GJ.o;exact rfl;intro hg)
     refine Bs.mk ⟨[.sl aH2 sets2.length cH2 84 1 HS2,.blk b4 40 [.pointer (some ⟨bO,0,none⟩)],.blk bO 83 (autV CP (.slice aN (R.length+1) cN) (.slice aa acc.length ca)),.blk bA 74 [.slice ad a.rows.length cp,.int .i64 a.last]],Sup.z,?_⟩
     repeat (first|exact zE|refine wkU ?_|(show QOk _ _ _ _ _ _ _;refine QOk.build rfl rfl Nf.auto ?_)|(show GJ _ _ _ _ _ _ _;first|with_reducible refine GJ.neF ?_|with_reducible refine GJ.neT ?_)|(show Br _ _ _;with_reducible refine Br.ne ?_)|refine zB (fun b=>?_)|refine zC (fun a' c' hc1 hc2=>?_)|(apply GJ.a;exact rfl;intro hg)|(apply GJ.o;exact rfl;intro hg))
     refine QOk.load rfl rfl (Ld.slAt' (k:=R.length) (by rw [Int.toNat_natCast]) hc1h) ?_
     repeat (first|exact zE|refine wkU ?_|(show QOk _ _ _ _ _ _ _;refine QOk.build rfl rfl Nf.auto ?_)|(show GJ _ _ _ _ _ _ _;first|with_reducible refine GJ.neF ?_|with_reducible refine GJ.neT ?_)|(show Br _ _ _;with_reducible refine Br.ne ?_)|refine zB (fun b=>?_)|refine zC (fun a' c' hc1 hc2=>?_)|(apply GJ.a;exact rfl;intro hg)|(apply GJ.o;exact rfl;intro hg))
     refine nends_ok (list:=zAp cur) hv5 hK.ok (by rw [zEv];exact hc2h.rds) (zFn _) ?_
     rw [←heb]
     repeat (first|exact zE|refine wkU ?_|(show QOk _ _ _ _ _ _ _;refine QOk.build rfl rfl Nf.auto ?_)|(show GJ _ _ _ _ _ _ _;first|with_reducible refine GJ.neF ?_|with_reducible refine GJ.neT ?_)|(show Br _ _ _;with_reducible refine Br.ne ?_)|refine zB (fun b=>?_)|refine zC (fun a' c' hc1 hc2=>?_)|(apply GJ.a;exact rfl;intro hg)|(apply GJ.o;exact rfl;intro hg))
     obtain ⟨y,hy⟩:∃ y:RowJ,y=((some ⟨bR,0,none⟩,P.length),row):=⟨_,rfl⟩
     have hyr:rowJ y=.sl (some ⟨bR,0,none⟩) P.length P.length 3 1 (intV row):=by rw [hy];unfold rowJ;rw [i2]
     have hyh:R.map hdrJ++[.slice (some ⟨bR,0,none⟩) P.length P.length]=(R++[y]).map hdrJ:=by rw [List.map_append,hy];simp [hdrJ,i2]
     have hym:(R++[y]).map (·.2)=R.map (·.2)++[row]:=by rw [List.map_append,hy];rfl
     have e1:R.length+1=(R++[y]).length:=by simp
     have e1I:(R.length:Int)+1=((R++[y]).length:Int):=by simp
     have e2:acc.length+1=(acc++[eb]).length:=by simp
     have e3:zAh acc++[.bool eb]=zAh (acc++[eb]):=by simp [zAh]
     rw [hyh,e1I,e1,e2,e3]
     rw [e1] at hq1
     rw [e2] at hc1
     repeat first|exact zE|refine zP ?_|refine zB fun b=>?_|refine zC fun a' c' hc1 hc2=>?_|(apply GJ.a;exact rfl;intro hg)|(apply GJ.o;exact rfl;intro hg)
     refine Wk.id ⟨((sets2,aH2,cH2,HS2),(R++[y],aN,cN),(acc++[eb],a',c'),M2,cM2),?_,?_,Sub.z,Sup.cons Take.auto (Sup.cons Take.auto (Sup.cons Take.auto (Sup.cons Take.auto (Sup.cons Take.auto (Sup.cons Take.auto (Sup.cons Take.auto (Sup.cons Take.auto (by rw [←hyr];exact Sup.ofPerm (zLc R y own)))))))))⟩
     all_goals try dsimp only
     ·refine ⟨i3,i4,i5,i6,⟨by simp;omega,by simp [j6]⟩,?_,⟨i10,i11⟩,⟨hq1,hq2⟩,⟨hc1,hc2⟩⟩
      rw [hym,show 1025-(R++[y]).length=F by simp;omega]
      exact j7
     ·simp;omega
   ·rw [hF,subG,hRm,List.getElem?_eq_none (by omega)] at j7
    dsimp only at j7
    rw [←j7] at hk1 hk2
    dsimp only at hk1 hk2
    repeat first|exact zE|refine zP ?_|refine zB fun b=>?_|refine zC fun a' c' hc1 hc2=>?_|(apply GJ.a;exact rfl;intro hg)|(apply GJ.o;exact rfl;intro hg)
    rw [←hCP] at hk2
    exact Wk.own (.blk bO 83 (autV CP (.slice an R.length cn) (.slice aa acc.length ca))::.sl an R.length cn 84 1 (R.map hdrJ)::.sl aa acc.length ca 4 1 (zAh acc)::(R.map rowJ++own)) Sup.z (Wk.id (hk2 rfl bO an cn aa ca R rfl))
end
end Go.Proofs.YtmaennnkaoollaaGreatDoor
end
section
namespace Go.E
open Go
section
variable {P:Program}{T:TT} [hT:TTab P T] {ty:TypeId}{env:Env}{ro:Ro}{own:Chs}{K:Value→Ro→Chs→Prop}
theorem zMH:∀ {l:List Value}{i:Nat}{v:Value},l[i]?=some v→nthV l i=some v
 | v::_,0,_,h=>by simpa [nthV] using h
 | _::r,n+1,_,h=>by rw [nthV];exact zMH (l:=r) (by simpa using h)
 | [],_,_,h=>by simp at h
theorem zDE {d:Nat}{e:TypeId}{C:List Nat}{ti:TI} (ht:T.get e=some ti) (hr:ti.u.row=false) (he:P.underlying e=some (.int .u8)) (w:World):∀ is:List Nat,(∀ i∈is,i<C.length) →
  (Op.eqItems (d+1) e 1 (C.map fun (k:Nat)=>Value.int .u8 (k:Int)).toArray (C.map fun (k:Nat)=>Value.int .u8 (k:Int)).toArray is).run P w=.ok true w
 | [],_=>by simp [Op.eqItems]
 | i::is,h=>by
   have hi:=h i (by simp)
   have hv:nthV (C.map fun (k:Nat)=>Value.int .u8 (k:Int)) (i*1)=some (.int .u8 (C[i]:Int)):=by
    rw [Nat.mul_one]
    exact zMH (by simp [hi])
   have hp:=zMf (P:=P) (T:=T) ht hr hv w
   simp only [Op.eqItems,Sem.run_bind,hp,Result.andThen_ok,run_equalIn_int (P:=P) w d e .u8 .u8 _ _ he]
   simpa using zDE ht hr he w is (fun j hj=>h j (by simp [hj]))
theorem QOk.eqlArrSame {K:Value→Prop}{t yt e:TypeId}{x y:Operand}{C:List Nat}{n:Nat}{ti:TI} (hx:ev env x=some (.agg (C.map fun (k:Nat)=>Value.int .u8 (k:Int)).toArray)) (hy:ev env y=some (.agg (C.map fun (k:Nat)=>Value.int .u8 (k:Int)).toArray))
  (ht:P.underlying t=some (.array n e)) (he:P.underlying e=some (.int .u8)) (hs:(P.info? e).map (·.size)=some 1) (hg:T.get e=some ti) (hr:ti.u.row=false) (hn:C.length=n) (h2:P.eqGuardType P.depth t=false) (hk:K (.bool true)):QOk P (.binOp .eql t x y yt) ty env ro own K:=by
 refine QOk.pu (fun h hs' d pos af g=>.mk fun ρ w hρ _=>?_) hk
 obtain ⟨i,hi,hi2⟩:=Option.map_eq_some_iff.1 hs
 have hc:P.cellsOf e=1:=by simp [Program.cellsOf,hi,hi2]
 have he2:=run_equalIn_array (w:=w) 9999 (C.map fun (k:Nat)=>Value.int .u8 (k:Int)).toArray (C.map fun (k:Nat)=>Value.int .u8 (k:Int)).toArray ht hi
 rw [hc,zDE (d:=9998) hg hr he w (List.range n) (fun i hi=>by rw [hn];exact List.mem_range.1 hi)] at he2
 simp only [execOp,hρ _ _ hx,hρ _ _ hy,Sem.run_bind,run_eqGuard_agg w .eql t x y _ _ h2,Result.andThen_ok,run_eql_struct,he2,Sem.run_pure]
end
end Go.E
namespace Go.Proofs.YtmaennnkaoollaaGreatDoor
open Go Go.E
section
variable {ro:Ro}{own r:Chs}{K:Value→Ro→Chs→Prop}{g:Chunk→Chs}
theorem zN2 {a1 a2:Option Addr}{n c1 c2:Nat}{l:List Bool} (h1:Rs ro a1 n c1 1 (l.map Value.bool)) (h2:Rs ro a2 n c2 1 (l.map Value.bool)) (hk:K (.bool true) ro own) :
  CallOk Tryz.prog 32 #[.slice a1 n c1,.slice a2 n c2] ro own K:=by
 have hl:l.length=n:=by have:=h1.n1;simpa using this
 have m1:=h1.max
 have m2:=h1.le
 unfold maxLen at m1
 refine CallOk.intro (args:=[_,_]) (rs:=[_]) T_ok Tryz.func32 Tryz.call32 rfl rfl (by kernel_rfl) rfl rfl ?_
 repeat first|exact zE|refine zP ?_|refine zB fun b=>?_|refine zC fun a' c' hc1 hc2=>?_|(apply GJ.a;exact rfl;intro hg)|(apply GJ.o;exact rfl;intro hg)
 refine LoopOk.at (ι:=Nat) Keep.z (fun i=>[(13,.int .i64 (i:Int))]) (fun i=>own) (fun i=>i≤n) (fun i=>n-i) 0 ?_ Sub.z Sup.z ?_
 ·exact Nat.zero_le _
 rintro i i1
 dsimp only [List.cons_append,List.nil_append] at i1 ⊢
 by_cases hi:i<n
 ·repeat first|exact zE|refine zP ?_|refine zB fun b=>?_|refine zC fun a' c' hc1 hc2=>?_|(apply GJ.a;exact rfl;intro hg)|(apply GJ.o;exact rfl;intro hg)
  refine Br.f (fun h=>h rfl) ?_
  repeat first|exact zE|refine zP ?_|refine zB fun b=>?_|refine zC fun a' c' hc1 hc2=>?_|(apply GJ.a;exact rfl;intro hg)|(apply GJ.o;exact rfl;intro hg)
  refine Wk.id ⟨i+1,⟨rfl,?_⟩,?_,Sub.z,Sup.z⟩
  all_goals try dsimp only
  ·omega
  ·omega
 ·repeat first|exact zE|refine zP ?_|refine zB fun b=>?_|refine zC fun a' c' hc1 hc2=>?_|(apply GJ.a;exact rfl;intro hg)|(apply GJ.o;exact rfl;intro hg)
  exact Wk.id hk
theorem same1_ok {a1 a2:Option Addr}{c1 c2:Nat}{l:List Int} (h1:Rs ro a1 l.length c1 1 (l.map (Value.int .i64))) (h2:Rs ro a2 l.length c2 1 (l.map (Value.int .i64))) (hk:K (.bool true) ro own) :
  CallOk Tryz.prog 34 #[.slice a1 l.length c1,.slice a2 l.length c2] ro own K:=by
 refine CallOk.intro (args:=[_,_]) (rs:=[_]) T_ok Tryz.func34 Tryz.call34 rfl rfl (by kernel_rfl) rfl rfl ?_
 repeat first|exact zE|refine zP ?_|refine zB fun b=>?_|refine zC fun a' c' hc1 hc2=>?_|(apply GJ.a;exact rfl;intro hg)|(apply GJ.o;exact rfl;intro hg)
 refine zN1 (l:=l) (m:=l) h1.rds h2.rds rfl rfl (fun q hq=>?_)
 obtain rfl:q=true:=hq.2 rfl
 repeat first|exact zE|refine zP ?_|refine zB fun b=>?_|refine zC fun a' c' hc1 hc2=>?_|(apply GJ.a;exact rfl;intro hg)|(apply GJ.o;exact rfl;intro hg)
 exact Wk.id hk
theorem zN0 {a1 a2:Option Addr}{n c1 c2:Nat}{rows:List (List Int)}{H1 H2:List Value} (h1:Rs ro a1 n c1 1 H1) (h2:Rs ro a2 n c2 1 H2) (r1:RowsH ro rows H1) (r2:RowsH ro rows H2) (hk:K (.bool true) ro own) :
  CallOk Tryz.prog 33 #[.slice a1 n c1,.slice a2 n c2,.func (.func 34) #[] #[]] ro own K:=by
 have hl:=r1.len
 have hn1:=h1.n1
 have m1:=h1.max
 have m2:=h1.le
 unfold maxLen at m1
 refine CallOk.intro (args:=[_,_,_]) (rs:=[_]) T_ok Tryz.func33 Tryz.call33 rfl rfl (by kernel_rfl) rfl rfl ?_
 repeat first|exact zE|refine zP ?_|refine zB fun b=>?_|refine zC fun a' c' hc1 hc2=>?_|(apply GJ.a;exact rfl;intro hg)|(apply GJ.o;exact rfl;intro hg)
 refine LoopOk.at (ι:=Nat) Keep.z (fun i=>[(17,.int .i64 (i:Int))]) (fun i=>own) (fun i=>i≤n) (fun i=>n-i) 0 ?_ Sub.z Sup.z ?_
 ·exact Nat.zero_le _
 rintro i i1
 dsimp only [List.cons_append,List.nil_append] at i1 ⊢
 by_cases hi:i<n
 ·obtain ⟨row,hrow⟩:∃ row,rows[i]?=some row:=⟨_,List.getElem?_eq_getElem (by omega)⟩
  obtain ⟨b1,d1,e1,f1⟩:=r1.row i row hrow
  obtain ⟨b2,d2,e2,f2⟩:=r2.row i row hrow
  repeat first|exact zE|refine zP ?_|refine zB fun b=>?_|refine zC fun a' c' hc1 hc2=>?_|(apply GJ.a;exact rfl;intro hg)|(apply GJ.o;exact rfl;intro hg)
  refine OpOk.load rfl rfl (Go.E.Ld.rs h1 (by rw [Int.toNat_natCast];exact e1)) ?_
  repeat first|exact zE|refine zP ?_|refine zB fun b=>?_|refine zC fun a' c' hc1 hc2=>?_|(apply GJ.a;exact rfl;intro hg)|(apply GJ.o;exact rfl;intro hg)
  refine OpOk.load rfl rfl (Go.E.Ld.rs h2 (by rw [Int.toNat_natCast];exact e2)) ?_
  repeat first|exact zE|refine zP ?_|refine zB fun b=>?_|refine zC fun a' c' hc1 hc2=>?_|(apply GJ.a;exact rfl;intro hg)|(apply GJ.o;exact rfl;intro hg)
  refine same1_ok f1 f2 ?_
  repeat first|exact zE|refine zP ?_|refine zB fun b=>?_|refine zC fun a' c' hc1 hc2=>?_|(apply GJ.a;exact rfl;intro hg)|(apply GJ.o;exact rfl;intro hg)
  repeat first|exact zE|refine zP ?_|refine zB fun b=>?_|refine zC fun a' c' hc1 hc2=>?_|(apply GJ.a;exact rfl;intro hg)|(apply GJ.o;exact rfl;intro hg)
  refine Wk.id ⟨i+1,⟨rfl,?_⟩,?_,Sub.z,Sup.z⟩
  all_goals try dsimp only
  ·omega
  ·omega
 ·repeat first|exact zE|refine zP ?_|refine zB fun b=>?_|refine zC fun a' c' hc1 hc2=>?_|(apply GJ.a;exact rfl;intro hg)|(apply GJ.o;exact rfl;intro hg)
  exact Wk.id hk
theorem dsame_ok {p q:Nat}{d:DfaA} (h1:DAt ro p d) (h2:DAt ro q d) (hk:K (.bool true) ro own):CallOk Tryz.prog 13 #[ptr' p,ptr' q] ro own K:=by
 obtain ⟨an,cn,aa,ca,hs,hd⟩:=h1.rd
 obtain ⟨an2,cn2,aa2,ca2,hs2,hd2⟩:=h2.rd
 have hN:=hd.ldN
 have hA:=hd.ldA
 have hN2:=hd2.ldN
 have hA2:=hd2.ldA
 have hl6:(clsV d.cls).length=256:=by rw [zA0,hd.c256]
 have hlc:∀ own',LdN ro own' p (0+0) (clsV d.cls):=fun own'=>by
  have:=LdN.part 0 256 (LdN.lastBlk (own:=own') hd.row)
  rwa [List.drop_zero,show (autV d.cls (.slice an d.next.length cn) (.slice aa d.acc.length ca)).take 256=clsV d.cls by unfold autV;rw [List.take_append_of_le_length (by rw [zA0,hd.c256];exact Nat.le_refl _),List.take_of_length_le (by rw [zA0,hd.c256];exact Nat.le_refl _)]] at this
 have hlc2:∀ own',LdN ro own' q (0+0) (clsV d.cls):=fun own'=>by
  have:=LdN.part 0 256 (LdN.lastBlk (own:=own') hd2.row)
  rwa [List.drop_zero,show (autV d.cls (.slice an2 d.next.length cn2) (.slice aa2 d.acc.length ca2)).take 256=clsV d.cls by unfold autV;rw [List.take_append_of_le_length (by rw [zA0,hd.c256];exact Nat.le_refl _),List.take_of_length_le (by rw [zA0,hd.c256];exact Nat.le_refl _)]] at this
 refine CallOk.intro (args:=[_,_]) (rs:=[_]) T_ok Tryz.func13 Tryz.call13 rfl rfl (by kernel_rfl) rfl rfl ?_
 repeat first|exact zE|refine zP ?_|refine zB fun b=>?_|refine zC fun a' c' hc1 hc2=>?_|(apply GJ.a;exact rfl;intro hg)|(apply GJ.o;exact rfl;intro hg)
 refine QOk.loadRow rfl rfl (hlc _) hl6 ?_
 repeat first|exact zE|refine zP ?_|refine zB fun b=>?_|refine zC fun a' c' hc1 hc2=>?_|(apply GJ.a;exact rfl;intro hg)|(apply GJ.o;exact rfl;intro hg)
 refine QOk.loadRow rfl rfl (hlc2 _) hl6 ?_
 repeat first|exact zE|refine zP ?_|refine zB fun b=>?_|refine zC fun a' c' hc1 hc2=>?_|(apply GJ.a;exact rfl;intro hg)|(apply GJ.o;exact rfl;intro hg)
 refine QOk.eqlArrSame (e:=5) (C:=d.cls) rfl rfl (by kernel_rfl) (by kernel_rfl) (by kernel_rfl) rfl rfl hd.c256 (by kernel_rfl) ?_
 repeat first|exact zE|refine zP ?_|refine zB fun b=>?_|refine zC fun a' c' hc1 hc2=>?_|(apply GJ.a;exact rfl;intro hg)|(apply GJ.o;exact rfl;intro hg)
 refine zN2 hd.ra hd2.ra ?_
 repeat first|exact zE|refine zP ?_|refine zB fun b=>?_|refine zC fun a' c' hc1 hc2=>?_|(apply GJ.a;exact rfl;intro hg)|(apply GJ.o;exact rfl;intro hg)
 refine zN0 hd.rs hd2.rs ⟨hd.rs.n1,hd.rows⟩ ⟨hd2.rs.n1,hd2.rows⟩ ?_
 repeat first|exact zE|refine zP ?_|refine zB fun b=>?_|refine zC fun a' c' hc1 hc2=>?_|(apply GJ.a;exact rfl;intro hg)|(apply GJ.o;exact rfl;intro hg)
 exact Wk.id hk
theorem dmake_ok {a:NfaD}{v:List Value} (hv:AutoOk ro a v) (hK:zL6 a) (ht:TabOk ro) (hsl:(zB4 a.rows).length≤1000)
  (hk1:(zAP a).1≠0→∀ ro',Le ro ro'→K (.tuple #[.pointer none,.int .i64 ((zAP a).1:Int)]) ro' own)
  (hk2:(zAP a).1=0→∀ ro' p,Le ro ro'→DAt ro' p (zAP a).2→K (.tuple #[ptr' p,.int .i64 0]) ro' own) :
  CallOk Tryz.prog 26 #[.agg v.toArray] ro own K :=
 CallOk.lastly (Q:=fun v l=>((zAP a).1≠0∧v=.tuple #[.pointer none,.int .i64 ((zAP a).1:Int)])∨((zAP a).1=0∧∃ (p:Nat) (an:Option Addr) (cn:Nat) (aa:Option Addr) (ca:Nat) (R:List RowJ),R.map (·.2)=(zAP a).2.next∧v=.tuple #[ptr' p,.int .i64 0] ∧
   l=(.blk p 83 (autV (zAP a).2.cls (.slice an R.length cn) (.slice aa (zAP a).2.acc.length ca))::.sl an R.length cn 84 1 (R.map hdrJ)::.sl aa (zAP a).2.acc.length ca 4 1 (zAh (zAP a).2.acc)::R.map rowJ)))
  (zN8 hv hK ht hsl (fun h=>⟨rfl,[],rfl,.inl ⟨h,rfl⟩⟩) (fun h p an cn aa ca R hR=>⟨rfl,_,by simp,.inr ⟨h,p,an,cn,aa,ca,R,hR,rfl,rfl⟩⟩))
  (fun ro' v l hl hc hq=>by
   rcases hq with ⟨h,rfl⟩|⟨h,p,an,cn,aa,ca,R,hR,rfl,rfl⟩
   ·exact hk1 h ro' hl
   ·have hm:=(zHf hK.ok.to hK.sets h).1
    obtain ⟨w,_,ho,_⟩:=hm.ok
    have hRl:R.length=(zAP a).2.next.length:=by rw [←hR,List.length_map]
    refine hk2 h ro' p hl ⟨⟨an,cn,aa,ca,R.map hdrJ,?_,ho.cls,?_,fun i row hi=>?_,Rs.last (hc _ (List.mem_cons_of_mem _ (List.mem_cons_of_mem _ (List.mem_cons_self ..))))⟩⟩
    ·rw [←hRl];exact hc _ (List.mem_cons_self ..)
    ·rw [←hRl];exact Rs.last (hc _ (List.mem_cons_of_mem _ (List.mem_cons_self ..)))
    ·rw [←hR,List.getElem?_map] at hi
     obtain ⟨x,hx,rfl⟩:=Option.map_eq_some_iff.1 hi
     refine ⟨x.1.1,x.1.2,by rw [List.getElem?_map,hx];rfl,?_⟩
     exact Rs.last (t:=3) (hc (rowJ x) (List.mem_cons_of_mem _ (List.mem_cons_of_mem _ (List.mem_cons_of_mem _ (List.mem_map_of_mem (List.mem_of_getElem? hx)))))))
end
def lstE (n:RgD):Nat:=if (zA8 n).1≠0 then (zA8 n).1 else (zAP (zA8 n).2).1
def lstD (n:RgD):DfaA:=zAR (zAP (zA8 n).2).2
def OfP (ro:Ro) (n:RgD) (P:Value):Prop:=(lstE n≠0∧P=.pointer none)∨(lstE n=0∧∃ p,P=ptr' p∧DAt ro p (lstD n))
theorem zLo {n:RgD} (h:(zA8 n).1=0):(zAL n 512).1=0:=by
 unfold zA8 at h
 split at h
 ·rename_i h1;exact absurd h h1
 ·rename_i h1;exact Decidable.of_not_not h1
theorem zIm {n:RgD} (h:(zA8 n).1=0):zAJ n=0∧(zB4 (zA8 n).2.rows).length≤1000:=by
 obtain ⟨h1,h2,_⟩:=zBZ n 512 (zLo h)
 have:=sets_len n
 exact ⟨h1,by omega⟩
section
variable {ro:Ro}{own r:Chs}{K:Value→Ro→Chs→Prop}{g:Chunk→Chs}
theorem dof_ok {n:RgD}{v:List Value} (ht:TabOk ro) (hv:RgOk ro n v) (hk:∀ ro' P,Le ro ro'→OfP ro' n P→K (.tuple #[P,.int .i64 (lstE n:Int)]) ro' own) :
  CallOk Tryz.prog 9 #[.agg v.toArray] ro own K:=by
 have hin:=zHQ hv
 obtain ⟨a1,c1,hvc⟩:=hv.cells
 have hv0:=hv
 subst hvc
 have hK:=zMX hin
 refine CallOk.intro (args:=[_]) (rs:=[_,_]) T_ok Tryz.func9 Tryz.call9 rfl rfl (by kernel_rfl) rfl rfl ?_
 repeat first|exact zE|refine zP ?_|refine zB fun b=>?_|refine zC fun a' c' hc1 hc2=>?_|(apply GJ.a;exact rfl;intro hg)|(apply GJ.o;exact rfl;intro hg)
 refine nmake_ok hv0 (fun ro2 v2 hl2 hA=>?_)
 have hA0:=hA
 have hE:lstE n=if (zA8 n).1≠0 then (zA8 n).1 else (zAP (zA8 n).2).1:=rfl
 have hD:lstD n=zAR (zAP (zA8 n).2).2:=rfl
 by_cases h1:(zA8 n).1=0
 ·obtain ⟨hw,hsl⟩:=zIm h1
  rw [if_neg (by rw [h1];decide)] at hE
  rw [h1]
  obtain ⟨ad,cp,hs,rfl,hrs,hrw⟩:=hA
  repeat first|exact zE|refine zP ?_|refine zB fun b=>?_|refine zC fun a' c' hc1 hc2=>?_|(apply GJ.a;exact rfl;intro hg)|(apply GJ.o;exact rfl;intro hg)
  refine dmake_ok hA0 hK (ht.le hl2) hsl (fun h2 ro3 hl3=>?_) (fun h2 ro3 p hl3 hp=>?_)
  ·rw [←hE] at h2 ⊢
   repeat first|exact zE|refine zP ?_|refine zB fun b=>?_|refine zC fun a' c' hc1 hc2=>?_|(apply GJ.a;exact rfl;intro hg)|(apply GJ.o;exact rfl;intro hg)
   exact Wk.outS Sup.z (.refl _) (hk ro3 _ (hl2.trans hl3) (.inl ⟨h2,rfl⟩))
  ·have hm:=(zHf hK.ok.to hK.sets h2).1
   obtain ⟨w,hw6,ho,hs⟩:=hm.ok
   repeat first|exact zE|refine zP ?_|refine zB fun b=>?_|refine zC fun a' c' hc1 hc2=>?_|(apply GJ.a;exact rfl;intro hg)|(apply GJ.o;exact rfl;intro hg)
   refine zI3 hp ho hs hw6 hm.pos hm.le (fun ro4 p4 hl4 hp4=>?_)
   rw [←hD] at hp4
   repeat first|exact zE|refine zP ?_|refine zB fun b=>?_|refine zC fun a' c' hc1 hc2=>?_|(apply GJ.a;exact rfl;intro hg)|(apply GJ.o;exact rfl;intro hg)
   have h0:lstE n=0:=hE.trans h2
   have:=hk ro4 (ptr' p4) ((hl2.trans hl3).trans hl4) (.inr ⟨h0,p4,rfl,hp4⟩)
   rw [h0] at this
   exact Wk.outS Sup.z (.refl _) this
 ·rw [if_pos h1] at hE
  have h2:lstE n≠0:=by rw [hE];exact h1
  obtain ⟨ad,cp,hs,rfl,hrs,hrw⟩:=hA
  rw [←hE]
  repeat first|exact zE|refine zP ?_|refine zB fun b=>?_|refine zC fun a' c' hc1 hc2=>?_|(apply GJ.a;exact rfl;intro hg)|(apply GJ.o;exact rfl;intro hg)
  exact Wk.outS Sup.z (.refl _) (hk ro2 _ hl2 (.inl ⟨h2,rfl⟩))
end
theorem zMY {n:RgD}{v:List Value}{ro:Ro} (hv:RgOk ro n v) (h:lstE n=0):zDl (lstD n)∧MadeA (zAP (zA8 n).2).2:=by
 have hK:=zMX (zHQ hv)
 unfold lstE at h
 have h1:(zA8 n).1=0:=by
  refine Decidable.byContradiction fun hn=>?_
  rw [if_pos hn] at h
  exact hn h
 rw [h1,if_neg (by decide)] at h
 have hm:=(zHf hK.ok.to hK.sets h).1
 exact ⟨hm.least.1,hm⟩
section
variable {ro:Ro}{own r:Chs}{K:Value→Ro→Chs→Prop}{g:Chunk→Chs}
theorem zL3 {q1 q2:Nat}{A B:DfaA} (h1:DAt ro q1 A) (h2:DAt ro q2 B) (l1:zDl A) (l2:zDl B)
  (hk0:∀ ro',Le ro ro'→zEl A B 3=none→K (.tuple #[.slice none 0 0,.bool false,.int .i64 80]) ro' own)
  (hk1:∀ ro' P,Le ro ro'→zEl A B 3=some P→zDf (zAR P)=none→K (.tuple #[.slice none 0 0,.bool true,.int .i64 0]) ro' own)
  (hk2:∀ ro' P a c s,Le ro ro'→zEl A B 3=some P→zDf (zAR P)=some s→s.length≤1024→Rs ro' a s.length c 1 (s.map u8)→K (.tuple #[.slice a s.length c,.bool false,.int .i64 0]) ro' own):CallOk Tryz.prog 12 #[ptr' q1,ptr' q2] ro own K:=by
 refine CallOk.intro (args:=[_,_]) (rs:=[_,_,_]) T_ok Tryz.func12 Tryz.call12 rfl rfl (by kernel_rfl) rfl rfl ?_
 repeat first|exact zE|refine zP ?_|refine zB fun b=>?_|refine zC fun a' c' hc1 hc2=>?_|(apply GJ.a;exact rfl;intro hg)|(apply GJ.o;exact rfl;intro hg)
 refine aprod_ok (how:=3) h1 h2 l1 l2 (.inr (.inr rfl)) (fun ro2 hl2 hn=>?_) (fun ro2 p P hl2 hP hp=>?_)
 ·repeat first|exact zE|refine zP ?_|refine zB fun b=>?_|refine zC fun a' c' hc1 hc2=>?_|(apply GJ.a;exact rfl;intro hg)|(apply GJ.o;exact rfl;intro hg)
  exact Wk.id (hk0 ro2 hl2 hn)
 ·have hL:=(zGz hP).1
  repeat first|exact zE|refine zP ?_|refine zB fun b=>?_|refine zC fun a' c' hc1 hc2=>?_|(apply GJ.a;exact rfl;intro hg)|(apply GJ.o;exact rfl;intro hg)
  refine zIF hp hL (fun hs=>?_) (fun ro3 a c s hl3 hs h4 hr=>?_)
  ·repeat first|exact zE|refine zP ?_|refine zB fun b=>?_|refine zC fun a' c' hc1 hc2=>?_|(apply GJ.a;exact rfl;intro hg)|(apply GJ.o;exact rfl;intro hg)
   exact Wk.id (hk1 ro2 P hl2 hP hs)
  ·repeat first|exact zE|refine zP ?_|refine zB fun b=>?_|refine zC fun a' c' hc1 hc2=>?_|(apply GJ.a;exact rfl;intro hg)|(apply GJ.o;exact rfl;intro hg)
   exact Wk.id (hk2 ro3 P a c s (hl2.trans hl3) hP hs h4 hr)
end
end Go.Proofs.YtmaennnkaoollaaGreatDoor
end
section
namespace Go.E
open Go
end Go.E
namespace Go.Proofs.YtmaennnkaoollaaGreatDoor
open Go Go.E
theorem lst_zero {n:RgD} (h:lstE n=0):(zA8 n).1=0∧(zAP (zA8 n).2).1=0:=by
 unfold lstE at h
 have h1:(zA8 n).1=0:=by
  refine Decidable.byContradiction fun hn=>?_
  rw [if_pos hn] at h
  exact hn h
 rw [h1,if_neg (by decide)] at h
 exact ⟨h1,h⟩
theorem lst_lang {ro:Ro}{n:RgD}{v:List Value} (hv:RgOk ro n v) (h:lstE n=0):zAJ n=0∧(∀ t,zBe (lstD n) t=refM n t)∧∀ t,refM n t=true↔zCk n t:=by
 obtain ⟨h1,h2⟩:=lst_zero h
 obtain ⟨hw,_⟩:=zIm h1
 have hK:=zMX (zHQ hv)
 exact ⟨hw,fun t=>(dfa_ref hw hK.sets h1 h2 t).2,fun t=>zGW hw t⟩
section
variable {ro:Ro}{own r:Chs}{K:Value→Ro→Chs→Prop}{g:Chunk→Chs}
end
theorem zHc:∀ c:Nat,c<256→(zAW c).all patB=true:=by decide +kernel
theorem zGU (s:SetD):∀ (n c:Nat),(zBV s n c).all patB=true
 | 0,_=>rfl
 | n+1,c=>by
   rw [zBV]
   split
   ·rfl
   rename_i hc
   split
   ·have he:=zJt s 256 c (by omega)
    rw [List.all_append,List.all_append,zHc c (by omega),zGU s n,Bool.true_and,Bool.and_true]
    split
    ·rw [List.all_cons,zHc _ (by omega)];rfl
    ·rfl
   ·exact zGU s n (c+1)
theorem set_pat (s:SetD):(zBC s).all patB=true:=by
 unfold zBC
 split
 ·rfl
 split
 ·split
  ·rename_i c hc
   have:=List.mem_range.1 (List.mem_of_find?_eq_some hc)
   exact zHc c this
  ·rfl
 ·rw [List.all_cons,List.all_append,zGU];rfl
theorem zNA:∀ n:Nat,n<10→patB (UInt8.ofNat (48+n))=true:=by decide +kernel
theorem zNB:∀ (k n:Nat),(decD k n).all patB=true
 | 0,_=>rfl
 | k+1,n=>by
   rw [decD]
   split
   ·rw [List.all_cons,zNA n (by omega)];rfl
   ·rw [List.all_append,zNB k,List.all_cons,zNA (n % 10) (by omega)];rfl
theorem zME (a b:Int):(zBd a b).all patB=true:=by
 have hd:∀ n,(zDo n).all patB=true:=fun n=>zNB 20 n
 unfold zBd
 split
 ·rfl
 split
 ·rfl
 split
 ·rfl
 split
 ·rw [List.all_cons,List.all_append,hd];rfl
 split
 ·rw [List.all_cons,List.all_append,hd];rfl
 ·rw [List.all_cons,List.all_append,hd,List.all_cons,List.all_append,hd];rfl
mutual
theorem zDZ:∀ (n:RgD) (w:Bool),(zAc n w).all patB=true
 | .mk k s l a b,w=>by
   rw [zAc]
   have h1:∀ p:Prop,∀ [Decidable p],∀ c,patB c=true→(if p then [c] else ([]:List UInt8)).all patB=true:=fun p _ c hc=>by
    split
    ·rw [List.all_cons,hc];rfl
    ·rfl
   rw [List.all_append,List.all_append,h1 _ 40 (by decide),h1 _ 41 (by decide),Bool.true_and,Bool.and_true]
   split
   ·exact set_pat s
   split
   ·exact zGm l
   split
   ·exact zGn l true
   split
   ·rw [List.all_append,zKR l,zME];rfl
   ·rfl
theorem zGm:∀ (l:List RgD),(zAo l).all patB=true
 | []=>by rw [zAo];rfl
 | x::r=>by rw [zAo,List.all_append,zDZ x true,zGm r];rfl
theorem zGn:∀ (l:List RgD) (f:Bool),(zAi l f).all patB=true
 | [],f=>by rw [zAi];rfl
 | x::r,f=>by
   rw [zAi,List.all_append,List.all_append,zDZ x,zGn r false]
   cases f<;>rfl
theorem zKR:∀ (l:List RgD),(zDe l).all patB=true
 | []=>by rw [zDe];rfl
 | x::r=>by rw [zDe];exact zDZ x true
end
theorem text_pat (n:RgD):∀ u∈zFb n,patB u=true:=List.all_eq_true.1 (zDZ n false)
theorem zJH:∀ {t y:List UInt8},(∀ u∈t,patB u=true)→(t++47::y).takeWhile patB=t
 | [],y,_=>by
   rw [List.nil_append,List.takeWhile_cons]
   rw [show patB 47=false by decide];rfl
 | x::t,y,h=>by
   rw [List.cons_append,List.takeWhile_cons,h x (by simp),if_pos rfl,zJH (fun u hu=>h u (List.mem_cons_of_mem _ hu))]
theorem zNn {t y:List UInt8} (h:∀ u∈t,patB u=true):zCp (47::(t++47::y))=(3,t,t.length+2,0):=by
 have hp:patD (t++47::y)=some t:=by
  unfold patD
  rw [zJH h,List.drop_left]
  rfl
 rw [zCp,if_neg (show ¬letB 47=true by decide),if_neg (show ¬digB 47=true by decide),if_pos (show (47:UInt8).toNat=47 by decide),hp]
theorem scan_pat {t:List UInt8} (h:∀ u∈t,patB u=true) (hl:t.length≤1000) :
  zGS (120::32::61::32::47::(t++[47,59]))=([⟨1,0,[120]⟩,⟨4,2,[61]⟩,⟨3,4,t⟩,⟨4,4+(t.length+2),[59]⟩,⟨5,4+(t.length+2)+1,[]⟩],0,0):=by
 unfold zGS
 rw [if_neg (by simp;omega)]
 rw [show (120::32::61::32::47::(t++[47,59])).length+1=(t.length+3)+5 by simp]
 rw [zGh]
 rw [show gapD false (120::32::61::32::47::(t++[47,59]))=0 from rfl,List.drop_zero,if_neg (by simp),if_neg (by decide),show zCp (120::32::61::32::47::(t++[47,59]))=(1,[120],1,0) from rfl,if_neg (by decide)]
 dsimp only [List.nil_append]
 rw [show List.drop 1 (120::32::61::32::47::(t++[47,59]))=32::61::32::47::(t++[47,59]) from rfl,zGh]
 rw [show gapD false (32::61::32::47::(t++[47,59]))=1 from rfl,show List.drop 1 (32::61::32::47::(t++[47,59]))=61::32::47::(t++[47,59]) from rfl,if_neg (by simp),if_neg (by decide),show zCp (61::32::47::(t++[47,59]))=(4,[61],1,0) from rfl,if_neg (by decide)]
 dsimp only [List.cons_append,List.nil_append]
 rw [show List.drop 1 (61::32::47::(t++[47,59]))=32::47::(t++[47,59]) from rfl,zGh]
 rw [show gapD false (32::47::(t++[47,59]))=1 from rfl,show List.drop 1 (32::47::(t++[47,59]))=47::(t++[47,59]) from rfl,if_neg (by simp),if_neg (by decide),zNn (y:=[59]) h,if_neg (fun hh=>hh rfl)]
 dsimp only [List.cons_append,List.nil_append]
 rw [show List.drop (t.length+2) (47::(t++[47,59]))=[59] by rw [List.drop_succ_cons,List.drop_append,List.drop_eq_nil_of_le (by omega),show t.length+1-t.length=1 by omega];rfl,zGh]
 rw [show gapD false [59]=0 from rfl,List.drop_zero,if_neg (by simp),if_neg (by simp),show zCp [59]=(4,[59],1,0) from rfl,if_neg (by decide)]
 dsimp only [List.cons_append,List.nil_append]
 rw [show List.drop 1 [(59:UInt8)]=[] from rfl,zGh]
 rw [show gapD false []=0 from rfl,show List.drop 0 ([]:List UInt8)=[] from rfl,if_pos rfl]
 rfl
theorem zJr (k:Int) (s:SetD) (l:List RgD) (a b:Int):zEL (.mk k s l a b)=if k=1∨k=2 then (if l≠[] then 5 else if k=2∧s=zeroS then 160 else 0) else if k=3∨k=4 then (if l.length<2 then 5 else 0)
 else if k=5 then (if l.length≠1 then 5 else if a<0∨256<a∨256<b∨(0≤b∧b<a) then 1 else 0) else 5:=rfl
theorem zMK (k:Int) (s:SetD) (l:List RgD) (a b:Int):zEL (zCd (.mk k s l a b))=zEL (.mk k s l a b):=by
 have hl:=zId l
 have hnil:zBf l≠[]↔l≠[]:=by
  cases l<;>simp [zBf]
 rw [zCd,zJr,zJr,hl]
 by_cases h1:k=1∨k=2
 ·rw [if_pos h1,if_pos h1]
  by_cases h2:l≠[]
  ·rw [if_pos h2,if_pos (hnil.2 h2)]
  ·rw [if_neg h2,if_neg (fun h=>h2 (hnil.1 h))]
   by_cases h3:k=2
   ·rw [if_pos h3]
   ·rw [if_neg (fun h=>h3 h.1),if_neg (fun h=>h3 h.1)]
 rw [if_neg h1,if_neg h1]
 by_cases h5:k=5
 ·rw [if_pos h5,if_pos h5,if_pos h5,if_pos h5]
  have:(a<0∨256<a∨256<Max.max b (-1)∨0≤Max.max b (-1)∧Max.max b (-1)<a)↔(a<0∨256<a∨256<b∨0≤b∧b<a):=by omega
  simp only [this]
 ·rw [if_neg h5,if_neg h5]
mutual
theorem zG3:∀ (n:RgD) (M:Int),zAL (zCd n) M=zAL n M
 | .mk k s l a b,M=>by
   have hf:=zMK k s l a b
   have hn:zCd (.mk k s l a b)=.mk k (if k=2 then s else zeroS) (zBf l) (if k=5 then a else 0) (if k=5 then Max.max b (-1) else 0):=by rw [zCd]
   rw [hn] at hf ⊢
   rw [zAL,zAL,hf]
   have:=zF8 l (M-1)
   rw [this]
theorem zF8:∀ (l:List RgD) (M:Int),zAK (zBf l) M=zAK l M
 | [],M=>by rw [zBf]
 | x::r,M=>by
   rw [zBf,zAK,zAK,zG3 x M]
   split
   ·rfl
   ·exact zF8 r _
end
theorem rep_norm (f:zBN) (a b:Int) (h:0≤a∨True):zBs f a (Max.max b (-1))=zBs f a b:=by
 funext x st
 unfold zBs
 split
 ·rfl
 ·by_cases hb:b<0
  ·rw [if_pos hb,if_pos (by omega)]
  ·rw [if_neg hb,if_neg (by omega),show Max.max b (-1)=b by omega]
mutual
theorem zEp:∀ (n:RgD),zAx (zCd n)=zAx n
 | .mk k s l a b=>by
   have hn:zCd (.mk k s l a b)=.mk k (if k=2 then s else zeroS) (zBf l) (if k=5 then a else 0) (if k=5 then Max.max b (-1) else 0):=by rw [zCd]
   rw [hn]
   funext x st
   rw [zAx,zAx,zKk l,zKl l,norm_kid l]
   by_cases h2:k=2
   ·simp only [h2,if_true]
   by_cases h5:k=5
   ·simp only [h5,if_true]
    rw [rep_norm _ _ _ (.inr trivial)]
    simp only [show ¬((5:Int)=2) by decide,if_false]
   ·simp only [h2,h5,if_false]
theorem zKk:∀ (l:List RgD),catN (zBf l)=catN l
 | []=>by rw [zBf]
 | x::r=>by
   funext y st
   rw [zBf,catN,catN,zEp x,zKk r]
theorem zKl:∀ (l:List RgD),altN (zBf l)=altN l
 | []=>by rw [zBf]
 | x::r=>by
   funext y z st
   rw [zBf,altN,altN,zEp x,zKl r]
theorem norm_kid:∀ (l:List RgD),kidN (zBf l)=kidN l
 | []=>by rw [zBf]
 | x::r=>by
   funext y st
   rw [zBf,kidN,kidN,zEp x]
end
theorem zMJ (n:RgD):zA8 (zCd n)=zA8 n:=by unfold zA8;rw [zG3,zEp]
theorem zHa (n:RgD):lstE (zCd n)=lstE n∧lstD (zCd n)=lstD n:=by
 unfold lstE lstD
 rw [zMJ]
 exact ⟨rfl,rfl⟩
mutual
theorem zEu:∀ (n:RgD),zAJ n=0→insD n→∃ w,zCk n w
 | .mk k s l a b,hw,hi=>by
   obtain ⟨hf,hk⟩:=zAM hw
   obtain ⟨hs,hil⟩:SetIn s∧insK l:=by rw [insD] at hi;exact hi
   have hk:zBp l=0:=hk
   rw [zJr] at hf
   by_cases h1:k=1
   ·exact ⟨[],by rw [zCf,if_pos h1]⟩
   by_cases h2:k=2
   ·rw [if_pos (.inr h2)] at hf
    have hz:s≠zeroS:=fun hz=>by
     split at hf
     ·cases hf
     rw [if_pos ⟨h2,hz⟩] at hf
     cases hf
    obtain ⟨c,hc,hh⟩:∃ c,c<256∧s.has c=true:=Classical.byContradiction fun hno=>hz (SetD.ext hs zeroS_in fun c hc=>by
     rw [zDY]
     exact Bool.eq_false_iff.2 fun h=>hno ⟨c,hc,h⟩)
    exact ⟨[UInt8.ofNat c],by rw [zCf,if_neg h1,if_pos h2];exact ⟨UInt8.ofNat c,rfl,by rw [show (UInt8.ofNat c).toNat=c by rw [UInt8.toNat_ofNat'];exact Nat.mod_eq_of_lt hc];exact hh⟩⟩
   rw [if_neg (by omega)] at hf
   by_cases h3:k=3
   ·obtain ⟨w,hw⟩:=zKE l hk hil
    exact ⟨w,by rw [zCf,if_neg h1,if_neg h2,if_pos h3];exact hw⟩
   by_cases h4:k=4
   ·rw [if_pos (.inr h4)] at hf
    have hl:l≠[]:=fun h=>by rw [h] at hf;cases hf
    obtain ⟨w,hw⟩:=alt_some l hk hil hl
    exact ⟨w,by rw [zCf,if_neg h1,if_neg h2,if_neg h3,if_pos h4];exact hw⟩
   rw [if_neg (by omega)] at hf
   by_cases h5:k=5
   ·rw [if_pos h5] at hf
    by_cases hlen:l.length≠1
    ·rw [if_pos hlen] at hf;cases hf
    rw [if_neg hlen] at hf
    have hlen:l.length=1:=Decidable.of_not_not hlen
    by_cases hab:a<0∨256<a∨256<b∨(0≤b∧b<a)
    ·rw [if_pos hab] at hf;cases hf
    obtain ⟨w,hw⟩:=kid_some l hk hil (by intro h;rw [h] at hlen;cases hlen)
    have hp:∀ k,∃ v,powW (fun u=>kidW l u) k v:=fun k=>by
     induction k with
     | zero=>exact ⟨[],rfl⟩
     | succ k ih=>obtain ⟨v,hv⟩:=ih;exact ⟨w++v,w,v,rfl,hw,hv⟩
    obtain ⟨v,hv⟩:=hp a.toNat
    exact ⟨v,by rw [zCf,if_neg h1,if_neg h2,if_neg h3,if_neg h4,if_pos h5];exact ⟨a.toNat,by omega,by omega,hv⟩⟩
   ·rw [if_neg h5] at hf;cases hf
theorem zKE:∀ (l:List RgD),zBp l=0→insK l→∃ w,catW l w
 | [],_,_=>⟨[],by rw [catW]⟩
 | x::r,h,hi=>by
   obtain ⟨h1,h2⟩:=zAB h
   rw [insK] at hi
   obtain ⟨u,hu⟩:=zEu x h1 hi.1
   obtain ⟨v,hv⟩:=zKE r h2 hi.2
   exact ⟨u++v,by rw [catW];exact ⟨u,v,rfl,hu,hv⟩⟩
theorem alt_some:∀ (l:List RgD),zBp l=0→insK l→l≠[]→∃ w,altW l w
 | [],_,_,h=>absurd rfl h
 | x::r,h,hi,_=>by
   rw [insK] at hi
   obtain ⟨u,hu⟩:=zEu x (zAB h).1 hi.1
   exact ⟨u,by rw [altW];exact .inl hu⟩
theorem kid_some:∀ (l:List RgD),zBp l=0→insK l→l≠[]→∃ w,kidW l w
 | [],_,_,h=>absurd rfl h
 | x::r,h,hi,_=>by
   rw [insK] at hi
   obtain ⟨u,hu⟩:=zEu x (zAB h).1 hi.1
   exact ⟨u,by rw [kidW];exact hu⟩
end
structure DiagP (N:Nat) (l:List (Int × Int)):Prop where
 all:∀ q∈l,q.1=q.2∧0≤q.1∧q.1<(N:Int)
 nodup:l.Nodup
theorem zIf:∀ {l m:List Nat},l.Nodup→(∀ x∈l,x∈m)→l.length≤m.length
 | [],m,_,_=>Nat.zero_le _
 | x::l,m,hn,hs=>by
   have hn2:=List.nodup_cons.1 hn
   have hx:=hs x (List.mem_cons_self ..)
   have:=zIf (m:=m.erase x) hn2.2 (fun y hy=>(List.mem_erase_of_ne (fun (e:y=x)=>hn2.1 (e▸hy))).2 (hs y (List.mem_cons_of_mem _ hy)))
   rw [List.length_erase_of_mem hx] at this
   have:=List.length_pos_of_mem hx
   rw [List.length_cons]
   omega
theorem DiagP.le {N:Nat}{l:List (Int × Int)} (h:DiagP N l):l.length≤N:=by
 have hn:(l.map (fun q=>q.1.toNat)).Nodup:=by
  rw [List.nodup_iff_pairwise_ne,List.pairwise_map]
  refine (List.nodup_iff_pairwise_ne.1 h.nodup).imp_of_mem fun {x y} hx hy hxy e=>hxy ?_
  have h1:=h.all x hx
  have h2:=h.all y hy
  exact Prod.ext (by omega) (by omega)
 have:=zIf hn (m:=List.range N) (fun x hx=>by
  obtain ⟨q,hq,rfl⟩:=List.mem_map.1 hx
  have:=h.all q hq
  exact List.mem_range.2 (by omega))
 rwa [List.length_map,List.length_range] at this
theorem zEk {D:DfaA}{w:Nat} (ho:zAt w D) (hN:D.next.length≤100) {p:Int × Int} (hp:p.1=p.2):∀ (cs:List Nat) (list:List (Int × Int)) (row:List Int),(∀ c∈cs,c<256)→DiagP D.next.length list→∃ r,zDM D D 3 p cs list row=some r∧DiagP D.next.length r.1
 | [],list,row,_,hd=>⟨_,by rw [zDM],hd⟩
 | c::cs,list,row,hc,hd=>by
   have hc0:=hc c (by simp)
   have hcs:∀ c∈cs,c<256:=fun x hx=>hc x (List.mem_cons_of_mem _ hx)
   rw [zDM]
   split
   ·exact zEk ho hN hp cs list _ hcs hd
   rename_i hs
   split
   ·exact zEk ho hN hp cs list _ hcs hd
   rename_i hi
   have hle:=hd.le
   rw [if_neg (by omega)]
   refine zEk ho hN hp cs _ _ hcs ⟨fun q hq=>?_,?_⟩
   ·rcases List.mem_append.1 hq with h|h
    ·exact hd.all q h
    ·rw [List.mem_singleton] at h
     subst h
     rw [←hp] at hs ⊢
     refine ⟨rfl,?_⟩
     rcases zAE ho p.1 hc0 with h|⟨t,h,ht⟩
     ·rw [h] at hs
      exact absurd rfl hs
     ·dsimp only;rw [h];exact ⟨by omega,by omega⟩
   ·rw [List.nodup_append]
    exact ⟨hd.nodup,by simp,fun x hx y hy=>by rw [List.mem_singleton] at hy;subst hy;exact fun e=>zKs hi (e▸hx)⟩
theorem zG0 {D:DfaA}{w:Nat} (ho:zAt w D) (hN:D.next.length≤100) {first:List Nat} (hf:∀ c∈first,c<256):∀ (f:Nat) (list:List (Int × Int)) (next:List (List Int)) (acc:List Bool),DiagP D.next.length list→101≤f+next.length→next.length≤list.length→∃ r,zGj D D 3 first f list next acc=some r
 | 0,list,next,acc,hd,h1,h2=>by have:=hd.le;omega
 | f+1,list,next,acc,hd,h1,h2=>by
   rw [zGj]
   split
   ·exact ⟨_,rfl⟩
   ·rename_i p hp
    have hpl:=(List.getElem?_eq_some_iff.1 hp).1
    obtain ⟨r,hr,hr2⟩:=zEk ho hN (hd.all p (List.mem_of_getElem? hp)).1 first list [] hf hd
    obtain ⟨⟨e,he⟩,_⟩:=zEC first [] list [] r hr rfl rfl (by have:=hd.le;omega) hd.nodup (fun k c z h=>by simp at h)
    rw [hr]
    dsimp only
    exact zG0 ho hN hf f r.1 _ _ hr2 (by rw [List.length_append,List.length_singleton];omega) (by rw [List.length_append,List.length_singleton,he,List.length_append];omega)
theorem zM0 {D:DfaA} (hL:zDl D) (hN:D.next.length≤100):∃ P,zEl D D 3=some P:=by
 obtain ⟨w,hw6,ho,hs,_,_⟩:=hL.ok
 have hpos:=hL.pos
 obtain ⟨seen,hj⟩:=zFH D D
 obtain ⟨r,hr⟩:=zG0 ho hN (first:=(zCo D D).2) (fun c hc=>by
  obtain ⟨k,hk⟩:=List.getElem?_of_mem hc
  exact (hj.first' k c hk).1) 1025 [(0,0)] [] [] ⟨fun q hq=>by rw [List.mem_singleton] at hq;subst hq;exact ⟨rfl,by decide,by dsimp only;omega⟩,by simp⟩ (by simp) (by simp)
 unfold zEl
 rw [hr]
 exact ⟨_,rfl⟩
theorem zIN {D P:DfaA} (hP:zEl D D 3=some P):zDf (zAR P)=none:=by
 cases h:zDf (zAR P) with
 | none=>rfl
 | some s =>
   obtain ⟨h1,h2,_⟩:=zIM hP h
   rw [h1] at h2
   cases h2
end Go.Proofs.YtmaennnkaoollaaGreatDoor
namespace Go.Proofs.YtmaennnkaoollaaGreatDoor
open Go Go.E
theorem wargs_eq {P:Program}{f:FuncId}{ro:Ro}{own:Chs}{K:Value→Ro→Chs→Prop}{xs bs:Array Value} (e:xs=bs) (h:CallOk P f bs ro own K):CallOk P f xs ro own K:=e▸h
section
variable {ro:Ro}{own r:Chs}{K:Value→Ro→Chs→Prop}{g:Chunk→Chs}
set_option maxHeartbeats 8000000 in
theorem wpat_law {n:RgD}{v:List Value} (ht:TabOk ro) (hS:SpOk ro) (hM:MaxOk ro) (hv:RgOk ro n v) (hk:K (.bool true) ro own):CallOk Tryz.prog 3 #[.agg v.toArray] ro own K:=by
 refine CallOk.back ?_
 have hin:=zHQ hv
 obtain ⟨a1,c1,hvc⟩:=hv.cells
 have hv0:=hv
 subst hvc
 refine CallOk.intro (args:=[_]) (rs:=[_]) T_ok Tryz.func3 Tryz.call3 rfl rfl (by kernel_rfl) rfl rfl ?_
 repeat first|exact zE|refine zP ?_|refine zB fun b=>?_|refine zC fun a' c' hc1 hc2=>?_|(apply GJ.a;exact rfl;intro hg)|(apply GJ.o;exact rfl;intro hg)
 obtain ⟨bN,hbN⟩:∃ z:Nat,z=b:=⟨_,rfl⟩
 subst hbN
 refine wargs_eq (bs:=#[str [47,97,47]]) (by kernel_rfl) ?_
 refine zMe hS (by decide) (fun l a code a' c' hsc _ _ _ g1 g2=>?_)
 obtain ⟨rfl,rfl,rfl⟩:l=[⟨3,0,[97]⟩,⟨5,3,[]⟩]∧a=0∧code=0:=by
  have h:zGS [47,97,47]=([⟨3,0,[97]⟩,⟨5,3,[]⟩],0,0):=by decide +kernel
  rw [h] at hsc
  cases hsc
  exact ⟨rfl,rfl,rfl⟩
 rw [show ([⟨3,0,[97]⟩,⟨5,3,[]⟩]:List TokD).length=2 from rfl] at g1 ⊢
 dsimp only [zJk]
 repeat first|exact zE|refine zP ?_|refine zB fun b=>?_|refine zC fun a' c' hc1 hc2=>?_|(apply GJ.a;exact rfl;intro hg)|(apply GJ.o;exact rfl;intro hg)
 refine zF2 (n:=.mk 0 zeroS [] 0 0) (RgOk.leaf zeroS_in) ?_
 rw [show (zAL (.mk 0 zeroS [] 0 0) 512).1=5 by rfl]
 repeat first|exact zE|refine zP ?_|refine zB fun b=>?_|refine zC fun a' c' hc1 hc2=>?_|(apply GJ.a;exact rfl;intro hg)|(apply GJ.o;exact rfl;intro hg)
 refine zF2 hv0 ?_
 by_cases hc:(zAL n 512).1=0
 rotate_left
 ·generalize (zAL n 512).1=e at *
  repeat first|exact zE|refine zP ?_|refine zB fun b=>?_|refine zC fun a' c' hc1 hc2=>?_|(apply GJ.a;exact rfl;intro hg)|(apply GJ.o;exact rfl;intro hg)
  exact Wk.back1 Sup.z (.refl _) hk
 rw [hc]
 obtain ⟨hw,hsz,_⟩:=zBZ n 512 hc
 repeat first|exact zE|refine zP ?_|refine zB fun b=>?_|refine zC fun a' c' hc1 hc2=>?_|(apply GJ.a;exact rfl;intro hg)|(apply GJ.o;exact rfl;intro hg)
 refine zFi ht hw hv0 (by omega) ?_
 have hpat:=text_pat n
 have hpar:=parse_at (write_a hw hin)
 by_cases h60:60<(zFb n).length
 ·generalize zFb n=t at *
  repeat first|exact zE|refine zP ?_|refine zB fun b=>?_|refine zC fun a' c' hc1 hc2=>?_|(apply GJ.a;exact rfl;intro hg)|(apply GJ.o;exact rfl;intro hg)
  exact Wk.back1 Sup.z (.refl _) hk
 have hpar:=hpar (by omega)
 repeat first|exact zE|refine zP ?_|refine zB fun b=>?_|refine zC fun a' c' hc1 hc2=>?_|(apply GJ.a;exact rfl;intro hg)|(apply GJ.o;exact rfl;intro hg)
 refine zFi ht hw hv0 (by omega) ?_
 repeat first|exact zE|refine zP ?_|refine zB fun b=>?_|refine zC fun a' c' hc1 hc2=>?_|(apply GJ.a;exact rfl;intro hg)|(apply GJ.o;exact rfl;intro hg)
 refine zH7 hM (by omega) ?_
 obtain ⟨t,htx⟩:∃ t,t=zFb n:=⟨_,rfl⟩
 rw [←htx] at hpat hpar h60 ⊢
 obtain ⟨LT,hsc,hL5,hT0,hT2⟩:∃ LT,zGS (120::32::61::32::47::(t++[47,59]))=(LT,0,0)∧LT.length=5∧(zGP LT)[6]?=some (.int .i64 3)∧(zGP LT)[8]?=some (str t):=⟨_,scan_pat hpat (by omega),rfl,rfl,rfl⟩
 generalize Lib.contains t [123]=q at *
 repeat first|exact zE|refine zP ?_|refine zB fun b=>?_|refine zC fun a' c' hc1 hc2=>?_|(apply GJ.a;exact rfl;intro hg)|(apply GJ.o;exact rfl;intro hg)
 refine zFi ht hw hv0 (by omega) ?_
 rw [←htx]
 repeat first|exact zE|refine zP ?_|refine zB fun b=>?_|refine zC fun a' c' hc1 hc2=>?_|(apply GJ.a;exact rfl;intro hg)|(apply GJ.o;exact rfl;intro hg)
 cases hq:(q&&decide ((t.length:Int) > 30)) with
 | true =>
   repeat first|exact zE|refine zP ?_|refine zB fun b=>?_|refine zC fun a' c' hc1 hc2=>?_|(apply GJ.a;exact rfl;intro hg)|(apply GJ.o;exact rfl;intro hg)
   exact Wk.back1 Sup.z (.refl _) hk
 | false =>
   clear hq
   repeat first|exact zE|refine zP ?_|refine zB fun b=>?_|refine zC fun a' c' hc1 hc2=>?_|(apply GJ.a;exact rfl;intro hg)|(apply GJ.o;exact rfl;intro hg)
   refine zFi ht hw hv0 (by omega) ?_
   rw [←htx]
   repeat first|exact zE|refine zP ?_|refine zB fun b=>?_|refine zC fun a' c' hc1 hc2=>?_|(apply GJ.a;exact rfl;intro hg)|(apply GJ.o;exact rfl;intro hg)
   refine ⟨by simp<;>omega,?_⟩
   repeat first|exact zE|refine zP ?_|refine zB fun b=>?_|refine zC fun a' c' hc1 hc2=>?_|(apply GJ.a;exact rfl;intro hg)|(apply GJ.o;exact rfl;intro hg)
   refine ⟨by simp<;>omega,?_⟩
   repeat first|exact zE|refine zP ?_|refine zB fun b=>?_|refine zC fun a' c' hc1 hc2=>?_|(apply GJ.a;exact rfl;intro hg)|(apply GJ.o;exact rfl;intro hg)
   rw [show ([120,32,61,32,47]:List UInt8)++t++[47,59]=120::32::61::32::47::(t++[47,59]) by simp]
   refine zMe hS (by simp<;>omega) (fun l a code aT cT hs2 _ _ _ k1 k2=>?_)
   rw [hsc] at hs2
   cases hs2
   rw [hL5] at k1 ⊢
   dsimp only [zJk]
   repeat first|exact zE|refine zP ?_|refine zB fun b=>?_|refine zC fun a' c' hc1 hc2=>?_|(apply GJ.a;exact rfl;intro hg)|(apply GJ.o;exact rfl;intro hg)
   rw [show Int.toNat 2=2 from rfl,Nat.add_assoc]
   refine OpOk.load rfl rfl (Ld.hasSl (k:=2*3+0) hT0) ?_
   repeat first|exact zE|refine zP ?_|refine zB fun b=>?_|refine zC fun a' c' hc1 hc2=>?_|(apply GJ.a;exact rfl;intro hg)|(apply GJ.o;exact rfl;intro hg)
   rw [show Int.toNat 2=2 from rfl,Nat.add_assoc]
   refine OpOk.load rfl rfl (Ld.hasSl (k:=2*3+2) hT2) ?_
   repeat first|exact zE|refine zP ?_|refine zB fun b=>?_|refine zC fun a' c' hc1 hc2=>?_|(apply GJ.a;exact rfl;intro hg)|(apply GJ.o;exact rfl;intro hg)
   refine Br.f (fun h=>h rfl) ?_
   repeat first|exact zE|refine zP ?_|refine zB fun b=>?_|refine zC fun a' c' hc1 hc2=>?_|(apply GJ.a;exact rfl;intro hg)|(apply GJ.o;exact rfl;intro hg)
   rw [show Int.toNat 2=2 from rfl,Nat.add_assoc]
   refine OpOk.load rfl rfl (Ld.hasSl (k:=2*3+2) hT2) ?_
   repeat first|exact zE|refine zP ?_|refine zB fun b=>?_|refine zC fun a' c' hc1 hc2=>?_|(apply GJ.a;exact rfl;intro hg)|(apply GJ.o;exact rfl;intro hg)
   refine zMh (by omega) (fun ro2 v2 hl2 hv2=>?_)
   rcases hpar with ⟨e1,_⟩|⟨e1,e2⟩
   rotate_left
   ·rcases e2 with ⟨_,e2⟩|⟨e2,_⟩
    ·rw [zIc] at e2;omega
    rw [e1] at hv2 ⊢
    dsimp only at hv2 ⊢
    have hv2c:=hv2.cells
    obtain ⟨a2,c2,hvc2⟩:=hv2c
    subst hvc2
    generalize (zDG t).2=ff at *
    obtain ⟨f1,f2⟩:=ff
    dsimp only at e2
    subst e2
    dsimp only [zNy]
    repeat first|exact zE|refine zP ?_|refine zB fun b=>?_|refine zC fun a' c' hc1 hc2=>?_|(apply GJ.a;exact rfl;intro hg)|(apply GJ.o;exact rfl;intro hg)
    refine Wk.backB ?_ Sup.z (.refl _) hk
    rfl
   rw [e1] at hv2 ⊢
   dsimp only at hv2 ⊢
   obtain ⟨a2,c2,hvc2⟩:=hv2.cells
   have hv20:=hv2
   subst hvc2
   dsimp only [zNy]
   have hcl:∀ vs:List Value,(Value.agg vs.toArray).cells.toList=vs:=fun vs=>rfl
   repeat first|exact zE|refine zP ?_|refine zB fun b=>?_|refine zC fun a' c' hc1 hc2=>?_|(apply GJ.a;exact rfl;intro hg)|(apply GJ.o;exact rfl;intro hg)
   rw [hcl]
   refine dof_ok (ht.le hl2) (hv0.le hl2) (fun ro3 P hl3 hP=>?_)
   repeat first|exact zE|refine zP ?_|refine zB fun b=>?_|refine zC fun a' c' hc1 hc2=>?_|(apply GJ.a;exact rfl;intro hg)|(apply GJ.o;exact rfl;intro hg)
   refine dof_ok ((ht.le hl2).le hl3) (hv20.le hl3) (fun ro4 Q hl4 hQ=>?_)
   have hQ:OfP ro4 n Q:=by
    unfold OfP at hQ ⊢
    rw [(zHa n).1,(zHa n).2] at hQ
    exact hQ
   rw [(zHa n).1]
   by_cases he:lstE n=0
   rotate_left
   ·obtain ⟨_,rfl⟩:=hP.resolve_right (fun h=>he h.1)
    obtain ⟨_,rfl⟩:=hQ.resolve_right (fun h=>he h.1)
    generalize lstE n=e at *
    repeat first|exact zE|refine zP ?_|refine zB fun b=>?_|refine zC fun a' c' hc1 hc2=>?_|(apply GJ.a;exact rfl;intro hg)|(apply GJ.o;exact rfl;intro hg)
    refine Wk.backB ?_ Sup.z (.refl _) hk
    simp
   obtain ⟨_,p,rfl,hp⟩:=hP.resolve_left (fun h=>h.1 he)
   obtain ⟨_,q,rfl,hq⟩:=hQ.resolve_left (fun h=>h.1 he)
   have hL:=(zMY hv0 he).1
   obtain ⟨_,hM9,hlg⟩:=lst_lang hv0 he
   obtain ⟨w0,hw0⟩:=zEu n hw hin
   have hmw:zBe (lstD n) w0=true:=by rw [hM9,hlg];exact hw0
   rw [he]
   clear hM9 hlg hw0 he hP hQ
   generalize lstD n=D at *
   obtain ⟨w,hw6,ho,hs,_,_⟩:=hL.ok
   have hpos:=hL.pos
   repeat first|exact zE|refine zP ?_|refine zB fun b=>?_|refine zC fun a' c' hc1 hc2=>?_|(apply GJ.a;exact rfl;intro hg)|(apply GJ.o;exact rfl;intro hg)
   refine zBP (hp.le hl4) ?_
   by_cases h100:D.next.length≤100
   rotate_left
   ·repeat first|exact zE|refine zP ?_|refine zB fun b=>?_|refine zC fun a' c' hc1 hc2=>?_|(apply GJ.a;exact rfl;intro hg)|(apply GJ.o;exact rfl;intro hg)
    exact Wk.back1 Sup.z (.refl _) hk
   repeat first|exact zE|refine zP ?_|refine zB fun b=>?_|refine zC fun a' c' hc1 hc2=>?_|(apply GJ.a;exact rfl;intro hg)|(apply GJ.o;exact rfl;intro hg)
   refine zIF (hp.le hl4) hL (fun hs=>?_) (fun ro5 a5 c5 s hl5 hs h5 hr=>?_)
   ·have:=zKX ho hpos hs w0
    rw [←zBL,hmw] at this
    cases this
   obtain ⟨hs1,_⟩:=zGv ho hs
   rw [←zBL] at hs1
   repeat first|exact zE|refine zP ?_|refine zB fun b=>?_|refine zC fun a' c' hc1 hc2=>?_|(apply GJ.a;exact rfl;intro hg)|(apply GJ.o;exact rfl;intro hg)
   refine zL3 ((hp.le hl4).le hl5) (hq.le hl5) hL hL (fun ro6 hl6 hno=>?_) (fun ro6 P hl6 hP hsn=>?_) (fun ro6 P a6 c6 s6 hl6 hP hss _ _=>?_)
   ·obtain ⟨P,hP⟩:=zM0 hL h100
    rw [hP] at hno;cases hno
   rotate_left
   ·rw [zIN hP] at hss;cases hss
   have hr6:Rs ro6 a5 s.length c5 1 (s.map u8):=Rs.up hr
   repeat first|exact zE|refine zP ?_|refine zB fun b=>?_|refine zC fun a' c' hc1 hc2=>?_|(apply GJ.a;exact rfl;intro hg)|(apply GJ.o;exact rfl;intro hg)
   refine dsame_ok (((hp.le hl4).le hl5).le hl6) ((hq.le hl5).le hl6) ?_
   repeat first|exact zE|refine zP ?_|refine zB fun b=>?_|refine zC fun a' c' hc1 hc2=>?_|(apply GJ.a;exact rfl;intro hg)|(apply GJ.o;exact rfl;intro hg)
   refine zN7 ((hq.le hl5).le hl6) ho hr6.rds rfl ?_
   rw [hs1]
   repeat first|exact zE|refine zP ?_|refine zB fun b=>?_|refine zC fun a' c' hc1 hc2=>?_|(apply GJ.a;exact rfl;intro hg)|(apply GJ.o;exact rfl;intro hg)
   refine zKJ (((hp.le hl4).le hl5).le hl6) hL ?_
   repeat first|exact zE|refine zP ?_|refine zB fun b=>?_|refine zC fun a' c' hc1 hc2=>?_|(apply GJ.a;exact rfl;intro hg)|(apply GJ.o;exact rfl;intro hg)
   refine zKJ ((hq.le hl5).le hl6) hL ?_
   generalize prefA D=z at *
   repeat first|exact zE|refine zP ?_|refine zB fun b=>?_|refine zC fun a' c' hc1 hc2=>?_|(apply GJ.a;exact rfl;intro hg)|(apply GJ.o;exact rfl;intro hg)
   refine Wk.backB ?_ Sup.z (.refl _) hk
   simp
end
end Go.Proofs.YtmaennnkaoollaaGreatDoor
end
