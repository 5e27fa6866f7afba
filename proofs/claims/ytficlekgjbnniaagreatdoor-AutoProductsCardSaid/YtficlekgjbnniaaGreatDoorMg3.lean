/- Texts of a walk, one behind the other. -/
import Derived.Test.YtficlekgjbnniaaGreatDoorProg
import Derived.KernelRfl
import Derived.Lib.MakeNoZero
import Derived.Laws.CopyOwn
import Derived.RangeFuncRecord
import Derived.Below
import Derived.Test.YtficlekgjbnniaaGreatDoorMg2
set_option linter.unusedVariables false
set_option linter.unusedSimpArgs false
set_option linter.unusedSectionVars false
set_option maxRecDepth 10000
section
namespace Go.Proofs.YtficlekgjbnniaaGreatDoor
open Go Go.E
def T:TT:=[
 (2,⟨ .int .i64,1,[.int .i64 0]⟩),
 (3,⟨ .int .i64,1,[.int .i64 0]⟩),
 (4,⟨ .bool,1,[.bool false]⟩),
 (5,⟨ .int .u8,1,[.int .u8 0]⟩),
 (9,⟨ .str,1,[str []]⟩),
 (12,⟨ .int .u64,1,[.int .u64 0]⟩),
 (13,⟨ .struct [(9,0,1),(12,1,1)],2,[str [],.int .u64 0]⟩),
 (15,⟨ .ptr 179,1,[.pointer none]⟩),
 (16,⟨ .ptr 182,1,[.pointer none]⟩),
 (19,⟨ .struct [(17,0,1)],1,[.pointer none]⟩),
 (21,⟨ .int .i32,1,[.int .i32 0]⟩),
 (22,⟨ .int .u64,1,[.int .u64 0]⟩),
 (23,⟨ .arr 4 22,4,[.int .u64 0,.int .u64 0,.int .u64 0,.int .u64 0]⟩),
 (24,⟨ .slice 26,1,[.slice none 0 0]⟩),
 (25,⟨ .struct [(3,0,1),(23,1,4),(24,5,1),(3,6,1),(3,7,1)],8,[.int .i64 0,.int .u64 0,.int .u64 0,.int .u64 0,.int .u64 0,.slice none 0 0,.int .i64 0,.int .i64 0]⟩),
 (26,⟨ .struct [(3,0,1),(23,1,4),(24,5,1),(3,6,1),(3,7,1)],8,[.int .i64 0,.int .u64 0,.int .u64 0,.int .u64 0,.int .u64 0,.slice none 0 0,.int .i64 0,.int .i64 0]⟩),
 (27,⟨ .slice 5,1,[.slice none 0 0]⟩),
 (29,⟨ .ptr 68,1,[.pointer none]⟩),
 (35,⟨ .int .i64,1,[.int .i64 0]⟩),
 (40,⟨ .arr 4 22,4,[.int .u64 0,.int .u64 0,.int .u64 0,.int .u64 0]⟩),
 (51,⟨ .map 3 4,1,[.map none]⟩),
 (58,⟨ .ptr 3,1,[.pointer none]⟩),
 (59,⟨ .slice 3,1,[.slice none 0 0]⟩),
 (62,⟨ .slice 4,1,[.slice none 0 0]⟩),
 (65,⟨ .arr 256 5,256,List.replicate 256 (.int .u8 0)⟩),
 (66,⟨ .slice 59,1,[.slice none 0 0]⟩),
 (67,⟨ .struct [(65,0,256),(66,256,1),(62,257,1)],258,List.replicate 256 (.int .u8 0)++[.slice none 0 0,.slice none 0 0]⟩),
 (68,⟨ .struct [(65,0,256),(66,256,1),(62,257,1)],258,List.replicate 256 (.int .u8 0)++[.slice none 0 0,.slice none 0 0]⟩),
 (69,⟨ .slice 127,1,[.slice none 0 0]⟩),
 (70,⟨ .struct [(69,0,1),(3,1,1)],2,[.slice none 0 0,.int .i64 0]⟩),
 (71,⟨ .struct [(69,0,1),(3,1,1)],2,[.slice none 0 0,.int .i64 0]⟩),
 (77,⟨ .int .u64,1,[.int .u64 0]⟩),
 (81,⟨ .struct [(3,0,1),(3,1,1)],2,[.int .i64 0,.int .i64 0]⟩),
 (82,⟨ .struct [(3,0,1),(3,1,1)],2,[.int .i64 0,.int .i64 0]⟩),
 (83,⟨ .slice 82,1,[.slice none 0 0]⟩),
 (84,⟨ .map 82 3,1,[.map none]⟩),
 (90,⟨ .map 3 3,1,[.map none]⟩),
 (91,⟨ .struct [(35,0,1),(3,1,1)],2,[.int .i64 0,.int .i64 0]⟩),
 (92,⟨ .struct [(35,0,1),(3,1,1)],2,[.int .i64 0,.int .i64 0]⟩),
 (97,⟨ .ptr 99,1,[.pointer none]⟩),
 (98,⟨ .struct [(71,0,2),(4,2,1)],3,[.slice none 0 0,.int .i64 0,.bool false]⟩),
 (99,⟨ .struct [(71,0,2),(4,2,1)],3,[.slice none 0 0,.int .i64 0,.bool false]⟩),
 (101,⟨ .slice 40,1,[.slice none 0 0]⟩),
 (106,⟨ .map 9 3,1,[.map none]⟩),
 (109,⟨ .arr 64 5,64,List.replicate 64 (.int .u8 0)⟩),
 (110,⟨ .map 111 5,1,[.map none]⟩),
 (111,⟨ .arr 2 5,2,[.int .u8 0,.int .u8 0]⟩),
 (113,⟨ .map 9 5,1,[.map none]⟩),
 (114,⟨ .ptr 116,1,[.pointer none]⟩),
 (115,⟨ .struct [(9,0,1),(3,1,1),(3,2,1),(92,3,2)],5,[str [],.int .i64 0,.int .i64 0,.int .i64 0,.int .i64 0]⟩),
 (116,⟨ .struct [(9,0,1),(3,1,1),(3,2,1),(92,3,2)],5,[str [],.int .i64 0,.int .i64 0,.int .i64 0,.int .i64 0]⟩),
 (121,⟨ .struct [(3,0,1),(40,1,4),(4,5,1)],6,[.int .i64 0,.int .u64 0,.int .u64 0,.int .u64 0,.int .u64 0,.bool false]⟩),
 (122,⟨ .struct [(3,0,1),(40,1,4),(4,5,1)],6,[.int .i64 0,.int .u64 0,.int .u64 0,.int .u64 0,.int .u64 0,.bool false]⟩),
 (124,⟨ .arr 2 40,8,[.int .u64 0,.int .u64 0,.int .u64 0,.int .u64 0,.int .u64 0,.int .u64 0,.int .u64 0,.int .u64 0]⟩),
 (126,⟨ .map 40 4,1,[.map none]⟩),
 (127,⟨ .slice 122,1,[.slice none 0 0]⟩),
 (142,⟨ .int .i64,1,[.int .i64 0]⟩),
 (150,⟨ .int .u32,1,[.int .u32 0]⟩),
 (153,⟨ .int .u64,1,[.int .u64 0]⟩),
 (165,⟨ .ptr 153,1,[.pointer none]⟩),
 (180,⟨ .arr 0 16,0,[]⟩),
 (181,⟨ .struct [(180,0,0)],0,[]⟩),
 (186,⟨ .ptr 5,1,[.pointer none]⟩)]
set_option maxRecDepth 100000 in
theorem T_ok:TOk Tryz.prog T:=by
 repeat (first|exact trivial|refine ⟨by kernel_rfl,?_⟩)
instance T_tab:TTab Tryz.prog T:=⟨T_ok⟩
section
variable {ro:Ro}{own r:Chs}{K:Value→Ro→Chs→Prop}{g:Chunk→Chs}
theorem ibs_ok {l:List UInt8}{u:UInt8} (hk:K (.int .i64 (firstIdx ⟨⟨l⟩⟩ u)) ro own):CallOk Tryz.prog 132 #[str l,.int .u8 ((u.toNat:Nat):Int)] ro own K :=
 CallOk.ext Tryz.func132 (by kernel_rfl) (by kernel_rfl) (by kernel_rfl) (e:=Extern.BytealgIndexByte.indexByte) (by kernel_rfl) (fun w=>run_indexByte_string ⟨⟨l⟩⟩ ((u.toNat:Nat):Int) w) (by simpa using hk)
theorem sib_ok {l:List UInt8}{u:UInt8} (hk:K (.int .i64 (firstIdx ⟨⟨l⟩⟩ u)) ro own):CallOk Tryz.prog 126 #[str l,.int .u8 ((u.toNat:Nat):Int)] ro own K:=by
 refine CallOk.intro (args:=[_,_]) (rs:=[_]) T_ok Tryz.func126 Tryz.call126 rfl rfl (by kernel_rfl) rfl rfl ?_
 repeat (first|exact zE|refine wkG ?_|refine zB (fun b=>?_)|refine zC (fun a' c' hc1 hc2=>?_)|(show GJ _ _ _ _ _ _ _;first|(apply GJ.a;exact rfl;intro hg)|(apply GJ.o;exact rfl;intro hg)|refine GJ.t omAuto ?_|refine GJ.f omAuto ?_|refine GJ.ft omAuto ?_|refine GJ.ff omAuto ?_))
 refine ibs_ok ?_
 repeat (first|exact zE|refine wkG ?_|refine zB (fun b=>?_)|refine zC (fun a' c' hc1 hc2=>?_)|(show GJ _ _ _ _ _ _ _;first|(apply GJ.a;exact rfl;intro hg)|(apply GJ.o;exact rfl;intro hg)|refine GJ.t omAuto ?_|refine GJ.f omAuto ?_|refine GJ.ft omAuto ?_|refine GJ.ff omAuto ?_))
 exact Wk.outS Sup.z (.refl _) hk
theorem sidx_ok {l:List UInt8}{u:UInt8} (hne:[u]≠l) (hk:K (.int .i64 (firstIdx ⟨⟨l⟩⟩ u)) ro own):CallOk Tryz.prog 123 #[str l,str [u]] ro own K:=by
 have hl1:([u]:List UInt8).length=1:=rfl
 refine CallOk.intro (args:=[_,_]) (rs:=[_]) T_ok Tryz.func123 Tryz.call123 rfl rfl (by kernel_rfl) rfl rfl ?_
 repeat (first|exact zE|refine wkT ?_|refine zB (fun b=>?_)|refine zC (fun a' c' hc1 hc2=>?_)|(apply GJ.a;exact rfl;intro hg)|(apply GJ.o;exact rfl;intro hg))
 refine sib_ok (u:=u) ?_
 repeat (first|exact zE|refine wkT ?_|refine zB (fun b=>?_)|refine zC (fun a' c' hc1 hc2=>?_)|(apply GJ.a;exact rfl;intro hg)|(apply GJ.o;exact rfl;intro hg))
 exact Wk.outS Sup.z (.refl _) hk
theorem index_ok {l:List UInt8}{u:UInt8} (hne:[u]≠l) (hk:K (.int .i64 (firstIdx ⟨⟨l⟩⟩ u)) ro own):CallOk Tryz.prog 121 #[str l,str [u]] ro own K:=by
 refine CallOk.intro (args:=[_,_]) (rs:=[_]) T_ok Tryz.func121 Tryz.call121 rfl rfl (by kernel_rfl) rfl rfl ?_
 repeat (first|exact zE|refine wkG ?_|refine zB (fun b=>?_)|refine zC (fun a' c' hc1 hc2=>?_)|(show GJ _ _ _ _ _ _ _;first|(apply GJ.a;exact rfl;intro hg)|(apply GJ.o;exact rfl;intro hg)|refine GJ.t omAuto ?_|refine GJ.f omAuto ?_|refine GJ.ft omAuto ?_|refine GJ.ff omAuto ?_))
 refine sidx_ok hne ?_
 repeat (first|exact zE|refine wkG ?_|refine zB (fun b=>?_)|refine zC (fun a' c' hc1 hc2=>?_)|(show GJ _ _ _ _ _ _ _;first|(apply GJ.a;exact rfl;intro hg)|(apply GJ.o;exact rfl;intro hg)|refine GJ.t omAuto ?_|refine GJ.f omAuto ?_|refine GJ.ft omAuto ?_|refine GJ.ff omAuto ?_))
 exact Wk.outS Sup.z (.refl _) hk
end
structure SetD where
 a:Nat
 b:Nat
 c:Nat
 d:Nat
deriving DecidableEq
abbrev wV (w:Nat):Value:=.int .u64 (w:Int)
def setV (s:SetD):List Value:=[wV s.a,wV s.b,wV s.c,wV s.d]
def SetD.w (s:SetD) (k:Nat):Nat:=if k=0 then s.a else if k=1 then s.b else if k=2 then s.c else s.d
def SetD.put (s:SetD) (k x:Nat):SetD:=if k=0 then { s with a:=x } else if k=1 then { s with b:=x } else if k=2 then { s with c:=x } else { s with d:=x }
def SetIn (s:SetD):Prop:=∀ k,s.w k<18446744073709551616
theorem lt4 {k:Nat} (h:k<4):k=0∨k=1∨k=2∨k=3:=by omega
theorem setV_get {s:SetD}{k:Nat} (h:k<4):(setV s)[k]?=some (wV (s.w k)):=by
 rcases lt4 h with rfl|rfl|rfl|rfl<;>rfl
theorem setV_set {s:SetD}{k x:Nat} (h:k<4):(setV s).set k (.int .u64 (x:Int))=setV (s.put k x):=by
 rcases lt4 h with rfl|rfl|rfl|rfl<;>rfl
theorem SetD.w_put {s:SetD}{k x j:Nat} (h:k<4) (hj:j<4):(s.put k x).w j=if j=k then x else s.w j:=by
 rcases lt4 h with rfl|rfl|rfl|rfl<;>rcases lt4 hj with rfl|rfl|rfl|rfl<;>rfl
theorem SetD.ext4 {s t:SetD} (h:∀ k,k<4→s.w k=t.w k):s=t:=by
 have h0:=h 0 (by omega)
 have h1:=h 1 (by omega)
 have h2:=h 2 (by omega)
 have h3:=h 3 (by omega)
 cases s;cases t
 simp [SetD.w] at h0 h1 h2 h3
 simp [h0,h1,h2,h3]
def SetD.has (s:SetD) (c:Nat):Bool:=(s.w (c / 64)).testBit (c % 64)
def SetD.and (s t:SetD):SetD:=⟨s.a &&& t.a,s.b &&& t.b,s.c &&& t.c,s.d &&& t.d⟩
def SetD.or (s t:SetD):SetD:=⟨s.a ||| t.a,s.b ||| t.b,s.c ||| t.c,s.d ||| t.d⟩
def SetD.not (s:SetD):SetD:=⟨18446744073709551615-s.a,18446744073709551615-s.b,18446744073709551615-s.c,18446744073709551615-s.d⟩
theorem SetD.w_and {s t:SetD}{k:Nat}:(s.and t).w k=s.w k &&& t.w k:=by unfold SetD.w SetD.and;split;rfl;split;rfl;split<;>rfl
theorem SetD.w_or {s t:SetD}{k:Nat}:(s.or t).w k=s.w k ||| t.w k:=by unfold SetD.w SetD.or;split;rfl;split;rfl;split<;>rfl
theorem SetD.w_not {s:SetD}{k:Nat}:s.not.w k=18446744073709551615-s.w k:=by unfold SetD.w SetD.not;split;rfl;split;rfl;split<;>rfl
section
variable {ro:Ro}{own r:Chs}{K:Value→Ro→Chs→Prop}{g:Chunk→Chs}
theorem Ld.setAt {o k b:Nat}{t:TypeId}{cs:List Value}{f:Chunk→Chs} [hb:HasBlk own b t cs f] (s:SetD) (hc:cs=setV s) (ho:o=k) (hk:k<4):Ld ro own b o (.int .u64 ((s.w k:Nat):Int)):=by
 subst hc;subst ho;exact Ld.hasBlkAt (setV_get hk)
theorem storeSet {ty:TypeId}{env:Env}{t:TypeId}{x y:Operand}{b o k w:Nat}{K:Value→Ro→Chs→Prop}{t0:TypeId}{cs:List Value}{f:Chunk→Chs} (s:SetD) (hx:ev env x=some (.pointer (some ⟨b,o,none⟩))) {v:Int} (hy:ev env y=some (.int .u64 v)) (hw:v=(w:Int)) (ht:cell1 T t=true)
  [hb:HasBlk own b t0 cs f] (hc:cs=setV s) (ho:o=k) (hk4:k<4) (hk:K undef ro (f (.blk b t0 (setV (s.put k w))))):OpOk Tryz.prog (.store t x y) ty env ro own K:=by
 subst hc;subst ho;subst hw
 refine OpOk.storeAt hx hy ht rfl (by show o<4;exact hk4) ?_
 rw [setV_set hk4];exact hk
theorem and63 (c:Nat):nand2 (c:Int) 63=((c % 64:Nat):Int):=by
 unfold nand2
 rw [Int.toNat_natCast]
 exact congrArg Int.ofNat (Nat.and_two_pow_sub_one_eq_mod c 6)
theorem shrN (x i:Nat):(x:Int) / 2 ^ ((i:Nat):Int).toNat=((x / 2 ^ i:Nat):Int):=by
 rw [Int.toNat_natCast];push_cast;rfl
theorem and1 (x:Nat):(nand2 (x:Int) 1=1)↔x % 2=1:=by
 have h:nand2 (x:Int) 1=((x % 2:Nat):Int):=by
  unfold nand2
  rw [Int.toNat_natCast]
  exact congrArg Int.ofNat (Nat.and_two_pow_sub_one_eq_mod x 1)
 rw [h];omega
theorem testBit_div (x i:Nat):decide (x / 2 ^ i % 2=1)=x.testBit i:=by
 rw [Nat.testBit_eq_decide_div_mod_eq]
theorem has_ok {s:SetD}{c:Nat} (hs:SetIn s) (hc:c<256) (hk:K (.bool (s.has c)) ro own):CallOk Tryz.prog 19 #[.agg (setV s).toArray,.int .u8 (c:Int)] ro own K:=by
 have hw:=hs (c / 64)
 have hd:s.w (c / 64) / 2 ^ (c % 64)<18446744073709551616:=Nat.lt_of_le_of_lt (Nat.div_le_self _ _) hw
 have e:(c:Int) / 2 ^ Int.toNat 6=((c / 64:Nat):Int):=by show (c:Int) / 64=_;omega
 refine CallOk.intro (args:=[_,_]) (rs:=[_]) T_ok Tryz.func19 Tryz.call19 rfl rfl (by kernel_rfl) rfl rfl ?_
 repeat (first|exact zE|refine wkG ?_|refine zB (fun b=>?_)|refine zC (fun a' c' hc1 hc2=>?_)|(show GJ _ _ _ _ _ _ _;first|(apply GJ.a;exact rfl;intro hg)|(apply GJ.o;exact rfl;intro hg)|refine GJ.t omAuto ?_|refine GJ.f omAuto ?_|refine GJ.ft omAuto ?_|refine GJ.ff omAuto ?_))
 rw [e]
 repeat (first|exact zE|refine wkG ?_|refine zB (fun b=>?_)|refine zC (fun a' c' hc1 hc2=>?_)|(show GJ _ _ _ _ _ _ _;first|(apply GJ.a;exact rfl;intro hg)|(apply GJ.o;exact rfl;intro hg)|refine GJ.t omAuto ?_|refine GJ.f omAuto ?_|refine GJ.ft omAuto ?_|refine GJ.ff omAuto ?_))
 refine OpOk.load rfl rfl (Ld.setAt s rfl (k:=c / 64) (by omega) (by omega)) ?_
 repeat (first|exact zE|refine wkG ?_|refine zB (fun b=>?_)|refine zC (fun a' c' hc1 hc2=>?_)|(show GJ _ _ _ _ _ _ _;first|(apply GJ.a;exact rfl;intro hg)|(apply GJ.o;exact rfl;intro hg)|refine GJ.t omAuto ?_|refine GJ.f omAuto ?_|refine GJ.ft omAuto ?_|refine GJ.ff omAuto ?_))
 rw [and63]
 refine ⟨by omega,?_⟩
 rw [shrN]
 generalize hq:s.w (c / 64) / 2 ^ (c % 64)=q at hd ⊢
 repeat (first|exact zE|refine wkG ?_|refine zB (fun b=>?_)|refine zC (fun a' c' hc1 hc2=>?_)|(show GJ _ _ _ _ _ _ _;first|(apply GJ.a;exact rfl;intro hg)|(apply GJ.o;exact rfl;intro hg)|refine GJ.t omAuto ?_|refine GJ.f omAuto ?_|refine GJ.ft omAuto ?_|refine GJ.ff omAuto ?_))
 refine Wk.outV Sup.z hk (congrArg Value.bool ?_)
 rw [SetD.has,←testBit_div,hq,Bool.eq_iff_iff,decide_eq_true_iff,decide_eq_true_iff]
 exact (and1 _).symm
theorem and_ok {s t:SetD} (hs:SetIn s) (ht:SetIn t) (hk:K (.agg (setV (s.and t)).toArray) ro own):CallOk Tryz.prog 73 #[.agg (setV s).toArray,.agg (setV t).toArray] ro own K:=by
 refine CallOk.intro (args:=[_,_]) (rs:=[_]) T_ok Tryz.func73 Tryz.call73 rfl rfl (by kernel_rfl) rfl rfl ?_
 repeat (first|exact zE|refine wkG ?_|refine zB (fun b=>?_)|refine zC (fun a' c' hc1 hc2=>?_)|(show GJ _ _ _ _ _ _ _;first|(apply GJ.a;exact rfl;intro hg)|(apply GJ.o;exact rfl;intro hg)|refine GJ.t omAuto ?_|refine GJ.f omAuto ?_|refine GJ.ft omAuto ?_|refine GJ.ff omAuto ?_))
 rename_i bs bt
 refine LoopOk.at (ι:=Nat × SetD) Keep.z (fun (i,u)=>[(6,.int .i64 (i:Int))]) (fun (i,u)=>.blk b 40 [.int .u64 0,.int .u64 0,.int .u64 0,.int .u64 0]::.blk bt 40 (setV t)::.blk bs 40 (setV u)::own) (fun (i,u)=>i≤4∧∀ k,k<4→u.w k=if k<i then (s.and t).w k else s.w k) (fun (i,u)=>4-i) (0,s) ?_ Sub.z Sup.z ?_
 ·exact ⟨by omega,fun k hk=>by rw [if_neg (by omega)]⟩
 rintro ⟨i,u⟩ ⟨i1,i2⟩
 dsimp only [List.cons_append,List.nil_append] at i1 i2 ⊢
 repeat (first|exact zE|refine wkG ?_|refine zB (fun b=>?_)|refine zC (fun a' c' hc1 hc2=>?_)|(show GJ _ _ _ _ _ _ _;first|(apply GJ.a;exact rfl;intro hg)|(apply GJ.o;exact rfl;intro hg)|refine GJ.t omAuto ?_|refine GJ.f omAuto ?_|refine GJ.ft omAuto ?_|refine GJ.ff omAuto ?_))
 refine Br.cases (fun hg=>?_) (fun hg=>?_)
 ·have h1:=hs i
  have h2:=ht i
  have h3:=i2 i (by omega)
  rw [if_neg (by omega)] at h3
  rw [←h3] at h1
  repeat (first|exact zE|refine wkG ?_|refine zB (fun b=>?_)|refine zC (fun a' c' hc1 hc2=>?_)|(show GJ _ _ _ _ _ _ _;first|(apply GJ.a;exact rfl;intro hg)|(apply GJ.o;exact rfl;intro hg)|refine GJ.t omAuto ?_|refine GJ.f omAuto ?_|refine GJ.ft omAuto ?_|refine GJ.ff omAuto ?_))
  refine QOk.load rfl rfl (Ld.setAt u rfl (k:=i) (by omega) (by omega)) ?_
  repeat (first|exact zE|refine wkG ?_|refine zB (fun b=>?_)|refine zC (fun a' c' hc1 hc2=>?_)|(show GJ _ _ _ _ _ _ _;first|(apply GJ.a;exact rfl;intro hg)|(apply GJ.o;exact rfl;intro hg)|refine GJ.t omAuto ?_|refine GJ.f omAuto ?_|refine GJ.ft omAuto ?_|refine GJ.ff omAuto ?_))
  refine QOk.load rfl rfl (Ld.setAt t rfl (k:=i) (by omega) (by omega)) ?_
  repeat (first|exact zE|refine wkG ?_|refine zB (fun b=>?_)|refine zC (fun a' c' hc1 hc2=>?_)|(show GJ _ _ _ _ _ _ _;first|(apply GJ.a;exact rfl;intro hg)|(apply GJ.o;exact rfl;intro hg)|refine GJ.t omAuto ?_|refine GJ.f omAuto ?_|refine GJ.ft omAuto ?_|refine GJ.ff omAuto ?_))
  refine storeSet (k:=i) (w:=u.w i &&& t.w i) u rfl rfl rfl rfl rfl (by omega) (by omega) ?_
  repeat (first|exact zE|refine wkG ?_|refine zB (fun b=>?_)|refine zC (fun a' c' hc1 hc2=>?_)|(show GJ _ _ _ _ _ _ _;first|(apply GJ.a;exact rfl;intro hg)|(apply GJ.o;exact rfl;intro hg)|refine GJ.t omAuto ?_|refine GJ.f omAuto ?_|refine GJ.ft omAuto ?_|refine GJ.ff omAuto ?_))
  refine Wk.id ⟨(i+1,u.put i (u.w i &&& t.w i)),⟨rfl,?_⟩,?_,Sub.z,Sup.z⟩
  all_goals try dsimp only
  ·refine ⟨by omega,fun k hk=>?_⟩
   rw [SetD.w_put (by omega) hk]
   by_cases hki:k=i
   ·subst hki;rw [if_pos rfl,if_pos (by omega),i2 k hk,if_neg (by omega),SetD.w_and]
   ·rw [if_neg hki,i2 k hk]
    by_cases hlt:k<i
    ·rw [if_pos hlt,if_pos (by omega)]
    ·rw [if_neg hlt,if_neg (by omega)]
  ·omega
 ·obtain rfl:u=s.and t:=SetD.ext4 (fun k hk=>by rw [i2 k hk,if_pos (by omega)])
  repeat (first|exact zE|refine wkG ?_|refine zB (fun b=>?_)|refine zC (fun a' c' hc1 hc2=>?_)|(show GJ _ _ _ _ _ _ _;first|(apply GJ.a;exact rfl;intro hg)|(apply GJ.o;exact rfl;intro hg)|refine GJ.t omAuto ?_|refine GJ.f omAuto ?_|refine GJ.ft omAuto ?_|refine GJ.ff omAuto ?_))
  exact Wk.outS Sup.z (.refl _) hk
theorem empty_ok {s:SetD} (hk:K (.bool (decide (s=⟨0,0,0,0⟩))) ro own):CallOk Tryz.prog 75 #[.agg (setV s).toArray] ro own K:=by
 refine CallOk.intro (args:=[_]) (rs:=[_]) T_ok Tryz.func75 Tryz.call75 rfl rfl (by kernel_rfl) rfl rfl ?_
 repeat (first|exact zE|refine wkG ?_|refine zB (fun b=>?_)|refine zC (fun a' c' hc1 hc2=>?_)|(show GJ _ _ _ _ _ _ _;first|(apply GJ.a;exact rfl;intro hg)|(apply GJ.o;exact rfl;intro hg)|refine GJ.t omAuto ?_|refine GJ.f omAuto ?_|refine GJ.ft omAuto ?_|refine GJ.ff omAuto ?_))
 refine OpOk.buildK (ps:=[]) (setV ⟨0,0,0,0⟩) rfl (by kernel_rfl) ?_
 repeat (first|exact zE|refine wkG ?_|refine zB (fun b=>?_)|refine zC (fun a' c' hc1 hc2=>?_)|(show GJ _ _ _ _ _ _ _;first|(apply GJ.a;exact rfl;intro hg)|(apply GJ.o;exact rfl;intro hg)|refine GJ.t omAuto ?_|refine GJ.f omAuto ?_|refine GJ.ft omAuto ?_|refine GJ.ff omAuto ?_))
 refine OpOk.eqlArr4 (e:=22) rfl rfl (by kernel_rfl) (by kernel_rfl) (by kernel_rfl) (by kernel_rfl) ?_
 repeat (first|exact zE|refine wkG ?_|refine zB (fun b=>?_)|refine zC (fun a' c' hc1 hc2=>?_)|(show GJ _ _ _ _ _ _ _;first|(apply GJ.a;exact rfl;intro hg)|(apply GJ.o;exact rfl;intro hg)|refine GJ.t omAuto ?_|refine GJ.f omAuto ?_|refine GJ.ft omAuto ?_|refine GJ.ff omAuto ?_))
 refine Wk.outV Sup.z hk (congrArg Value.bool ?_)
 rw [Bool.eq_iff_iff]
 cases s
 simp
end
section
variable {ro:Ro}{own r:Chs}{K:Value→Ro→Chs→Prop}{g:Chunk→Chs}
theorem or_ok {s t:SetD} (hs:SetIn s) (ht:SetIn t) (hk:K (.agg (setV (s.or t)).toArray) ro own):CallOk Tryz.prog 39 #[.agg (setV s).toArray,.agg (setV t).toArray] ro own K:=by
 refine CallOk.intro (args:=[_,_]) (rs:=[_]) T_ok Tryz.func39 Tryz.call39 rfl rfl (by kernel_rfl) rfl rfl ?_
 repeat (first|exact zE|refine wkG ?_|refine zB (fun b=>?_)|refine zC (fun a' c' hc1 hc2=>?_)|(show GJ _ _ _ _ _ _ _;first|(apply GJ.a;exact rfl;intro hg)|(apply GJ.o;exact rfl;intro hg)|refine GJ.t omAuto ?_|refine GJ.f omAuto ?_|refine GJ.ft omAuto ?_|refine GJ.ff omAuto ?_))
 rename_i bs bt
 refine LoopOk.at (ι:=Nat × SetD) Keep.z (fun (i,u)=>[(6,.int .i64 (i:Int))]) (fun (i,u)=>.blk b 40 [.int .u64 0,.int .u64 0,.int .u64 0,.int .u64 0]::.blk bt 40 (setV t)::.blk bs 40 (setV u)::own) (fun (i,u)=>i≤4∧∀ k,k<4→u.w k=if k<i then (s.or t).w k else s.w k) (fun (i,u)=>4-i) (0,s) ?_ Sub.z Sup.z ?_
 ·exact ⟨by omega,fun k hk=>by rw [if_neg (by omega)]⟩
 rintro ⟨i,u⟩ ⟨i1,i2⟩
 dsimp only [List.cons_append,List.nil_append] at i1 i2 ⊢
 repeat (first|exact zE|refine wkG ?_|refine zB (fun b=>?_)|refine zC (fun a' c' hc1 hc2=>?_)|(show GJ _ _ _ _ _ _ _;first|(apply GJ.a;exact rfl;intro hg)|(apply GJ.o;exact rfl;intro hg)|refine GJ.t omAuto ?_|refine GJ.f omAuto ?_|refine GJ.ft omAuto ?_|refine GJ.ff omAuto ?_))
 refine Br.cases (fun hg=>?_) (fun hg=>?_)
 ·have h1:=hs i
  have h2:=ht i
  have h3:=i2 i (by omega)
  rw [if_neg (by omega)] at h3
  rw [←h3] at h1
  repeat (first|exact zE|refine wkG ?_|refine zB (fun b=>?_)|refine zC (fun a' c' hc1 hc2=>?_)|(show GJ _ _ _ _ _ _ _;first|(apply GJ.a;exact rfl;intro hg)|(apply GJ.o;exact rfl;intro hg)|refine GJ.t omAuto ?_|refine GJ.f omAuto ?_|refine GJ.ft omAuto ?_|refine GJ.ff omAuto ?_))
  refine QOk.load rfl rfl (Ld.setAt u rfl (k:=i) (by omega) (by omega)) ?_
  repeat (first|exact zE|refine wkG ?_|refine zB (fun b=>?_)|refine zC (fun a' c' hc1 hc2=>?_)|(show GJ _ _ _ _ _ _ _;first|(apply GJ.a;exact rfl;intro hg)|(apply GJ.o;exact rfl;intro hg)|refine GJ.t omAuto ?_|refine GJ.f omAuto ?_|refine GJ.ft omAuto ?_|refine GJ.ff omAuto ?_))
  refine QOk.load rfl rfl (Ld.setAt t rfl (k:=i) (by omega) (by omega)) ?_
  repeat (first|exact zE|refine wkG ?_|refine zB (fun b=>?_)|refine zC (fun a' c' hc1 hc2=>?_)|(show GJ _ _ _ _ _ _ _;first|(apply GJ.a;exact rfl;intro hg)|(apply GJ.o;exact rfl;intro hg)|refine GJ.t omAuto ?_|refine GJ.f omAuto ?_|refine GJ.ft omAuto ?_|refine GJ.ff omAuto ?_))
  refine storeSet (k:=i) (w:=u.w i ||| t.w i) u rfl rfl rfl rfl rfl (by omega) (by omega) ?_
  repeat (first|exact zE|refine wkG ?_|refine zB (fun b=>?_)|refine zC (fun a' c' hc1 hc2=>?_)|(show GJ _ _ _ _ _ _ _;first|(apply GJ.a;exact rfl;intro hg)|(apply GJ.o;exact rfl;intro hg)|refine GJ.t omAuto ?_|refine GJ.f omAuto ?_|refine GJ.ft omAuto ?_|refine GJ.ff omAuto ?_))
  refine Wk.id ⟨(i+1,u.put i (u.w i ||| t.w i)),⟨rfl,?_⟩,?_,Sub.z,Sup.z⟩
  all_goals try dsimp only
  ·refine ⟨by omega,fun k hk=>?_⟩
   rw [SetD.w_put (by omega) hk]
   by_cases hki:k=i
   ·subst hki;rw [if_pos rfl,if_pos (by omega),i2 k hk,if_neg (by omega),SetD.w_or]
   ·rw [if_neg hki,i2 k hk]
    by_cases hlt:k<i
    ·rw [if_pos hlt,if_pos (by omega)]
    ·rw [if_neg hlt,if_neg (by omega)]
  ·omega
 ·obtain rfl:u=s.or t:=SetD.ext4 (fun k hk=>by rw [i2 k hk,if_pos (by omega)])
  repeat (first|exact zE|refine wkG ?_|refine zB (fun b=>?_)|refine zC (fun a' c' hc1 hc2=>?_)|(show GJ _ _ _ _ _ _ _;first|(apply GJ.a;exact rfl;intro hg)|(apply GJ.o;exact rfl;intro hg)|refine GJ.t omAuto ?_|refine GJ.f omAuto ?_|refine GJ.ft omAuto ?_|refine GJ.ff omAuto ?_))
  exact Wk.outS Sup.z (.refl _) hk
theorem not_ok {s:SetD} (hs:SetIn s) (hk:K (.agg (setV s.not).toArray) ro own):CallOk Tryz.prog 74 #[.agg (setV s).toArray] ro own K:=by
 refine CallOk.intro (args:=[_]) (rs:=[_]) T_ok Tryz.func74 Tryz.call74 rfl rfl (by kernel_rfl) rfl rfl ?_
 repeat (first|exact zE|refine wkG ?_|refine zB (fun b=>?_)|refine zC (fun a' c' hc1 hc2=>?_)|(show GJ _ _ _ _ _ _ _;first|(apply GJ.a;exact rfl;intro hg)|(apply GJ.o;exact rfl;intro hg)|refine GJ.t omAuto ?_|refine GJ.f omAuto ?_|refine GJ.ft omAuto ?_|refine GJ.ff omAuto ?_))
 rename_i bs
 refine LoopOk.at (ι:=Nat × SetD) Keep.z (fun (i,u)=>[(4,.int .i64 (i:Int))]) (fun (i,u)=>.blk b 40 [.int .u64 0,.int .u64 0,.int .u64 0,.int .u64 0]::.blk bs 40 (setV u)::own) (fun (i,u)=>i≤4∧∀ k,k<4→u.w k=if k<i then s.not.w k else s.w k) (fun (i,u)=>4-i) (0,s) ?_ Sub.z Sup.z ?_
 ·exact ⟨by omega,fun k hk=>by rw [if_neg (by omega)]⟩
 rintro ⟨i,u⟩ ⟨i1,i2⟩
 dsimp only [List.cons_append,List.nil_append] at i1 i2 ⊢
 repeat (first|exact zE|refine wkG ?_|refine zB (fun b=>?_)|refine zC (fun a' c' hc1 hc2=>?_)|(show GJ _ _ _ _ _ _ _;first|(apply GJ.a;exact rfl;intro hg)|(apply GJ.o;exact rfl;intro hg)|refine GJ.t omAuto ?_|refine GJ.f omAuto ?_|refine GJ.ft omAuto ?_|refine GJ.ff omAuto ?_))
 refine Br.cases (fun hg=>?_) (fun hg=>?_)
 ·have h1:=hs i
  have h3:=i2 i (by omega)
  rw [if_neg (by omega)] at h3
  rw [←h3] at h1
  repeat (first|exact zE|refine wkG ?_|refine zB (fun b=>?_)|refine zC (fun a' c' hc1 hc2=>?_)|(show GJ _ _ _ _ _ _ _;first|(apply GJ.a;exact rfl;intro hg)|(apply GJ.o;exact rfl;intro hg)|refine GJ.t omAuto ?_|refine GJ.f omAuto ?_|refine GJ.ft omAuto ?_|refine GJ.ff omAuto ?_))
  refine OpOk.load rfl rfl (Ld.setAt u rfl (k:=i) (by omega) (by omega)) ?_
  repeat (first|exact zE|refine wkG ?_|refine zB (fun b=>?_)|refine zC (fun a' c' hc1 hc2=>?_)|(show GJ _ _ _ _ _ _ _;first|(apply GJ.a;exact rfl;intro hg)|(apply GJ.o;exact rfl;intro hg)|refine GJ.t omAuto ?_|refine GJ.f omAuto ?_|refine GJ.ft omAuto ?_|refine GJ.ff omAuto ?_))
  refine OpOk.xor64 (n:=u.w i) rfl h1 ?_
  repeat (first|exact zE|refine wkG ?_|refine zB (fun b=>?_)|refine zC (fun a' c' hc1 hc2=>?_)|(show GJ _ _ _ _ _ _ _;first|(apply GJ.a;exact rfl;intro hg)|(apply GJ.o;exact rfl;intro hg)|refine GJ.t omAuto ?_|refine GJ.f omAuto ?_|refine GJ.ft omAuto ?_|refine GJ.ff omAuto ?_))
  refine storeSet (k:=i) (w:=18446744073709551615-u.w i) u rfl rfl rfl rfl rfl (by omega) (by omega) ?_
  repeat (first|exact zE|refine wkG ?_|refine zB (fun b=>?_)|refine zC (fun a' c' hc1 hc2=>?_)|(show GJ _ _ _ _ _ _ _;first|(apply GJ.a;exact rfl;intro hg)|(apply GJ.o;exact rfl;intro hg)|refine GJ.t omAuto ?_|refine GJ.f omAuto ?_|refine GJ.ft omAuto ?_|refine GJ.ff omAuto ?_))
  refine Wk.id ⟨(i+1,u.put i (18446744073709551615-u.w i)),⟨rfl,?_⟩,?_,Sub.z,Sup.z⟩
  all_goals try dsimp only
  ·refine ⟨by omega,fun k hk=>?_⟩
   rw [SetD.w_put (by omega) hk]
   by_cases hki:k=i
   ·subst hki;rw [if_pos rfl,if_pos (by omega),i2 k hk,if_neg (by omega),SetD.w_not]
   ·rw [if_neg hki,i2 k hk]
    by_cases hlt:k<i
    ·rw [if_pos hlt,if_pos (by omega)]
    ·rw [if_neg hlt,if_neg (by omega)]
  ·omega
 ·obtain rfl:u=s.not:=SetD.ext4 (fun k hk=>by rw [i2 k hk,if_pos (by omega)])
  repeat (first|exact zE|refine wkG ?_|refine zB (fun b=>?_)|refine zC (fun a' c' hc1 hc2=>?_)|(show GJ _ _ _ _ _ _ _;first|(apply GJ.a;exact rfl;intro hg)|(apply GJ.o;exact rfl;intro hg)|refine GJ.t omAuto ?_|refine GJ.f omAuto ?_|refine GJ.ft omAuto ?_|refine GJ.ff omAuto ?_))
  exact Wk.outS Sup.z (.refl _) hk
theorem SetIn.zero:SetIn ⟨0,0,0,0⟩:=fun k=>by unfold SetD.w;split;decide;split;decide;split<;>decide
def allD:SetD:=⟨18446744073709551615,18446744073709551615,18446744073709551615,18446744073709551615⟩
theorem all_ok (hk:K (.agg (setV allD).toArray) ro own):CallOk Tryz.prog 72 #[] ro own K:=by
 refine CallOk.intro (args:=[]) (rs:=[_]) T_ok Tryz.func72 Tryz.call72 rfl rfl (by kernel_rfl) rfl rfl ?_
 repeat (first|exact zE|refine wkG ?_|refine zB (fun b=>?_)|refine zC (fun a' c' hc1 hc2=>?_)|(show GJ _ _ _ _ _ _ _;first|(apply GJ.a;exact rfl;intro hg)|(apply GJ.o;exact rfl;intro hg)|refine GJ.t omAuto ?_|refine GJ.f omAuto ?_|refine GJ.ft omAuto ?_|refine GJ.ff omAuto ?_))
 refine OpOk.buildK (ps:=[]) (setV ⟨0,0,0,0⟩) rfl (by kernel_rfl) ?_
 repeat (first|exact zE|refine wkG ?_|refine zB (fun b=>?_)|refine zC (fun a' c' hc1 hc2=>?_)|(show GJ _ _ _ _ _ _ _;first|(apply GJ.a;exact rfl;intro hg)|(apply GJ.o;exact rfl;intro hg)|refine GJ.t omAuto ?_|refine GJ.f omAuto ?_|refine GJ.ft omAuto ?_|refine GJ.ff omAuto ?_))
 refine not_ok SetIn.zero ?_
 repeat (first|exact zE|refine wkG ?_|refine zB (fun b=>?_)|refine zC (fun a' c' hc1 hc2=>?_)|(show GJ _ _ _ _ _ _ _;first|(apply GJ.a;exact rfl;intro hg)|(apply GJ.o;exact rfl;intro hg)|refine GJ.t omAuto ?_|refine GJ.f omAuto ?_|refine GJ.ft omAuto ?_|refine GJ.ff omAuto ?_))
 exact Wk.outS Sup.z (.refl _) hk
theorem check_ok {s:SetD} (hk:K (.int .i64 (if s=⟨0,0,0,0⟩ then 160 else 0)) ro own):CallOk Tryz.prog 83 #[.agg (setV s).toArray] ro own K:=by
 refine CallOk.intro (args:=[_]) (rs:=[_]) T_ok Tryz.func83 Tryz.call83 rfl rfl (by kernel_rfl) rfl rfl ?_
 repeat (first|exact zE|refine wkG ?_|refine zB (fun b=>?_)|refine zC (fun a' c' hc1 hc2=>?_)|(show GJ _ _ _ _ _ _ _;first|(apply GJ.a;exact rfl;intro hg)|(apply GJ.o;exact rfl;intro hg)|refine GJ.t omAuto ?_|refine GJ.f omAuto ?_|refine GJ.ft omAuto ?_|refine GJ.ff omAuto ?_))
 refine empty_ok ?_
 repeat (first|exact zE|refine wkG ?_|refine zB (fun b=>?_)|refine zC (fun a' c' hc1 hc2=>?_)|(show GJ _ _ _ _ _ _ _;first|(apply GJ.a;exact rfl;intro hg)|(apply GJ.o;exact rfl;intro hg)|refine GJ.t omAuto ?_|refine GJ.f omAuto ?_|refine GJ.ft omAuto ?_|refine GJ.ff omAuto ?_))
 refine Br.cases (fun h=>?_) (fun h=>?_)
 ·rw [if_pos h] at hk
  repeat (first|exact zE|refine wkG ?_|refine zB (fun b=>?_)|refine zC (fun a' c' hc1 hc2=>?_)|(show GJ _ _ _ _ _ _ _;first|(apply GJ.a;exact rfl;intro hg)|(apply GJ.o;exact rfl;intro hg)|refine GJ.t omAuto ?_|refine GJ.f omAuto ?_|refine GJ.ft omAuto ?_|refine GJ.ff omAuto ?_))
  exact Wk.outS Sup.z (.refl _) hk
 ·rw [if_neg h] at hk
  repeat (first|exact zE|refine wkG ?_|refine zB (fun b=>?_)|refine zC (fun a' c' hc1 hc2=>?_)|(show GJ _ _ _ _ _ _ _;first|(apply GJ.a;exact rfl;intro hg)|(apply GJ.o;exact rfl;intro hg)|refine GJ.t omAuto ?_|refine GJ.f omAuto ?_|refine GJ.ft omAuto ?_|refine GJ.ff omAuto ?_))
  exact Wk.outS Sup.z (.refl _) hk
def SetD.add (s:SetD) (c:Nat):SetD:=s.put (c / 64) (s.w (c / 64) ||| 2 ^ (c % 64))
theorem SetD.has_add {s:SetD}{c j:Nat} (hc:c<256) (hj:j<256):(s.add c).has j=(s.has j||decide (j=c)):=by
 unfold SetD.has SetD.add
 rw [SetD.w_put (by omega) (by omega)]
 by_cases h:j / 64=c / 64
 ·rw [if_pos h,Nat.testBit_or,Nat.testBit_two_pow,h]
  congr 1
  rw [decide_eq_decide]
  omega
 ·rw [if_neg h]
  have:¬j=c:=fun e=>h (by rw [e])
  simp [this]
theorem SetIn.add {s:SetD}{c:Nat} (hs:SetIn s) (hc:c<256):SetIn (s.add c):=fun k=>by
 have h1:s.w (c / 64) ||| 2 ^ (c % 64)<2 ^ 64:=Nat.or_lt_two_pow (by have:=hs (c / 64);omega) (Nat.pow_lt_pow_right (by decide) (by omega))
 have h2:=hs 0
 have h3:=hs 1
 have h4:=hs 2
 have h5:=hs 3
 unfold SetD.add
 generalize s.w (c / 64) ||| 2 ^ (c % 64)=x at h1 ⊢
 have hlt:c / 64<4:=by omega
 generalize c / 64=m at hlt
 simp only [SetD.w] at h2 h3 h4 h5 ⊢
 unfold SetD.put
 repeat' split
 all_goals simp_all
theorem SetD.has_zero (c:Nat):SetD.has ⟨0,0,0,0⟩ c=false:=by
 unfold SetD.has SetD.w
 repeat' split
 all_goals simp
theorem shl1_nat (i:Nat) (h:i<64):(1:Int)*2 ^ ((i:Nat):Int).toNat % 18446744073709551616=((2 ^ i:Nat):Int):=by
 rw [Int.toNat_natCast,Int.one_mul]
 have h1:2 ^ i<2 ^ 64:=Nat.pow_lt_pow_right (by decide) h
 have h2:((2:Int) ^ i)=((2 ^ i:Nat):Int):=by push_cast;rfl
 rw [h2]
 generalize 2 ^ i=q at h1
 omega
theorem QOk.andN' {ty:TypeId}{env:Env}{t yt:TypeId}{x y:Operand}{a b:Int}{K:Value→Prop} (hx:ev env x=some (.int .i64 a)) (hy:ev env y=some (.int .i64 b)) (h:(0≤a∧a<9223372036854775808)∧0≤b∧b<9223372036854775808) (hk:K (.int .i64 (nand2 a b))):QOk Tryz.prog (.binOp .and t x y yt) ty env ro own K :=
 QOk.pu (fun h' hs d pos af g=>Pu.int2 hx hy (by simp) fun w=>bits_and (k:=.i64) h.1 h.2 w) hk
theorem range_ok {x y:Nat} (hx:x<256) (hy:y<256) (hk:∀ s,SetIn s→(∀ c,c<256→s.has c=decide (x≤c∧c≤y))→K (.agg (setV s).toArray) ro own):CallOk Tryz.prog 114 #[.int .u8 (x:Int),.int .u8 (y:Int)] ro own K:=by
 refine CallOk.intro (args:=[_,_]) (rs:=[_]) T_ok Tryz.func114 Tryz.call114 rfl rfl (by kernel_rfl) rfl rfl ?_
 repeat (first|exact zE|refine wkG ?_|refine zB (fun b=>?_)|refine zC (fun a' c' hc1 hc2=>?_)|(show GJ _ _ _ _ _ _ _;first|(apply GJ.a;exact rfl;intro hg)|(apply GJ.o;exact rfl;intro hg)|refine GJ.t omAuto ?_|refine GJ.f omAuto ?_|refine GJ.ft omAuto ?_|refine GJ.ff omAuto ?_))
 rename_i br
 refine LoopOk.at (ι:=Nat × SetD) Keep.z (fun (i,u)=>[(6,.int .i64 (i:Int))]) (fun (i,u)=>.blk b 40 (setV u)::.blk br 40 [.int .u64 0,.int .u64 0,.int .u64 0,.int .u64 0]::own) (fun (i,u)=>x≤i∧i≤256∧SetIn u∧(∀ c,c<256→u.has c=decide (x≤c∧c<i))∧(i≤y+1∨i=x)) (fun (i,u)=>256-i) (x,⟨0,0,0,0⟩) ?_ Sub.z Sup.z ?_
 ·exact ⟨by omega,by omega,SetIn.zero,fun c hc=>by rw [SetD.has_zero,eq_comm,decide_eq_false_iff_not];omega,by omega⟩
 rintro ⟨i,u⟩ ⟨i1,i2,i3,i4,i5⟩
 dsimp only [List.cons_append,List.nil_append] at i1 i2 i3 i4 i5 ⊢
 repeat (first|exact zE|refine wkG ?_|refine zB (fun b=>?_)|refine zC (fun a' c' hc1 hc2=>?_)|(show GJ _ _ _ _ _ _ _;first|(apply GJ.a;exact rfl;intro hg)|(apply GJ.o;exact rfl;intro hg)|refine GJ.t omAuto ?_|refine GJ.f omAuto ?_|refine GJ.ft omAuto ?_|refine GJ.ff omAuto ?_))
 refine Br.cases (fun hg=>?_) (fun hg=>?_)
 ·have hw:=i3 (i / 64)
  have e:(i:Int) / 2 ^ Int.toNat 6=((i / 64:Nat):Int):=by show (i:Int) / 64=_;omega
  repeat (first|exact zE|refine wkG ?_|refine zB (fun b=>?_)|refine zC (fun a' c' hc1 hc2=>?_)|(show GJ _ _ _ _ _ _ _;first|(apply GJ.a;exact rfl;intro hg)|(apply GJ.o;exact rfl;intro hg)|refine GJ.t omAuto ?_|refine GJ.f omAuto ?_|refine GJ.ft omAuto ?_|refine GJ.ff omAuto ?_))
  rw [e]
  repeat (first|exact zE|refine wkG ?_|refine zB (fun b=>?_)|refine zC (fun a' c' hc1 hc2=>?_)|(show GJ _ _ _ _ _ _ _;first|(apply GJ.a;exact rfl;intro hg)|(apply GJ.o;exact rfl;intro hg)|refine GJ.t omAuto ?_|refine GJ.f omAuto ?_|refine GJ.ft omAuto ?_|refine GJ.ff omAuto ?_))
  refine QOk.load rfl rfl (Ld.setAt u rfl (k:=i / 64) (by omega) (by omega)) ?_
  repeat (first|exact zE|refine wkG ?_|refine zB (fun b=>?_)|refine zC (fun a' c' hc1 hc2=>?_)|(show GJ _ _ _ _ _ _ _;first|(apply GJ.a;exact rfl;intro hg)|(apply GJ.o;exact rfl;intro hg)|refine GJ.t omAuto ?_|refine GJ.f omAuto ?_|refine GJ.ft omAuto ?_|refine GJ.ff omAuto ?_))
  refine QOk.andN' rfl rfl ⟨by omega,by omega⟩ ?_
  repeat (first|exact zE|refine wkG ?_|refine zB (fun b=>?_)|refine zC (fun a' c' hc1 hc2=>?_)|(show GJ _ _ _ _ _ _ _;first|(apply GJ.a;exact rfl;intro hg)|(apply GJ.o;exact rfl;intro hg)|refine GJ.t omAuto ?_|refine GJ.f omAuto ?_|refine GJ.ft omAuto ?_|refine GJ.ff omAuto ?_))
  rw [and63]
  refine ⟨by omega,?_⟩
  rw [shl1_nat _ (by omega)]
  have hp:2 ^ (i % 64)<18446744073709551616:=Nat.pow_lt_pow_right (a:=2) (m:=i % 64) (n:=64) (by decide) (by omega)
  have hadd:u.add i=u.put (i / 64) (u.w (i / 64) ||| 2 ^ (i % 64)):=rfl
  generalize 2 ^ (i % 64)=q at hp hadd ⊢
  repeat (first|exact zE|refine wkG ?_|refine zB (fun b=>?_)|refine zC (fun a' c' hc1 hc2=>?_)|(show GJ _ _ _ _ _ _ _;first|(apply GJ.a;exact rfl;intro hg)|(apply GJ.o;exact rfl;intro hg)|refine GJ.t omAuto ?_|refine GJ.f omAuto ?_|refine GJ.ft omAuto ?_|refine GJ.ff omAuto ?_))
  refine storeSet (k:=i / 64) (w:=u.w (i / 64) ||| q) u rfl rfl rfl rfl rfl (by omega) (by omega) ?_
  rw [←hadd]
  repeat (first|exact zE|refine wkG ?_|refine zB (fun b=>?_)|refine zC (fun a' c' hc1 hc2=>?_)|(show GJ _ _ _ _ _ _ _;first|(apply GJ.a;exact rfl;intro hg)|(apply GJ.o;exact rfl;intro hg)|refine GJ.t omAuto ?_|refine GJ.f omAuto ?_|refine GJ.ft omAuto ?_|refine GJ.ff omAuto ?_))
  refine Wk.id ⟨(i+1,u.add i),⟨rfl,?_⟩,?_,Sub.z,Sup.z⟩
  all_goals try dsimp only
  ·refine ⟨by omega,by omega,i3.add (by omega),fun c hc=>?_,by omega⟩
   rw [SetD.has_add (by omega) hc,i4 c hc,Bool.eq_iff_iff]
   simp only [Bool.or_eq_true,decide_eq_true_iff]
   omega
  ·omega
 ·repeat (first|exact zE|refine wkG ?_|refine zB (fun b=>?_)|refine zC (fun a' c' hc1 hc2=>?_)|(show GJ _ _ _ _ _ _ _;first|(apply GJ.a;exact rfl;intro hg)|(apply GJ.o;exact rfl;intro hg)|refine GJ.t omAuto ?_|refine GJ.f omAuto ?_|refine GJ.ft omAuto ?_|refine GJ.ff omAuto ?_))
  refine Wk.outS Sup.z (.refl _) (hk u i3 (fun c hc=>?_))
  rw [i4 c hc,decide_eq_decide]
  omega
theorem of_ok {al:Option Addr}{cl:Nat}{l:List UInt8} (hl:Bys ro al l.length cl l) (hn:l.length≤100000) (hk:∀ s,SetIn s→(∀ c:UInt8,s.has c.toNat=decide (c∈l))→K (.agg (setV s).toArray) ro own):CallOk Tryz.prog 40 #[.slice al l.length cl] ro own K:=by
 refine CallOk.intro (args:=[_]) (rs:=[_]) T_ok Tryz.func40 Tryz.call40 rfl rfl (by kernel_rfl) rfl rfl ?_
 repeat (first|exact zE|refine wkG ?_|refine zB (fun b=>?_)|refine zC (fun a' c' hc1 hc2=>?_)|(show GJ _ _ _ _ _ _ _;first|(apply GJ.a;exact rfl;intro hg)|(apply GJ.o;exact rfl;intro hg)|refine GJ.t omAuto ?_|refine GJ.f omAuto ?_|refine GJ.ft omAuto ?_|refine GJ.ff omAuto ?_))
 rename_i br
 refine LoopOk.at (ι:=Nat × SetD) Keep.z (fun (i,u)=>[(8,.int .i64 (i:Int))]) (fun (i,u)=>.blk b 40 (setV u)::.blk br 40 [.int .u64 0,.int .u64 0,.int .u64 0,.int .u64 0]::own) (fun (i,u)=>i≤l.length∧SetIn u∧(∀ c:UInt8,u.has c.toNat=decide (c∈l.take i))) (fun (i,u)=>l.length-i) (0,⟨0,0,0,0⟩) ?_ Sub.z Sup.z ?_
 ·exact ⟨by omega,SetIn.zero,fun c=>by rw [SetD.has_zero];simp⟩
 rintro ⟨i,u⟩ ⟨i1,i3,i4⟩
 dsimp only [List.cons_append,List.nil_append] at i1 i3 i4 ⊢
 repeat (first|exact zE|refine wkG ?_|refine zB (fun b=>?_)|refine zC (fun a' c' hc1 hc2=>?_)|(show GJ _ _ _ _ _ _ _;first|(apply GJ.a;exact rfl;intro hg)|(apply GJ.o;exact rfl;intro hg)|refine GJ.t omAuto ?_|refine GJ.f omAuto ?_|refine GJ.ft omAuto ?_|refine GJ.ff omAuto ?_))
 refine Br.cases (fun hg=>?_) (fun hg=>?_)
 ·have hil:i<l.length:=by omega
  have htk:l.take (i+1)=l.take i++[l[i]]:=by rw [List.take_add_one,List.getElem?_eq_getElem hil];rfl
  have hgb:l[(i:Int).toNat]! = l[i]:=by rw [Int.toNat_natCast,List.getElem!_eq_getElem?_getD,List.getElem?_eq_getElem hil];rfl
  repeat (first|exact zE|refine wkG ?_|refine zB (fun b=>?_)|refine zC (fun a' c' hc1 hc2=>?_)|(show GJ _ _ _ _ _ _ _;first|(apply GJ.a;exact rfl;intro hg)|(apply GJ.o;exact rfl;intro hg)|refine GJ.t omAuto ?_|refine GJ.f omAuto ?_|refine GJ.ft omAuto ?_|refine GJ.ff omAuto ?_))
  rw [hgb]
  clear hgb
  generalize l[i]=c at htk ⊢
  have hc:=c.toNat_lt
  have hw:=i3 (c.toNat / 64)
  have e:(c.toNat:Int) / 2 ^ Int.toNat 6=((c.toNat / 64:Nat):Int):=by show (c.toNat:Int) / 64=_;omega
  rw [e]
  repeat (first|exact zE|refine wkG ?_|refine zB (fun b=>?_)|refine zC (fun a' c' hc1 hc2=>?_)|(show GJ _ _ _ _ _ _ _;first|(apply GJ.a;exact rfl;intro hg)|(apply GJ.o;exact rfl;intro hg)|refine GJ.t omAuto ?_|refine GJ.f omAuto ?_|refine GJ.ft omAuto ?_|refine GJ.ff omAuto ?_))
  refine OpOk.load rfl rfl (Ld.setAt u rfl (k:=c.toNat / 64) (by omega) (by omega)) ?_
  repeat (first|exact zE|refine wkG ?_|refine zB (fun b=>?_)|refine zC (fun a' c' hc1 hc2=>?_)|(show GJ _ _ _ _ _ _ _;first|(apply GJ.a;exact rfl;intro hg)|(apply GJ.o;exact rfl;intro hg)|refine GJ.t omAuto ?_|refine GJ.f omAuto ?_|refine GJ.ft omAuto ?_|refine GJ.ff omAuto ?_))
  rw [and63]
  refine ⟨by omega,?_⟩
  rw [shl1_nat _ (by omega)]
  have hp:2 ^ (c.toNat % 64)<18446744073709551616:=Nat.pow_lt_pow_right (a:=2) (m:=c.toNat % 64) (n:=64) (by decide) (by omega)
  have hadd:u.add c.toNat=u.put (c.toNat / 64) (u.w (c.toNat / 64) ||| 2 ^ (c.toNat % 64)):=rfl
  generalize 2 ^ (c.toNat % 64)=q at hp hadd ⊢
  repeat (first|exact zE|refine wkG ?_|refine zB (fun b=>?_)|refine zC (fun a' c' hc1 hc2=>?_)|(show GJ _ _ _ _ _ _ _;first|(apply GJ.a;exact rfl;intro hg)|(apply GJ.o;exact rfl;intro hg)|refine GJ.t omAuto ?_|refine GJ.f omAuto ?_|refine GJ.ft omAuto ?_|refine GJ.ff omAuto ?_))
  refine storeSet (k:=c.toNat / 64) (w:=u.w (c.toNat / 64) ||| q) u rfl rfl rfl rfl rfl (by omega) (by omega) ?_
  rw [←hadd]
  repeat (first|exact zE|refine wkG ?_|refine zB (fun b=>?_)|refine zC (fun a' c' hc1 hc2=>?_)|(show GJ _ _ _ _ _ _ _;first|(apply GJ.a;exact rfl;intro hg)|(apply GJ.o;exact rfl;intro hg)|refine GJ.t omAuto ?_|refine GJ.f omAuto ?_|refine GJ.ft omAuto ?_|refine GJ.ff omAuto ?_))
  refine Wk.id ⟨(i+1,u.add c.toNat),⟨rfl,?_⟩,?_,Sub.z,Sup.z⟩
  all_goals try dsimp only
  ·refine ⟨by omega,i3.add (by omega),fun j=>?_⟩
   rw [SetD.has_add (by omega) j.toNat_lt,i4 j,htk,Bool.eq_iff_iff]
   simp only [Bool.or_eq_true,decide_eq_true_iff,List.mem_append,List.mem_singleton]
   exact or_congr_right (UInt8.toNat_inj)
  ·omega
 ·obtain rfl:i=l.length:=by omega
  rw [List.take_length] at i4
  repeat (first|exact zE|refine wkG ?_|refine zB (fun b=>?_)|refine zC (fun a' c' hc1 hc2=>?_)|(show GJ _ _ _ _ _ _ _;first|(apply GJ.a;exact rfl;intro hg)|(apply GJ.o;exact rfl;intro hg)|refine GJ.t omAuto ?_|refine GJ.f omAuto ?_|refine GJ.ft omAuto ?_|refine GJ.ff omAuto ?_))
  exact Wk.outS Sup.z (.refl _) (hk u i3 i4)
end
def pc:Nat→Nat→Nat
 | 0,_=>0
 | n+1,x=>x % 2+pc n (x / 2)
def Dg (f:Nat→Nat):Nat→Nat→Nat
 | 0,_=>0
 | n+1,x=>f (x % 256)+256*Dg f n (x / 256)
def rep (m:Nat):Nat→Nat
 | 0=>0
 | n+1=>m+256*rep m n
theorem and_split {u v p q:Nat} (hu:u<256) (hp:p<256):(u+256*v) &&& (p+256*q)=(u &&& p)+256*(v &&& q):=by
 apply Nat.eq_of_testBit_eq
 intro i
 have e1:u+256*v=2 ^ 8*v+u:=by omega
 have e2:p+256*q=2 ^ 8*q+p:=by omega
 have e3:(u &&& p)+256*(v &&& q)=2 ^ 8*(v &&& q)+(u &&& p):=by omega
 have h3:u &&& p<2 ^ 8:=Nat.and_lt_two_pow _ hp
 rw [e1,e2,e3,Nat.testBit_and,Nat.testBit_two_pow_mul_add _ hu,Nat.testBit_two_pow_mul_add _ hp,Nat.testBit_two_pow_mul_add _ h3]
 split<;>rw [Nat.testBit_and]
def f1 (b:Nat):Nat:=(b / 2 &&& 85)+(b &&& 85)
def f2 (b:Nat):Nat:=(b / 4 &&& 51)+(b &&& 51)
def f3 (b:Nat):Nat:=(b / 16+b) &&& 15
theorem f1_lt:∀ b,b<256→f1 b<256:=by decide +kernel
theorem f2_lt:∀ b,b<256→f2 b<256:=by decide +kernel
theorem st1:∀ (n x:Nat),x<256 ^ n→(x / 2 &&& rep 85 n)+(x &&& rep 85 n)=Dg f1 n x
 | 0,x,h=>by simp [rep,Dg]
 | n+1,x,h=>by
   have hy:x / 256<256 ^ n:=by rw [Nat.pow_succ] at h;omega
   have ih:=st1 n (x / 256) hy
   have e1:x / 2=(x % 256 / 2+128*(x / 256 % 2))+256*(x / 256 / 2):=by omega
   have e2:x=x % 256+256*(x / 256):=by omega
   have k:(x % 256 / 2+128*(x / 256 % 2)) &&& 85=x % 256 / 2 &&& 85:=by
    have:∀ b,b<256→∀ c,c<2→(b / 2+128*c) &&& 85=b / 2 &&& 85:=by decide +kernel
    exact this _ (by omega) _ (by omega)
   rw [Dg,rep,←ih]
   generalize hb:x % 256=b at *
   generalize hc:x / 256=y at *
   rw [e1,e2,and_split (by omega) (by omega),and_split (by omega) (by omega),k]
   unfold f1
   omega
theorem st2:∀ (n x:Nat),x<256 ^ n→(x / 4 &&& rep 51 n)+(x &&& rep 51 n)=Dg f2 n x
 | 0,x,h=>by simp [rep,Dg]
 | n+1,x,h=>by
   have hy:x / 256<256 ^ n:=by rw [Nat.pow_succ] at h;omega
   have ih:=st2 n (x / 256) hy
   have e1:x / 4=(x % 256 / 4+64*(x / 256 % 4))+256*(x / 256 / 4):=by omega
   have e2:x=x % 256+256*(x / 256):=by omega
   have k:(x % 256 / 4+64*(x / 256 % 4)) &&& 51=x % 256 / 4 &&& 51:=by
    have:∀ b,b<256→∀ c,c<4→(b / 4+64*c) &&& 51=b / 4 &&& 51:=by decide +kernel
    exact this _ (by omega) _ (by omega)
   rw [Dg,rep,←ih]
   generalize hb:x % 256=b at *
   generalize hc:x / 256=y at *
   rw [e1,e2,and_split (by omega) (by omega),and_split (by omega) (by omega),k]
   unfold f2
   omega
def Gd:Nat→Nat→Prop
 | 0,_=>True
 | n+1,x=>(x % 256 % 16≤4∧x % 256 / 16≤4)∧Gd n (x / 256)
theorem Gd.low:∀ {n x:Nat},x<256 ^ n→Gd n x→x % 16≤4
 | 0,x,h,_=>by simp at h;omega
 | n+1,x,_,h=>by have:=h.1.1;omega
theorem st3:∀ (n x:Nat),x<256 ^ n→Gd n x→(x / 16+x) &&& rep 15 n=Dg f3 n x
 | 0,x,h,_=>by simp [rep,Dg]
 | n+1,x,h,hg=>by
   have hy:x / 256<256 ^ n:=by rw [Nat.pow_succ] at h;omega
   have ih:=st3 n (x / 256) hy hg.2
   have hl:=hg.2.low hy
   have hb1:=hg.1
   have e1:x / 16+x=(x % 256 / 16+x % 256+16*(x / 256 % 16))+256*(x / 256 / 16+x / 256):=by omega
   have k:(x % 256 / 16+x % 256+16*(x / 256 % 16)) &&& 15=(x % 256 / 16+x % 256) &&& 15:=by
    have:=Nat.and_two_pow_sub_one_eq_mod (x % 256 / 16+x % 256+16*(x / 256 % 16)) 4
    have h2:=Nat.and_two_pow_sub_one_eq_mod (x % 256 / 16+x % 256) 4
    simp only [Nat.reducePow,Nat.reduceSub] at this h2
    rw [this,h2];omega
   rw [Dg,rep,←ih,e1,and_split (by omega) (by omega),k]
   rfl
theorem Dg_lt {f:Nat→Nat} (hf:∀ b,b<256→f b<256):∀ (n x:Nat),Dg f n x<256 ^ n
 | 0,x=>by simp [Dg]
 | n+1,x=>by
   have:=Dg_lt hf n (x / 256)
   have h:=hf (x % 256) (by omega)
   rw [Dg,Nat.pow_succ];omega
theorem Dg_comp {f g:Nat→Nat} (hf:∀ b,b<256→f b<256):∀ (n x:Nat),Dg g n (Dg f n x)=Dg (fun b=>g (f b)) n x
 | 0,x=>rfl
 | n+1,x=>by
   have h:=hf (x % 256) (by omega)
   rw [Dg,Dg,Dg,←Dg_comp hf n (x / 256)]
   have e1:(f (x % 256)+256*Dg f n (x / 256)) % 256=f (x % 256):=by omega
   have e2:(f (x % 256)+256*Dg f n (x / 256)) / 256=Dg f n (x / 256):=by omega
   rw [e1,e2]
theorem Gd_Dg:∀ (n x:Nat),Gd n (Dg (fun b=>f2 (f1 b)) n x)
 | 0,x=>trivial
 | n+1,x=>by
   have h:∀ b,b<256→f2 (f1 b) % 16≤4∧f2 (f1 b) / 16≤4∧f2 (f1 b)<256:=by decide +kernel
   obtain ⟨h1,h2,h3⟩:=h (x % 256) (by omega)
   rw [Dg,Gd]
   have e1:(f2 (f1 (x % 256))+256*Dg (fun b=>f2 (f1 b)) n (x / 256)) % 256=f2 (f1 (x % 256)):=by omega
   have e2:(f2 (f1 (x % 256))+256*Dg (fun b=>f2 (f1 b)) n (x / 256)) / 256=Dg (fun b=>f2 (f1 b)) n (x / 256):=by omega
   rw [e1,e2]
   exact ⟨⟨h1,h2⟩,Gd_Dg n _⟩
theorem pc_add:∀ (m n x:Nat),pc (m+n) x=pc m (x % 2 ^ m)+pc n (x / 2 ^ m)
 | 0,n,x=>by simp [pc]
 | m+1,n,x=>by
   have ih:=pc_add m n (x / 2)
   rw [show m+1+n=(m+n)+1 by omega,pc,pc,ih]
   have e1:x % 2 ^ (m+1) % 2=x % 2:=by rw [Nat.pow_succ,Nat.mul_comm,Nat.mod_mul_right_mod]
   have e2:x % 2 ^ (m+1) / 2=x / 2 % 2 ^ m:=by rw [Nat.pow_succ,Nat.mul_comm,Nat.mod_mul_right_div_self]
   have e3:x / 2 / 2 ^ m=x / 2 ^ (m+1):=by rw [Nat.div_div_eq_div_mul,Nat.pow_succ,Nat.mul_comm]
   rw [e1,e2,e3];omega
def p8 (b:Nat):Nat:=f3 (f2 (f1 b))
theorem p8_pc:∀ b,b<256→p8 b=pc 8 b∧p8 b≤8:=by decide +kernel
def sumD:Nat→Nat→Nat
 | 0,_=>0
 | n+1,x=>p8 (x % 256)+sumD n (x / 256)
theorem pc_sum:∀ (n x:Nat),pc (8*n) x=sumD n x
 | 0,x=>rfl
 | n+1,x=>by
   rw [show 8*(n+1)=8+8*n by omega,pc_add,sumD,←pc_sum n,(p8_pc _ (by omega)).1]
set_option maxHeartbeats 4000000 in
theorem ones_spec {x:Nat} (h:x<18446744073709551616):∃ a1 a2 a3,(x / 2 &&& 6148914691236517205)+(x &&& 6148914691236517205)=a1∧a1<18446744073709551616∧(a1 / 4 &&& 3689348814741910323)+(a1 &&& 3689348814741910323)=a2∧a2+a2 / 16<18446744073709551616 ∧
  (a2 / 16+a2) &&& 1085102592571150095=a3∧a3≤578721382704613384∧(a3+a3 / 256+(a3+a3 / 256) / 65536+(a3+a3 / 256+(a3+a3 / 256) / 65536) / 4294967296) % 128=pc 64 x∧pc 64 x≤64:=by
 have h8:x<256 ^ 8:=h
 have hf1:=f1_lt
 have hf2:∀ b,b<256→(fun b=>f2 (f1 b)) b<256:=fun b hb=>f2_lt _ (f1_lt b hb)
 refine ⟨Dg f1 8 x,Dg (fun b=>f2 (f1 b)) 8 x,Dg p8 8 x,st1 8 x h8,Dg_lt hf1 8 x,?_,?_,?_,?_,?_⟩
 ·rw [←Dg_comp hf1];exact st2 8 _ (Dg_lt hf1 8 x)
 ·have:=Gd_Dg 8 x
  have hlt:=Dg_lt hf2 8 x
  generalize Dg (fun b=>f2 (f1 b)) 8 x=y at this hlt
  simp only [Gd] at this
  omega
 ·have:=st3 8 _ (Dg_lt hf2 8 x) (Gd_Dg 8 x)
  rw [Dg_comp hf2] at this
  exact this
 all_goals
  have e:pc 64 x=sumD 8 x:=pc_sum 8 x
  have g:=fun b=>(p8_pc (b % 256) (by omega)).2
  have g0:=g x
  have g1:=g (x / 256)
  have g2:=g (x / 256 / 256)
  have g3:=g (x / 256 / 256 / 256)
  have g4:=g (x / 256 / 256 / 256 / 256)
  have g5:=g (x / 256 / 256 / 256 / 256 / 256)
  have g6:=g (x / 256 / 256 / 256 / 256 / 256 / 256)
  have g7:=g (x / 256 / 256 / 256 / 256 / 256 / 256 / 256)
  clear g
  simp only [sumD,Nat.add_zero] at e
  simp only [Dg,Nat.mul_zero,Nat.add_zero]
  try rw [e]
  clear e
  generalize p8 (x % 256)=q0 at *
  generalize p8 (x / 256 % 256)=q1 at *
  generalize p8 (x / 256 / 256 % 256)=q2 at *
  generalize p8 (x / 256 / 256 / 256 % 256)=q3 at *
  generalize p8 (x / 256 / 256 / 256 / 256 % 256)=q4 at *
  generalize p8 (x / 256 / 256 / 256 / 256 / 256 % 256)=q5 at *
  generalize p8 (x / 256 / 256 / 256 / 256 / 256 / 256 % 256)=q6 at *
  generalize p8 (x / 256 / 256 / 256 / 256 / 256 / 256 / 256 % 256)=q7 at *
  clear h h8 hf1 hf2
 ·omega
 ·refine ⟨?_,by omega⟩
  have s1:(q0+256*(q1+256*(q2+256*(q3+256*(q4+256*(q5+256*(q6+256*(q7)))))))) / 256=q1+256*(q2+256*(q3+256*(q4+256*(q5+256*(q6+256*(q7)))))):=by omega
  have s2:(q0+256*(q1+256*(q2+256*(q3+256*(q4+256*(q5+256*(q6+256*(q7))))))))+(q1+256*(q2+256*(q3+256*(q4+256*(q5+256*(q6+256*(q7)))))))=(q0+q1)+256*((q1+q2)+256*((q2+q3)+256*((q3+q4)+256*((q4+q5)+256*((q5+q6)+256*((q6+q7)+256*(q7))))))):=by omega
  have s3:((q0+q1)+256*((q1+q2)+256*((q2+q3)+256*((q3+q4)+256*((q4+q5)+256*((q5+q6)+256*((q6+q7)+256*(q7)))))))) / 65536=(q2+q3)+256*((q3+q4)+256*((q4+q5)+256*((q5+q6)+256*((q6+q7)+256*(q7))))):=by omega
  have s4:((q0+q1)+256*((q1+q2)+256*((q2+q3)+256*((q3+q4)+256*((q4+q5)+256*((q5+q6)+256*((q6+q7)+256*(q7))))))))+((q2+q3)+256*((q3+q4)+256*((q4+q5)+256*((q5+q6)+256*((q6+q7)+256*(q7))))))=((q0+q1)+(q2+q3))+256*(((q1+q2)+(q3+q4))+256*(((q2+q3)+(q4+q5))+256*(((q3+q4)+(q5+q6))+256*(((q4+q5)+(q6+q7))+256*(((q5+q6)+q7)+256*((q6+q7)+256*(q7))))))):=by omega
  have s5:(((q0+q1)+(q2+q3))+256*(((q1+q2)+(q3+q4))+256*(((q2+q3)+(q4+q5))+256*(((q3+q4)+(q5+q6))+256*(((q4+q5)+(q6+q7))+256*(((q5+q6)+q7)+256*((q6+q7)+256*(q7)))))))) / 4294967296=((q4+q5)+(q6+q7))+256*(((q5+q6)+q7)+256*((q6+q7)+256*(q7))):=by omega
  have s6:(((q0+q1)+(q2+q3))+256*(((q1+q2)+(q3+q4))+256*(((q2+q3)+(q4+q5))+256*(((q3+q4)+(q5+q6))+256*(((q4+q5)+(q6+q7))+256*(((q5+q6)+q7)+256*((q6+q7)+256*(q7))))))))+(((q4+q5)+(q6+q7))+256*(((q5+q6)+q7)+256*((q6+q7)+256*(q7))))=(((q0+q1)+(q2+q3))+((q4+q5)+(q6+q7)))+256*((((q1+q2)+(q3+q4))+((q5+q6)+q7))+256*((((q2+q3)+(q4+q5))+(q6+q7))+256*((((q3+q4)+(q5+q6))+q7)+256*(((q4+q5)+(q6+q7))+256*(((q5+q6)+q7)+256*((q6+q7)+256*(q7))))))):=by omega
  rw [s1,s2,s3,s4,s5,s6]
  clear s1 s2 s3 s4 s5 s6
  omega
theorem odd_part:∀ (n x:Nat),x≤n→x≠0→∃ k m,x=2 ^ (k+1)*m+2 ^ k
 | 0,x,h,h0=>absurd (by omega) h0
 | n+1,x,h,h0=>by
   by_cases ho:x % 2=1
   ·exact ⟨0,x / 2,by simp;omega⟩
   ·obtain ⟨k,m,e⟩:=odd_part n (x / 2) (by omega) (by omega)
    refine ⟨k+1,m,?_⟩
    have h2:x=2*(x / 2):=by omega
    rw [h2,e,Nat.pow_succ 2 (k+1),Nat.mul_add,Nat.pow_succ 2 k,←Nat.mul_assoc]
    congr 1
    ·congr 1
     omega
    ·omega
theorem low_bit {x:Nat} (h0:x≠0) (h:x<18446744073709551616):∃ k,k<64∧x.testBit k=true∧(∀ i,i<k→x.testBit i=false)∧x &&& (18446744073709551616-x)=2 ^ k:=by
 obtain ⟨k,m,e⟩:=odd_part x x (Nat.le_refl _) h0
 have hp:2 ^ k<2 ^ (k+1):=Nat.pow_lt_pow_right (by decide) (by omega)
 have hp0:0<2 ^ k:=Nat.two_pow_pos k
 have hk:k<64:=by
  rcases Nat.lt_or_ge k 64 with hk|hk
  ·exact hk
  ·have:2 ^ 64≤2 ^ k:=Nat.pow_le_pow_right (by decide) hk
   omega
 have tb:∀ i,x.testBit i=if i<k+1 then decide (k=i) else m.testBit (i-(k+1)):=fun i=>by
  rw [e,Nat.testBit_two_pow_mul_add _ hp,Nat.testBit_two_pow]
 have e1:x-1=2 ^ (k+1)*m+(2 ^ k-1):=by omega
 have tb1:∀ i,(x-1).testBit i=if i<k+1 then decide (i<k) else m.testBit (i-(k+1)):=fun i=>by
  rw [e1,Nat.testBit_two_pow_mul_add _ (by omega),Nat.testBit_two_pow_sub_one]
 refine ⟨k,hk,by rw [tb,if_pos (by omega)];simp,fun i hi=>by rw [tb,if_pos (by omega)];simp;omega,?_⟩
 apply Nat.eq_of_testBit_eq
 intro i
 rw [Nat.testBit_and,show 18446744073709551616-x=2 ^ 64-((x-1)+1) by omega,Nat.testBit_two_pow_sub_succ (by omega),tb,tb1,Nat.testBit_two_pow]
 by_cases hi:i<k+1
 ·rw [if_pos hi,if_pos hi]
  by_cases hik:k=i
  ·subst hik;simp [hk]
  ·simp [hik]
 ·rw [if_neg hi,if_neg hi]
  have:¬k=i:=by omega
  simp [this]
  exact fun a _=>a
def debr:List Int:=[0,1,56,2,57,49,28,3,61,58,42,50,38,29,17,4,62,47,59,36,45,43,51,22,53,39,33,30,24,18,12,5,63,55,48,27,60,41,37,16,46,35,44,21,52,32,23,11,54,26,40,15,34,20,31,10,25,14,19,9,13,8,7,6]
theorem debr_spec:∀ k:Nat,k<64→debr.getD (2 ^ k*285870213051353865 % 18446744073709551616 / 288230376151711744) 0=(k:Int)∧2 ^ k*285870213051353865 % 18446744073709551616 / 288230376151711744<64:=by decide +kernel
structure TabOk (ro:Ro):Prop where
 cells:∃ cs t fr,ro 0=some (.cells cs t fr)∧∀ i,i<64→cs[i]?=some (.int .u8 (debr.getD i 0))
theorem TabOk.le {ro ro':Ro} (h:TabOk ro) (hl:Le ro ro'):TabOk ro':=by
 obtain ⟨cs,t,fr,h1,h2⟩:=h.cells
 exact ⟨cs,t,fr,hl.le _ _ h1,h2⟩
theorem TabOk.ld {ro:Ro}{own:Chs}{o i:Nat} (h:TabOk ro) (ho:o=i) (hi:i<64):Ld ro own 0 o (.int .u8 (debr.getD i 0)):=fun hp hs=>by
 subst ho
 obtain ⟨cs,t,fr,h1,h2⟩:=h.cells
 have:=hs.last _ _ h1
 rw [cellAt_of this];exact h2 o hi
def Low (x k:Nat):Prop:=k<64∧x.testBit k=true∧∀ i,i<k→x.testBit i=false
section
variable {ro:Ro}{own r:Chs}{K:Value→Ro→Chs→Prop}{g:Chunk→Chs}
theorem tz_ok {x:Nat} (ht:TabOk ro) (h0:x≠0) (h:x<18446744073709551616) (hk:∀ k:Nat,Low x k→K (.int .i64 (k:Int)) ro own):CallOk Tryz.prog 41 #[.int .u64 (x:Int)] ro own K:=by
 obtain ⟨k,k1,k2,k3,k4⟩:=low_bit h0 h
 have k5:=hk k ⟨k1,k2,k3⟩
 obtain ⟨d1,d2⟩:=debr_spec k k1
 have e1:(18446744073709551616-x) % 18446744073709551616=18446744073709551616-x:=by omega
 have e2:nand2 (x:Int) ((18446744073709551616-x:Nat):Int)=((2 ^ k:Nat):Int):=congrArg Int.ofNat k4
 have e3:(((2 ^ k:Nat):Int)*285870213051353865 % 18446744073709551616) / 2 ^ Int.toNat 58=((2 ^ k*285870213051353865 % 18446744073709551616 / 288230376151711744:Nat):Int):=by
  show _ / (288230376151711744:Int)=_
  generalize 2 ^ k=q
  omega
 generalize 2 ^ k*285870213051353865 % 18446744073709551616 / 288230376151711744=idx at d1 d2 e3
 refine CallOk.intro (args:=[_]) (rs:=[_]) T_ok Tryz.func41 Tryz.call41 rfl rfl (by kernel_rfl) rfl rfl ?_
 repeat (first|exact zE|refine wkG ?_|refine zB (fun b=>?_)|refine zC (fun a' c' hc1 hc2=>?_)|(show GJ _ _ _ _ _ _ _;first|(apply GJ.a;exact rfl;intro hg)|(apply GJ.o;exact rfl;intro hg)|refine GJ.t omAuto ?_|refine GJ.f omAuto ?_|refine GJ.ft omAuto ?_|refine GJ.ff omAuto ?_))
 refine OpOk.neg64 rfl ?_ h
 rw [e1]
 repeat (first|exact zE|refine wkG ?_|refine zB (fun b=>?_)|refine zC (fun a' c' hc1 hc2=>?_)|(show GJ _ _ _ _ _ _ _;first|(apply GJ.a;exact rfl;intro hg)|(apply GJ.o;exact rfl;intro hg)|refine GJ.t omAuto ?_|refine GJ.f omAuto ?_|refine GJ.ft omAuto ?_|refine GJ.ff omAuto ?_))
 rw [e2,e3]
 repeat (first|exact zE|refine wkG ?_|refine zB (fun b=>?_)|refine zC (fun a' c' hc1 hc2=>?_)|(show GJ _ _ _ _ _ _ _;first|(apply GJ.a;exact rfl;intro hg)|(apply GJ.o;exact rfl;intro hg)|refine GJ.t omAuto ?_|refine GJ.f omAuto ?_|refine GJ.ft omAuto ?_|refine GJ.ff omAuto ?_))
 refine OpOk.load rfl rfl (ht.ld (i:=idx) (by omega) d2) ?_
 rw [d1]
 repeat (first|exact zE|refine wkG ?_|refine zB (fun b=>?_)|refine zC (fun a' c' hc1 hc2=>?_)|(show GJ _ _ _ _ _ _ _;first|(apply GJ.a;exact rfl;intro hg)|(apply GJ.o;exact rfl;intro hg)|refine GJ.t omAuto ?_|refine GJ.f omAuto ?_|refine GJ.ft omAuto ?_|refine GJ.ff omAuto ?_))
 exact Wk.outS Sup.z (.refl _) k5
end
def SetD.len (s:SetD):Nat:=pc 64 s.a+pc 64 s.b+pc 64 s.c+pc 64 s.d
def SetD.lenTo (s:SetD):Nat→Nat
 | 0=>0
 | k+1=>s.lenTo k+pc 64 (s.w k)
theorem SetD.lenTo_four (s:SetD):s.lenTo 4=s.len:=by simp [SetD.lenTo,SetD.len,SetD.w]
section
variable {ro:Ro}{own r:Chs}{K:Value→Ro→Chs→Prop}{g:Chunk→Chs}
set_option maxHeartbeats 1000000 in
theorem count_ok {x:Nat} (h:x<18446744073709551616) (hk:K (.int .i64 ((pc 64 x:Nat):Int)) ro own):CallOk Tryz.prog 51 #[.int .u64 (x:Int)] ro own K:=by
 obtain ⟨a1,a2,a3,h1,h2,h3,h4,h5,h6,h7,h8⟩:=ones_spec h
 have l1:x / 2 &&& 6148914691236517205≤6148914691236517205:=Nat.and_le_right
 have l2:x &&& 6148914691236517205≤6148914691236517205:=Nat.and_le_right
 have l3:a1 / 4 &&& 3689348814741910323≤3689348814741910323:=Nat.and_le_right
 have l4:a1 &&& 3689348814741910323≤3689348814741910323:=Nat.and_le_right
 have s1:(x:Int) / 2 ^ Int.toNat 1=((x / 2:Nat):Int):=by show (x:Int) / 2=_;omega
 have s2:(a1:Int) / 2 ^ Int.toNat 2=((a1 / 4:Nat):Int):=by show (a1:Int) / 4=_;omega
 have s3:(a2:Int) / 2 ^ Int.toNat 4=((a2 / 16:Nat):Int):=by show (a2:Int) / 16=_;omega
 have s4:(a3:Int) / 2 ^ Int.toNat 8=((a3 / 256:Nat):Int):=by show (a3:Int) / 256=_;omega
 have q1:nand2 ((x / 2:Nat):Int) 6148914691236517205=((x / 2 &&& 6148914691236517205:Nat):Int):=rfl
 have q2:nand2 (x:Int) 6148914691236517205=((x &&& 6148914691236517205:Nat):Int):=rfl
 have r1:(((x / 2 &&& 6148914691236517205:Nat):Int)+((x &&& 6148914691236517205:Nat):Int)) % 18446744073709551616=(a1:Int):=by omega
 have q3:nand2 ((a1 / 4:Nat):Int) 3689348814741910323=((a1 / 4 &&& 3689348814741910323:Nat):Int):=rfl
 have q4:nand2 (a1:Int) 3689348814741910323=((a1 &&& 3689348814741910323:Nat):Int):=rfl
 have r2:(((a1 / 4 &&& 3689348814741910323:Nat):Int)+((a1 &&& 3689348814741910323:Nat):Int)) % 18446744073709551616=(a2:Int):=by omega
 have r3:(((a2 / 16:Nat):Int)+(a2:Int)) % 18446744073709551616=((a2 / 16+a2:Nat):Int):=by omega
 have q5:nand2 ((a2 / 16+a2:Nat):Int) 1085102592571150095=(((a2 / 16+a2) &&& 1085102592571150095:Nat):Int):=rfl
 rw [h5] at q5
 have r4:((a3:Int)+((a3 / 256:Nat):Int)) % 18446744073709551616=((a3+a3 / 256:Nat):Int):=by omega
 have s5:((a3+a3 / 256:Nat):Int) / 2 ^ Int.toNat 16=(((a3+a3 / 256) / 65536:Nat):Int):=by show ((a3+a3 / 256:Nat):Int) / 65536=_;omega
 have r5:(((a3+a3 / 256:Nat):Int)+(((a3+a3 / 256) / 65536:Nat):Int)) % 18446744073709551616=((a3+a3 / 256+(a3+a3 / 256) / 65536:Nat):Int):=by omega
 have s6:((a3+a3 / 256+(a3+a3 / 256) / 65536:Nat):Int) / 2 ^ Int.toNat 32=(((a3+a3 / 256+(a3+a3 / 256) / 65536) / 4294967296:Nat):Int):=by
  show ((a3+a3 / 256+(a3+a3 / 256) / 65536:Nat):Int) / 4294967296=_;omega
 have r6:(((a3+a3 / 256+(a3+a3 / 256) / 65536:Nat):Int)+(((a3+a3 / 256+(a3+a3 / 256) / 65536) / 4294967296:Nat):Int)) % 18446744073709551616=((a3+a3 / 256+(a3+a3 / 256) / 65536+(a3+a3 / 256+(a3+a3 / 256) / 65536) / 4294967296:Nat):Int):=by omega
 have hb:a3+a3 / 256+(a3+a3 / 256) / 65536+(a3+a3 / 256+(a3+a3 / 256) / 65536) / 4294967296<9223372036854775808:=by omega
 clear h1 h2 h3 h4 h5 h6
 have r7:=wrap_i64 (n:=((a3+a3 / 256+(a3+a3 / 256) / 65536+(a3+a3 / 256+(a3+a3 / 256) / 65536) / 4294967296:Nat):Int)) (by omega)
 have q6:nand2 ((a3+a3 / 256+(a3+a3 / 256) / 65536+(a3+a3 / 256+(a3+a3 / 256) / 65536) / 4294967296:Nat):Int) 127=((pc 64 x:Nat):Int):=by
  rw [←h7];exact congrArg Int.ofNat (Nat.and_two_pow_sub_one_eq_mod _ 7)
 refine CallOk.intro (args:=[_]) (rs:=[_]) T_ok Tryz.func51 Tryz.call51 rfl rfl (by kernel_rfl) rfl rfl ?_
 repeat (first
  | rw [s1]|rw [q1]|rw [q2]|rw [r1]|rw [s2]|rw [q3]|rw [q4]|rw [r2]|rw [s3]|rw [r3]|rw [q5]|rw [s4]|rw [r4]|rw [s5]|rw [r5]|rw [s6]|rw [r6]|rw [r7]|rw [q6]
  | refine Stop.mk ?_
  | (refine And.intro (by omega) ?_)
  | (show OpOk _ _ _ _ _ _ _;refine OpOk.andN rfl rfl ⟨⟨by omega,by omega⟩,by decide⟩ ?_))
 repeat (first|exact zE|refine wkG ?_|refine zB (fun b=>?_)|refine zC (fun a' c' hc1 hc2=>?_)|(show GJ _ _ _ _ _ _ _;first|(apply GJ.a;exact rfl;intro hg)|(apply GJ.o;exact rfl;intro hg)|refine GJ.t omAuto ?_|refine GJ.f omAuto ?_|refine GJ.ft omAuto ?_|refine GJ.ff omAuto ?_))
 exact Wk.outS Sup.z (.refl _) hk
theorem len_ok {s:SetD} (hs:SetIn s) (hk:K (.int .i64 ((s.len:Nat):Int)) ro own):CallOk Tryz.prog 30 #[.agg (setV s).toArray] ro own K:=by
 refine CallOk.intro (args:=[_]) (rs:=[_]) T_ok Tryz.func30 Tryz.call30 rfl rfl (by kernel_rfl) rfl rfl ?_
 repeat (first|exact zE|refine wkG ?_|refine zB (fun b=>?_)|refine zC (fun a' c' hc1 hc2=>?_)|(show GJ _ _ _ _ _ _ _;first|(apply GJ.a;exact rfl;intro hg)|(apply GJ.o;exact rfl;intro hg)|refine GJ.t omAuto ?_|refine GJ.f omAuto ?_|refine GJ.ft omAuto ?_|refine GJ.ff omAuto ?_))
 refine LoopOk.at (ι:=Nat) Keep.z (fun i=>[(7,.int .i64 (i:Int)),(3,.int .i64 ((s.lenTo i:Nat):Int))]) (fun i=>.blk b 40 (setV s)::own) (fun i=>i≤4∧s.lenTo i≤64*i) (fun i=>4-i) 0 ?_ Sub.z Sup.z ?_
 ·exact ⟨by omega,by simp [SetD.lenTo]⟩
 rintro i ⟨i1,i2⟩
 dsimp only [List.cons_append,List.nil_append]
 repeat (first|exact zE|refine wkG ?_|refine zB (fun b=>?_)|refine zC (fun a' c' hc1 hc2=>?_)|(show GJ _ _ _ _ _ _ _;first|(apply GJ.a;exact rfl;intro hg)|(apply GJ.o;exact rfl;intro hg)|refine GJ.t omAuto ?_|refine GJ.f omAuto ?_|refine GJ.ft omAuto ?_|refine GJ.ff omAuto ?_))
 refine Br.cases (fun hg=>?_) (fun hg=>?_)
 ·have hw:=hs i
  obtain ⟨_,_,_,_,_,_,_,_,_,_,hp⟩:=ones_spec hw
  have hl:s.lenTo (i+1)=s.lenTo i+pc 64 (s.w i):=rfl
  repeat (first|exact zE|refine wkG ?_|refine zB (fun b=>?_)|refine zC (fun a' c' hc1 hc2=>?_)|(show GJ _ _ _ _ _ _ _;first|(apply GJ.a;exact rfl;intro hg)|(apply GJ.o;exact rfl;intro hg)|refine GJ.t omAuto ?_|refine GJ.f omAuto ?_|refine GJ.ft omAuto ?_|refine GJ.ff omAuto ?_))
  refine OpOk.index1 (k:=i) (e:=22) (n:=4) rfl rfl (by kernel_rfl) Tryz.underlying22 rfl (by kernel_rfl) rfl (by omega) (setV_get (s:=s) (by omega)) ?_
  repeat (first|exact zE|refine wkG ?_|refine zB (fun b=>?_)|refine zC (fun a' c' hc1 hc2=>?_)|(show GJ _ _ _ _ _ _ _;first|(apply GJ.a;exact rfl;intro hg)|(apply GJ.o;exact rfl;intro hg)|refine GJ.t omAuto ?_|refine GJ.f omAuto ?_|refine GJ.ft omAuto ?_|refine GJ.ff omAuto ?_))
  refine count_ok hw ?_
  repeat (first|exact zE|refine wkG ?_|refine zB (fun b=>?_)|refine zC (fun a' c' hc1 hc2=>?_)|(show GJ _ _ _ _ _ _ _;first|(apply GJ.a;exact rfl;intro hg)|(apply GJ.o;exact rfl;intro hg)|refine GJ.t omAuto ?_|refine GJ.f omAuto ?_|refine GJ.ft omAuto ?_|refine GJ.ff omAuto ?_))
  refine Wk.id ⟨i+1,⟨rfl,?_⟩,?_,Sub.z,Sup.z⟩
  all_goals try dsimp only
  ·exact ⟨by omega,by omega⟩
  ·omega
 ·obtain rfl:i=4:=by omega
  rw [SetD.lenTo_four]
  repeat (first|exact zE|refine wkG ?_|refine zB (fun b=>?_)|refine zC (fun a' c' hc1 hc2=>?_)|(show GJ _ _ _ _ _ _ _;first|(apply GJ.a;exact rfl;intro hg)|(apply GJ.o;exact rfl;intro hg)|refine GJ.t omAuto ?_|refine GJ.f omAuto ?_|refine GJ.ft omAuto ?_|refine GJ.ff omAuto ?_))
  exact Wk.outS Sup.z (.refl _) hk
theorem first_ok {s:SetD} (ht:TabOk ro) (hs:SetIn s) (h1:s=⟨0,0,0,0⟩→K (.tuple #[.int .u8 0,.bool false]) ro own) (h2:∀ c:Nat,c<256→s.has c=true→(∀ j,j<c→s.has j=false)→K (.tuple #[.int .u8 (c:Int),.bool true]) ro own):CallOk Tryz.prog 20 #[.agg (setV s).toArray] ro own K:=by
 refine CallOk.intro (args:=[_]) (rs:=[_,_]) T_ok Tryz.func20 Tryz.call20 rfl rfl (by kernel_rfl) rfl rfl ?_
 repeat (first|exact zE|refine wkG ?_|refine zB (fun b=>?_)|refine zC (fun a' c' hc1 hc2=>?_)|(show GJ _ _ _ _ _ _ _;first|(apply GJ.a;exact rfl;intro hg)|(apply GJ.o;exact rfl;intro hg)|refine GJ.t omAuto ?_|refine GJ.f omAuto ?_|refine GJ.ft omAuto ?_|refine GJ.ff omAuto ?_))
 refine LoopOk.at (ι:=Nat) Keep.z (fun i=>[(7,.int .i64 (i:Int))]) (fun i=>.blk b 40 (setV s)::own) (fun i=>i≤4∧∀ k,k<i→s.w k=0) (fun i=>4-i) 0 ?_ Sub.z Sup.z ?_
 ·exact ⟨by omega,fun k hk=>absurd hk (by omega)⟩
 rintro i ⟨i1,i2⟩
 dsimp only [List.cons_append,List.nil_append]
 repeat (first|exact zE|refine wkG ?_|refine zB (fun b=>?_)|refine zC (fun a' c' hc1 hc2=>?_)|(show GJ _ _ _ _ _ _ _;first|(apply GJ.a;exact rfl;intro hg)|(apply GJ.o;exact rfl;intro hg)|refine GJ.t omAuto ?_|refine GJ.f omAuto ?_|refine GJ.ft omAuto ?_|refine GJ.ff omAuto ?_))
 refine Br.cases (fun hg=>?_) (fun hg=>?_)
 ·have hw:=hs i
  repeat (first|exact zE|refine wkG ?_|refine zB (fun b=>?_)|refine zC (fun a' c' hc1 hc2=>?_)|(show GJ _ _ _ _ _ _ _;first|(apply GJ.a;exact rfl;intro hg)|(apply GJ.o;exact rfl;intro hg)|refine GJ.t omAuto ?_|refine GJ.f omAuto ?_|refine GJ.ft omAuto ?_|refine GJ.ff omAuto ?_))
  refine OpOk.index1 (k:=i) (e:=22) (n:=4) rfl rfl (by kernel_rfl) Tryz.underlying22 rfl (by kernel_rfl) rfl (by omega) (setV_get (s:=s) (by omega)) ?_
  repeat (first|exact zE|refine wkG ?_|refine zB (fun b=>?_)|refine zC (fun a' c' hc1 hc2=>?_)|(show GJ _ _ _ _ _ _ _;first|(apply GJ.a;exact rfl;intro hg)|(apply GJ.o;exact rfl;intro hg)|refine GJ.t omAuto ?_|refine GJ.f omAuto ?_|refine GJ.ft omAuto ?_|refine GJ.ff omAuto ?_))
  refine Br.cases (fun hne=>?_) (fun he=>?_)
  ·repeat (first|exact zE|refine wkG ?_|refine zB (fun b=>?_)|refine zC (fun a' c' hc1 hc2=>?_)|(show GJ _ _ _ _ _ _ _;first|(apply GJ.a;exact rfl;intro hg)|(apply GJ.o;exact rfl;intro hg)|refine GJ.t omAuto ?_|refine GJ.f omAuto ?_|refine GJ.ft omAuto ?_|refine GJ.ff omAuto ?_))
   refine tz_ok ht (by omega) hw (fun k hlow=>?_)
   obtain ⟨l1,l2,l3⟩:=hlow
   have hc:=h2 (64*i+k) (by omega) (by unfold SetD.has;rw [show (64*i+k) / 64=i by omega,show (64*i+k) % 64=k by omega];exact l2) (fun j hj=>by
    unfold SetD.has
    by_cases hji:j / 64<i
    ·rw [i2 _ hji];simp
    ·rw [show j / 64=i by omega];exact l3 _ (by omega))
   repeat (first|exact zE|refine wkG ?_|refine zB (fun b=>?_)|refine zC (fun a' c' hc1 hc2=>?_)|(show GJ _ _ _ _ _ _ _;first|(apply GJ.a;exact rfl;intro hg)|(apply GJ.o;exact rfl;intro hg)|refine GJ.t omAuto ?_|refine GJ.f omAuto ?_|refine GJ.ft omAuto ?_|refine GJ.ff omAuto ?_))
   have e:(64*(i:Int)+(k:Int)) % 256=((64*i+k:Nat):Int):=by omega
   rw [e]
   exact Wk.outS Sup.z (.refl _) hc
  ·repeat (first|exact zE|refine wkG ?_|refine zB (fun b=>?_)|refine zC (fun a' c' hc1 hc2=>?_)|(show GJ _ _ _ _ _ _ _;first|(apply GJ.a;exact rfl;intro hg)|(apply GJ.o;exact rfl;intro hg)|refine GJ.t omAuto ?_|refine GJ.f omAuto ?_|refine GJ.ft omAuto ?_|refine GJ.ff omAuto ?_))
   refine Wk.id ⟨i+1,⟨rfl,?_⟩,?_,Sub.z,Sup.z⟩
   all_goals try dsimp only
   ·refine ⟨by omega,fun k hk=>?_⟩
    by_cases hki:k=i
    ·subst hki;omega
    ·exact i2 k (by omega)
   ·omega
 ·obtain rfl:i=4:=by omega
  repeat (first|exact zE|refine wkG ?_|refine zB (fun b=>?_)|refine zC (fun a' c' hc1 hc2=>?_)|(show GJ _ _ _ _ _ _ _;first|(apply GJ.a;exact rfl;intro hg)|(apply GJ.o;exact rfl;intro hg)|refine GJ.t omAuto ?_|refine GJ.f omAuto ?_|refine GJ.ft omAuto ?_|refine GJ.ff omAuto ?_))
  refine Wk.outS Sup.z (.refl _) (h1 ?_)
  exact SetD.ext4 (fun k hk=>by rw [i2 k hk];unfold SetD.w;simp)
end
end Go.Proofs.YtficlekgjbnniaaGreatDoor
end
section
namespace Go.E
open Go
theorem LdN.atR {ro ro':Ro}{own own':Chs}{a:Option Addr}{n c s k z o:Nat}{cs vs:List Value} (hr:Rds ro own a n c s cs) (hd:(cs.drop k).take z=vs) (ho:o=ao a+k) [hl:Leq ro ro'] [hp:Suf own' own]:LdN ro' own' (ab a) o vs:=by
 subst ho;subst hd;exact LdN.rds hr
end Go.E
namespace Go.E
open Go
theorem Sub2.refl (e:Env):Sub2 e e:=fun _ _ h=>h
section
variable {P:Program}{T:TT}{Q:Exit→Act→World→Prop}{n:Nat}{σ:World}
end
end Go.E
namespace Go.E
open Go
section
variable {P:Program}{T:TT}{Q:Exit→Act→World→Prop}{n:Fr}{σ:World}
end
theorem wkN {q p:Prop} (h:q) (e:Hd q→p:=by
 intro hWk
 first
  | refine Stop.mk ?_
  | (show _∧_;refine And.intro sdAuto ?_)
  | (show OpOk _ _ _ _ _ _ _;first
    | refine OpOk.load rfl rfl Ld.auto ?_
    | refine OpOk.loadRow rfl rfl LdN.hasBlk rfl ?_
    | refine OpOk.loadPart rfl rfl Nf.auto rfAuto ?_
    | refine OpOk.store rfl rfl rfl rfl SetR.auto ?_
    | refine OpOk.storeRow rfl rfl rfl rfl (by rfl) rfl ?_
    | refine OpOk.idx1 rfl rfl rfl (by omega) AOk.auto ?_
    | refine OpOk.idxA rfl rfl rfl (by omega) ?_
    | refine OpOk.idx rfl rfl rfl (by omega) AOk.auto ?_
    | refine OpOk.andN rfl rfl sdAuto ?_
    | refine OpOk.eqlSl rfl rfl ?_
    | refine OpOk.neqSl rfl rfl ?_
    | refine OpOk.clip rfl rfl rfl rfl (by omega) ?_
    | refine OpOk.build rfl rfl Nf.auto ?_
    | refine OpOk.toStr rfl rfl rfl rfl Rds.auto ?_)
  | (show QOk _ _ _ _ _ _ _;first|refine QOk.load rfl rfl Ld.auto ?_|refine QOk.idx1 rfl rfl rfl (by omega) AOk.auto ?_|refine QOk.idxA rfl rfl rfl (by omega) ?_|refine QOk.idx rfl rfl rfl (by omega) AOk.auto ?_|refine QOk.loadRow rfl rfl LdN.hasBlk rfl ?_|refine QOk.loadPart rfl rfl Nf.auto rfAuto ?_|refine QOk.toStr rfl rfl rfl rfl Rds.auto ?_)
  | (show GJ _ _ _ _ _ _ _;first|with_reducible refine GJ.l1 ?_|with_reducible refine GJ.l2 ?_|with_reducible refine GJ.l3 ?_|with_reducible refine GJ.l4 ?_|with_reducible refine GJ.n1 ?_|with_reducible refine GJ.n2 ?_|with_reducible refine GJ.n3 ?_|with_reducible refine GJ.n4 ?_|refine GJ.t (by omega) ?_|refine GJ.f (by omega) ?_|refine GJ.ft (by omega) ?_|refine GJ.ff (by omega) ?_)
  | (show Br _ _ _;first|with_reducible refine Br.tt ?_|with_reducible refine Br.ff ?_|with_reducible refine Br.nt ?_|with_reducible refine Br.nf ?_|refine Br.t (by omega) ?_|refine Br.f (by omega) ?_)
  | (show Bk _ _ _;refine Bk.all Sup.z ?_)
  | (show RetOk _ _ _ _ _ _;refine RetOk.of (T:=T) RL.auto ?_)
 repeat (first
  | refine Stop.mk ?_
  | (show _∧_;refine And.intro sdAuto ?_)
  | (show OpOk _ _ _ _ _ _ _;first
    | refine OpOk.load rfl rfl Ld.auto ?_
    | refine OpOk.loadRow rfl rfl LdN.hasBlk rfl ?_
    | refine OpOk.loadPart rfl rfl Nf.auto rfAuto ?_
    | refine OpOk.store rfl rfl rfl rfl SetR.auto ?_
    | refine OpOk.storeRow rfl rfl rfl rfl (by rfl) rfl ?_
    | refine OpOk.idx1 rfl rfl rfl (by omega) AOk.auto ?_
    | refine OpOk.idxA rfl rfl rfl (by omega) ?_
    | refine OpOk.idx rfl rfl rfl (by omega) AOk.auto ?_
    | refine OpOk.andN rfl rfl sdAuto ?_
    | refine OpOk.eqlSl rfl rfl ?_
    | refine OpOk.neqSl rfl rfl ?_
    | refine OpOk.clip rfl rfl rfl rfl (by omega) ?_
    | refine OpOk.build rfl rfl Nf.auto ?_
    | refine OpOk.toStr rfl rfl rfl rfl Rds.auto ?_)
  | (show QOk _ _ _ _ _ _ _;first|refine QOk.load rfl rfl Ld.auto ?_|refine QOk.idx1 rfl rfl rfl (by omega) AOk.auto ?_|refine QOk.idxA rfl rfl rfl (by omega) ?_|refine QOk.idx rfl rfl rfl (by omega) AOk.auto ?_|refine QOk.loadRow rfl rfl LdN.hasBlk rfl ?_|refine QOk.loadPart rfl rfl Nf.auto rfAuto ?_|refine QOk.toStr rfl rfl rfl rfl Rds.auto ?_)
  | (show GJ _ _ _ _ _ _ _;first|with_reducible refine GJ.l1 ?_|with_reducible refine GJ.l2 ?_|with_reducible refine GJ.l3 ?_|with_reducible refine GJ.l4 ?_|with_reducible refine GJ.n1 ?_|with_reducible refine GJ.n2 ?_|with_reducible refine GJ.n3 ?_|with_reducible refine GJ.n4 ?_|refine GJ.t (by omega) ?_|refine GJ.f (by omega) ?_|refine GJ.ft (by omega) ?_|refine GJ.ff (by omega) ?_)
  | (show Br _ _ _;first|with_reducible refine Br.tt ?_|with_reducible refine Br.ff ?_|with_reducible refine Br.nt ?_|with_reducible refine Br.nf ?_|refine Br.t (by omega) ?_|refine Br.f (by omega) ?_)
  | (show Bk _ _ _;refine Bk.all Sup.z ?_)
  | (show RetOk _ _ _ _ _ _;refine RetOk.of (T:=T) RL.auto ?_))
 exact hWk.get):p:=e ⟨h⟩
end Go.E
namespace Go.E
open Go
section
variable {P:Program}{f:FuncId}{fn:Func}{ro:Ro}{own:Chs}{K:Value→Ro→Chs→Prop}
end
section
variable {P:Program}{T:TT} [hT:TTab P T] {ty:TypeId}{env:Env}{ro:Ro}{own:Chs}{K:Value→Ro→Chs→Prop}
theorem cutA_zero (a:Option Addr) (c s:Nat):cutA a 0 c s=a:=by
 unfold cutA
 split
 ·rfl
 ·cases a with
  | none=>rfl
  | some a=>simp [Addr.add]
end
end Go.E
namespace Go.E
open Go
section
variable {P:Program}{f:FuncId}{ro:Ro}{own:Chs}{K:Value→Ro→Chs→Prop}
theorem CallOk.ofBelow {args:Array Value}{v:Value} (enter:∀ args w,(callFunc f args).run P w=.ok (.enter f args) w) (h:∀ w,Calls P f args w fun e w'=>e=.returned v∧Go.RowKit.Below w.heap.size w w') (hk:K v ro own):CallOk P f args ro own K :=
 CallOk.body enter fun h0 hs w hw=>(h w).mono fun e w' ⟨he,hb⟩=>⟨v,he,⟨rfl,hb.os,hb.tape,hb.output⟩,ro,own,Le.refl _,hs.keep (fun b hb'=>by subst hw;exact hb.block b hb'),hk⟩
end
end Go.E
namespace Go.E
open Go
section
variable {P:Program}{T:TT} [hT:TTab P T] {ty:TypeId}{env:Env}{ro:Ro}{own:Chs}{K:Value→Ro→Chs→Prop}
end
end Go.E
namespace Go.E
open Go
section
variable {P:Program}{T:TT}{ty:TypeId}{env:Env}{ro:Ro}{own:Chs}{K:Value→Ro→Chs→Prop}
theorem Chunk.holds.shrink {ro:Ro}{a:Option Addr}{n m c s:Nat}{t:TypeId}{cs:List Value} (h:(Chunk.sl a n c t s cs).holds ro) (hm:m≤n):(Chunk.sl a m c t s (cs.take (m*s))).holds ro:=by
 obtain ⟨h1,h2,h3,h4⟩:=h
 have hms:=Nat.mul_le_mul_right s hm
 refine ⟨by rw [List.length_take];omega,by omega,h3,?_⟩
 rcases h4 with ⟨h5,h6,h7⟩|⟨b,sp,rfl,h5,h6⟩
 ·exact .inl ⟨h5,by omega,h7⟩
 ·refine .inr ⟨b,cs.drop (m*s)++sp,rfl,?_,?_⟩
  ·rw [←List.append_assoc,List.take_append_drop];exact h5
  ·rw [List.length_append,List.length_take,List.length_drop];omega
theorem Sat.shrink {ro:Ro}{own:Chs}{h:Heap}{a:Option Addr}{n m c s:Nat}{t:TypeId}{cs:List Value}{f:Chunk→Chs} [hb:HasSl own a n c t s cs f] (hm:m≤n) (hs:Sat ro own h):Sat ro (f (.sl a m c t s (cs.take (m*s)))) h:=by
 obtain ⟨r,p1,p2⟩:=hb.split
 refine Sat.perm ?_ (p2 _)
 have hs:=hs.perm p1
 refine hs.put (fun b _ _=>rfl) (hs.cons.1.shrink hm) (fun b hb=>.inl ?_) ?_
 ·cases a<;>exact hb
 ·cases a<;>simp [Chunk.fp]
theorem OpOk.shrink {op:Op}{a:Option Addr}{n m c s:Nat}{t:TypeId}{cs:List Value}{f:Chunk→Chs} [hb:HasSl own a n c t s cs f] (hm:m≤n) (h:OpOk P op ty env ro (f (.sl a m c t s (cs.take (m*s)))) K):OpOk P op ty env ro own K :=
 ⟨fun g hg=>h.run g (hg.shrink hm)⟩
end
end Go.E
namespace Go.E
open Go
section
variable {P:Program}{T:TT} [hT:TTab P T] {ty:TypeId}{env:Env}{ro:Ro}{own:Chs}{K:Value→Ro→Chs→Prop}
theorem OpOk.storePart {t:TypeId}{x y:Operand}{b o:Nat}{vs:List Value}{t0:TypeId}{cs cs':List Value}{f:Chunk→Chs}{z:Nat} (hx:ev env x=some (.pointer (some ⟨b,o,none⟩))) (hy:ev env y=some (.agg vs.toArray)) (ht:rowT T t=some z) (hz:vs.length=z) (h1:vs.all (fun u=>u.oneCell')=true)
  [hb:HasBlk own b t0 cs f] (hc:o+z≤cs.length) (he:Nf (splice cs o vs) cs') (hk:K undef ro (f (.blk b t0 cs'))):OpOk P (.store t x y) ty env ro own K :=
 ⟨fun h hsat d pos af g=>by
  have he:=he.eq
  subst he
  obtain ⟨r,p1,p2⟩:=(hb.repl (.blk b t0 (splice cs o vs))).perm
  have hsat:=hsat.perm p1
  refine (Eff.storeN0 hx hy ((rsz ht).trans (by simp [Value.cells,hz])) (by simpa [Value.cells] using List.all_eq_true.1 h1) hsat.cons.1 (by simp [Value.cells];omega)).mono ?_
  rintro _ h' ⟨rfl,g1,g2,g3⟩
  have g2':Row h' b t0 (splice cs o vs):=by simpa [Value.cells] using g2
  exact ⟨ro,_,Le.refl _,(hsat.put (c':=.blk b t0 (splice cs o vs)) (fun k _ hk=>g3 k (by simpa [Chunk.fp] using hk)) g2' (fun k hk=>.inl hk) (by simp [Chunk.fp])).perm p2.symm,hk⟩⟩
theorem LdN.slRow {a:Option Addr}{n c s k z:Nat}{t:TypeId}{cs vs:List Value}{f:Chunk→Chs} [hb:HasSl own a n c t s cs f] (hd:(cs.drop k).take z=vs):LdN ro own (ab a) (ao a+k) vs:=hd▸LdN.hasSl
theorem Wk.outE {K:Value→Ro→Chs→Prop}{v u:Value}{env:Env}{ro:Ro}{own own1 own':Chs} (hs:Sup own own1) (hp:own1.Perm own') (h:K u ro own') (e:u=v):Wk (fun _ ro own=>K v ro own) env ro own:=by subst e;exact Wk.outS hs hp h
end
end Go.E
namespace Go.E
open Go
section
variable {P:Program}{T:TT} [hT:TTab P T] {ty:TypeId}{env:Env}{ro:Ro}{own:Chs}{K:Value→Ro→Chs→Prop}
end
end Go.E
end
section
namespace Go.Proofs.YtficlekgjbnniaaGreatDoor
open Go Go.E
def setsV (l:List SetD):List Value:=l.flatMap setV
theorem setsV_len (l:List SetD):(setsV l).length=l.length*4:=by
 induction l with
 | nil=>rfl
 | cons s l ih=>simp [setsV,setV] at ih ⊢;omega
theorem setsV_drop:∀ (l:List SetD) (i:Nat) (s:SetD),l[i]?=some s→((setsV l).drop (i*4)).take 4=setV s
 | [],i,s,h=>by simp at h
 | x::l,0,s,h=>by simp at h;subst h;rfl
 | x::l,i+1,s,h=>by
   rw [show (i+1)*4=4+i*4 by omega]
   show List.take 4 (List.drop (4+i*4) (setV x++setsV l))=_
   rw [←List.drop_drop,List.drop_left' (by rfl)]
   exact setsV_drop l i s (by simpa using h)
theorem setsV_snoc (l:List SetD) (s:SetD):setsV (l++[s])=setsV l++setV s:=by simp [setsV]
theorem flat_set (s:SetD):flat [.agg (setV s).toArray]=setV s:=rfl
def SetD.firstIs (s:SetD) (c:Nat):Bool:=(List.range 256).find? s.has == some c
def sortD (l:List SetD):List SetD:=(List.range 256).flatMap fun c=>l.filter fun s=>s.firstIs c
theorem firstIs_none {c:Nat}:SetD.firstIs ⟨0,0,0,0⟩ c=false:=by
 have:(List.range 256).find? (SetD.has ⟨0,0,0,0⟩)=none:=by
  rw [List.find?_eq_none];intro x _;rw [SetD.has_zero];simp
 unfold SetD.firstIs;rw [this];rfl
theorem firstIs_some {s:SetD}{c d:Nat} (hc:c<256) (h1:s.has c=true) (h2:∀ j,j<c→s.has j=false):s.firstIs d=decide (c=d):=by
 have:(List.range 256).find? s.has=some c:=by
  rw [List.find?_range_eq_some]
  exact ⟨h1,List.mem_range.2 hc,fun j hj=>by rw [h2 j hj];rfl⟩
 unfold SetD.firstIs;rw [this]
 by_cases h:c=d<;>simp [h]
section
variable {ro:Ro}{own r:Chs}{K:Value→Ro→Chs→Prop}{g:Chunk→Chs}
set_option maxHeartbeats 1000000 in
theorem sorted_ok {l:List SetD}{a:Option Addr}{cap:Nat} (ht:TabOk ro) (hs:∀ s∈l,SetIn s) (hl:l.length≤1000) (hr:Rds ro own a l.length cap 4 (setsV l))
  (hk:∀ a' c',(sortD l).length≤c'→c'≤maxLen→K (.slice a' (sortD l).length c') ro (.sl a' (sortD l).length c' 40 4 (setsV (sortD l))::own)):CallOk Tryz.prog 76 #[.slice a l.length cap] ro own K:=by
 refine CallOk.intro (args:=[_]) (rs:=[_]) T_ok Tryz.func76 Tryz.call76 rfl rfl (by kernel_rfl) rfl rfl ?_
 repeat (first|exact zE|refine wkT ?_|refine zB (fun b=>?_)|refine zC (fun a' c' hc1 hc2=>?_)|(apply GJ.a;exact rfl;intro hg)|(apply GJ.o;exact rfl;intro hg))
 refine LoopOk.at (ι:=Nat × List SetD × Option Addr × Nat) Keep.z (fun (c,o,a1,c1)=>[(9,.int .i64 (c:Int)),(3,.slice a1 o.length c1)]) (fun (c,o,a1,c1)=>.sl a1 o.length c1 40 4 (setsV o)::own) (fun (c,o,a1,c1)=>c≤256∧o.length≤1000*c∧o.length≤c1∧c1≤maxLen∧o=(List.range c).flatMap fun c=>l.filter fun s=>s.firstIs c) (fun (c,o,a1,c1)=>256-c) (0,[],none,0) ?_ Sub.z Sup.z ?_
 ·exact ⟨by omega,by simp,by simp,Nat.zero_le _,rfl⟩
 rintro ⟨c,o,a1,c1⟩ ⟨i1,i2,i3,i4,i5⟩
 dsimp only [List.cons_append,List.nil_append] at i1 i2 i3 i4 i5 ⊢
 repeat (first|exact zE|refine wkT ?_|refine zB (fun b=>?_)|refine zC (fun a' c' hc1 hc2=>?_)|(apply GJ.a;exact rfl;intro hg)|(apply GJ.o;exact rfl;intro hg))
 refine Br.cases (fun hg=>?_) (fun hg=>?_)
 ·repeat (first|exact zE|refine wkT ?_|refine zB (fun b=>?_)|refine zC (fun a' c' hc1 hc2=>?_)|(apply GJ.a;exact rfl;intro hg)|(apply GJ.o;exact rfl;intro hg))
  refine LoopOk.at (ι:=Nat × List SetD × Option Addr × Nat) Keep.z (fun (j,o,a1,c1)=>[(14,.int .i64 (j:Int)),(3,.slice a1 o.length c1)]) (fun (j,o,a1,c1)=>.sl a1 o.length c1 40 4 (setsV o)::own) (fun (j,o2,a1,c1)=>j≤l.length∧o2.length≤1000*c+j∧o2.length≤c1∧c1≤maxLen∧o2=o++(l.take j).filter fun s=>s.firstIs c) (fun (j,o,a1,c1)=>l.length-j) (0,o,a1,c1) ?_ Sub.z Sup.z ?_
  ·exact ⟨by omega,by omega,i3,i4,by simp⟩
  rintro ⟨j,o2,a1,c1⟩ ⟨j1,j2,j3,j4,j5⟩
  dsimp only [List.cons_append,List.nil_append] at j1 j2 j3 j4 j5 ⊢
  repeat (first|exact zE|refine wkT ?_|refine zB (fun b=>?_)|refine zC (fun a' c' hc1 hc2=>?_)|(apply GJ.a;exact rfl;intro hg)|(apply GJ.o;exact rfl;intro hg))
  refine Br.cases (fun hg2=>?_) (fun hg2=>?_)
  ·obtain ⟨s,hsj⟩:∃ s,l[j]?=some s:=⟨_,List.getElem?_eq_getElem (by omega)⟩
   have hsi:=hs s (List.mem_of_getElem? hsj)
   have htk:l.take (j+1)=l.take j++[s]:=by rw [List.take_add_one,hsj];rfl
   repeat (first|exact zE|refine wkT ?_|refine zB (fun b=>?_)|refine zC (fun a' c' hc1 hc2=>?_)|(apply GJ.a;exact rfl;intro hg)|(apply GJ.o;exact rfl;intro hg))
   refine SeqOk.pass ?_
   repeat (first|exact zE|refine wkT ?_|refine zB (fun b=>?_)|refine zC (fun a' c' hc1 hc2=>?_)|(apply GJ.a;exact rfl;intro hg)|(apply GJ.o;exact rfl;intro hg))
   refine OpOk.loadRow rfl rfl (LdN.atR hr (setsV_drop _ _ _ hsj) (by omega)) rfl ?_
   repeat (first|exact zE|refine wkT ?_|refine zB (fun b=>?_)|refine zC (fun a' c' hc1 hc2=>?_)|(apply GJ.a;exact rfl;intro hg)|(apply GJ.o;exact rfl;intro hg))
   refine first_ok ht hsi (fun h0=>?_) (fun d hd h1 h2=>?_)
   ·have hf:s.firstIs c=false:=by subst h0;exact firstIs_none
    repeat (first|exact zE|refine wkT ?_|refine zB (fun b=>?_)|refine zC (fun a' c' hc1 hc2=>?_)|(apply GJ.a;exact rfl;intro hg)|(apply GJ.o;exact rfl;intro hg))
    refine Wk.id ⟨(j+1,o2,a1,c1),⟨rfl,?_⟩,?_,Sub.z,Sup.z⟩
    all_goals try dsimp only
    ·refine ⟨by omega,by omega,j3,j4,?_⟩
     rw [j5,htk,List.filter_append];simp [hf]
    ·omega
   ·have hf:=firstIs_some (d:=c) hd h1 h2
    by_cases hdc:d=c
    ·subst hdc
     rw [decide_eq_true rfl] at hf
     repeat (first|exact zE|refine wkT ?_|refine zB (fun b=>?_)|refine zC (fun a' c' hc1 hc2=>?_)|(apply GJ.a;exact rfl;intro hg)|(apply GJ.o;exact rfl;intro hg))
     rw [show o2.length+1=(o2++[s]).length by simp] at hc1 ⊢
     rw [flat_set,←setsV_snoc]
     repeat (first|exact zE|refine wkT ?_|refine zB (fun b=>?_)|refine zC (fun a' c' hc1 hc2=>?_)|(apply GJ.a;exact rfl;intro hg)|(apply GJ.o;exact rfl;intro hg))
     refine Wk.id ⟨(j+1,o2++[s],a',c'),⟨rfl,?_⟩,?_,Sub.z,Sup.z⟩
     all_goals try dsimp only
     ·refine ⟨by omega,by simp;omega,hc1,hc2,?_⟩
      rw [j5,htk,List.filter_append];simp [hf]
     ·omega
    ·rw [decide_eq_false hdc] at hf
     repeat (first|exact zE|refine wkT ?_|refine zB (fun b=>?_)|refine zC (fun a' c' hc1 hc2=>?_)|(apply GJ.a;exact rfl;intro hg)|(apply GJ.o;exact rfl;intro hg))
     refine Wk.id ⟨(j+1,o2,a1,c1),⟨rfl,?_⟩,?_,Sub.z,Sup.z⟩
     all_goals try dsimp only
     ·refine ⟨by omega,by omega,j3,j4,?_⟩
      rw [j5,htk,List.filter_append];simp [hf]
     ·omega
  ·obtain rfl:j=l.length:=by omega
   rw [List.take_length] at j5
   repeat (first|exact zE|refine wkT ?_|refine zB (fun b=>?_)|refine zC (fun a' c' hc1 hc2=>?_)|(apply GJ.a;exact rfl;intro hg)|(apply GJ.o;exact rfl;intro hg))
   refine Wk.id ⟨(c+1,o2,a1,c1),⟨rfl,?_⟩,?_,Sub.z,Sup.z⟩
   all_goals try dsimp only
   ·refine ⟨by omega,by omega,j3,j4,?_⟩
    rw [j5,i5,List.range_succ,List.flatMap_append]
    simp
   ·omega
 ·obtain rfl:c=256:=by omega
  have e:o=sortD l:=i5
  subst e
  repeat (first|exact zE|refine wkT ?_|refine zB (fun b=>?_)|refine zC (fun a' c' hc1 hc2=>?_)|(apply GJ.a;exact rfl;intro hg)|(apply GJ.o;exact rfl;intro hg))
  exact Wk.outS Sup.z (.refl _) (hk _ _ i3 i4)
def cutD (s p:SetD):List SetD:=[p.and s,p.and s.not].filter fun q=>q != ⟨0,0,0,0⟩
def splitD (l:List SetD):List SetD:=sortD (l.foldl (fun o s=>o.flatMap (cutD s)) [allD])
end
theorem SetD.has_and (s t:SetD) (c:Nat):(s.and t).has c=(s.has c&&t.has c):=by
 unfold SetD.has;rw [SetD.w_and,Nat.testBit_and]
theorem SetD.has_or (s t:SetD) (c:Nat):(s.or t).has c=(s.has c||t.has c):=by
 unfold SetD.has;rw [SetD.w_or,Nat.testBit_or]
theorem SetD.has_not {s:SetD} (hs:SetIn s) (c:Nat):s.not.has c=!s.has c:=by
 unfold SetD.has
 rw [SetD.w_not,show (18446744073709551615:Nat)-s.w (c / 64)=2 ^ 64-(s.w (c / 64)+1) by omega,Nat.testBit_two_pow_sub_succ (hs _)]
 have:c % 64<64:=by omega
 simp [this]
theorem SetIn.and {s t:SetD} (hs:SetIn s):SetIn (s.and t):=fun k=>by
 rw [SetD.w_and];exact Nat.lt_of_le_of_lt Nat.and_le_left (hs k)
theorem SetIn.or {s t:SetD} (hs:SetIn s) (ht:SetIn t):SetIn (s.or t):=fun k=>by
 rw [SetD.w_or];exact Nat.or_lt_two_pow (n:=64) (hs k) (ht k)
theorem SetIn.not (s:SetD):SetIn s.not:=fun k=>by rw [SetD.w_not];omega
theorem SetIn.all:SetIn allD:=fun k=>by unfold SetD.w allD;dsimp only;split;decide;split;decide;split<;>decide
theorem SetD.has_all (c:Nat):allD.has c=true:=by
 have:allD=SetD.not ⟨0,0,0,0⟩:=rfl
 rw [this,SetD.has_not SetIn.zero,SetD.has_zero];rfl
theorem SetD.ext {s t:SetD} (hs:SetIn s) (ht:SetIn t) (h:∀ c,c<256→s.has c=t.has c):s=t:=by
 refine SetD.ext4 fun k hk=>?_
 apply Nat.eq_of_testBit_eq
 intro i
 rcases Nat.lt_or_ge i 64 with hi|hi
 ·have:=h (64*k+i) (by omega)
  unfold SetD.has at this
  rwa [show (64*k+i) / 64=k by omega,show (64*k+i) % 64=i by omega] at this
 ·have e:∀ w:Nat,w<18446744073709551616→w.testBit i=false:=fun w hw=>Nat.testBit_lt_two_pow (Nat.lt_of_lt_of_le hw (show 2 ^ 64≤2 ^ i from Nat.pow_le_pow_right (by decide) hi))
  rw [e _ (hs k),e _ (ht k)]
theorem pc_count:∀ (n x:Nat),pc n x=(List.range n).countP x.testBit
 | 0,x=>rfl
 | n+1,x=>by
   rw [List.range_succ_eq_map,List.countP_cons,List.countP_map,pc,pc_count n (x / 2)]
   have e:(x.testBit ∘ Nat.succ)=(x / 2).testBit:=by
    funext i;exact Nat.testBit_succ x i
   rw [e,Nat.testBit_zero]
   by_cases h:x % 2=1
   ·simp [h];omega
   ·have h0:x % 2=0:=by omega
    simp [h0]
theorem range256:List.range 256=List.range 64++((List.range 64).map (64+·)++((List.range 64).map (128+·)++(List.range 64).map (192+·))):=by decide +kernel
theorem SetD.len_count (s:SetD):s.len=(List.range 256).countP s.has:=by
 have k:∀ (b:Nat) (w:Nat),(∀ i,i<64→s.has (b+i)=w.testBit i)→((List.range 64).map (b+·)).countP s.has=pc 64 w:=fun b w h=>by
  rw [List.countP_map,pc_count]
  exact List.countP_congr fun i hi=>by
   have:=h i (List.mem_range.1 hi)
   simp only [Function.comp_apply]
   rw [this]
 rw [range256,List.countP_append,List.countP_append,List.countP_append]
 have k0:=k 0 s.a (fun i hi=>by unfold SetD.has;rw [show (0+i) / 64=0 by omega,show (0+i) % 64=i by omega];rfl)
 have k1:=k 64 s.b (fun i hi=>by unfold SetD.has;rw [show (64+i) / 64=1 by omega,show (64+i) % 64=i by omega];rfl)
 have k2:=k 128 s.c (fun i hi=>by unfold SetD.has;rw [show (128+i) / 64=2 by omega,show (128+i) % 64=i by omega];rfl)
 have k3:=k 192 s.d (fun i hi=>by unfold SetD.has;rw [show (192+i) / 64=3 by omega,show (192+i) % 64=i by omega];rfl)
 have e0:(List.range 64).map (0+·)=List.range 64:=by simp
 rw [e0] at k0
 rw [k0,k1,k2,k3,SetD.len]
 omega
theorem countP_split {α:Type} (a b:α→Bool) (l:List α):l.countP (fun x=>a x&&b x)+l.countP (fun x=>a x&&!b x)=l.countP a:=by
 induction l with
 | nil=>rfl
 | cons x l ih =>
   rw [List.countP_cons,List.countP_cons,List.countP_cons,←ih]
   cases a x<;>cases b x<;>simp<;>omega
theorem len_cut {s p:SetD} (hs:SetIn s):(p.and s).len+(p.and s.not).len=p.len:=by
 rw [SetD.len_count,SetD.len_count,SetD.len_count,←countP_split p.has s.has]
 congr 1
 ·exact List.countP_congr fun c _=>by rw [SetD.has_and]
 ·exact List.countP_congr fun c _=>by rw [SetD.has_and,SetD.has_not hs]
theorem len_zero {s:SetD} (hs:SetIn s) (h:s.len=0):s=⟨0,0,0,0⟩:=by
 refine SetD.ext hs SetIn.zero fun c hc=>?_
 rw [SetD.has_zero]
 rw [SetD.len_count,List.countP_eq_zero] at h
 have:=h c (List.mem_range.2 hc)
 simpa using this
def sumL (l:List SetD):Nat:=(l.map SetD.len).sum
theorem sumL_append (a b:List SetD):sumL (a++b)=sumL a+sumL b:=by simp [sumL]
theorem cutD_sum {s p:SetD} (hs:SetIn s) (hp:SetIn p):sumL (cutD s p)=p.len:=by
 have h:=len_cut (p:=p) hs
 unfold cutD
 have z:SetD.len ⟨0,0,0,0⟩=0:=by decide +kernel
 by_cases h1:p.and s=⟨0,0,0,0⟩<;>by_cases h2:p.and s.not=⟨0,0,0,0⟩<;>simp [h1,h2,sumL]<;>(try rw [h1,z] at h)<;>(try rw [h2,z] at h)<;>omega
theorem cutD_in {s p:SetD} (hp:SetIn p):∀ q∈cutD s p,SetIn q∧q≠⟨0,0,0,0⟩:=fun q hq=>by
 unfold cutD at hq
 obtain ⟨h1,h2⟩:=List.mem_filter.1 hq
 refine ⟨?_,by simpa using h2⟩
 simp at h1
 rcases h1 with rfl|rfl<;>exact hp.and
theorem sumL_ge {l:List SetD} (h:∀ q∈l,SetIn q∧q≠⟨0,0,0,0⟩):l.length≤sumL l:=by
 induction l with
 | nil=>simp
 | cons q l ih =>
   have:=ih fun x hx=>h x (by simp [hx])
   have h1:q.len≠0:=fun e=>(h q (by simp)).2 (len_zero (h q (by simp)).1 e)
   simp [sumL] at this ⊢
   omega
def stepD (o:List SetD) (s:SetD):List SetD:=o.flatMap (cutD s)
theorem splitD_eq (l:List SetD):splitD l=sortD (l.foldl stepD [allD]):=rfl
structure Pieces (o:List SetD):Prop where
 each:∀ q∈o,SetIn q∧q≠⟨0,0,0,0⟩
 sum:sumL o=256
theorem Pieces.len {o:List SetD} (h:Pieces o):o.length≤256:=by have:=sumL_ge h.each;have:=h.sum;omega
theorem Pieces.one:Pieces [allD]:=⟨fun q hq=>by simp at hq;subst hq;exact ⟨SetIn.all,by decide⟩,by decide +kernel⟩
theorem sumL_flat {s:SetD} (hs:SetIn s):∀ {o:List SetD},(∀ q∈o,SetIn q)→sumL (o.flatMap (cutD s))=sumL o
 | [],_=>rfl
 | p::o,h=>by
   rw [List.flatMap_cons,sumL_append,sumL_flat hs (fun q hq=>h q (by simp [hq])),cutD_sum hs (h p (by simp))]
   simp [sumL]
theorem Pieces.step {o:List SetD}{s:SetD} (h:Pieces o) (hs:SetIn s):Pieces (stepD o s):=⟨fun q hq=>by
 obtain ⟨p,hp,hq⟩:=List.mem_flatMap.1 hq
 exact cutD_in (h.each p hp).1 q hq,by rw [stepD,sumL_flat hs (fun q hq=>(h.each q hq).1)];exact h.sum⟩
theorem Pieces.part {o:List SetD}{s:SetD}{j:Nat} (h:Pieces o) (hs:SetIn s):((o.take j).flatMap (cutD s)).length≤256:=by
 have h1:=(h.step hs).len
 have h2:stepD o s=(o.take j).flatMap (cutD s)++(o.drop j).flatMap (cutD s):=by rw [stepD,←List.flatMap_append,List.take_append_drop]
 rw [h2,List.length_append] at h1
 omega
section
variable {ro:Ro}{own r:Chs}{K:Value→Ro→Chs→Prop}{g:Chunk→Chs}
set_option maxHeartbeats 2000000 in
theorem split_ok {l:List SetD}{a:Option Addr}{cap:Nat} (ht:TabOk ro) (hs:∀ s∈l,SetIn s) (hl:l.length≤1000) (hr:Rds ro own a l.length cap 4 (setsV l))
  (hk:∀ a' c',(splitD l).length≤c'→c'≤maxLen→K (.slice a' (splitD l).length c') ro (.sl a' (splitD l).length c' 40 4 (setsV (splitD l))::own)):CallOk Tryz.prog 58 #[.slice a l.length cap] ro own K:=by
 refine CallOk.intro (args:=[_]) (rs:=[_]) T_ok Tryz.func58 Tryz.call58 rfl rfl (by kernel_rfl) rfl rfl ?_
 repeat (first|exact zE|refine wkT ?_|refine zB (fun b=>?_)|refine zC (fun a' c' hc1 hc2=>?_)|(apply GJ.a;exact rfl;intro hg)|(apply GJ.o;exact rfl;intro hg))
 refine all_ok ?_
 repeat (first|exact zE|refine wkT ?_|refine zB (fun b=>?_)|refine zC (fun a' c' hc1 hc2=>?_)|(apply GJ.a;exact rfl;intro hg)|(apply GJ.o;exact rfl;intro hg))
 refine LoopOk.at (ι:=Nat × List SetD × Option Addr × Nat) Keep.z (fun (i,o,a1,c1)=>[(15,.int .i64 (i:Int)),(3,.slice a1 o.length c1)]) (fun (i,o,a1,c1)=>.sl a1 o.length c1 40 4 (setsV o)::own) (fun (i,o,a1,c1)=>i≤l.length∧Pieces o∧o.length≤c1∧c1≤maxLen∧o=(l.take i).foldl stepD [allD]) (fun (i,o,a1,c1)=>l.length-i) (0,[allD],some ⟨b,0,none⟩,1) ?_ Sub.z Sup.z ?_
 ·exact ⟨by omega,Pieces.one,by simp,by decide,rfl⟩
 rintro ⟨i,o,a1,c1⟩ ⟨i1,i2,i3,i4,i5⟩
 dsimp only [List.cons_append,List.nil_append] at i1 i2 i3 i4 i5 ⊢
 have hol:=i2.len
 repeat (first|exact zE|refine wkT ?_|refine zB (fun b=>?_)|refine zC (fun a' c' hc1 hc2=>?_)|(apply GJ.a;exact rfl;intro hg)|(apply GJ.o;exact rfl;intro hg))
 refine Br.cases (fun hg=>?_) (fun hg=>?_)
 ·obtain ⟨s,hsj⟩:∃ s,l[i]?=some s:=⟨_,List.getElem?_eq_getElem (by omega)⟩
  have hsi:=hs s (List.mem_of_getElem? hsj)
  have htk:l.take (i+1)=l.take i++[s]:=by rw [List.take_add_one,hsj];rfl
  repeat (first|exact zE|refine wkT ?_|refine zB (fun b=>?_)|refine zC (fun a' c' hc1 hc2=>?_)|(apply GJ.a;exact rfl;intro hg)|(apply GJ.o;exact rfl;intro hg))
  refine OpOk.loadRow rfl rfl (LdN.atR hr (setsV_drop _ _ _ hsj) (by omega)) rfl ?_
  repeat (first|exact zE|refine wkT ?_|refine zB (fun b=>?_)|refine zC (fun a' c' hc1 hc2=>?_)|(apply GJ.a;exact rfl;intro hg)|(apply GJ.o;exact rfl;intro hg))
  obtain ⟨q,hq⟩:∃ q,q=b:=⟨_,rfl⟩
  subst hq
  refine LoopOk.at (ι:=Nat × List SetD × Option Addr × Nat) Keep.z (fun (j,nx,a2,c2)=>[(21,.int .i64 (j:Int)),(6,.slice a2 nx.length c2)]) (fun (j,nx,a2,c2)=>.sl a2 nx.length c2 40 4 (setsV nx)::.blk q 40 (setV s)::.sl a1 o.length c1 40 4 (setsV o)::own) (fun (j,nx,a2,c2)=>j≤o.length∧nx.length≤c2∧c2≤maxLen∧nx=(o.take j).flatMap (cutD s)) (fun (j,nx,a2,c2)=>o.length-j) (0,[],none,0) ?_ Sub.z Sup.z ?_
  ·exact ⟨by omega,by simp,Nat.zero_le _,rfl⟩
  rintro ⟨j,nx,a2,c2⟩ ⟨j1,j2,j3,j4⟩
  dsimp only [List.cons_append,List.nil_append] at j1 j2 j3 j4 ⊢
  have hnl:=i2.part (j:=j) hsi
  rw [←j4] at hnl
  repeat (first|exact zE|refine wkT ?_|refine zB (fun b=>?_)|refine zC (fun a' c' hc1 hc2=>?_)|(apply GJ.a;exact rfl;intro hg)|(apply GJ.o;exact rfl;intro hg))
  refine Br.cases (fun hg2=>?_) (fun hg2=>?_)
  ·obtain ⟨p,hpj⟩:∃ p,o[j]?=some p:=⟨_,List.getElem?_eq_getElem (by omega)⟩
   have hpi:=(i2.each p (List.mem_of_getElem? hpj)).1
   have htk2:o.take (j+1)=o.take j++[p]:=by rw [List.take_add_one,hpj];rfl
   have hro:Rds ro (.sl a2 nx.length c2 40 4 (setsV nx)::.blk q 40 (setV s)::.sl a1 o.length c1 40 4 (setsV o)::own) a1 o.length c1 4 (setsV o):=Rds.hasSl i3 i4 (setsV_len _)
   repeat (first|exact zE|refine wkT ?_|refine zB (fun b=>?_)|refine zC (fun a' c' hc1 hc2=>?_)|(apply GJ.a;exact rfl;intro hg)|(apply GJ.o;exact rfl;intro hg))
   refine OpOk.loadRow rfl rfl (LdN.atR hro (setsV_drop _ _ _ hpj) (by omega)) rfl ?_
   repeat (first|exact zE|refine wkT ?_|refine zB (fun b=>?_)|refine zC (fun a' c' hc1 hc2=>?_)|(apply GJ.a;exact rfl;intro hg)|(apply GJ.o;exact rfl;intro hg))
   refine Bs.all ?_
   repeat (first|exact zE|refine wkT ?_|refine zB (fun b=>?_)|refine zC (fun a' c' hc1 hc2=>?_)|(apply GJ.a;exact rfl;intro hg)|(apply GJ.o;exact rfl;intro hg))
   refine and_ok hpi hsi ?_
   repeat (first|exact zE|refine wkT ?_|refine zB (fun b=>?_)|refine zC (fun a' c' hc1 hc2=>?_)|(apply GJ.a;exact rfl;intro hg)|(apply GJ.o;exact rfl;intro hg))
   refine not_ok hsi ?_
   repeat (first|exact zE|refine wkT ?_|refine zB (fun b=>?_)|refine zC (fun a' c' hc1 hc2=>?_)|(apply GJ.a;exact rfl;intro hg)|(apply GJ.o;exact rfl;intro hg))
   refine and_ok hpi (SetIn.not s) ?_
   repeat (first|exact zE|refine wkT ?_|refine zB (fun b=>?_)|refine zC (fun a' c' hc1 hc2=>?_)|(apply GJ.a;exact rfl;intro hg)|(apply GJ.o;exact rfl;intro hg))
   refine QOk.buildK (ps:=[(0,.tmp 27),(1,.tmp 31)]) (setV (p.and s)++setV (p.and s.not)) rfl (by kernel_rfl) ?_
   repeat (first|exact zE|refine wkT ?_|refine zB (fun b=>?_)|refine zC (fun a' c' hc1 hc2=>?_)|(apply GJ.a;exact rfl;intro hg)|(apply GJ.o;exact rfl;intro hg))
   refine LoopOk.at (ι:=Nat × List SetD × Option Addr × Nat) Keep.z (fun (k,nx,a2,c2)=>[(33,.int .i64 (k:Int)),(6,.slice a2 nx.length c2)]) (fun (k,nx,a2,c2)=>.sl a2 nx.length c2 40 4 (setsV nx)::.blk q 40 (setV s)::.sl a1 o.length c1 40 4 (setsV o)::own) (fun (k,nx2,a2,c2)=>k≤2∧nx2.length≤256+k∧nx2.length≤c2∧c2≤maxLen∧nx2=nx++([p.and s,p.and s.not].take k).filter fun z=>z != ⟨0,0,0,0⟩) (fun (k,nx,a2,c2)=>2-k) (0,nx,a2,c2) ?_ Sub.z Sup.z ?_
   ·exact ⟨by omega,by omega,j2,j3,by simp⟩
   rintro ⟨k,nx2,a3,c3⟩ ⟨k1,k2,k3,k4,k5⟩
   dsimp only [List.cons_append,List.nil_append] at k1 k2 k3 k4 k5 ⊢
   repeat (first|exact zE|refine wkT ?_|refine zB (fun b=>?_)|refine zC (fun a' c' hc1 hc2=>?_)|(apply GJ.a;exact rfl;intro hg)|(apply GJ.o;exact rfl;intro hg))
   refine Br.cases (fun hg3=>?_) (fun hg3=>?_)
   ·obtain ⟨z,hz,hdz,htz⟩:∃ z,SetIn z∧((setV (p.and s)++setV (p.and s.not)).drop (k*4)).take 4=setV z∧[p.and s,p.and s.not].take (k+1)=[p.and s,p.and s.not].take k++[z]:=by
     have:k=0∨k=1:=by omega
     rcases this with rfl|rfl
     ·exact ⟨p.and s,hpi.and,rfl,rfl⟩
     ·exact ⟨p.and s.not,hpi.and,rfl,rfl⟩
    repeat (first|exact zE|refine wkT ?_|refine zB (fun b=>?_)|refine zC (fun a' c' hc1 hc2=>?_)|(apply GJ.a;exact rfl;intro hg)|(apply GJ.o;exact rfl;intro hg))
    refine SeqOk.pass ?_
    repeat (first|exact zE|refine wkT ?_|refine zB (fun b=>?_)|refine zC (fun a' c' hc1 hc2=>?_)|(apply GJ.a;exact rfl;intro hg)|(apply GJ.o;exact rfl;intro hg))
    refine OpOk.indexRow (k:=k) (e:=40) (n:=2) (z:=4) rfl rfl (by kernel_rfl) (.inr ⟨4,22,by kernel_rfl⟩) (by kernel_rfl) rfl (by omega) hdz ?_
    repeat (first|exact zE|refine wkT ?_|refine zB (fun b=>?_)|refine zC (fun a' c' hc1 hc2=>?_)|(apply GJ.a;exact rfl;intro hg)|(apply GJ.o;exact rfl;intro hg))
    refine empty_ok ?_
    repeat (first|exact zE|refine wkT ?_|refine zB (fun b=>?_)|refine zC (fun a' c' hc1 hc2=>?_)|(apply GJ.a;exact rfl;intro hg)|(apply GJ.o;exact rfl;intro hg))
    refine Br.cases (fun he=>?_) (fun he=>?_)
    ·repeat (first|exact zE|refine wkT ?_|refine zB (fun b=>?_)|refine zC (fun a' c' hc1 hc2=>?_)|(apply GJ.a;exact rfl;intro hg)|(apply GJ.o;exact rfl;intro hg))
     rw [show nx2.length+1=(nx2++[z]).length by simp] at hc1 ⊢
     rw [flat_set,←setsV_snoc]
     repeat (first|exact zE|refine wkT ?_|refine zB (fun b=>?_)|refine zC (fun a' c' hc1 hc2=>?_)|(apply GJ.a;exact rfl;intro hg)|(apply GJ.o;exact rfl;intro hg))
     refine Wk.id ⟨(k+1,nx2++[z],a',c'),⟨rfl,?_⟩,?_,Sub.z,Sup.z⟩
     all_goals try dsimp only
     ·refine ⟨by omega,by simp;omega,hc1,hc2,?_⟩
      have hf:[z].filter (fun z=>z != ⟨0,0,0,0⟩)=[z]:=by
       by_cases hzz:z=⟨0,0,0,0⟩
       ·exact absurd hzz (by first|exact he|simpa using he)
       ·simp [hzz]
      rw [k5,htz,List.filter_append,hf,List.append_assoc]
     ·omega
    ·repeat (first|exact zE|refine wkT ?_|refine zB (fun b=>?_)|refine zC (fun a' c' hc1 hc2=>?_)|(apply GJ.a;exact rfl;intro hg)|(apply GJ.o;exact rfl;intro hg))
     refine Wk.id ⟨(k+1,nx2,a3,c3),⟨rfl,?_⟩,?_,Sub.z,Sup.z⟩
     all_goals try dsimp only
     ·refine ⟨by omega,by omega,k3,k4,?_⟩
      have hf:[z].filter (fun z=>z != ⟨0,0,0,0⟩)=[]:=by
       by_cases hzz:z=⟨0,0,0,0⟩
       ·simp [hzz]
       ·exact absurd hzz (by first|exact he|simpa using he)
      rw [k5,htz,List.filter_append,hf,List.append_nil]
     ·omega
   ·obtain rfl:k=2:=by omega
    have e:nx2=nx++cutD s p:=k5
    repeat (first|exact zE|refine wkT ?_|refine zB (fun b=>?_)|refine zC (fun a' c' hc1 hc2=>?_)|(apply GJ.a;exact rfl;intro hg)|(apply GJ.o;exact rfl;intro hg))
    refine Wk.id ⟨(j+1,nx2,a3,c3),⟨rfl,?_⟩,?_,Sub.z,Sup.z⟩
    all_goals try dsimp only
    ·refine ⟨by omega,k3,k4,?_⟩
     rw [e,j4,htk2,List.flatMap_append]
     simp
    ·omega
  ·obtain rfl:j=o.length:=by omega
   rw [List.take_length] at j4
   repeat (first|exact zE|refine wkT ?_|refine zB (fun b=>?_)|refine zC (fun a' c' hc1 hc2=>?_)|(apply GJ.a;exact rfl;intro hg)|(apply GJ.o;exact rfl;intro hg))
   refine Wk.id ⟨(i+1,nx,a2,c2),⟨rfl,?_⟩,?_,Sub.z,Sup.z⟩
   all_goals try dsimp only
   ·exact ⟨by omega,by rw [j4];exact i2.step hsi,j2,j3,by rw [htk,List.foldl_append,←i5,j4];rfl⟩
   ·omega
 ·obtain rfl:i=l.length:=by omega
  rw [List.take_length] at i5
  repeat (first|exact zE|refine wkT ?_|refine zB (fun b=>?_)|refine zC (fun a' c' hc1 hc2=>?_)|(apply GJ.a;exact rfl;intro hg)|(apply GJ.o;exact rfl;intro hg))
  refine sorted_ok (l:=o) ht (fun q hq=>(i2.each q hq).1) (by omega) (Rds.hasSl i3 i4 (setsV_len _)) (fun a2 c2 h1 h2=>?_)
  have e:sortD o=splitD l:=by rw [splitD_eq,←i5]
  rw [e] at h1 ⊢
  repeat (first|exact zE|refine wkT ?_|refine zB (fun b=>?_)|refine zC (fun a' c' hc1 hc2=>?_)|(apply GJ.a;exact rfl;intro hg)|(apply GJ.o;exact rfl;intro hg))
  exact Wk.outS Sup.z (.refl _) (hk _ _ h1 h2)
end
end Go.Proofs.YtficlekgjbnniaaGreatDoor
end
