/- Texts of a walk, one behind the other. -/
import Derived.Test.YtmaennnkaoollaaGreatDoorProg
import Derived.KernelRfl
import Derived.Lib.MakeNoZero
import Derived.Laws.CopyOwn
import Derived.RangeFuncRecord
import Derived.Below
import Derived.Test.YtmaennnkaoollaaGreatDoorMg2
set_option linter.unusedVariables false
set_option linter.unusedSimpArgs false
set_option linter.unusedSectionVars false
set_option maxRecDepth 10000
section
namespace Go.Proofs.YtmaennnkaoollaaGreatDoor
open Go Go.E
def T:TT:=[
 (2,⟨ .int .i64,1,[.int .i64 0]⟩),
 (3,⟨ .int .i64,1,[.int .i64 0]⟩),
 (4,⟨ .bool,1,[.bool false]⟩),
 (5,⟨ .int .u8,1,[.int .u8 0]⟩),
 (9,⟨ .str,1,[str []]⟩),
 (12,⟨ .int .u64,1,[.int .u64 0]⟩),
 (13,⟨ .struct [(9,0,1),(12,1,1)],2,[str [],.int .u64 0]⟩),
 (15,⟨ .ptr 218,1,[.pointer none]⟩),
 (16,⟨ .ptr 221,1,[.pointer none]⟩),
 (19,⟨ .struct [(17,0,1)],1,[.pointer none]⟩),
 (21,⟨ .int .i32,1,[.int .i32 0]⟩),
 (22,⟨ .int .u64,1,[.int .u64 0]⟩),
 (23,⟨ .arr 4 22,4,[.int .u64 0,.int .u64 0,.int .u64 0,.int .u64 0]⟩),
 (24,⟨ .slice 26,1,[.slice none 0 0]⟩),
 (25,⟨ .struct [(3,0,1),(23,1,4),(24,5,1),(3,6,1),(3,7,1)],8,[.int .i64 0,.int .u64 0,.int .u64 0,.int .u64 0,.int .u64 0,.slice none 0 0,.int .i64 0,.int .i64 0]⟩),
 (26,⟨ .struct [(3,0,1),(23,1,4),(24,5,1),(3,6,1),(3,7,1)],8,[.int .i64 0,.int .u64 0,.int .u64 0,.int .u64 0,.int .u64 0,.slice none 0 0,.int .i64 0,.int .i64 0]⟩),
 (27,⟨ .slice 37,1,[.slice none 0 0]⟩),
 (28,⟨ .int .i64,1,[.int .i64 0]⟩),
 (29,⟨ .struct [(28,0,1),(3,1,1)],2,[.int .i64 0,.int .i64 0]⟩),
 (30,⟨ .struct [(28,0,1),(3,1,1)],2,[.int .i64 0,.int .i64 0]⟩),
 (36,⟨ .struct [(3,0,1),(3,1,1),(9,2,1)],3,[.int .i64 0,.int .i64 0,str []]⟩),
 (37,⟨ .struct [(3,0,1),(3,1,1),(9,2,1)],3,[.int .i64 0,.int .i64 0,str []]⟩),
 (40,⟨ .ptr 83,1,[.pointer none]⟩),
 (44,⟨ .slice 5,1,[.slice none 0 0]⟩),
 (53,⟨ .ptr 55,1,[.pointer none]⟩),
 (54,⟨ .struct [(9,0,1),(3,1,1),(27,2,1)],3,[str [],.int .i64 0,.slice none 0 0]⟩),
 (55,⟨ .struct [(9,0,1),(3,1,1),(27,2,1)],3,[str [],.int .i64 0,.slice none 0 0]⟩),
 (59,⟨ .ptr 3,1,[.pointer none]⟩),
 (60,⟨ .ptr 62,1,[.pointer none]⟩),
 (61,⟨ .struct [(60,0,1),(44,1,1)],2,[.pointer none,.slice none 0 0]⟩),
 (62,⟨ .struct [(60,0,1),(44,1,1)],2,[.pointer none,.slice none 0 0]⟩),
 (66,⟨ .ptr 68,1,[.pointer none]⟩),
 (67,⟨ .struct [(9,0,1),(3,1,1),(3,2,1),(30,3,2)],5,[str [],.int .i64 0,.int .i64 0,.int .i64 0,.int .i64 0]⟩),
 (68,⟨ .struct [(9,0,1),(3,1,1),(3,2,1),(30,3,2)],5,[str [],.int .i64 0,.int .i64 0,.int .i64 0,.int .i64 0]⟩),
 (72,⟨ .slice 146,1,[.slice none 0 0]⟩),
 (73,⟨ .struct [(72,0,1),(3,1,1)],2,[.slice none 0 0,.int .i64 0]⟩),
 (74,⟨ .struct [(72,0,1),(3,1,1)],2,[.slice none 0 0,.int .i64 0]⟩),
 (79,⟨ .arr 256 5,256,List.replicate 256 (.int .u8 0)⟩),
 (80,⟨ .slice 84,1,[.slice none 0 0]⟩),
 (81,⟨ .slice 4,1,[.slice none 0 0]⟩),
 (82,⟨ .struct [(79,0,256),(80,256,1),(81,257,1)],258,List.replicate 256 (.int .u8 0)++[.slice none 0 0,.slice none 0 0]⟩),
 (83,⟨ .struct [(79,0,256),(80,256,1),(81,257,1)],258,List.replicate 256 (.int .u8 0)++[.slice none 0 0,.slice none 0 0]⟩),
 (84,⟨ .slice 3,1,[.slice none 0 0]⟩),
 (95,⟨ .slice 9,1,[.slice none 0 0]⟩),
 (104,⟨ .ptr 5,1,[.pointer none]⟩),
 (106,⟨ .ptr 108,1,[.pointer none]⟩),
 (107,⟨ .struct [(74,0,2),(4,2,1)],3,[.slice none 0 0,.int .i64 0,.bool false]⟩),
 (108,⟨ .struct [(74,0,2),(4,2,1)],3,[.slice none 0 0,.int .i64 0,.bool false]⟩),
 (110,⟨ .slice 113,1,[.slice none 0 0]⟩),
 (113,⟨ .arr 4 22,4,[.int .u64 0,.int .u64 0,.int .u64 0,.int .u64 0]⟩),
 (117,⟨ .map 9 3,1,[.map none]⟩),
 (123,⟨ .map 3 3,1,[.map none]⟩),
 (126,⟨ .struct [(3,0,1),(3,1,1)],2,[.int .i64 0,.int .i64 0]⟩),
 (127,⟨ .struct [(3,0,1),(3,1,1)],2,[.int .i64 0,.int .i64 0]⟩),
 (128,⟨ .slice 127,1,[.slice none 0 0]⟩),
 (129,⟨ .map 127 3,1,[.map none]⟩),
 (137,⟨ .int .u64,1,[.int .u64 0]⟩),
 (140,⟨ .struct [(3,0,1),(113,1,4),(4,5,1)],6,[.int .i64 0,.int .u64 0,.int .u64 0,.int .u64 0,.int .u64 0,.bool false]⟩),
 (141,⟨ .struct [(3,0,1),(113,1,4),(4,5,1)],6,[.int .i64 0,.int .u64 0,.int .u64 0,.int .u64 0,.int .u64 0,.bool false]⟩),
 (143,⟨ .arr 2 113,8,[.int .u64 0,.int .u64 0,.int .u64 0,.int .u64 0,.int .u64 0,.int .u64 0,.int .u64 0,.int .u64 0]⟩),
 (145,⟨ .map 113 4,1,[.map none]⟩),
 (146,⟨ .slice 141,1,[.slice none 0 0]⟩),
 (151,⟨ .map 9 5,1,[.map none]⟩),
 (152,⟨ .map 153 5,1,[.map none]⟩),
 (153,⟨ .arr 2 5,2,[.int .u8 0,.int .u8 0]⟩),
 (154,⟨ .slice 156,1,[.slice none 0 0]⟩),
 (155,⟨ .struct [(3,0,1),(3,1,1)],2,[.int .i64 0,.int .i64 0]⟩),
 (156,⟨ .struct [(3,0,1),(3,1,1)],2,[.int .i64 0,.int .i64 0]⟩),
 (157,⟨ .int .u32,1,[.int .u32 0]⟩),
 (159,⟨ .ptr 175,1,[.pointer none]⟩),
 (162,⟨ .arr 20 5,20,[.int .u8 0,.int .u8 0,.int .u8 0,.int .u8 0,.int .u8 0,.int .u8 0,.int .u8 0,.int .u8 0,.int .u8 0,.int .u8 0,.int .u8 0,.int .u8 0,.int .u8 0,.int .u8 0,.int .u8 0,.int .u8 0,.int .u8 0,.int .u8 0,.int .u8 0,.int .u8 0]⟩),
 (169,⟨ .arr 64 5,64,List.replicate 64 (.int .u8 0)⟩),
 (172,⟨ .slice 178,1,[.slice none 0 0]⟩),
 (173,⟨ .slice 181,1,[.slice none 0 0]⟩),
 (174,⟨ .struct [(172,0,1),(173,1,1),(3,2,1)],3,[.slice none 0 0,.slice none 0 0,.int .i64 0]⟩),
 (175,⟨ .struct [(172,0,1),(173,1,1),(3,2,1)],3,[.slice none 0 0,.slice none 0 0,.int .i64 0]⟩),
 (176,⟨ .int .u16,1,[.int .u16 0]⟩),
 (177,⟨ .struct [(176,0,1),(176,1,1),(176,2,1)],3,[.int .u16 0,.int .u16 0,.int .u16 0]⟩),
 (178,⟨ .struct [(176,0,1),(176,1,1),(176,2,1)],3,[.int .u16 0,.int .u16 0,.int .u16 0]⟩),
 (180,⟨ .struct [(157,0,1),(157,1,1),(157,2,1)],3,[.int .u32 0,.int .u32 0,.int .u32 0]⟩),
 (181,⟨ .struct [(157,0,1),(157,1,1),(157,2,1)],3,[.int .u32 0,.int .u32 0,.int .u32 0]⟩),
 (188,⟨ .ptr 178,1,[.pointer none]⟩),
 (189,⟨ .ptr 181,1,[.pointer none]⟩),
 (197,⟨ .int .i64,1,[.int .i64 0]⟩),
 (206,⟨ .int .u64,1,[.int .u64 0]⟩),
 (212,⟨ .ptr 206,1,[.pointer none]⟩),
 (219,⟨ .arr 0 16,0,[]⟩),
 (220,⟨ .struct [(219,0,0)],0,[]⟩)]
set_option maxRecDepth 100000 in
theorem T_ok:TOk Tryz.prog T:=by
 repeat (first|exact trivial|refine ⟨by kernel_rfl,?_⟩)
instance T_tab:TTab Tryz.prog T:=⟨T_ok⟩
section
variable {ro:Ro}{own r:Chs}{K:Value→Ro→Chs→Prop}{g:Chunk→Chs}
theorem zHu {b:Nat}{q:Option Addr}{v:Value} (hq:q=none∨q=some ⟨b,0,none⟩) (hk:K (.tuple #[]) ro (.blk b 62 [ptr' b,v]::r)):CallOk Tryz.prog 75 #[ptr' b] ro (.blk b 62 [.pointer q,v]::r) K:=by
 rcases hq with rfl|rfl
 ·refine CallOk.intro (args:=[_]) (rs:=[]) T_ok Tryz.func75 Tryz.call75 rfl rfl (by kernel_rfl) rfl rfl ?_
  repeat first|exact zE|refine wkG ?_|refine zB fun b=>?_|refine zC fun a' c' hc1 hc2=>?_|(show GJ _ _ _ _ _ _ _;first|(apply GJ.a;exact rfl;intro hg)|(apply GJ.o;exact rfl;intro hg)|refine GJ.t zO ?_|refine GJ.f zO ?_|refine GJ.ft zO ?_|refine GJ.ff zO ?_)
  refine OpOk.eqlPtrNil rfl rfl (by kernel_rfl) ?_
  repeat first|exact zE|refine wkG ?_|refine zB fun b=>?_|refine zC fun a' c' hc1 hc2=>?_|(show GJ _ _ _ _ _ _ _;first|(apply GJ.a;exact rfl;intro hg)|(apply GJ.o;exact rfl;intro hg)|refine GJ.t zO ?_|refine GJ.f zO ?_|refine GJ.ft zO ?_|refine GJ.ff zO ?_)
  refine OpOk.unsafe (e:=62) (v:=.pointer none) rfl rfl (by kernel_rfl) (by kernel_rfl) (Ld.hasBlk rfl) ?_
  repeat first|exact zE|refine wkG ?_|refine zB fun b=>?_|refine zC fun a' c' hc1 hc2=>?_|(show GJ _ _ _ _ _ _ _;first|(apply GJ.a;exact rfl;intro hg)|(apply GJ.o;exact rfl;intro hg)|refine GJ.t zO ?_|refine GJ.f zO ?_|refine GJ.ft zO ?_|refine GJ.ff zO ?_)
  refine CallOk.ext Tryz.func97 (by kernel_rfl) (by kernel_rfl) (by kernel_rfl) (e:=Extern.AbiNoEscape.same) (by kernel_rfl) (fun w=>rfl) ?_
  repeat first|exact zE|refine wkG ?_|refine zB fun b=>?_|refine zC fun a' c' hc1 hc2=>?_|(show GJ _ _ _ _ _ _ _;first|(apply GJ.a;exact rfl;intro hg)|(apply GJ.o;exact rfl;intro hg)|refine GJ.t zO ?_|refine GJ.f zO ?_|refine GJ.ft zO ?_|refine GJ.ff zO ?_)
  refine OpOk.fromUnsafe (u:=62) rfl (by kernel_rfl) (by kernel_rfl) (by kernel_rfl) (by kernel_rfl) ?_
  repeat first|exact zE|refine wkG ?_|refine zB fun b=>?_|refine zC fun a' c' hc1 hc2=>?_|(show GJ _ _ _ _ _ _ _;first|(apply GJ.a;exact rfl;intro hg)|(apply GJ.o;exact rfl;intro hg)|refine GJ.t zO ?_|refine GJ.f zO ?_|refine GJ.ft zO ?_|refine GJ.ff zO ?_)
  exact Wk.outS Sup.z (.refl _) hk
 ·refine CallOk.intro (args:=[_]) (rs:=[]) T_ok Tryz.func75 Tryz.call75 rfl rfl (by kernel_rfl) rfl rfl ?_
  repeat first|exact zE|refine wkG ?_|refine zB fun b=>?_|refine zC fun a' c' hc1 hc2=>?_|(show GJ _ _ _ _ _ _ _;first|(apply GJ.a;exact rfl;intro hg)|(apply GJ.o;exact rfl;intro hg)|refine GJ.t zO ?_|refine GJ.f zO ?_|refine GJ.ft zO ?_|refine GJ.ff zO ?_)
  refine OpOk.neqPtrSame (te:=62) rfl rfl (by kernel_rfl) (by kernel_rfl) ?_
  repeat first|exact zE|refine wkG ?_|refine zB fun b=>?_|refine zC fun a' c' hc1 hc2=>?_|(show GJ _ _ _ _ _ _ _;first|(apply GJ.a;exact rfl;intro hg)|(apply GJ.o;exact rfl;intro hg)|refine GJ.t zO ?_|refine GJ.f zO ?_|refine GJ.ft zO ?_|refine GJ.ff zO ?_)
  exact Wk.outS Sup.z (.refl _) hk
def BQ (b:Nat) (q:Option Addr):Prop:=q=none∨q=some ⟨b,0,none⟩
theorem zFg {b n c x:Nat}{q a:Option Addr}{l:List UInt8}{u:UInt8} (hq:BQ b q) (hx:x=u.toNat) (hn:n=l.length) (hl:l.length≤100000) (hk:∀ a' c',n+1≤c'→c'≤maxLen→K .nilIface ro (.blk b 62 [ptr' b,.slice a' (n+1) c']::.sl a' (n+1) c' 5 1 ((l++[u]).map u8)::r)) :
  CallOk Tryz.prog 47 #[ptr' b,.int .u8 (x:Int)] ro (.blk b 62 [.pointer q,.slice a n c]::.sl a n c 5 1 (l.map u8)::r) K:=by
 subst hx
 rw [List.map_append] at hk
 refine CallOk.intro (args:=[_,_]) (rs:=[_]) T_ok Tryz.func47 Tryz.call47 rfl rfl (by kernel_rfl) rfl rfl ?_
 repeat first|exact zE|refine wkG ?_|refine zB fun b=>?_|refine zC fun a' c' hc1 hc2=>?_|(show GJ _ _ _ _ _ _ _;first|(apply GJ.a;exact rfl;intro hg)|(apply GJ.o;exact rfl;intro hg)|refine GJ.t zO ?_|refine GJ.f zO ?_|refine GJ.ft zO ?_|refine GJ.ff zO ?_)
 refine zHu hq ?_
 repeat first|exact zE|refine wkG ?_|refine zB fun b=>?_|refine zC fun a' c' hc1 hc2=>?_|(show GJ _ _ _ _ _ _ _;first|(apply GJ.a;exact rfl;intro hg)|(apply GJ.o;exact rfl;intro hg)|refine GJ.t zO ?_|refine GJ.f zO ?_|refine GJ.ft zO ?_|refine GJ.ff zO ?_)
 exact Wk.outS Sup.z (.refl _) (hk a' c' hc1 hc2)
theorem zDp {b n c:Nat}{q a:Option Addr}{l m:List UInt8} (hq:BQ b q) (hn:n=l.length) (hl:l.length≤100000∧m.length≤100000) (hk:∀ a' c',n+m.length≤c'→c'≤maxLen→K (.tuple #[.int .i64 ((m.length:Nat):Int),.nilIface]) ro (.blk b 62 [ptr' b,.slice a' (n+m.length) c']::.sl a' (n+m.length) c' 5 1 ((l++m).map u8)::r)) :
  CallOk Tryz.prog 48 #[ptr' b,str m] ro (.blk b 62 [.pointer q,.slice a n c]::.sl a n c 5 1 (l.map u8)::r) K:=by
 rw [List.map_append] at hk
 refine CallOk.intro (args:=[_,_]) (rs:=[_,_]) T_ok Tryz.func48 Tryz.call48 rfl rfl (by kernel_rfl) rfl rfl ?_
 repeat first|exact zE|refine wkG ?_|refine zB fun b=>?_|refine zC fun a' c' hc1 hc2=>?_|(show GJ _ _ _ _ _ _ _;first|(apply GJ.a;exact rfl;intro hg)|(apply GJ.o;exact rfl;intro hg)|refine GJ.t zO ?_|refine GJ.f zO ?_|refine GJ.ft zO ?_|refine GJ.ff zO ?_)
 refine zHu hq ?_
 repeat first|exact zE|refine wkG ?_|refine zB fun b=>?_|refine zC fun a' c' hc1 hc2=>?_|(show GJ _ _ _ _ _ _ _;first|(apply GJ.a;exact rfl;intro hg)|(apply GJ.o;exact rfl;intro hg)|refine GJ.t zO ?_|refine GJ.f zO ?_|refine GJ.ft zO ?_|refine GJ.ff zO ?_)
 refine OpOk.appendS rfl rfl (by kernel_rfl) (by kernel_rfl) (by kernel_rfl) (by omega) (fun a' c' hc1 hc2=>?_)
 repeat first|exact zE|refine wkG ?_|refine zB fun b=>?_|refine zC fun a' c' hc1 hc2=>?_|(show GJ _ _ _ _ _ _ _;first|(apply GJ.a;exact rfl;intro hg)|(apply GJ.o;exact rfl;intro hg)|refine GJ.t zO ?_|refine GJ.f zO ?_|refine GJ.ft zO ?_|refine GJ.ff zO ?_)
 exact Wk.outS Sup.z (.refl _) (hk a' c' hc1 hc2)
theorem zNR {b n c:Nat}{q a:Option Addr}{l:List UInt8} (hn:n=l.length) (h0:l≠[]) (hnc:n≤c) (hl:l.length≤100000) (hk:K (str l) ro (.blk b 62 [.pointer q,.slice a n c]::r)) :
  CallOk Tryz.prog 20 #[ptr' b] ro (.blk b 62 [.pointer q,.slice a n c]::.sl a n c 5 1 (l.map u8)::r) K:=by
 refine CallOk.intro (args:=[_]) (rs:=[_]) T_ok Tryz.func20 Tryz.call20 rfl rfl (by kernel_rfl) rfl rfl ?_
 repeat first|exact zE|refine wkG ?_|refine zB fun b=>?_|refine zC fun a' c' hc1 hc2=>?_|(show GJ _ _ _ _ _ _ _;first|(apply GJ.a;exact rfl;intro hg)|(apply GJ.o;exact rfl;intro hg)|refine GJ.t zO ?_|refine GJ.f zO ?_|refine GJ.ft zO ?_|refine GJ.ff zO ?_)
 refine Bs.all ?_
 repeat first|exact zE|refine wkG ?_|refine zB fun b=>?_|refine zC fun a' c' hc1 hc2=>?_|(show GJ _ _ _ _ _ _ _;first|(apply GJ.a;exact rfl;intro hg)|(apply GJ.o;exact rfl;intro hg)|refine GJ.t zO ?_|refine GJ.f zO ?_|refine GJ.ft zO ?_|refine GJ.ff zO ?_)
 have hl0:l.length≠0:=by simpa using h0
 refine OpOk.know (∃ b',a=some ⟨b',0,none⟩) (fun h hs=>Sat.slSome Take.auto hs (by omega)) (fun ⟨b',e⟩=>?_)
 subst e
 refine OpOk.sliceData rfl (by omega) ?_
 repeat first|exact zE|refine wkG ?_|refine zB fun b=>?_|refine zC fun a' c' hc1 hc2=>?_|(show GJ _ _ _ _ _ _ _;first|(apply GJ.a;exact rfl;intro hg)|(apply GJ.o;exact rfl;intro hg)|refine GJ.t zO ?_|refine GJ.f zO ?_|refine GJ.ft zO ?_|refine GJ.ff zO ?_)
 subst hn
 refine OpOk.unsafeString (l:=l) rfl rfl (by kernel_rfl) (by kernel_rfl) Take.auto h0 (by omega) ?_
 repeat first|exact zE|refine wkG ?_|refine zB fun b=>?_|refine zC fun a' c' hc1 hc2=>?_|(show GJ _ _ _ _ _ _ _;first|(apply GJ.a;exact rfl;intro hg)|(apply GJ.o;exact rfl;intro hg)|refine GJ.t zO ?_|refine GJ.f zO ?_|refine GJ.ft zO ?_|refine GJ.ff zO ?_)
 exact Wk.outS Sup.z (.refl _) hk
end
def signsB:List UInt8:=[92,47,91,93,40,41,123,125,124,42,43,63,46,45,94,35,34]
def hexB:List UInt8:=[48,49,50,51,52,53,54,55,56,57,97,98,99,100,101,102]
def zEm (c:Nat):Bool:=decide (32<c)&&decide (c<127)&&!(signsB.map (·.toNat)).contains c
def zAW (c:Nat):List UInt8:=if zEm c then [UInt8.ofNat c] else [92,120,hexB.getD (c / 16) 0,hexB.getD (c % 16) 0]
section
variable {ro:Ro}{own r:Chs}{K:Value→Ro→Chs→Prop}{g:Chunk→Chs}
theorem hexs:∀ k:Nat,k<16→List.take ((((k:Int)+1) % 256).toNat-(k:Int).toNat) (List.drop (k:Int).toNat ([48,49,50,51,52,53,54,55,56,57,97,98,99,100,101,102]:List UInt8))=[hexB.getD k 0]:=by decide +kernel
theorem zLW:∀ c:Nat,c<256→decide (0≤firstIdx ⟨⟨signsB⟩⟩ (UInt8.ofNat c))=(signsB.map (·.toNat)).contains c:=by decide +kernel
theorem signs_u (u:UInt8):decide (0≤firstIdx ⟨⟨signsB⟩⟩ u)=(signsB.map (·.toNat)).contains u.toNat:=by
 have:=zLW u.toNat u.toNat_lt
 rwa [UInt8.ofNat_toNat] at this
theorem ibs_ok {l:List UInt8}{u:UInt8} (hk:K (.int .i64 (firstIdx ⟨⟨l⟩⟩ u)) ro own):CallOk Tryz.prog 99 #[str l,.int .u8 ((u.toNat:Nat):Int)] ro own K :=
 CallOk.ext Tryz.func99 (by kernel_rfl) (by kernel_rfl) (by kernel_rfl) (e:=Extern.BytealgIndexByte.indexByte) (by kernel_rfl) (fun w=>run_indexByte_string ⟨⟨l⟩⟩ ((u.toNat:Nat):Int) w) (by simpa using hk)
theorem sib_ok {l:List UInt8}{u:UInt8} (hk:K (.int .i64 (firstIdx ⟨⟨l⟩⟩ u)) ro own):CallOk Tryz.prog 81 #[str l,.int .u8 ((u.toNat:Nat):Int)] ro own K:=by
 refine CallOk.intro (args:=[_,_]) (rs:=[_]) T_ok Tryz.func81 Tryz.call81 rfl rfl (by kernel_rfl) rfl rfl ?_
 repeat first|exact zE|refine wkG ?_|refine zB fun b=>?_|refine zC fun a' c' hc1 hc2=>?_|(show GJ _ _ _ _ _ _ _;first|(apply GJ.a;exact rfl;intro hg)|(apply GJ.o;exact rfl;intro hg)|refine GJ.t zO ?_|refine GJ.f zO ?_|refine GJ.ft zO ?_|refine GJ.ff zO ?_)
 refine ibs_ok ?_
 repeat first|exact zE|refine wkG ?_|refine zB fun b=>?_|refine zC fun a' c' hc1 hc2=>?_|(show GJ _ _ _ _ _ _ _;first|(apply GJ.a;exact rfl;intro hg)|(apply GJ.o;exact rfl;intro hg)|refine GJ.t zO ?_|refine GJ.f zO ?_|refine GJ.ft zO ?_|refine GJ.ff zO ?_)
 exact Wk.outS Sup.z (.refl _) hk
theorem sidx_ok {l:List UInt8}{u:UInt8} (hne:[u]≠l) (hk:K (.int .i64 (firstIdx ⟨⟨l⟩⟩ u)) ro own):CallOk Tryz.prog 51 #[str l,str [u]] ro own K:=by
 have hl1:([u]:List UInt8).length=1:=rfl
 refine CallOk.intro (args:=[_,_]) (rs:=[_]) T_ok Tryz.func51 Tryz.call51 rfl rfl (by kernel_rfl) rfl rfl ?_
 repeat first|exact zE|refine wkT ?_|refine zB fun b=>?_|refine zC fun a' c' hc1 hc2=>?_|(apply GJ.a;exact rfl;intro hg)|(apply GJ.o;exact rfl;intro hg)
 refine sib_ok (u:=u) ?_
 repeat first|exact zE|refine wkT ?_|refine zB fun b=>?_|refine zC fun a' c' hc1 hc2=>?_|(apply GJ.a;exact rfl;intro hg)|(apply GJ.o;exact rfl;intro hg)
 exact Wk.outS Sup.z (.refl _) hk
theorem zKr {l:List UInt8}{u:UInt8} (hne:[u]≠l) (hk:K (.int .i64 (firstIdx ⟨⟨l⟩⟩ u)) ro own):CallOk Tryz.prog 21 #[str l,str [u]] ro own K:=by
 refine CallOk.intro (args:=[_,_]) (rs:=[_]) T_ok Tryz.func21 Tryz.call21 rfl rfl (by kernel_rfl) rfl rfl ?_
 repeat first|exact zE|refine wkG ?_|refine zB fun b=>?_|refine zC fun a' c' hc1 hc2=>?_|(show GJ _ _ _ _ _ _ _;first|(apply GJ.a;exact rfl;intro hg)|(apply GJ.o;exact rfl;intro hg)|refine GJ.t zO ?_|refine GJ.f zO ?_|refine GJ.ft zO ?_|refine GJ.ff zO ?_)
 refine sidx_ok hne ?_
 repeat first|exact zE|refine wkG ?_|refine zB fun b=>?_|refine zC fun a' c' hc1 hc2=>?_|(show GJ _ _ _ _ _ _ _;first|(apply GJ.a;exact rfl;intro hg)|(apply GJ.o;exact rfl;intro hg)|refine GJ.t zO ?_|refine GJ.f zO ?_|refine GJ.ft zO ?_|refine GJ.ff zO ?_)
 exact Wk.outS Sup.z (.refl _) hk
theorem zJx {u:UInt8} (hk:K (.bool (decide (0≤firstIdx ⟨⟨signsB⟩⟩ u))) ro own):CallOk Tryz.prog 7 #[str signsB,str [u]] ro own K:=by
 refine CallOk.intro (args:=[_,_]) (rs:=[_]) T_ok Tryz.func7 Tryz.call7 rfl rfl (by kernel_rfl) rfl rfl ?_
 repeat first|exact zE|refine wkG ?_|refine zB fun b=>?_|refine zC fun a' c' hc1 hc2=>?_|(show GJ _ _ _ _ _ _ _;first|(apply GJ.a;exact rfl;intro hg)|(apply GJ.o;exact rfl;intro hg)|refine GJ.t zO ?_|refine GJ.f zO ?_|refine GJ.ft zO ?_|refine GJ.ff zO ?_)
 refine zKr (by intro h;cases h) ?_
 repeat first|exact zE|refine wkG ?_|refine zB fun b=>?_|refine zC fun a' c' hc1 hc2=>?_|(show GJ _ _ _ _ _ _ _;first|(apply GJ.a;exact rfl;intro hg)|(apply GJ.o;exact rfl;intro hg)|refine GJ.t zO ?_|refine GJ.f zO ?_|refine GJ.ft zO ?_|refine GJ.ff zO ?_)
 exact Wk.outS Sup.z (.refl _) hk
theorem zCS {u:UInt8}{c:Nat} (hc:c=u.toNat) (hk:K (str (zAW c)) ro own):CallOk Tryz.prog 78 #[.int .u8 (c:Int)] ro own K:=by
 subst hc
 have hu:=u.toNat_lt
 have e1:(u.toNat:Int) / 2 ^ Int.toNat 4=((u.toNat / 16:Nat):Int):=by show (u.toNat:Int) / 16=_;omega
 have e2:zCR (u.toNat:Int) 15=((u.toNat % 16:Nat):Int):=by
  unfold zCR
  rw [Int.toNat_natCast]
  exact congrArg Int.ofNat (Nat.and_two_pow_sub_one_eq_mod _ 4)
 have hlen:([48,49,50,51,52,53,54,55,56,57,97,98,99,100,101,102]:List UInt8).length=16:=rfl
 by_cases h1:32<u.toNat
 ·by_cases h2:u.toNat<127
  ·refine CallOk.intro (args:=[_]) (rs:=[_]) T_ok Tryz.func78 Tryz.call78 rfl rfl (by kernel_rfl) rfl rfl ?_
   repeat first|exact zE|refine wkT ?_|refine zB fun b=>?_|refine zC fun a' c' hc1 hc2=>?_|(apply GJ.a;exact rfl;intro hg)|(apply GJ.o;exact rfl;intro hg)
   refine OpOk.toStr (l:=[u]) rfl rfl rfl rfl (Rds.hasSl (cs:=[u8 u]) (by omega) (by decide) rfl) ?_
   repeat first|exact zE|refine wkT ?_|refine zB fun b=>?_|refine zC fun a' c' hc1 hc2=>?_|(apply GJ.a;exact rfl;intro hg)|(apply GJ.o;exact rfl;intro hg)
   refine zJx ?_
   rw [signs_u]
   by_cases h3:(signsB.map (·.toNat)).contains u.toNat=true
   ·rw [h3]
    repeat first|exact zE|refine wkT ?_|refine zB fun b=>?_|refine zC fun a' c' hc1 hc2=>?_|(apply GJ.a;exact rfl;intro hg)|(apply GJ.o;exact rfl;intro hg)
    rw [e1]
    refine ⟨by simp only [List.length_cons,List.length_nil,List.length_take,List.length_drop,List.length_append];omega,?_⟩
    repeat first|exact zE|refine wkT ?_|refine zB fun b=>?_|refine zC fun a' c' hc1 hc2=>?_|(apply GJ.a;exact rfl;intro hg)|(apply GJ.o;exact rfl;intro hg)
    rw [e2]
    refine ⟨by simp only [List.length_cons,List.length_nil,List.length_take,List.length_drop,List.length_append];omega,?_⟩
    rw [hexs _ (by omega),hexs _ (by omega)]
    repeat first|exact zE|refine wkT ?_|refine zB fun b=>?_|refine zC fun a' c' hc1 hc2=>?_|(apply GJ.a;exact rfl;intro hg)|(apply GJ.o;exact rfl;intro hg)
    refine Wk.outV Sup.z hk (congrArg str ?_)
    unfold zAW
    rw [if_neg (by unfold zEm;rw [h3];simp)]
    rfl
   ·rw [Bool.not_eq_true] at h3
    rw [h3]
    repeat first|exact zE|refine wkT ?_|refine zB fun b=>?_|refine zC fun a' c' hc1 hc2=>?_|(apply GJ.a;exact rfl;intro hg)|(apply GJ.o;exact rfl;intro hg)
    refine OpOk.toStr (l:=[u]) rfl rfl rfl rfl (Rds.hasSl (cs:=[u8 u]) (by omega) (by decide) rfl) ?_
    repeat first|exact zE|refine wkT ?_|refine zB fun b=>?_|refine zC fun a' c' hc1 hc2=>?_|(apply GJ.a;exact rfl;intro hg)|(apply GJ.o;exact rfl;intro hg)
    refine Wk.outV Sup.z hk (congrArg str ?_)
    unfold zAW
    rw [if_pos (by unfold zEm;rw [decide_eq_true h1,decide_eq_true h2,h3];rfl)]
    rw [UInt8.ofNat_toNat]
  ·refine CallOk.intro (args:=[_]) (rs:=[_]) T_ok Tryz.func78 Tryz.call78 rfl rfl (by kernel_rfl) rfl rfl ?_
   repeat first|exact zE|refine wkT ?_|refine zB fun b=>?_|refine zC fun a' c' hc1 hc2=>?_|(apply GJ.a;exact rfl;intro hg)|(apply GJ.o;exact rfl;intro hg)
   rw [e1]
   refine ⟨by simp only [List.length_cons,List.length_nil,List.length_take,List.length_drop,List.length_append];omega,?_⟩
   repeat first|exact zE|refine wkT ?_|refine zB fun b=>?_|refine zC fun a' c' hc1 hc2=>?_|(apply GJ.a;exact rfl;intro hg)|(apply GJ.o;exact rfl;intro hg)
   rw [e2]
   refine ⟨by simp only [List.length_cons,List.length_nil,List.length_take,List.length_drop,List.length_append];omega,?_⟩
   rw [hexs _ (by omega),hexs _ (by omega)]
   repeat first|exact zE|refine wkT ?_|refine zB fun b=>?_|refine zC fun a' c' hc1 hc2=>?_|(apply GJ.a;exact rfl;intro hg)|(apply GJ.o;exact rfl;intro hg)
   refine Wk.outV Sup.z hk (congrArg str ?_)
   unfold zAW
   rw [if_neg (by unfold zEm;simp [h2])]
   rfl
 ·refine CallOk.intro (args:=[_]) (rs:=[_]) T_ok Tryz.func78 Tryz.call78 rfl rfl (by kernel_rfl) rfl rfl ?_
  repeat first|exact zE|refine wkT ?_|refine zB fun b=>?_|refine zC fun a' c' hc1 hc2=>?_|(apply GJ.a;exact rfl;intro hg)|(apply GJ.o;exact rfl;intro hg)
  rw [e1]
  refine ⟨by simp only [List.length_cons,List.length_nil,List.length_take,List.length_drop,List.length_append];omega,?_⟩
  repeat first|exact zE|refine wkT ?_|refine zB fun b=>?_|refine zC fun a' c' hc1 hc2=>?_|(apply GJ.a;exact rfl;intro hg)|(apply GJ.o;exact rfl;intro hg)
  rw [e2]
  refine ⟨by simp only [List.length_cons,List.length_nil,List.length_take,List.length_drop,List.length_append];omega,?_⟩
  rw [hexs _ (by omega),hexs _ (by omega)]
  repeat first|exact zE|refine wkT ?_|refine zB fun b=>?_|refine zC fun a' c' hc1 hc2=>?_|(apply GJ.a;exact rfl;intro hg)|(apply GJ.o;exact rfl;intro hg)
  refine Wk.outV Sup.z hk (congrArg str ?_)
  unfold zAW
  rw [if_neg (by unfold zEm;simp [h1])]
  rfl
end
structure SetD where
 a:Nat
 b:Nat
 c:Nat
 d:Nat
deriving DecidableEq
abbrev wV (w:Nat):Value:=.int .u64 (w:Int)
def setV (s:SetD):List Value:=[wV s.a,wV s.b,wV s.c,wV s.d]
def SetD.w (s:SetD) (k:Nat):Nat:=if k=0 then s.a else if k=1 then s.b else if k=2 then s.c else s.d
def SetD.put (s:SetD) (k x:Nat):SetD:=if k=0 then { s with a:=x } else if k=1 then { s with b:=x } else if k=2 then { s with c:=x } else { s with d:=x }
def SetIn (s:SetD):Prop:=∀ k,s.w k<18446744073709551616
theorem lt4 {k:Nat} (h:k<4):k=0∨k=1∨k=2∨k=3:=by omega
theorem zGR {s:SetD}{k:Nat} (h:k<4):(setV s)[k]?=some (wV (s.w k)):=by
 rcases lt4 h with rfl|rfl|rfl|rfl<;>rfl
theorem setV_set {s:SetD}{k x:Nat} (h:k<4):(setV s).set k (.int .u64 (x:Int))=setV (s.put k x):=by
 rcases lt4 h with rfl|rfl|rfl|rfl<;>rfl
theorem SetD.w_put {s:SetD}{k x j:Nat} (h:k<4) (hj:j<4):(s.put k x).w j=if j=k then x else s.w j:=by
 rcases lt4 h with rfl|rfl|rfl|rfl<;>rcases lt4 hj with rfl|rfl|rfl|rfl<;>rfl
theorem SetD.ext4 {s t:SetD} (h:∀ k,k<4→s.w k=t.w k):s=t:=by
 have h0:=h 0 (by omega)
 have h1:=h 1 (by omega)
 have h2:=h 2 (by omega)
 have h3:=h 3 (by omega)
 cases s;cases t
 simp [SetD.w] at h0 h1 h2 h3
 simp [h0,h1,h2,h3]
def SetD.has (s:SetD) (c:Nat):Bool:=(s.w (c / 64)).testBit (c % 64)
def SetD.and (s t:SetD):SetD:=⟨s.a &&& t.a,s.b &&& t.b,s.c &&& t.c,s.d &&& t.d⟩
def SetD.or (s t:SetD):SetD:=⟨s.a ||| t.a,s.b ||| t.b,s.c ||| t.c,s.d ||| t.d⟩
def SetD.not (s:SetD):SetD:=⟨18446744073709551615-s.a,18446744073709551615-s.b,18446744073709551615-s.c,18446744073709551615-s.d⟩
theorem SetD.w_and {s t:SetD}{k:Nat}:(s.and t).w k=s.w k &&& t.w k:=by unfold SetD.w SetD.and;split;rfl;split;rfl;split<;>rfl
theorem SetD.w_or {s t:SetD}{k:Nat}:(s.or t).w k=s.w k ||| t.w k:=by unfold SetD.w SetD.or;split;rfl;split;rfl;split<;>rfl
theorem SetD.w_not {s:SetD}{k:Nat}:s.not.w k=18446744073709551615-s.w k:=by unfold SetD.w SetD.not;split;rfl;split;rfl;split<;>rfl
section
variable {ro:Ro}{own r:Chs}{K:Value→Ro→Chs→Prop}{g:Chunk→Chs}
theorem Ld.setAt {o k b:Nat}{t:TypeId}{cs:List Value}{f:Chunk→Chs} [hb:HasBlk own b t cs f] (s:SetD) (hc:cs=setV s) (ho:o=k) (hk:k<4):Ld ro own b o (.int .u64 ((s.w k:Nat):Int)):=by
 subst hc;subst ho;exact Ld.hasBlkAt (zGR hk)
theorem zEc {ty:TypeId}{env:Env}{t:TypeId}{x y:Operand}{b o k w:Nat}{K:Value→Ro→Chs→Prop}{t0:TypeId}{cs:List Value}{f:Chunk→Chs} (s:SetD) (hx:ev env x=some (.pointer (some ⟨b,o,none⟩))) {v:Int} (hy:ev env y=some (.int .u64 v)) (hw:v=(w:Int)) (ht:zIB T t=true)
  [hb:HasBlk own b t0 cs f] (hc:cs=setV s) (ho:o=k) (hk4:k<4) (hk:K undef ro (f (.blk b t0 (setV (s.put k w))))):OpOk Tryz.prog (.store t x y) ty env ro own K:=by
 subst hc;subst ho;subst hw
 refine OpOk.storeAt hx hy ht rfl (by show o<4;exact hk4) ?_
 rw [setV_set hk4];exact hk
theorem and63 (c:Nat):zCR (c:Int) 63=((c % 64:Nat):Int):=by
 unfold zCR
 rw [Int.toNat_natCast]
 exact congrArg Int.ofNat (Nat.and_two_pow_sub_one_eq_mod c 6)
theorem shrN (x i:Nat):(x:Int) / 2 ^ ((i:Nat):Int).toNat=((x / 2 ^ i:Nat):Int):=by
 rw [Int.toNat_natCast];push_cast;rfl
theorem and1 (x:Nat):(zCR (x:Int) 1=1)↔x % 2=1:=by
 have h:zCR (x:Int) 1=((x % 2:Nat):Int):=by
  unfold zCR
  rw [Int.toNat_natCast]
  exact congrArg Int.ofNat (Nat.and_two_pow_sub_one_eq_mod x 1)
 rw [h];omega
theorem zIP (x i:Nat):decide (x / 2 ^ i % 2=1)=x.testBit i:=by
 rw [Nat.testBit_eq_decide_div_mod_eq]
theorem zG9 {s:SetD}{c:Nat} (hs:SetIn s) (hc:c<256) (hk:K (.bool (s.has c)) ro own):CallOk Tryz.prog 79 #[.agg (setV s).toArray,.int .u8 (c:Int)] ro own K:=by
 have hw:=hs (c / 64)
 have hd:s.w (c / 64) / 2 ^ (c % 64)<18446744073709551616:=Nat.lt_of_le_of_lt (Nat.div_le_self _ _) hw
 have e:(c:Int) / 2 ^ Int.toNat 6=((c / 64:Nat):Int):=by show (c:Int) / 64=_;omega
 refine CallOk.intro (args:=[_,_]) (rs:=[_]) T_ok Tryz.func79 Tryz.call79 rfl rfl (by kernel_rfl) rfl rfl ?_
 repeat first|exact zE|refine wkG ?_|refine zB fun b=>?_|refine zC fun a' c' hc1 hc2=>?_|(show GJ _ _ _ _ _ _ _;first|(apply GJ.a;exact rfl;intro hg)|(apply GJ.o;exact rfl;intro hg)|refine GJ.t zO ?_|refine GJ.f zO ?_|refine GJ.ft zO ?_|refine GJ.ff zO ?_)
 rw [e]
 repeat first|exact zE|refine wkG ?_|refine zB fun b=>?_|refine zC fun a' c' hc1 hc2=>?_|(show GJ _ _ _ _ _ _ _;first|(apply GJ.a;exact rfl;intro hg)|(apply GJ.o;exact rfl;intro hg)|refine GJ.t zO ?_|refine GJ.f zO ?_|refine GJ.ft zO ?_|refine GJ.ff zO ?_)
 refine OpOk.load rfl rfl (Ld.setAt s rfl (k:=c / 64) (by omega) (by omega)) ?_
 repeat first|exact zE|refine wkG ?_|refine zB fun b=>?_|refine zC fun a' c' hc1 hc2=>?_|(show GJ _ _ _ _ _ _ _;first|(apply GJ.a;exact rfl;intro hg)|(apply GJ.o;exact rfl;intro hg)|refine GJ.t zO ?_|refine GJ.f zO ?_|refine GJ.ft zO ?_|refine GJ.ff zO ?_)
 rw [and63]
 refine ⟨by omega,?_⟩
 rw [shrN]
 generalize hq:s.w (c / 64) / 2 ^ (c % 64)=q at hd ⊢
 repeat first|exact zE|refine wkG ?_|refine zB fun b=>?_|refine zC fun a' c' hc1 hc2=>?_|(show GJ _ _ _ _ _ _ _;first|(apply GJ.a;exact rfl;intro hg)|(apply GJ.o;exact rfl;intro hg)|refine GJ.t zO ?_|refine GJ.f zO ?_|refine GJ.ft zO ?_|refine GJ.ff zO ?_)
 refine Wk.outV Sup.z hk (congrArg Value.bool ?_)
 rw [SetD.has,←zIP,hq,Bool.eq_iff_iff,decide_eq_true_iff,decide_eq_true_iff]
 exact (and1 _).symm
theorem and_ok {s t:SetD} (hs:SetIn s) (ht:SetIn t) (hk:K (.agg (setV (s.and t)).toArray) ro own):CallOk Tryz.prog 89 #[.agg (setV s).toArray,.agg (setV t).toArray] ro own K:=by
 refine CallOk.intro (args:=[_,_]) (rs:=[_]) T_ok Tryz.func89 Tryz.call89 rfl rfl (by kernel_rfl) rfl rfl ?_
 repeat first|exact zE|refine wkG ?_|refine zB fun b=>?_|refine zC fun a' c' hc1 hc2=>?_|(show GJ _ _ _ _ _ _ _;first|(apply GJ.a;exact rfl;intro hg)|(apply GJ.o;exact rfl;intro hg)|refine GJ.t zO ?_|refine GJ.f zO ?_|refine GJ.ft zO ?_|refine GJ.ff zO ?_)
 rename_i bs bt
 refine LoopOk.at (ι:=Nat × SetD) Keep.z (fun (i,u)=>[(6,.int .i64 (i:Int))]) (fun (i,u)=>.blk b 113 [.int .u64 0,.int .u64 0,.int .u64 0,.int .u64 0]::.blk bt 113 (setV t)::.blk bs 113 (setV u)::own) (fun (i,u)=>i≤4∧∀ k,k<4→u.w k=if k<i then (s.and t).w k else s.w k) (fun (i,u)=>4-i) (0,s) ?_ Sub.z Sup.z ?_
 ·exact ⟨by omega,fun k hk=>by rw [if_neg (by omega)]⟩
 rintro ⟨i,u⟩ ⟨i1,i2⟩
 dsimp only [List.cons_append,List.nil_append] at i1 i2 ⊢
 repeat first|exact zE|refine wkG ?_|refine zB fun b=>?_|refine zC fun a' c' hc1 hc2=>?_|(show GJ _ _ _ _ _ _ _;first|(apply GJ.a;exact rfl;intro hg)|(apply GJ.o;exact rfl;intro hg)|refine GJ.t zO ?_|refine GJ.f zO ?_|refine GJ.ft zO ?_|refine GJ.ff zO ?_)
 refine Br.cases (fun hg=>?_) (fun hg=>?_)
 ·have h1:=hs i
  have h2:=ht i
  have h3:=i2 i (by omega)
  rw [if_neg (by omega)] at h3
  rw [←h3] at h1
  repeat first|exact zE|refine wkG ?_|refine zB fun b=>?_|refine zC fun a' c' hc1 hc2=>?_|(show GJ _ _ _ _ _ _ _;first|(apply GJ.a;exact rfl;intro hg)|(apply GJ.o;exact rfl;intro hg)|refine GJ.t zO ?_|refine GJ.f zO ?_|refine GJ.ft zO ?_|refine GJ.ff zO ?_)
  refine QOk.load rfl rfl (Ld.setAt u rfl (k:=i) (by omega) (by omega)) ?_
  repeat first|exact zE|refine wkG ?_|refine zB fun b=>?_|refine zC fun a' c' hc1 hc2=>?_|(show GJ _ _ _ _ _ _ _;first|(apply GJ.a;exact rfl;intro hg)|(apply GJ.o;exact rfl;intro hg)|refine GJ.t zO ?_|refine GJ.f zO ?_|refine GJ.ft zO ?_|refine GJ.ff zO ?_)
  refine QOk.load rfl rfl (Ld.setAt t rfl (k:=i) (by omega) (by omega)) ?_
  repeat first|exact zE|refine wkG ?_|refine zB fun b=>?_|refine zC fun a' c' hc1 hc2=>?_|(show GJ _ _ _ _ _ _ _;first|(apply GJ.a;exact rfl;intro hg)|(apply GJ.o;exact rfl;intro hg)|refine GJ.t zO ?_|refine GJ.f zO ?_|refine GJ.ft zO ?_|refine GJ.ff zO ?_)
  refine zEc (k:=i) (w:=u.w i &&& t.w i) u rfl rfl rfl rfl rfl (by omega) (by omega) ?_
  repeat first|exact zE|refine wkG ?_|refine zB fun b=>?_|refine zC fun a' c' hc1 hc2=>?_|(show GJ _ _ _ _ _ _ _;first|(apply GJ.a;exact rfl;intro hg)|(apply GJ.o;exact rfl;intro hg)|refine GJ.t zO ?_|refine GJ.f zO ?_|refine GJ.ft zO ?_|refine GJ.ff zO ?_)
  refine Wk.id ⟨(i+1,u.put i (u.w i &&& t.w i)),⟨rfl,?_⟩,?_,Sub.z,Sup.z⟩
  all_goals try dsimp only
  ·refine ⟨by omega,fun k hk=>?_⟩
   rw [SetD.w_put (by omega) hk]
   by_cases hki:k=i
   ·subst hki;rw [if_pos rfl,if_pos (by omega),i2 k hk,if_neg (by omega),SetD.w_and]
   ·rw [if_neg hki,i2 k hk]
    by_cases hlt:k<i
    ·rw [if_pos hlt,if_pos (by omega)]
    ·rw [if_neg hlt,if_neg (by omega)]
  ·omega
 ·obtain rfl:u=s.and t:=SetD.ext4 (fun k hk=>by rw [i2 k hk,if_pos (by omega)])
  repeat first|exact zE|refine wkG ?_|refine zB fun b=>?_|refine zC fun a' c' hc1 hc2=>?_|(show GJ _ _ _ _ _ _ _;first|(apply GJ.a;exact rfl;intro hg)|(apply GJ.o;exact rfl;intro hg)|refine GJ.t zO ?_|refine GJ.f zO ?_|refine GJ.ft zO ?_|refine GJ.ff zO ?_)
  exact Wk.outS Sup.z (.refl _) hk
theorem zK4 {s:SetD} (hk:K (.bool (decide (s=⟨0,0,0,0⟩))) ro own):CallOk Tryz.prog 74 #[.agg (setV s).toArray] ro own K:=by
 refine CallOk.intro (args:=[_]) (rs:=[_]) T_ok Tryz.func74 Tryz.call74 rfl rfl (by kernel_rfl) rfl rfl ?_
 repeat first|exact zE|refine wkG ?_|refine zB fun b=>?_|refine zC fun a' c' hc1 hc2=>?_|(show GJ _ _ _ _ _ _ _;first|(apply GJ.a;exact rfl;intro hg)|(apply GJ.o;exact rfl;intro hg)|refine GJ.t zO ?_|refine GJ.f zO ?_|refine GJ.ft zO ?_|refine GJ.ff zO ?_)
 refine OpOk.buildK (ps:=[]) (setV ⟨0,0,0,0⟩) rfl (by kernel_rfl) ?_
 repeat first|exact zE|refine wkG ?_|refine zB fun b=>?_|refine zC fun a' c' hc1 hc2=>?_|(show GJ _ _ _ _ _ _ _;first|(apply GJ.a;exact rfl;intro hg)|(apply GJ.o;exact rfl;intro hg)|refine GJ.t zO ?_|refine GJ.f zO ?_|refine GJ.ft zO ?_|refine GJ.ff zO ?_)
 refine OpOk.eqlArr4 (e:=22) rfl rfl (by kernel_rfl) (by kernel_rfl) (by kernel_rfl) (by kernel_rfl) ?_
 repeat first|exact zE|refine wkG ?_|refine zB fun b=>?_|refine zC fun a' c' hc1 hc2=>?_|(show GJ _ _ _ _ _ _ _;first|(apply GJ.a;exact rfl;intro hg)|(apply GJ.o;exact rfl;intro hg)|refine GJ.t zO ?_|refine GJ.f zO ?_|refine GJ.ft zO ?_|refine GJ.ff zO ?_)
 refine Wk.outV Sup.z hk (congrArg Value.bool ?_)
 rw [Bool.eq_iff_iff]
 cases s
 simp
end
section
variable {ro:Ro}{own r:Chs}{K:Value→Ro→Chs→Prop}{g:Chunk→Chs}
theorem or_ok {s t:SetD} (hs:SetIn s) (ht:SetIn t) (hk:K (.agg (setV (s.or t)).toArray) ro own):CallOk Tryz.prog 116 #[.agg (setV s).toArray,.agg (setV t).toArray] ro own K:=by
 refine CallOk.intro (args:=[_,_]) (rs:=[_]) T_ok Tryz.func116 Tryz.call116 rfl rfl (by kernel_rfl) rfl rfl ?_
 repeat first|exact zE|refine wkG ?_|refine zB fun b=>?_|refine zC fun a' c' hc1 hc2=>?_|(show GJ _ _ _ _ _ _ _;first|(apply GJ.a;exact rfl;intro hg)|(apply GJ.o;exact rfl;intro hg)|refine GJ.t zO ?_|refine GJ.f zO ?_|refine GJ.ft zO ?_|refine GJ.ff zO ?_)
 rename_i bs bt
 refine LoopOk.at (ι:=Nat × SetD) Keep.z (fun (i,u)=>[(6,.int .i64 (i:Int))]) (fun (i,u)=>.blk b 113 [.int .u64 0,.int .u64 0,.int .u64 0,.int .u64 0]::.blk bt 113 (setV t)::.blk bs 113 (setV u)::own) (fun (i,u)=>i≤4∧∀ k,k<4→u.w k=if k<i then (s.or t).w k else s.w k) (fun (i,u)=>4-i) (0,s) ?_ Sub.z Sup.z ?_
 ·exact ⟨by omega,fun k hk=>by rw [if_neg (by omega)]⟩
 rintro ⟨i,u⟩ ⟨i1,i2⟩
 dsimp only [List.cons_append,List.nil_append] at i1 i2 ⊢
 repeat first|exact zE|refine wkG ?_|refine zB fun b=>?_|refine zC fun a' c' hc1 hc2=>?_|(show GJ _ _ _ _ _ _ _;first|(apply GJ.a;exact rfl;intro hg)|(apply GJ.o;exact rfl;intro hg)|refine GJ.t zO ?_|refine GJ.f zO ?_|refine GJ.ft zO ?_|refine GJ.ff zO ?_)
 refine Br.cases (fun hg=>?_) (fun hg=>?_)
 ·have h1:=hs i
  have h2:=ht i
  have h3:=i2 i (by omega)
  rw [if_neg (by omega)] at h3
  rw [←h3] at h1
  repeat first|exact zE|refine wkG ?_|refine zB fun b=>?_|refine zC fun a' c' hc1 hc2=>?_|(show GJ _ _ _ _ _ _ _;first|(apply GJ.a;exact rfl;intro hg)|(apply GJ.o;exact rfl;intro hg)|refine GJ.t zO ?_|refine GJ.f zO ?_|refine GJ.ft zO ?_|refine GJ.ff zO ?_)
  refine QOk.load rfl rfl (Ld.setAt u rfl (k:=i) (by omega) (by omega)) ?_
  repeat first|exact zE|refine wkG ?_|refine zB fun b=>?_|refine zC fun a' c' hc1 hc2=>?_|(show GJ _ _ _ _ _ _ _;first|(apply GJ.a;exact rfl;intro hg)|(apply GJ.o;exact rfl;intro hg)|refine GJ.t zO ?_|refine GJ.f zO ?_|refine GJ.ft zO ?_|refine GJ.ff zO ?_)
  refine QOk.load rfl rfl (Ld.setAt t rfl (k:=i) (by omega) (by omega)) ?_
  repeat first|exact zE|refine wkG ?_|refine zB fun b=>?_|refine zC fun a' c' hc1 hc2=>?_|(show GJ _ _ _ _ _ _ _;first|(apply GJ.a;exact rfl;intro hg)|(apply GJ.o;exact rfl;intro hg)|refine GJ.t zO ?_|refine GJ.f zO ?_|refine GJ.ft zO ?_|refine GJ.ff zO ?_)
  refine zEc (k:=i) (w:=u.w i ||| t.w i) u rfl rfl rfl rfl rfl (by omega) (by omega) ?_
  repeat first|exact zE|refine wkG ?_|refine zB fun b=>?_|refine zC fun a' c' hc1 hc2=>?_|(show GJ _ _ _ _ _ _ _;first|(apply GJ.a;exact rfl;intro hg)|(apply GJ.o;exact rfl;intro hg)|refine GJ.t zO ?_|refine GJ.f zO ?_|refine GJ.ft zO ?_|refine GJ.ff zO ?_)
  refine Wk.id ⟨(i+1,u.put i (u.w i ||| t.w i)),⟨rfl,?_⟩,?_,Sub.z,Sup.z⟩
  all_goals try dsimp only
  ·refine ⟨by omega,fun k hk=>?_⟩
   rw [SetD.w_put (by omega) hk]
   by_cases hki:k=i
   ·subst hki;rw [if_pos rfl,if_pos (by omega),i2 k hk,if_neg (by omega),SetD.w_or]
   ·rw [if_neg hki,i2 k hk]
    by_cases hlt:k<i
    ·rw [if_pos hlt,if_pos (by omega)]
    ·rw [if_neg hlt,if_neg (by omega)]
  ·omega
 ·obtain rfl:u=s.or t:=SetD.ext4 (fun k hk=>by rw [i2 k hk,if_pos (by omega)])
  repeat first|exact zE|refine wkG ?_|refine zB fun b=>?_|refine zC fun a' c' hc1 hc2=>?_|(show GJ _ _ _ _ _ _ _;first|(apply GJ.a;exact rfl;intro hg)|(apply GJ.o;exact rfl;intro hg)|refine GJ.t zO ?_|refine GJ.f zO ?_|refine GJ.ft zO ?_|refine GJ.ff zO ?_)
  exact Wk.outS Sup.z (.refl _) hk
theorem zIb {s:SetD} (hs:SetIn s) (hk:K (.agg (setV s.not).toArray) ro own):CallOk Tryz.prog 90 #[.agg (setV s).toArray] ro own K:=by
 refine CallOk.intro (args:=[_]) (rs:=[_]) T_ok Tryz.func90 Tryz.call90 rfl rfl (by kernel_rfl) rfl rfl ?_
 repeat first|exact zE|refine wkG ?_|refine zB fun b=>?_|refine zC fun a' c' hc1 hc2=>?_|(show GJ _ _ _ _ _ _ _;first|(apply GJ.a;exact rfl;intro hg)|(apply GJ.o;exact rfl;intro hg)|refine GJ.t zO ?_|refine GJ.f zO ?_|refine GJ.ft zO ?_|refine GJ.ff zO ?_)
 rename_i bs
 refine LoopOk.at (ι:=Nat × SetD) Keep.z (fun (i,u)=>[(4,.int .i64 (i:Int))]) (fun (i,u)=>.blk b 113 [.int .u64 0,.int .u64 0,.int .u64 0,.int .u64 0]::.blk bs 113 (setV u)::own) (fun (i,u)=>i≤4∧∀ k,k<4→u.w k=if k<i then s.not.w k else s.w k) (fun (i,u)=>4-i) (0,s) ?_ Sub.z Sup.z ?_
 ·exact ⟨by omega,fun k hk=>by rw [if_neg (by omega)]⟩
 rintro ⟨i,u⟩ ⟨i1,i2⟩
 dsimp only [List.cons_append,List.nil_append] at i1 i2 ⊢
 repeat first|exact zE|refine wkG ?_|refine zB fun b=>?_|refine zC fun a' c' hc1 hc2=>?_|(show GJ _ _ _ _ _ _ _;first|(apply GJ.a;exact rfl;intro hg)|(apply GJ.o;exact rfl;intro hg)|refine GJ.t zO ?_|refine GJ.f zO ?_|refine GJ.ft zO ?_|refine GJ.ff zO ?_)
 refine Br.cases (fun hg=>?_) (fun hg=>?_)
 ·have h1:=hs i
  have h3:=i2 i (by omega)
  rw [if_neg (by omega)] at h3
  rw [←h3] at h1
  repeat first|exact zE|refine wkG ?_|refine zB fun b=>?_|refine zC fun a' c' hc1 hc2=>?_|(show GJ _ _ _ _ _ _ _;first|(apply GJ.a;exact rfl;intro hg)|(apply GJ.o;exact rfl;intro hg)|refine GJ.t zO ?_|refine GJ.f zO ?_|refine GJ.ft zO ?_|refine GJ.ff zO ?_)
  refine OpOk.load rfl rfl (Ld.setAt u rfl (k:=i) (by omega) (by omega)) ?_
  repeat first|exact zE|refine wkG ?_|refine zB fun b=>?_|refine zC fun a' c' hc1 hc2=>?_|(show GJ _ _ _ _ _ _ _;first|(apply GJ.a;exact rfl;intro hg)|(apply GJ.o;exact rfl;intro hg)|refine GJ.t zO ?_|refine GJ.f zO ?_|refine GJ.ft zO ?_|refine GJ.ff zO ?_)
  refine OpOk.xor64 (n:=u.w i) rfl h1 ?_
  repeat first|exact zE|refine wkG ?_|refine zB fun b=>?_|refine zC fun a' c' hc1 hc2=>?_|(show GJ _ _ _ _ _ _ _;first|(apply GJ.a;exact rfl;intro hg)|(apply GJ.o;exact rfl;intro hg)|refine GJ.t zO ?_|refine GJ.f zO ?_|refine GJ.ft zO ?_|refine GJ.ff zO ?_)
  refine zEc (k:=i) (w:=18446744073709551615-u.w i) u rfl rfl rfl rfl rfl (by omega) (by omega) ?_
  repeat first|exact zE|refine wkG ?_|refine zB fun b=>?_|refine zC fun a' c' hc1 hc2=>?_|(show GJ _ _ _ _ _ _ _;first|(apply GJ.a;exact rfl;intro hg)|(apply GJ.o;exact rfl;intro hg)|refine GJ.t zO ?_|refine GJ.f zO ?_|refine GJ.ft zO ?_|refine GJ.ff zO ?_)
  refine Wk.id ⟨(i+1,u.put i (18446744073709551615-u.w i)),⟨rfl,?_⟩,?_,Sub.z,Sup.z⟩
  all_goals try dsimp only
  ·refine ⟨by omega,fun k hk=>?_⟩
   rw [SetD.w_put (by omega) hk]
   by_cases hki:k=i
   ·subst hki;rw [if_pos rfl,if_pos (by omega),i2 k hk,if_neg (by omega),SetD.w_not]
   ·rw [if_neg hki,i2 k hk]
    by_cases hlt:k<i
    ·rw [if_pos hlt,if_pos (by omega)]
    ·rw [if_neg hlt,if_neg (by omega)]
  ·omega
 ·obtain rfl:u=s.not:=SetD.ext4 (fun k hk=>by rw [i2 k hk,if_pos (by omega)])
  repeat first|exact zE|refine wkG ?_|refine zB fun b=>?_|refine zC fun a' c' hc1 hc2=>?_|(show GJ _ _ _ _ _ _ _;first|(apply GJ.a;exact rfl;intro hg)|(apply GJ.o;exact rfl;intro hg)|refine GJ.t zO ?_|refine GJ.f zO ?_|refine GJ.ft zO ?_|refine GJ.ff zO ?_)
  exact Wk.outS Sup.z (.refl _) hk
theorem SetIn.zero:SetIn ⟨0,0,0,0⟩:=fun k=>by unfold SetD.w;split;decide;split;decide;split<;>decide
def allD:SetD:=⟨18446744073709551615,18446744073709551615,18446744073709551615,18446744073709551615⟩
theorem zOb (hk:K (.agg (setV allD).toArray) ro own):CallOk Tryz.prog 76 #[] ro own K:=by
 refine CallOk.intro (args:=[]) (rs:=[_]) T_ok Tryz.func76 Tryz.call76 rfl rfl (by kernel_rfl) rfl rfl ?_
 repeat first|exact zE|refine wkG ?_|refine zB fun b=>?_|refine zC fun a' c' hc1 hc2=>?_|(show GJ _ _ _ _ _ _ _;first|(apply GJ.a;exact rfl;intro hg)|(apply GJ.o;exact rfl;intro hg)|refine GJ.t zO ?_|refine GJ.f zO ?_|refine GJ.ft zO ?_|refine GJ.ff zO ?_)
 refine OpOk.buildK (ps:=[]) (setV ⟨0,0,0,0⟩) rfl (by kernel_rfl) ?_
 repeat first|exact zE|refine wkG ?_|refine zB fun b=>?_|refine zC fun a' c' hc1 hc2=>?_|(show GJ _ _ _ _ _ _ _;first|(apply GJ.a;exact rfl;intro hg)|(apply GJ.o;exact rfl;intro hg)|refine GJ.t zO ?_|refine GJ.f zO ?_|refine GJ.ft zO ?_|refine GJ.ff zO ?_)
 refine zIb SetIn.zero ?_
 repeat first|exact zE|refine wkG ?_|refine zB fun b=>?_|refine zC fun a' c' hc1 hc2=>?_|(show GJ _ _ _ _ _ _ _;first|(apply GJ.a;exact rfl;intro hg)|(apply GJ.o;exact rfl;intro hg)|refine GJ.t zO ?_|refine GJ.f zO ?_|refine GJ.ft zO ?_|refine GJ.ff zO ?_)
 exact Wk.outS Sup.z (.refl _) hk
theorem zCs {s:SetD} (hk:K (.int .i64 (if s=⟨0,0,0,0⟩ then 160 else 0)) ro own):CallOk Tryz.prog 46 #[.agg (setV s).toArray] ro own K:=by
 refine CallOk.intro (args:=[_]) (rs:=[_]) T_ok Tryz.func46 Tryz.call46 rfl rfl (by kernel_rfl) rfl rfl ?_
 repeat first|exact zE|refine wkG ?_|refine zB fun b=>?_|refine zC fun a' c' hc1 hc2=>?_|(show GJ _ _ _ _ _ _ _;first|(apply GJ.a;exact rfl;intro hg)|(apply GJ.o;exact rfl;intro hg)|refine GJ.t zO ?_|refine GJ.f zO ?_|refine GJ.ft zO ?_|refine GJ.ff zO ?_)
 refine zK4 ?_
 repeat first|exact zE|refine wkG ?_|refine zB fun b=>?_|refine zC fun a' c' hc1 hc2=>?_|(show GJ _ _ _ _ _ _ _;first|(apply GJ.a;exact rfl;intro hg)|(apply GJ.o;exact rfl;intro hg)|refine GJ.t zO ?_|refine GJ.f zO ?_|refine GJ.ft zO ?_|refine GJ.ff zO ?_)
 refine Br.cases (fun h=>?_) (fun h=>?_)
 ·rw [if_pos h] at hk
  repeat first|exact zE|refine wkG ?_|refine zB fun b=>?_|refine zC fun a' c' hc1 hc2=>?_|(show GJ _ _ _ _ _ _ _;first|(apply GJ.a;exact rfl;intro hg)|(apply GJ.o;exact rfl;intro hg)|refine GJ.t zO ?_|refine GJ.f zO ?_|refine GJ.ft zO ?_|refine GJ.ff zO ?_)
  exact Wk.outS Sup.z (.refl _) hk
 ·rw [if_neg h] at hk
  repeat first|exact zE|refine wkG ?_|refine zB fun b=>?_|refine zC fun a' c' hc1 hc2=>?_|(show GJ _ _ _ _ _ _ _;first|(apply GJ.a;exact rfl;intro hg)|(apply GJ.o;exact rfl;intro hg)|refine GJ.t zO ?_|refine GJ.f zO ?_|refine GJ.ft zO ?_|refine GJ.ff zO ?_)
  exact Wk.outS Sup.z (.refl _) hk
def SetD.add (s:SetD) (c:Nat):SetD:=s.put (c / 64) (s.w (c / 64) ||| 2 ^ (c % 64))
theorem SetD.has_add {s:SetD}{c j:Nat} (hc:c<256) (hj:j<256):(s.add c).has j=(s.has j||decide (j=c)):=by
 unfold SetD.has SetD.add
 rw [SetD.w_put (by omega) (by omega)]
 by_cases h:j / 64=c / 64
 ·rw [if_pos h,Nat.testBit_or,Nat.testBit_two_pow,h]
  congr 1
  rw [decide_eq_decide]
  omega
 ·rw [if_neg h]
  have:¬j=c:=fun e=>h (by rw [e])
  simp [this]
theorem SetIn.add {s:SetD}{c:Nat} (hs:SetIn s) (hc:c<256):SetIn (s.add c):=fun k=>by
 have h1:s.w (c / 64) ||| 2 ^ (c % 64)<2 ^ 64:=Nat.or_lt_two_pow (by have:=hs (c / 64);omega) (Nat.pow_lt_pow_right (by decide) (by omega))
 have h2:=hs 0
 have h3:=hs 1
 have h4:=hs 2
 have h5:=hs 3
 unfold SetD.add
 generalize s.w (c / 64) ||| 2 ^ (c % 64)=x at h1 ⊢
 have hlt:c / 64<4:=by omega
 generalize c / 64=m at hlt
 simp only [SetD.w] at h2 h3 h4 h5 ⊢
 unfold SetD.put
 repeat' split
 all_goals simp_all
theorem SetD.has_zero (c:Nat):SetD.has ⟨0,0,0,0⟩ c=false:=by
 unfold SetD.has SetD.w
 repeat' split
 all_goals simp
theorem zJL (i:Nat) (h:i<64):(1:Int)*2 ^ ((i:Nat):Int).toNat % 18446744073709551616=((2 ^ i:Nat):Int):=by
 rw [Int.toNat_natCast,Int.one_mul]
 have h1:2 ^ i<2 ^ 64:=Nat.pow_lt_pow_right (by decide) h
 have h2:((2:Int) ^ i)=((2 ^ i:Nat):Int):=by push_cast;rfl
 rw [h2]
 generalize 2 ^ i=q at h1
 omega
theorem QOk.andN' {ty:TypeId}{env:Env}{t yt:TypeId}{x y:Operand}{a b:Int}{K:Value→Prop} (hx:ev env x=some (.int .i64 a)) (hy:ev env y=some (.int .i64 b)) (h:(0≤a∧a<9223372036854775808)∧0≤b∧b<9223372036854775808) (hk:K (.int .i64 (zCR a b))):QOk Tryz.prog (.binOp .and t x y yt) ty env ro own K :=
 QOk.pu (fun h' hs d pos af g=>Pu.int2 hx hy (by simp) fun w=>zH0 (k:=.i64) h.1 h.2 w) hk
theorem range_ok {x y:Nat} (hx:x<256) (hy:y<256) (hk:∀ s,SetIn s→(∀ c,c<256→s.has c=decide (x≤c∧c≤y))→K (.agg (setV s).toArray) ro own):CallOk Tryz.prog 117 #[.int .u8 (x:Int),.int .u8 (y:Int)] ro own K:=by
 refine CallOk.intro (args:=[_,_]) (rs:=[_]) T_ok Tryz.func117 Tryz.call117 rfl rfl (by kernel_rfl) rfl rfl ?_
 repeat first|exact zE|refine wkG ?_|refine zB fun b=>?_|refine zC fun a' c' hc1 hc2=>?_|(show GJ _ _ _ _ _ _ _;first|(apply GJ.a;exact rfl;intro hg)|(apply GJ.o;exact rfl;intro hg)|refine GJ.t zO ?_|refine GJ.f zO ?_|refine GJ.ft zO ?_|refine GJ.ff zO ?_)
 rename_i br
 refine LoopOk.at (ι:=Nat × SetD) Keep.z (fun (i,u)=>[(6,.int .i64 (i:Int))]) (fun (i,u)=>.blk b 113 (setV u)::.blk br 113 [.int .u64 0,.int .u64 0,.int .u64 0,.int .u64 0]::own) (fun (i,u)=>x≤i∧i≤256∧SetIn u∧(∀ c,c<256→u.has c=decide (x≤c∧c<i))∧(i≤y+1∨i=x)) (fun (i,u)=>256-i) (x,⟨0,0,0,0⟩) ?_ Sub.z Sup.z ?_
 ·exact ⟨by omega,by omega,SetIn.zero,fun c hc=>by rw [SetD.has_zero,eq_comm,decide_eq_false_iff_not];omega,by omega⟩
 rintro ⟨i,u⟩ ⟨i1,i2,i3,i4,i5⟩
 dsimp only [List.cons_append,List.nil_append] at i1 i2 i3 i4 i5 ⊢
 repeat first|exact zE|refine wkG ?_|refine zB fun b=>?_|refine zC fun a' c' hc1 hc2=>?_|(show GJ _ _ _ _ _ _ _;first|(apply GJ.a;exact rfl;intro hg)|(apply GJ.o;exact rfl;intro hg)|refine GJ.t zO ?_|refine GJ.f zO ?_|refine GJ.ft zO ?_|refine GJ.ff zO ?_)
 refine Br.cases (fun hg=>?_) (fun hg=>?_)
 ·have hw:=i3 (i / 64)
  have e:(i:Int) / 2 ^ Int.toNat 6=((i / 64:Nat):Int):=by show (i:Int) / 64=_;omega
  repeat first|exact zE|refine wkG ?_|refine zB fun b=>?_|refine zC fun a' c' hc1 hc2=>?_|(show GJ _ _ _ _ _ _ _;first|(apply GJ.a;exact rfl;intro hg)|(apply GJ.o;exact rfl;intro hg)|refine GJ.t zO ?_|refine GJ.f zO ?_|refine GJ.ft zO ?_|refine GJ.ff zO ?_)
  rw [e]
  repeat first|exact zE|refine wkG ?_|refine zB fun b=>?_|refine zC fun a' c' hc1 hc2=>?_|(show GJ _ _ _ _ _ _ _;first|(apply GJ.a;exact rfl;intro hg)|(apply GJ.o;exact rfl;intro hg)|refine GJ.t zO ?_|refine GJ.f zO ?_|refine GJ.ft zO ?_|refine GJ.ff zO ?_)
  refine QOk.load rfl rfl (Ld.setAt u rfl (k:=i / 64) (by omega) (by omega)) ?_
  repeat first|exact zE|refine wkG ?_|refine zB fun b=>?_|refine zC fun a' c' hc1 hc2=>?_|(show GJ _ _ _ _ _ _ _;first|(apply GJ.a;exact rfl;intro hg)|(apply GJ.o;exact rfl;intro hg)|refine GJ.t zO ?_|refine GJ.f zO ?_|refine GJ.ft zO ?_|refine GJ.ff zO ?_)
  refine QOk.andN' rfl rfl ⟨by omega,by omega⟩ ?_
  repeat first|exact zE|refine wkG ?_|refine zB fun b=>?_|refine zC fun a' c' hc1 hc2=>?_|(show GJ _ _ _ _ _ _ _;first|(apply GJ.a;exact rfl;intro hg)|(apply GJ.o;exact rfl;intro hg)|refine GJ.t zO ?_|refine GJ.f zO ?_|refine GJ.ft zO ?_|refine GJ.ff zO ?_)
  rw [and63]
  refine ⟨by omega,?_⟩
  rw [zJL _ (by omega)]
  have hp:2 ^ (i % 64)<18446744073709551616:=Nat.pow_lt_pow_right (a:=2) (m:=i % 64) (n:=64) (by decide) (by omega)
  have hadd:u.add i=u.put (i / 64) (u.w (i / 64) ||| 2 ^ (i % 64)):=rfl
  generalize 2 ^ (i % 64)=q at hp hadd ⊢
  repeat first|exact zE|refine wkG ?_|refine zB fun b=>?_|refine zC fun a' c' hc1 hc2=>?_|(show GJ _ _ _ _ _ _ _;first|(apply GJ.a;exact rfl;intro hg)|(apply GJ.o;exact rfl;intro hg)|refine GJ.t zO ?_|refine GJ.f zO ?_|refine GJ.ft zO ?_|refine GJ.ff zO ?_)
  refine zEc (k:=i / 64) (w:=u.w (i / 64) ||| q) u rfl rfl rfl rfl rfl (by omega) (by omega) ?_
  rw [←hadd]
  repeat first|exact zE|refine wkG ?_|refine zB fun b=>?_|refine zC fun a' c' hc1 hc2=>?_|(show GJ _ _ _ _ _ _ _;first|(apply GJ.a;exact rfl;intro hg)|(apply GJ.o;exact rfl;intro hg)|refine GJ.t zO ?_|refine GJ.f zO ?_|refine GJ.ft zO ?_|refine GJ.ff zO ?_)
  refine Wk.id ⟨(i+1,u.add i),⟨rfl,?_⟩,?_,Sub.z,Sup.z⟩
  all_goals try dsimp only
  ·refine ⟨by omega,by omega,i3.add (by omega),fun c hc=>?_,by omega⟩
   rw [SetD.has_add (by omega) hc,i4 c hc,Bool.eq_iff_iff]
   simp only [Bool.or_eq_true,decide_eq_true_iff]
   omega
  ·omega
 ·repeat first|exact zE|refine wkG ?_|refine zB fun b=>?_|refine zC fun a' c' hc1 hc2=>?_|(show GJ _ _ _ _ _ _ _;first|(apply GJ.a;exact rfl;intro hg)|(apply GJ.o;exact rfl;intro hg)|refine GJ.t zO ?_|refine GJ.f zO ?_|refine GJ.ft zO ?_|refine GJ.ff zO ?_)
  refine Wk.outS Sup.z (.refl _) (hk u i3 (fun c hc=>?_))
  rw [i4 c hc,decide_eq_decide]
  omega
theorem of_ok {al:Option Addr}{cl:Nat}{l:List UInt8} (hl:Bys ro al l.length cl l) (hn:l.length≤100000) (hk:∀ s,SetIn s→(∀ c:UInt8,s.has c.toNat=decide (c∈l))→K (.agg (setV s).toArray) ro own):CallOk Tryz.prog 111 #[.slice al l.length cl] ro own K:=by
 refine CallOk.intro (args:=[_]) (rs:=[_]) T_ok Tryz.func111 Tryz.call111 rfl rfl (by kernel_rfl) rfl rfl ?_
 repeat first|exact zE|refine wkG ?_|refine zB fun b=>?_|refine zC fun a' c' hc1 hc2=>?_|(show GJ _ _ _ _ _ _ _;first|(apply GJ.a;exact rfl;intro hg)|(apply GJ.o;exact rfl;intro hg)|refine GJ.t zO ?_|refine GJ.f zO ?_|refine GJ.ft zO ?_|refine GJ.ff zO ?_)
 rename_i br
 refine LoopOk.at (ι:=Nat × SetD) Keep.z (fun (i,u)=>[(8,.int .i64 (i:Int))]) (fun (i,u)=>.blk b 113 (setV u)::.blk br 113 [.int .u64 0,.int .u64 0,.int .u64 0,.int .u64 0]::own) (fun (i,u)=>i≤l.length∧SetIn u∧(∀ c:UInt8,u.has c.toNat=decide (c∈l.take i))) (fun (i,u)=>l.length-i) (0,⟨0,0,0,0⟩) ?_ Sub.z Sup.z ?_
 ·exact ⟨by omega,SetIn.zero,fun c=>by rw [SetD.has_zero];simp⟩
 rintro ⟨i,u⟩ ⟨i1,i3,i4⟩
 dsimp only [List.cons_append,List.nil_append] at i1 i3 i4 ⊢
 repeat first|exact zE|refine wkG ?_|refine zB fun b=>?_|refine zC fun a' c' hc1 hc2=>?_|(show GJ _ _ _ _ _ _ _;first|(apply GJ.a;exact rfl;intro hg)|(apply GJ.o;exact rfl;intro hg)|refine GJ.t zO ?_|refine GJ.f zO ?_|refine GJ.ft zO ?_|refine GJ.ff zO ?_)
 refine Br.cases (fun hg=>?_) (fun hg=>?_)
 ·have hil:i<l.length:=by omega
  have htk:l.take (i+1)=l.take i++[l[i]]:=by rw [List.take_add_one,List.getElem?_eq_getElem hil];rfl
  have hgb:l[(i:Int).toNat]! = l[i]:=by rw [Int.toNat_natCast,List.getElem!_eq_getElem?_getD,List.getElem?_eq_getElem hil];rfl
  repeat first|exact zE|refine wkG ?_|refine zB fun b=>?_|refine zC fun a' c' hc1 hc2=>?_|(show GJ _ _ _ _ _ _ _;first|(apply GJ.a;exact rfl;intro hg)|(apply GJ.o;exact rfl;intro hg)|refine GJ.t zO ?_|refine GJ.f zO ?_|refine GJ.ft zO ?_|refine GJ.ff zO ?_)
  rw [hgb]
  clear hgb
  generalize l[i]=c at htk ⊢
  have hc:=c.toNat_lt
  have hw:=i3 (c.toNat / 64)
  have e:(c.toNat:Int) / 2 ^ Int.toNat 6=((c.toNat / 64:Nat):Int):=by show (c.toNat:Int) / 64=_;omega
  rw [e]
  repeat first|exact zE|refine wkG ?_|refine zB fun b=>?_|refine zC fun a' c' hc1 hc2=>?_|(show GJ _ _ _ _ _ _ _;first|(apply GJ.a;exact rfl;intro hg)|(apply GJ.o;exact rfl;intro hg)|refine GJ.t zO ?_|refine GJ.f zO ?_|refine GJ.ft zO ?_|refine GJ.ff zO ?_)
  refine OpOk.load rfl rfl (Ld.setAt u rfl (k:=c.toNat / 64) (by omega) (by omega)) ?_
  repeat first|exact zE|refine wkG ?_|refine zB fun b=>?_|refine zC fun a' c' hc1 hc2=>?_|(show GJ _ _ _ _ _ _ _;first|(apply GJ.a;exact rfl;intro hg)|(apply GJ.o;exact rfl;intro hg)|refine GJ.t zO ?_|refine GJ.f zO ?_|refine GJ.ft zO ?_|refine GJ.ff zO ?_)
  rw [and63]
  refine ⟨by omega,?_⟩
  rw [zJL _ (by omega)]
  have hp:2 ^ (c.toNat % 64)<18446744073709551616:=Nat.pow_lt_pow_right (a:=2) (m:=c.toNat % 64) (n:=64) (by decide) (by omega)
  have hadd:u.add c.toNat=u.put (c.toNat / 64) (u.w (c.toNat / 64) ||| 2 ^ (c.toNat % 64)):=rfl
  generalize 2 ^ (c.toNat % 64)=q at hp hadd ⊢
  repeat first|exact zE|refine wkG ?_|refine zB fun b=>?_|refine zC fun a' c' hc1 hc2=>?_|(show GJ _ _ _ _ _ _ _;first|(apply GJ.a;exact rfl;intro hg)|(apply GJ.o;exact rfl;intro hg)|refine GJ.t zO ?_|refine GJ.f zO ?_|refine GJ.ft zO ?_|refine GJ.ff zO ?_)
  refine zEc (k:=c.toNat / 64) (w:=u.w (c.toNat / 64) ||| q) u rfl rfl rfl rfl rfl (by omega) (by omega) ?_
  rw [←hadd]
  repeat first|exact zE|refine wkG ?_|refine zB fun b=>?_|refine zC fun a' c' hc1 hc2=>?_|(show GJ _ _ _ _ _ _ _;first|(apply GJ.a;exact rfl;intro hg)|(apply GJ.o;exact rfl;intro hg)|refine GJ.t zO ?_|refine GJ.f zO ?_|refine GJ.ft zO ?_|refine GJ.ff zO ?_)
  refine Wk.id ⟨(i+1,u.add c.toNat),⟨rfl,?_⟩,?_,Sub.z,Sup.z⟩
  all_goals try dsimp only
  ·refine ⟨by omega,i3.add (by omega),fun j=>?_⟩
   rw [SetD.has_add (by omega) j.toNat_lt,i4 j,htk,Bool.eq_iff_iff]
   simp only [Bool.or_eq_true,decide_eq_true_iff,List.mem_append,List.mem_singleton]
   exact or_congr_right (UInt8.toNat_inj)
  ·omega
 ·obtain rfl:i=l.length:=by omega
  rw [List.take_length] at i4
  repeat first|exact zE|refine wkG ?_|refine zB fun b=>?_|refine zC fun a' c' hc1 hc2=>?_|(show GJ _ _ _ _ _ _ _;first|(apply GJ.a;exact rfl;intro hg)|(apply GJ.o;exact rfl;intro hg)|refine GJ.t zO ?_|refine GJ.f zO ?_|refine GJ.ft zO ?_|refine GJ.ff zO ?_)
  exact Wk.outS Sup.z (.refl _) (hk u i3 i4)
end
def pc:Nat→Nat→Nat
 | 0,_=>0
 | n+1,x=>x % 2+pc n (x / 2)
def Dg (f:Nat→Nat):Nat→Nat→Nat
 | 0,_=>0
 | n+1,x=>f (x % 256)+256*Dg f n (x / 256)
def rep (m:Nat):Nat→Nat
 | 0=>0
 | n+1=>m+256*rep m n
theorem zD2 {u v p q:Nat} (hu:u<256) (hp:p<256):(u+256*v) &&& (p+256*q)=(u &&& p)+256*(v &&& q):=by
 apply Nat.eq_of_testBit_eq
 intro i
 have e1:u+256*v=2 ^ 8*v+u:=by omega
 have e2:p+256*q=2 ^ 8*q+p:=by omega
 have e3:(u &&& p)+256*(v &&& q)=2 ^ 8*(v &&& q)+(u &&& p):=by omega
 have h3:u &&& p<2 ^ 8:=Nat.and_lt_two_pow _ hp
 rw [e1,e2,e3,Nat.testBit_and,Nat.testBit_two_pow_mul_add _ hu,Nat.testBit_two_pow_mul_add _ hp,Nat.testBit_two_pow_mul_add _ h3]
 split<;>rw [Nat.testBit_and]
def f1 (b:Nat):Nat:=(b / 2 &&& 85)+(b &&& 85)
def f2 (b:Nat):Nat:=(b / 4 &&& 51)+(b &&& 51)
def f3 (b:Nat):Nat:=(b / 16+b) &&& 15
theorem f1_lt:∀ b,b<256→f1 b<256:=by decide +kernel
theorem f2_lt:∀ b,b<256→f2 b<256:=by decide +kernel
theorem st1:∀ (n x:Nat),x<256 ^ n→(x / 2 &&& rep 85 n)+(x &&& rep 85 n)=Dg f1 n x
 | 0,x,h=>by simp [rep,Dg]
 | n+1,x,h=>by
   have hy:x / 256<256 ^ n:=by rw [Nat.pow_succ] at h;omega
   have ih:=st1 n (x / 256) hy
   have e1:x / 2=(x % 256 / 2+128*(x / 256 % 2))+256*(x / 256 / 2):=by omega
   have e2:x=x % 256+256*(x / 256):=by omega
   have k:(x % 256 / 2+128*(x / 256 % 2)) &&& 85=x % 256 / 2 &&& 85:=by
    have:∀ b,b<256→∀ c,c<2→(b / 2+128*c) &&& 85=b / 2 &&& 85:=by decide +kernel
    exact this _ (by omega) _ (by omega)
   rw [Dg,rep,←ih]
   generalize hb:x % 256=b at *
   generalize hc:x / 256=y at *
   rw [e1,e2,zD2 (by omega) (by omega),zD2 (by omega) (by omega),k]
   unfold f1
   omega
theorem st2:∀ (n x:Nat),x<256 ^ n→(x / 4 &&& rep 51 n)+(x &&& rep 51 n)=Dg f2 n x
 | 0,x,h=>by simp [rep,Dg]
 | n+1,x,h=>by
   have hy:x / 256<256 ^ n:=by rw [Nat.pow_succ] at h;omega
   have ih:=st2 n (x / 256) hy
   have e1:x / 4=(x % 256 / 4+64*(x / 256 % 4))+256*(x / 256 / 4):=by omega
   have e2:x=x % 256+256*(x / 256):=by omega
   have k:(x % 256 / 4+64*(x / 256 % 4)) &&& 51=x % 256 / 4 &&& 51:=by
    have:∀ b,b<256→∀ c,c<4→(b / 4+64*c) &&& 51=b / 4 &&& 51:=by decide +kernel
    exact this _ (by omega) _ (by omega)
   rw [Dg,rep,←ih]
   generalize hb:x % 256=b at *
   generalize hc:x / 256=y at *
   rw [e1,e2,zD2 (by omega) (by omega),zD2 (by omega) (by omega),k]
   unfold f2
   omega
def Gd:Nat→Nat→Prop
 | 0,_=>True
 | n+1,x=>(x % 256 % 16≤4∧x % 256 / 16≤4)∧Gd n (x / 256)
theorem Gd.low:∀ {n x:Nat},x<256 ^ n→Gd n x→x % 16≤4
 | 0,x,h,_=>by simp at h;omega
 | n+1,x,_,h=>by have:=h.1.1;omega
theorem st3:∀ (n x:Nat),x<256 ^ n→Gd n x→(x / 16+x) &&& rep 15 n=Dg f3 n x
 | 0,x,h,_=>by simp [rep,Dg]
 | n+1,x,h,hg=>by
   have hy:x / 256<256 ^ n:=by rw [Nat.pow_succ] at h;omega
   have ih:=st3 n (x / 256) hy hg.2
   have hl:=hg.2.low hy
   have hb1:=hg.1
   have e1:x / 16+x=(x % 256 / 16+x % 256+16*(x / 256 % 16))+256*(x / 256 / 16+x / 256):=by omega
   have k:(x % 256 / 16+x % 256+16*(x / 256 % 16)) &&& 15=(x % 256 / 16+x % 256) &&& 15:=by
    have:=Nat.and_two_pow_sub_one_eq_mod (x % 256 / 16+x % 256+16*(x / 256 % 16)) 4
    have h2:=Nat.and_two_pow_sub_one_eq_mod (x % 256 / 16+x % 256) 4
    simp only [Nat.reducePow,Nat.reduceSub] at this h2
    rw [this,h2];omega
   rw [Dg,rep,←ih,e1,zD2 (by omega) (by omega),k]
   rfl
theorem zOg {f:Nat→Nat} (hf:∀ b,b<256→f b<256):∀ (n x:Nat),Dg f n x<256 ^ n
 | 0,x=>by simp [Dg]
 | n+1,x=>by
   have:=zOg hf n (x / 256)
   have h:=hf (x % 256) (by omega)
   rw [Dg,Nat.pow_succ];omega
theorem zJ9 {f g:Nat→Nat} (hf:∀ b,b<256→f b<256):∀ (n x:Nat),Dg g n (Dg f n x)=Dg (fun b=>g (f b)) n x
 | 0,x=>rfl
 | n+1,x=>by
   have h:=hf (x % 256) (by omega)
   rw [Dg,Dg,Dg,←zJ9 hf n (x / 256)]
   have e1:(f (x % 256)+256*Dg f n (x / 256)) % 256=f (x % 256):=by omega
   have e2:(f (x % 256)+256*Dg f n (x / 256)) / 256=Dg f n (x / 256):=by omega
   rw [e1,e2]
theorem Gd_Dg:∀ (n x:Nat),Gd n (Dg (fun b=>f2 (f1 b)) n x)
 | 0,x=>trivial
 | n+1,x=>by
   have h:∀ b,b<256→f2 (f1 b) % 16≤4∧f2 (f1 b) / 16≤4∧f2 (f1 b)<256:=by decide +kernel
   obtain ⟨h1,h2,h3⟩:=h (x % 256) (by omega)
   rw [Dg,Gd]
   have e1:(f2 (f1 (x % 256))+256*Dg (fun b=>f2 (f1 b)) n (x / 256)) % 256=f2 (f1 (x % 256)):=by omega
   have e2:(f2 (f1 (x % 256))+256*Dg (fun b=>f2 (f1 b)) n (x / 256)) / 256=Dg (fun b=>f2 (f1 b)) n (x / 256):=by omega
   rw [e1,e2]
   exact ⟨⟨h1,h2⟩,Gd_Dg n _⟩
theorem pc_add:∀ (m n x:Nat),pc (m+n) x=pc m (x % 2 ^ m)+pc n (x / 2 ^ m)
 | 0,n,x=>by simp [pc]
 | m+1,n,x=>by
   have ih:=pc_add m n (x / 2)
   rw [show m+1+n=(m+n)+1 by omega,pc,pc,ih]
   have e1:x % 2 ^ (m+1) % 2=x % 2:=by rw [Nat.pow_succ,Nat.mul_comm,Nat.mod_mul_right_mod]
   have e2:x % 2 ^ (m+1) / 2=x / 2 % 2 ^ m:=by rw [Nat.pow_succ,Nat.mul_comm,Nat.mod_mul_right_div_self]
   have e3:x / 2 / 2 ^ m=x / 2 ^ (m+1):=by rw [Nat.div_div_eq_div_mul,Nat.pow_succ,Nat.mul_comm]
   rw [e1,e2,e3];omega
def p8 (b:Nat):Nat:=f3 (f2 (f1 b))
theorem p8_pc:∀ b,b<256→p8 b=pc 8 b∧p8 b≤8:=by decide +kernel
def sumD:Nat→Nat→Nat
 | 0,_=>0
 | n+1,x=>p8 (x % 256)+sumD n (x / 256)
theorem pc_sum:∀ (n x:Nat),pc (8*n) x=sumD n x
 | 0,x=>rfl
 | n+1,x=>by
   rw [show 8*(n+1)=8+8*n by omega,pc_add,sumD,←pc_sum n,(p8_pc _ (by omega)).1]
set_option maxHeartbeats 4000000 in
theorem zHW {x:Nat} (h:x<18446744073709551616):∃ a1 a2 a3,(x / 2 &&& 6148914691236517205)+(x &&& 6148914691236517205)=a1∧a1<18446744073709551616∧(a1 / 4 &&& 3689348814741910323)+(a1 &&& 3689348814741910323)=a2∧a2+a2 / 16<18446744073709551616 ∧
  (a2 / 16+a2) &&& 1085102592571150095=a3∧a3≤578721382704613384∧(a3+a3 / 256+(a3+a3 / 256) / 65536+(a3+a3 / 256+(a3+a3 / 256) / 65536) / 4294967296) % 128=pc 64 x∧pc 64 x≤64:=by
 have h8:x<256 ^ 8:=h
 have hf1:=f1_lt
 have hf2:∀ b,b<256→(fun b=>f2 (f1 b)) b<256:=fun b hb=>f2_lt _ (f1_lt b hb)
 refine ⟨Dg f1 8 x,Dg (fun b=>f2 (f1 b)) 8 x,Dg p8 8 x,st1 8 x h8,zOg hf1 8 x,?_,?_,?_,?_,?_⟩
 ·rw [←zJ9 hf1];exact st2 8 _ (zOg hf1 8 x)
 ·have:=Gd_Dg 8 x
  have hlt:=zOg hf2 8 x
  generalize Dg (fun b=>f2 (f1 b)) 8 x=y at this hlt
  simp only [Gd] at this
  omega
 ·have:=st3 8 _ (zOg hf2 8 x) (Gd_Dg 8 x)
  rw [zJ9 hf2] at this
  exact this
 all_goals
  have e:pc 64 x=sumD 8 x:=pc_sum 8 x
  have g:=fun b=>(p8_pc (b % 256) (by omega)).2
  have g0:=g x
  have g1:=g (x / 256)
  have g2:=g (x / 256 / 256)
  have g3:=g (x / 256 / 256 / 256)
  have g4:=g (x / 256 / 256 / 256 / 256)
  have g5:=g (x / 256 / 256 / 256 / 256 / 256)
  have g6:=g (x / 256 / 256 / 256 / 256 / 256 / 256)
  have g7:=g (x / 256 / 256 / 256 / 256 / 256 / 256 / 256)
  clear g
  simp only [sumD,Nat.add_zero] at e
  simp only [Dg,Nat.mul_zero,Nat.add_zero]
  try rw [e]
  clear e
  generalize p8 (x % 256)=q0 at *
  generalize p8 (x / 256 % 256)=q1 at *
  generalize p8 (x / 256 / 256 % 256)=q2 at *
  generalize p8 (x / 256 / 256 / 256 % 256)=q3 at *
  generalize p8 (x / 256 / 256 / 256 / 256 % 256)=q4 at *
  generalize p8 (x / 256 / 256 / 256 / 256 / 256 % 256)=q5 at *
  generalize p8 (x / 256 / 256 / 256 / 256 / 256 / 256 % 256)=q6 at *
  generalize p8 (x / 256 / 256 / 256 / 256 / 256 / 256 / 256 % 256)=q7 at *
  clear h h8 hf1 hf2
 ·omega
 ·refine ⟨?_,by omega⟩
  have s1:(q0+256*(q1+256*(q2+256*(q3+256*(q4+256*(q5+256*(q6+256*(q7)))))))) / 256=q1+256*(q2+256*(q3+256*(q4+256*(q5+256*(q6+256*(q7)))))):=by omega
  have s2:(q0+256*(q1+256*(q2+256*(q3+256*(q4+256*(q5+256*(q6+256*(q7))))))))+(q1+256*(q2+256*(q3+256*(q4+256*(q5+256*(q6+256*(q7)))))))=(q0+q1)+256*((q1+q2)+256*((q2+q3)+256*((q3+q4)+256*((q4+q5)+256*((q5+q6)+256*((q6+q7)+256*(q7))))))):=by omega
  have s3:((q0+q1)+256*((q1+q2)+256*((q2+q3)+256*((q3+q4)+256*((q4+q5)+256*((q5+q6)+256*((q6+q7)+256*(q7)))))))) / 65536=(q2+q3)+256*((q3+q4)+256*((q4+q5)+256*((q5+q6)+256*((q6+q7)+256*(q7))))):=by omega
  have s4:((q0+q1)+256*((q1+q2)+256*((q2+q3)+256*((q3+q4)+256*((q4+q5)+256*((q5+q6)+256*((q6+q7)+256*(q7))))))))+((q2+q3)+256*((q3+q4)+256*((q4+q5)+256*((q5+q6)+256*((q6+q7)+256*(q7))))))=((q0+q1)+(q2+q3))+256*(((q1+q2)+(q3+q4))+256*(((q2+q3)+(q4+q5))+256*(((q3+q4)+(q5+q6))+256*(((q4+q5)+(q6+q7))+256*(((q5+q6)+q7)+256*((q6+q7)+256*(q7))))))):=by omega
  have s5:(((q0+q1)+(q2+q3))+256*(((q1+q2)+(q3+q4))+256*(((q2+q3)+(q4+q5))+256*(((q3+q4)+(q5+q6))+256*(((q4+q5)+(q6+q7))+256*(((q5+q6)+q7)+256*((q6+q7)+256*(q7)))))))) / 4294967296=((q4+q5)+(q6+q7))+256*(((q5+q6)+q7)+256*((q6+q7)+256*(q7))):=by omega
  have s6:(((q0+q1)+(q2+q3))+256*(((q1+q2)+(q3+q4))+256*(((q2+q3)+(q4+q5))+256*(((q3+q4)+(q5+q6))+256*(((q4+q5)+(q6+q7))+256*(((q5+q6)+q7)+256*((q6+q7)+256*(q7))))))))+(((q4+q5)+(q6+q7))+256*(((q5+q6)+q7)+256*((q6+q7)+256*(q7))))=(((q0+q1)+(q2+q3))+((q4+q5)+(q6+q7)))+256*((((q1+q2)+(q3+q4))+((q5+q6)+q7))+256*((((q2+q3)+(q4+q5))+(q6+q7))+256*((((q3+q4)+(q5+q6))+q7)+256*(((q4+q5)+(q6+q7))+256*(((q5+q6)+q7)+256*((q6+q7)+256*(q7))))))):=by omega
  rw [s1,s2,s3,s4,s5,s6]
  clear s1 s2 s3 s4 s5 s6
  omega
theorem zKh:∀ (n x:Nat),x≤n→x≠0→∃ k m,x=2 ^ (k+1)*m+2 ^ k
 | 0,x,h,h0=>absurd (by omega) h0
 | n+1,x,h,h0=>by
   by_cases ho:x % 2=1
   ·exact ⟨0,x / 2,by simp;omega⟩
   ·obtain ⟨k,m,e⟩:=zKh n (x / 2) (by omega) (by omega)
    refine ⟨k+1,m,?_⟩
    have h2:x=2*(x / 2):=by omega
    rw [h2,e,Nat.pow_succ 2 (k+1),Nat.mul_add,Nat.pow_succ 2 k,←Nat.mul_assoc]
    congr 1
    ·congr 1
     omega
    ·omega
theorem low_bit {x:Nat} (h0:x≠0) (h:x<18446744073709551616):∃ k,k<64∧x.testBit k=true∧(∀ i,i<k→x.testBit i=false)∧x &&& (18446744073709551616-x)=2 ^ k:=by
 obtain ⟨k,m,e⟩:=zKh x x (Nat.le_refl _) h0
 have hp:2 ^ k<2 ^ (k+1):=Nat.pow_lt_pow_right (by decide) (by omega)
 have hp0:0<2 ^ k:=Nat.two_pow_pos k
 have hk:k<64:=by
  rcases Nat.lt_or_ge k 64 with hk|hk
  ·exact hk
  ·have:2 ^ 64≤2 ^ k:=Nat.pow_le_pow_right (by decide) hk
   omega
 have tb:∀ i,x.testBit i=if i<k+1 then decide (k=i) else m.testBit (i-(k+1)):=fun i=>by
  rw [e,Nat.testBit_two_pow_mul_add _ hp,Nat.testBit_two_pow]
 have e1:x-1=2 ^ (k+1)*m+(2 ^ k-1):=by omega
 have tb1:∀ i,(x-1).testBit i=if i<k+1 then decide (i<k) else m.testBit (i-(k+1)):=fun i=>by
  rw [e1,Nat.testBit_two_pow_mul_add _ (by omega),Nat.testBit_two_pow_sub_one]
 refine ⟨k,hk,by rw [tb,if_pos (by omega)];simp,fun i hi=>by rw [tb,if_pos (by omega)];simp;omega,?_⟩
 apply Nat.eq_of_testBit_eq
 intro i
 rw [Nat.testBit_and,show 18446744073709551616-x=2 ^ 64-((x-1)+1) by omega,Nat.testBit_two_pow_sub_succ (by omega),tb,tb1,Nat.testBit_two_pow]
 by_cases hi:i<k+1
 ·rw [if_pos hi,if_pos hi]
  by_cases hik:k=i
  ·subst hik;simp [hk]
  ·simp [hik]
 ·rw [if_neg hi,if_neg hi]
  have:¬k=i:=by omega
  simp [this]
  exact fun a _=>a
def debr:List Int:=[0,1,56,2,57,49,28,3,61,58,42,50,38,29,17,4,62,47,59,36,45,43,51,22,53,39,33,30,24,18,12,5,63,55,48,27,60,41,37,16,46,35,44,21,52,32,23,11,54,26,40,15,34,20,31,10,25,14,19,9,13,8,7,6]
theorem zNC:∀ k:Nat,k<64→debr.getD (2 ^ k*285870213051353865 % 18446744073709551616 / 288230376151711744) 0=(k:Int)∧2 ^ k*285870213051353865 % 18446744073709551616 / 288230376151711744<64:=by decide +kernel
structure TabOk (ro:Ro):Prop where
 cells:∃ cs t fr,ro 3=some (.cells cs t fr)∧∀ i,i<64→cs[i]?=some (.int .u8 (debr.getD i 0))
theorem TabOk.le {ro ro':Ro} (h:TabOk ro) (hl:Le ro ro'):TabOk ro':=by
 obtain ⟨cs,t,fr,h1,h2⟩:=h.cells
 exact ⟨cs,t,fr,hl.le _ _ h1,h2⟩
theorem TabOk.ld {ro:Ro}{own:Chs}{o i:Nat} (h:TabOk ro) (ho:o=i) (hi:i<64):Ld ro own 3 o (.int .u8 (debr.getD i 0)):=fun hp hs=>by
 subst ho
 obtain ⟨cs,t,fr,h1,h2⟩:=h.cells
 have:=hs.last _ _ h1
 rw [zBM this];exact h2 o hi
def Low (x k:Nat):Prop:=k<64∧x.testBit k=true∧∀ i,i<k→x.testBit i=false
section
variable {ro:Ro}{own r:Chs}{K:Value→Ro→Chs→Prop}{g:Chunk→Chs}
theorem tz_ok {x:Nat} (ht:TabOk ro) (h0:x≠0) (h:x<18446744073709551616) (hk:∀ k:Nat,Low x k→K (.int .i64 (k:Int)) ro own):CallOk Tryz.prog 93 #[.int .u64 (x:Int)] ro own K:=by
 obtain ⟨k,k1,k2,k3,k4⟩:=low_bit h0 h
 have k5:=hk k ⟨k1,k2,k3⟩
 obtain ⟨d1,d2⟩:=zNC k k1
 have e1:(18446744073709551616-x) % 18446744073709551616=18446744073709551616-x:=by omega
 have e2:zCR (x:Int) ((18446744073709551616-x:Nat):Int)=((2 ^ k:Nat):Int):=congrArg Int.ofNat k4
 have e3:(((2 ^ k:Nat):Int)*285870213051353865 % 18446744073709551616) / 2 ^ Int.toNat 58=((2 ^ k*285870213051353865 % 18446744073709551616 / 288230376151711744:Nat):Int):=by
  show _ / (288230376151711744:Int)=_
  generalize 2 ^ k=q
  omega
 generalize 2 ^ k*285870213051353865 % 18446744073709551616 / 288230376151711744=idx at d1 d2 e3
 refine CallOk.intro (args:=[_]) (rs:=[_]) T_ok Tryz.func93 Tryz.call93 rfl rfl (by kernel_rfl) rfl rfl ?_
 repeat first|exact zE|refine wkG ?_|refine zB fun b=>?_|refine zC fun a' c' hc1 hc2=>?_|(show GJ _ _ _ _ _ _ _;first|(apply GJ.a;exact rfl;intro hg)|(apply GJ.o;exact rfl;intro hg)|refine GJ.t zO ?_|refine GJ.f zO ?_|refine GJ.ft zO ?_|refine GJ.ff zO ?_)
 refine OpOk.neg64 rfl ?_ h
 rw [e1]
 repeat first|exact zE|refine wkG ?_|refine zB fun b=>?_|refine zC fun a' c' hc1 hc2=>?_|(show GJ _ _ _ _ _ _ _;first|(apply GJ.a;exact rfl;intro hg)|(apply GJ.o;exact rfl;intro hg)|refine GJ.t zO ?_|refine GJ.f zO ?_|refine GJ.ft zO ?_|refine GJ.ff zO ?_)
 rw [e2,e3]
 repeat first|exact zE|refine wkG ?_|refine zB fun b=>?_|refine zC fun a' c' hc1 hc2=>?_|(show GJ _ _ _ _ _ _ _;first|(apply GJ.a;exact rfl;intro hg)|(apply GJ.o;exact rfl;intro hg)|refine GJ.t zO ?_|refine GJ.f zO ?_|refine GJ.ft zO ?_|refine GJ.ff zO ?_)
 refine OpOk.load rfl rfl (ht.ld (i:=idx) (by omega) d2) ?_
 rw [d1]
 repeat first|exact zE|refine wkG ?_|refine zB fun b=>?_|refine zC fun a' c' hc1 hc2=>?_|(show GJ _ _ _ _ _ _ _;first|(apply GJ.a;exact rfl;intro hg)|(apply GJ.o;exact rfl;intro hg)|refine GJ.t zO ?_|refine GJ.f zO ?_|refine GJ.ft zO ?_|refine GJ.ff zO ?_)
 exact Wk.outS Sup.z (.refl _) k5
end
def SetD.len (s:SetD):Nat:=pc 64 s.a+pc 64 s.b+pc 64 s.c+pc 64 s.d
def SetD.lenTo (s:SetD):Nat→Nat
 | 0=>0
 | k+1=>s.lenTo k+pc 64 (s.w k)
theorem SetD.lenTo_four (s:SetD):s.lenTo 4=s.len:=by simp [SetD.lenTo,SetD.len,SetD.w]
section
variable {ro:Ro}{own r:Chs}{K:Value→Ro→Chs→Prop}{g:Chunk→Chs}
set_option maxHeartbeats 1000000 in
theorem count_ok {x:Nat} (h:x<18446744073709551616) (hk:K (.int .i64 ((pc 64 x:Nat):Int)) ro own):CallOk Tryz.prog 98 #[.int .u64 (x:Int)] ro own K:=by
 obtain ⟨a1,a2,a3,h1,h2,h3,h4,h5,h6,h7,h8⟩:=zHW h
 have l1:x / 2 &&& 6148914691236517205≤6148914691236517205:=Nat.and_le_right
 have l2:x &&& 6148914691236517205≤6148914691236517205:=Nat.and_le_right
 have l3:a1 / 4 &&& 3689348814741910323≤3689348814741910323:=Nat.and_le_right
 have l4:a1 &&& 3689348814741910323≤3689348814741910323:=Nat.and_le_right
 have s1:(x:Int) / 2 ^ Int.toNat 1=((x / 2:Nat):Int):=by show (x:Int) / 2=_;omega
 have s2:(a1:Int) / 2 ^ Int.toNat 2=((a1 / 4:Nat):Int):=by show (a1:Int) / 4=_;omega
 have s3:(a2:Int) / 2 ^ Int.toNat 4=((a2 / 16:Nat):Int):=by show (a2:Int) / 16=_;omega
 have s4:(a3:Int) / 2 ^ Int.toNat 8=((a3 / 256:Nat):Int):=by show (a3:Int) / 256=_;omega
 have q1:zCR ((x / 2:Nat):Int) 6148914691236517205=((x / 2 &&& 6148914691236517205:Nat):Int):=rfl
 have q2:zCR (x:Int) 6148914691236517205=((x &&& 6148914691236517205:Nat):Int):=rfl
 have r1:(((x / 2 &&& 6148914691236517205:Nat):Int)+((x &&& 6148914691236517205:Nat):Int)) % 18446744073709551616=(a1:Int):=by omega
 have q3:zCR ((a1 / 4:Nat):Int) 3689348814741910323=((a1 / 4 &&& 3689348814741910323:Nat):Int):=rfl
 have q4:zCR (a1:Int) 3689348814741910323=((a1 &&& 3689348814741910323:Nat):Int):=rfl
 have r2:(((a1 / 4 &&& 3689348814741910323:Nat):Int)+((a1 &&& 3689348814741910323:Nat):Int)) % 18446744073709551616=(a2:Int):=by omega
 have r3:(((a2 / 16:Nat):Int)+(a2:Int)) % 18446744073709551616=((a2 / 16+a2:Nat):Int):=by omega
 have q5:zCR ((a2 / 16+a2:Nat):Int) 1085102592571150095=(((a2 / 16+a2) &&& 1085102592571150095:Nat):Int):=rfl
 rw [h5] at q5
 have r4:((a3:Int)+((a3 / 256:Nat):Int)) % 18446744073709551616=((a3+a3 / 256:Nat):Int):=by omega
 have s5:((a3+a3 / 256:Nat):Int) / 2 ^ Int.toNat 16=(((a3+a3 / 256) / 65536:Nat):Int):=by show ((a3+a3 / 256:Nat):Int) / 65536=_;omega
 have r5:(((a3+a3 / 256:Nat):Int)+(((a3+a3 / 256) / 65536:Nat):Int)) % 18446744073709551616=((a3+a3 / 256+(a3+a3 / 256) / 65536:Nat):Int):=by omega
 have s6:((a3+a3 / 256+(a3+a3 / 256) / 65536:Nat):Int) / 2 ^ Int.toNat 32=(((a3+a3 / 256+(a3+a3 / 256) / 65536) / 4294967296:Nat):Int):=by
  show ((a3+a3 / 256+(a3+a3 / 256) / 65536:Nat):Int) / 4294967296=_;omega
 have r6:(((a3+a3 / 256+(a3+a3 / 256) / 65536:Nat):Int)+(((a3+a3 / 256+(a3+a3 / 256) / 65536) / 4294967296:Nat):Int)) % 18446744073709551616=((a3+a3 / 256+(a3+a3 / 256) / 65536+(a3+a3 / 256+(a3+a3 / 256) / 65536) / 4294967296:Nat):Int):=by omega
 have hb:a3+a3 / 256+(a3+a3 / 256) / 65536+(a3+a3 / 256+(a3+a3 / 256) / 65536) / 4294967296<9223372036854775808:=by omega
 clear h1 h2 h3 h4 h5 h6
 have r7:=zD4 (n:=((a3+a3 / 256+(a3+a3 / 256) / 65536+(a3+a3 / 256+(a3+a3 / 256) / 65536) / 4294967296:Nat):Int)) (by omega)
 have q6:zCR ((a3+a3 / 256+(a3+a3 / 256) / 65536+(a3+a3 / 256+(a3+a3 / 256) / 65536) / 4294967296:Nat):Int) 127=((pc 64 x:Nat):Int):=by
  rw [←h7];exact congrArg Int.ofNat (Nat.and_two_pow_sub_one_eq_mod _ 7)
 refine CallOk.intro (args:=[_]) (rs:=[_]) T_ok Tryz.func98 Tryz.call98 rfl rfl (by kernel_rfl) rfl rfl ?_
 repeat (first
  | rw [s1]|rw [q1]|rw [q2]|rw [r1]|rw [s2]|rw [q3]|rw [q4]|rw [r2]|rw [s3]|rw [r3]|rw [q5]|rw [s4]|rw [r4]|rw [s5]|rw [r5]|rw [s6]|rw [r6]|rw [r7]|rw [q6]
  | refine Stop.mk ?_
  | (refine And.intro (by omega) ?_)
  | (show OpOk _ _ _ _ _ _ _;refine OpOk.andN rfl rfl ⟨⟨by omega,by omega⟩,by decide⟩ ?_))
 repeat first|exact zE|refine wkG ?_|refine zB fun b=>?_|refine zC fun a' c' hc1 hc2=>?_|(show GJ _ _ _ _ _ _ _;first|(apply GJ.a;exact rfl;intro hg)|(apply GJ.o;exact rfl;intro hg)|refine GJ.t zO ?_|refine GJ.f zO ?_|refine GJ.ft zO ?_|refine GJ.ff zO ?_)
 exact Wk.outS Sup.z (.refl _) hk
theorem len_ok {s:SetD} (hs:SetIn s) (hk:K (.int .i64 ((s.len:Nat):Int)) ro own):CallOk Tryz.prog 77 #[.agg (setV s).toArray] ro own K:=by
 refine CallOk.intro (args:=[_]) (rs:=[_]) T_ok Tryz.func77 Tryz.call77 rfl rfl (by kernel_rfl) rfl rfl ?_
 repeat first|exact zE|refine wkG ?_|refine zB fun b=>?_|refine zC fun a' c' hc1 hc2=>?_|(show GJ _ _ _ _ _ _ _;first|(apply GJ.a;exact rfl;intro hg)|(apply GJ.o;exact rfl;intro hg)|refine GJ.t zO ?_|refine GJ.f zO ?_|refine GJ.ft zO ?_|refine GJ.ff zO ?_)
 refine LoopOk.at (ι:=Nat) Keep.z (fun i=>[(7,.int .i64 (i:Int)),(3,.int .i64 ((s.lenTo i:Nat):Int))]) (fun i=>.blk b 113 (setV s)::own) (fun i=>i≤4∧s.lenTo i≤64*i) (fun i=>4-i) 0 ?_ Sub.z Sup.z ?_
 ·exact ⟨by omega,by simp [SetD.lenTo]⟩
 rintro i ⟨i1,i2⟩
 dsimp only [List.cons_append,List.nil_append]
 repeat first|exact zE|refine wkG ?_|refine zB fun b=>?_|refine zC fun a' c' hc1 hc2=>?_|(show GJ _ _ _ _ _ _ _;first|(apply GJ.a;exact rfl;intro hg)|(apply GJ.o;exact rfl;intro hg)|refine GJ.t zO ?_|refine GJ.f zO ?_|refine GJ.ft zO ?_|refine GJ.ff zO ?_)
 refine Br.cases (fun hg=>?_) (fun hg=>?_)
 ·have hw:=hs i
  obtain ⟨_,_,_,_,_,_,_,_,_,_,hp⟩:=zHW hw
  have hl:s.lenTo (i+1)=s.lenTo i+pc 64 (s.w i):=rfl
  repeat first|exact zE|refine wkG ?_|refine zB fun b=>?_|refine zC fun a' c' hc1 hc2=>?_|(show GJ _ _ _ _ _ _ _;first|(apply GJ.a;exact rfl;intro hg)|(apply GJ.o;exact rfl;intro hg)|refine GJ.t zO ?_|refine GJ.f zO ?_|refine GJ.ft zO ?_|refine GJ.ff zO ?_)
  refine OpOk.index1 (k:=i) (e:=22) (n:=4) rfl rfl (by kernel_rfl) Tryz.underlying22 rfl (by kernel_rfl) rfl (by omega) (zGR (s:=s) (by omega)) ?_
  repeat first|exact zE|refine wkG ?_|refine zB fun b=>?_|refine zC fun a' c' hc1 hc2=>?_|(show GJ _ _ _ _ _ _ _;first|(apply GJ.a;exact rfl;intro hg)|(apply GJ.o;exact rfl;intro hg)|refine GJ.t zO ?_|refine GJ.f zO ?_|refine GJ.ft zO ?_|refine GJ.ff zO ?_)
  refine count_ok hw ?_
  repeat first|exact zE|refine wkG ?_|refine zB fun b=>?_|refine zC fun a' c' hc1 hc2=>?_|(show GJ _ _ _ _ _ _ _;first|(apply GJ.a;exact rfl;intro hg)|(apply GJ.o;exact rfl;intro hg)|refine GJ.t zO ?_|refine GJ.f zO ?_|refine GJ.ft zO ?_|refine GJ.ff zO ?_)
  refine Wk.id ⟨i+1,⟨rfl,?_⟩,?_,Sub.z,Sup.z⟩
  all_goals try dsimp only
  ·exact ⟨by omega,by omega⟩
  ·omega
 ·obtain rfl:i=4:=by omega
  rw [SetD.lenTo_four]
  repeat first|exact zE|refine wkG ?_|refine zB fun b=>?_|refine zC fun a' c' hc1 hc2=>?_|(show GJ _ _ _ _ _ _ _;first|(apply GJ.a;exact rfl;intro hg)|(apply GJ.o;exact rfl;intro hg)|refine GJ.t zO ?_|refine GJ.f zO ?_|refine GJ.ft zO ?_|refine GJ.ff zO ?_)
  exact Wk.outS Sup.z (.refl _) hk
theorem zHm {s:SetD} (ht:TabOk ro) (hs:SetIn s) (h1:s=⟨0,0,0,0⟩→K (.tuple #[.int .u8 0,.bool false]) ro own) (h2:∀ c:Nat,c<256→s.has c=true→(∀ j,j<c→s.has j=false)→K (.tuple #[.int .u8 (c:Int),.bool true]) ro own):CallOk Tryz.prog 63 #[.agg (setV s).toArray] ro own K:=by
 refine CallOk.intro (args:=[_]) (rs:=[_,_]) T_ok Tryz.func63 Tryz.call63 rfl rfl (by kernel_rfl) rfl rfl ?_
 repeat first|exact zE|refine wkG ?_|refine zB fun b=>?_|refine zC fun a' c' hc1 hc2=>?_|(show GJ _ _ _ _ _ _ _;first|(apply GJ.a;exact rfl;intro hg)|(apply GJ.o;exact rfl;intro hg)|refine GJ.t zO ?_|refine GJ.f zO ?_|refine GJ.ft zO ?_|refine GJ.ff zO ?_)
 refine LoopOk.at (ι:=Nat) Keep.z (fun i=>[(7,.int .i64 (i:Int))]) (fun i=>.blk b 113 (setV s)::own) (fun i=>i≤4∧∀ k,k<i→s.w k=0) (fun i=>4-i) 0 ?_ Sub.z Sup.z ?_
 ·exact ⟨by omega,fun k hk=>absurd hk (by omega)⟩
 rintro i ⟨i1,i2⟩
 dsimp only [List.cons_append,List.nil_append]
 repeat first|exact zE|refine wkG ?_|refine zB fun b=>?_|refine zC fun a' c' hc1 hc2=>?_|(show GJ _ _ _ _ _ _ _;first|(apply GJ.a;exact rfl;intro hg)|(apply GJ.o;exact rfl;intro hg)|refine GJ.t zO ?_|refine GJ.f zO ?_|refine GJ.ft zO ?_|refine GJ.ff zO ?_)
 refine Br.cases (fun hg=>?_) (fun hg=>?_)
 ·have hw:=hs i
  repeat first|exact zE|refine wkG ?_|refine zB fun b=>?_|refine zC fun a' c' hc1 hc2=>?_|(show GJ _ _ _ _ _ _ _;first|(apply GJ.a;exact rfl;intro hg)|(apply GJ.o;exact rfl;intro hg)|refine GJ.t zO ?_|refine GJ.f zO ?_|refine GJ.ft zO ?_|refine GJ.ff zO ?_)
  refine OpOk.index1 (k:=i) (e:=22) (n:=4) rfl rfl (by kernel_rfl) Tryz.underlying22 rfl (by kernel_rfl) rfl (by omega) (zGR (s:=s) (by omega)) ?_
  repeat first|exact zE|refine wkG ?_|refine zB fun b=>?_|refine zC fun a' c' hc1 hc2=>?_|(show GJ _ _ _ _ _ _ _;first|(apply GJ.a;exact rfl;intro hg)|(apply GJ.o;exact rfl;intro hg)|refine GJ.t zO ?_|refine GJ.f zO ?_|refine GJ.ft zO ?_|refine GJ.ff zO ?_)
  refine Br.cases (fun hne=>?_) (fun he=>?_)
  ·repeat first|exact zE|refine wkG ?_|refine zB fun b=>?_|refine zC fun a' c' hc1 hc2=>?_|(show GJ _ _ _ _ _ _ _;first|(apply GJ.a;exact rfl;intro hg)|(apply GJ.o;exact rfl;intro hg)|refine GJ.t zO ?_|refine GJ.f zO ?_|refine GJ.ft zO ?_|refine GJ.ff zO ?_)
   refine tz_ok ht (by omega) hw (fun k hlow=>?_)
   obtain ⟨l1,l2,l3⟩:=hlow
   have hc:=h2 (64*i+k) (by omega) (by unfold SetD.has;rw [show (64*i+k) / 64=i by omega,show (64*i+k) % 64=k by omega];exact l2) (fun j hj=>by
    unfold SetD.has
    by_cases hji:j / 64<i
    ·rw [i2 _ hji];simp
    ·rw [show j / 64=i by omega];exact l3 _ (by omega))
   repeat first|exact zE|refine wkG ?_|refine zB fun b=>?_|refine zC fun a' c' hc1 hc2=>?_|(show GJ _ _ _ _ _ _ _;first|(apply GJ.a;exact rfl;intro hg)|(apply GJ.o;exact rfl;intro hg)|refine GJ.t zO ?_|refine GJ.f zO ?_|refine GJ.ft zO ?_|refine GJ.ff zO ?_)
   have e:(64*(i:Int)+(k:Int)) % 256=((64*i+k:Nat):Int):=by omega
   rw [e]
   exact Wk.outS Sup.z (.refl _) hc
  ·repeat first|exact zE|refine wkG ?_|refine zB fun b=>?_|refine zC fun a' c' hc1 hc2=>?_|(show GJ _ _ _ _ _ _ _;first|(apply GJ.a;exact rfl;intro hg)|(apply GJ.o;exact rfl;intro hg)|refine GJ.t zO ?_|refine GJ.f zO ?_|refine GJ.ft zO ?_|refine GJ.ff zO ?_)
   refine Wk.id ⟨i+1,⟨rfl,?_⟩,?_,Sub.z,Sup.z⟩
   all_goals try dsimp only
   ·refine ⟨by omega,fun k hk=>?_⟩
    by_cases hki:k=i
    ·subst hki;omega
    ·exact i2 k (by omega)
   ·omega
 ·obtain rfl:i=4:=by omega
  repeat first|exact zE|refine wkG ?_|refine zB fun b=>?_|refine zC fun a' c' hc1 hc2=>?_|(show GJ _ _ _ _ _ _ _;first|(apply GJ.a;exact rfl;intro hg)|(apply GJ.o;exact rfl;intro hg)|refine GJ.t zO ?_|refine GJ.f zO ?_|refine GJ.ft zO ?_|refine GJ.ff zO ?_)
  refine Wk.outS Sup.z (.refl _) (h1 ?_)
  exact SetD.ext4 (fun k hk=>by rw [i2 k hk];unfold SetD.w;simp)
end
def endF (s:SetD):Nat→Nat→Nat
 | 0,t=>t
 | n+1,t=>if t<255∧s.has (t+1)=true then endF s n (t+1) else t
def zBV (s:SetD):Nat→Nat→List UInt8
 | 0,_=>[]
 | n+1,c=>if 256≤c then [] else if s.has c=true then zAW c++(if c<endF s 256 c then 45::zAW (endF s 256 c) else [])++zBV s n (endF s 256 c+1) else zBV s n (c+1)
def zBC (s:SetD):List UInt8:=if s=allD then [46] else if s.len=1 then (match (List.range 256).find? s.has with
 | some c=>zAW c
 | none=>[]) else 91::(zBV s 256 0++[93])
theorem zJt (s:SetD):∀ (n t:Nat),t≤255→t≤endF s n t∧endF s n t≤255
 | 0,t,h=>⟨Nat.le_refl _,h⟩
 | n+1,t,h=>by
   rw [endF]
   split
   ·have:=zJt s n (t+1) (by omega);omega
   ·omega
theorem zCe (c:Nat):1≤(zAW c).length∧(zAW c).length≤4:=by unfold zAW;split<;>simp
section
variable {ro:Ro}{own r:Chs}{K:Value→Ro→Chs→Prop}{g:Chunk→Chs}
set_option maxHeartbeats 1000000 in
theorem zLI {s:SetD} (ht:TabOk ro) (hs:SetIn s) (hk:K (str (zBC s)) ro own):CallOk Tryz.prog 49 #[.agg (setV s).toArray] ro own K:=by
 refine CallOk.intro (args:=[_]) (rs:=[_]) T_ok Tryz.func49 Tryz.call49 rfl rfl (by kernel_rfl) rfl rfl ?_
 repeat first|exact zE|refine wkG ?_|refine zB fun b=>?_|refine zC fun a' c' hc1 hc2=>?_|(show GJ _ _ _ _ _ _ _;first|(apply GJ.a;exact rfl;intro hg)|(apply GJ.o;exact rfl;intro hg)|refine GJ.t zO ?_|refine GJ.f zO ?_|refine GJ.ft zO ?_|refine GJ.ff zO ?_)
 obtain ⟨p,hp⟩:∃ p,p=b:=⟨_,rfl⟩
 subst hp
 refine Bs.all ?_
 repeat first|exact zE|refine wkT ?_|refine zB fun b=>?_|refine zC fun a' c' hc1 hc2=>?_|(apply GJ.a;exact rfl;intro hg)|(apply GJ.o;exact rfl;intro hg)
 refine zOb ?_
 repeat first|exact zE|refine wkT ?_|refine zB fun b=>?_|refine zC fun a' c' hc1 hc2=>?_|(apply GJ.a;exact rfl;intro hg)|(apply GJ.o;exact rfl;intro hg)
 refine QOk.eqlArr4 (e:=22) rfl rfl (by kernel_rfl) (by kernel_rfl) (by kernel_rfl) (by kernel_rfl) ?_
 repeat first|exact zE|refine wkT ?_|refine zB fun b=>?_|refine zC fun a' c' hc1 hc2=>?_|(apply GJ.a;exact rfl;intro hg)|(apply GJ.o;exact rfl;intro hg)
 refine Br.cases (fun h=>?_) (fun h=>?_)
 ·have e:s=allD:=by
   obtain ⟨a,b,c,d⟩:=s
   simp only [allD] at h ⊢
   obtain ⟨h1,h2,h3,h4⟩:=h
   rw [SetD.mk.injEq]
   omega
  repeat first|exact zE|refine wkT ?_|refine zB fun b=>?_|refine zC fun a' c' hc1 hc2=>?_|(apply GJ.a;exact rfl;intro hg)|(apply GJ.o;exact rfl;intro hg)
  refine Wk.outV Sup.z hk (congrArg str ?_)
  rw [zBC,if_pos e]
 have hne:s≠allD:=fun e=>h (by subst e;exact ⟨rfl,rfl,rfl,rfl⟩)
 repeat first|exact zE|refine wkT ?_|refine zB fun b=>?_|refine zC fun a' c' hc1 hc2=>?_|(apply GJ.a;exact rfl;intro hg)|(apply GJ.o;exact rfl;intro hg)
 refine zHm ht hs (fun h0=>?_) (fun c hc h1 h2=>?_)
 ·have hT:zBC s=91::(zBV s 256 0++[93]):=by rw [zBC,if_neg hne,if_neg (by subst h0;decide +kernel)]
  rw [hT] at hk
  repeat first|exact zE|refine wkT ?_|refine zB fun b=>?_|refine zC fun a' c' hc1 hc2=>?_|(apply GJ.a;exact rfl;intro hg)|(apply GJ.o;exact rfl;intro hg)
  refine CallOk.sup (own0:=.blk b 62 [.pointer none,.slice none 0 0]::.sl none 0 0 5 1 (([]:List UInt8).map u8)::.blk p 113 (setV s)::own) Sup.z ?_
  refine zFg (u:=91) (.inl rfl) rfl rfl (by simp) (fun a1 c1 hc1 hc2=>?_)
  repeat first|exact zE|refine wkT ?_|refine zB fun b=>?_|refine zC fun a' c' hc1 hc2=>?_|(apply GJ.a;exact rfl;intro hg)|(apply GJ.o;exact rfl;intro hg)
  refine LoopOk.at (ι:=Nat × Nat × List UInt8 × Option Addr × Nat) Keep.z (fun (c,m,l,a,cap)=>[(6,.int .i64 (c:Int))]) (fun (c,m,l,a,cap)=>.blk b 62 [ptr' b,.slice a l.length cap]::.sl a l.length cap 5 1 (l.map u8)::.blk p 113 (setV s)::own) (fun (c,m,l,a,cap)=>c≤256∧256≤c+m∧l++zBV s m c=91::zBV s 256 0∧l.length≤12*c+1∧l≠[]∧l.length≤cap) (fun (c,m,l,a,cap)=>256-c) (0,256,[91],a1,c1) ?_ Sub.z Sup.z ?_
  ·exact ⟨by omega,by omega,rfl,by simp,by simp,by simpa using hc1⟩
  rintro ⟨c,m,l,a,cap⟩ ⟨i1,i2,i3,i4,i5,i6⟩
  dsimp only [List.cons_append,List.nil_append] at i1 i2 i3 i4 i5 i6 ⊢
  repeat first|exact zE|refine wkT ?_|refine zB fun b=>?_|refine zC fun a' c' hc1 hc2=>?_|(apply GJ.a;exact rfl;intro hg)|(apply GJ.o;exact rfl;intro hg)
  refine Br.cases (fun hg=>?_) (fun hg=>?_)
  ·have em:(c:Int) % 256=((c:Nat):Int):=by omega
   obtain ⟨m,rfl⟩:∃ k,m=k+1:=⟨m-1,by omega⟩
   rw [zBV,if_neg (by omega)] at i3
   repeat first|exact zE|refine wkT ?_|refine zB fun b=>?_|refine zC fun a' c' hc1 hc2=>?_|(apply GJ.a;exact rfl;intro hg)|(apply GJ.o;exact rfl;intro hg)
   refine SeqOk.pass ?_
   repeat first|exact zE|refine wkT ?_|refine zB fun b=>?_|refine zC fun a' c' hc1 hc2=>?_|(apply GJ.a;exact rfl;intro hg)|(apply GJ.o;exact rfl;intro hg)
   rw [em]
   refine zG9 hs (by omega) ?_
   by_cases hh:s.has c=true
   ·rw [hh]
    rw [if_pos hh] at i3
    have hl1:=zCe c
    repeat first|exact zE|refine wkT ?_|refine zB fun b=>?_|refine zC fun a' c' hc1 hc2=>?_|(apply GJ.a;exact rfl;intro hg)|(apply GJ.o;exact rfl;intro hg)
    refine LoopOk.at (ι:=Nat × Nat) Keep.z (fun (t,k)=>[(7,.int .i64 (t:Int))]) (fun (t,k)=>.blk b 62 [ptr' b,.slice a l.length cap]::.sl a l.length cap 5 1 (l.map u8)::.blk p 113 (setV s)::own) (fun (t,k)=>c≤t∧t≤255∧255≤t+k∧endF s k t=endF s 256 c) (fun (t,k)=>255-t) (c,256) ?_ Sub.z Sup.z ?_
    ·exact ⟨by omega,by omega,by omega,rfl⟩
    rintro ⟨t,k⟩ ⟨k1,k2,k3,k4⟩
    dsimp only [List.cons_append,List.nil_append] at k1 k2 k3 k4 ⊢
    have hl2:=zCe t
    by_cases ht:t<255
    ·have em3:((t:Int)+1) % 256=((t+1:Nat):Int):=by omega
     obtain ⟨k,rfl⟩:∃ j,k=j+1:=⟨k-1,by omega⟩
     rw [endF] at k4
     repeat first|exact zE|refine wkT ?_|refine zB fun b=>?_|refine zC fun a' c' hc1 hc2=>?_|(apply GJ.a;exact rfl;intro hg)|(apply GJ.o;exact rfl;intro hg)
     rw [em3]
     refine zG9 hs (by omega) ?_
     by_cases hh2:s.has (t+1)=true
     ·rw [hh2]
      rw [if_pos ⟨ht,hh2⟩] at k4
      repeat first|exact zE|refine wkT ?_|refine zB fun b=>?_|refine zC fun a' c' hc1 hc2=>?_|(apply GJ.a;exact rfl;intro hg)|(apply GJ.o;exact rfl;intro hg)
      refine Wk.id ⟨(t+1,k),⟨rfl,?_⟩,?_,Sub.z,Sup.z⟩
      all_goals try dsimp only
      ·exact ⟨by omega,by omega,by omega,k4⟩
      ·omega
     ·rw [if_neg (fun hc=>hh2 hc.2)] at k4
      rw [Bool.not_eq_true] at hh2
      rw [hh2]
      repeat first|exact zE|refine wkT ?_|refine zB fun b=>?_|refine zC fun a' c' hc1 hc2=>?_|(apply GJ.a;exact rfl;intro hg)|(apply GJ.o;exact rfl;intro hg)
      rw [em]
      refine zCS (u:=UInt8.ofNat c) (by simp;omega) ?_
      repeat first|exact zE|refine wkT ?_|refine zB fun b=>?_|refine zC fun a' c' hc1 hc2=>?_|(apply GJ.a;exact rfl;intro hg)|(apply GJ.o;exact rfl;intro hg)
      refine zDp (.inr rfl) rfl ⟨by omega,by omega⟩ (fun a3 c3 hc3 hc4=>?_)
      rw [←List.length_append]
      repeat first|exact zE|refine wkT ?_|refine zB fun b=>?_|refine zC fun a' c' hc1 hc2=>?_|(apply GJ.a;exact rfl;intro hg)|(apply GJ.o;exact rfl;intro hg)
      refine SeqOk.pass ?_
      repeat first|exact zE|refine wkT ?_|refine zB fun b=>?_|refine zC fun a' c' hc1 hc2=>?_|(apply GJ.a;exact rfl;intro hg)|(apply GJ.o;exact rfl;intro hg)
      refine Br.cases (fun hgt=>?_) (fun hgt=>?_)
      ·have em2:(t:Int) % 256=((t:Nat):Int):=by omega
       repeat first|exact zE|refine wkT ?_|refine zB fun b=>?_|refine zC fun a' c' hc1 hc2=>?_|(apply GJ.a;exact rfl;intro hg)|(apply GJ.o;exact rfl;intro hg)
       rw [em2]
       refine zCS (u:=UInt8.ofNat t) (by simp;omega) ?_
       repeat first|exact zE|refine wkT ?_|refine zB fun b=>?_|refine zC fun a' c' hc1 hc2=>?_|(apply GJ.a;exact rfl;intro hg)|(apply GJ.o;exact rfl;intro hg)
       refine ⟨by show 1+_≤_;omega,?_⟩
       repeat first|exact zE|refine wkT ?_|refine zB fun b=>?_|refine zC fun a' c' hc1 hc2=>?_|(apply GJ.a;exact rfl;intro hg)|(apply GJ.o;exact rfl;intro hg)
       refine zDp (l:=l++zAW c) (m:=45::zAW t) (.inr rfl) rfl ⟨by rw [List.length_append];omega,by rw [List.length_cons];omega⟩ (fun a4 c4 hc5 hc6=>?_)
       rw [←List.length_append] at hc5 ⊢
       repeat first|exact zE|refine wkT ?_|refine zB fun b=>?_|refine zC fun a' c' hc1 hc2=>?_|(apply GJ.a;exact rfl;intro hg)|(apply GJ.o;exact rfl;intro hg)
       refine Wk.id ⟨(t+1,m,l++zAW c++45::zAW t,a4,c4),⟨rfl,?_⟩,?_,Sub.z,Sup.z⟩
       all_goals try dsimp only
       ·refine ⟨by omega,by omega,?_,by simp only [List.length_append,List.length_cons];omega,by simp,hc5⟩
        rw [←i3,←k4,if_pos (by omega)]
        simp only [List.append_assoc]
       ·omega
      ·obtain rfl:t=c:=by omega
       repeat first|exact zE|refine wkT ?_|refine zB fun b=>?_|refine zC fun a' c' hc1 hc2=>?_|(apply GJ.a;exact rfl;intro hg)|(apply GJ.o;exact rfl;intro hg)
       refine Wk.id ⟨(t+1,m,l++zAW t,a3,c3),⟨rfl,?_⟩,?_,Sub.z,Sup.z⟩
       all_goals try dsimp only
       ·refine ⟨by omega,by omega,?_,by simp only [List.length_append];omega,by simp [i5],by rw [List.length_append];exact hc3⟩
        rw [←i3,←k4,if_neg (by omega)]
        simp only [List.append_assoc,List.append_nil]
       ·omega
    ·have k5:endF s k t=t:=by
      cases k with
      | zero=>rfl
      | succ k=>rw [endF,if_neg (fun hc=>ht hc.1)]
     rw [k5] at k4
     repeat first|exact zE|refine wkT ?_|refine zB fun b=>?_|refine zC fun a' c' hc1 hc2=>?_|(apply GJ.a;exact rfl;intro hg)|(apply GJ.o;exact rfl;intro hg)
     rw [em]
     refine zCS (u:=UInt8.ofNat c) (by simp;omega) ?_
     repeat first|exact zE|refine wkT ?_|refine zB fun b=>?_|refine zC fun a' c' hc1 hc2=>?_|(apply GJ.a;exact rfl;intro hg)|(apply GJ.o;exact rfl;intro hg)
     refine zDp (.inr rfl) rfl ⟨by omega,by omega⟩ (fun a3 c3 hc3 hc4=>?_)
     rw [←List.length_append]
     repeat first|exact zE|refine wkT ?_|refine zB fun b=>?_|refine zC fun a' c' hc1 hc2=>?_|(apply GJ.a;exact rfl;intro hg)|(apply GJ.o;exact rfl;intro hg)
     refine SeqOk.pass ?_
     repeat first|exact zE|refine wkT ?_|refine zB fun b=>?_|refine zC fun a' c' hc1 hc2=>?_|(apply GJ.a;exact rfl;intro hg)|(apply GJ.o;exact rfl;intro hg)
     refine Br.cases (fun hgt=>?_) (fun hgt=>?_)
     ·have em2:(t:Int) % 256=((t:Nat):Int):=by omega
      repeat first|exact zE|refine wkT ?_|refine zB fun b=>?_|refine zC fun a' c' hc1 hc2=>?_|(apply GJ.a;exact rfl;intro hg)|(apply GJ.o;exact rfl;intro hg)
      rw [em2]
      refine zCS (u:=UInt8.ofNat t) (by simp;omega) ?_
      repeat first|exact zE|refine wkT ?_|refine zB fun b=>?_|refine zC fun a' c' hc1 hc2=>?_|(apply GJ.a;exact rfl;intro hg)|(apply GJ.o;exact rfl;intro hg)
      refine ⟨by show 1+_≤_;omega,?_⟩
      repeat first|exact zE|refine wkT ?_|refine zB fun b=>?_|refine zC fun a' c' hc1 hc2=>?_|(apply GJ.a;exact rfl;intro hg)|(apply GJ.o;exact rfl;intro hg)
      refine zDp (l:=l++zAW c) (m:=45::zAW t) (.inr rfl) rfl ⟨by rw [List.length_append];omega,by rw [List.length_cons];omega⟩ (fun a4 c4 hc5 hc6=>?_)
      rw [←List.length_append] at hc5 ⊢
      repeat first|exact zE|refine wkT ?_|refine zB fun b=>?_|refine zC fun a' c' hc1 hc2=>?_|(apply GJ.a;exact rfl;intro hg)|(apply GJ.o;exact rfl;intro hg)
      refine Wk.id ⟨(t+1,m,l++zAW c++45::zAW t,a4,c4),⟨rfl,?_⟩,?_,Sub.z,Sup.z⟩
      all_goals try dsimp only
      ·refine ⟨by omega,by omega,?_,by simp only [List.length_append,List.length_cons];omega,by simp,hc5⟩
       rw [←i3,←k4,if_pos (by omega)]
       simp only [List.append_assoc]
      ·omega
     ·obtain rfl:t=c:=by omega
      repeat first|exact zE|refine wkT ?_|refine zB fun b=>?_|refine zC fun a' c' hc1 hc2=>?_|(apply GJ.a;exact rfl;intro hg)|(apply GJ.o;exact rfl;intro hg)
      refine Wk.id ⟨(t+1,m,l++zAW t,a3,c3),⟨rfl,?_⟩,?_,Sub.z,Sup.z⟩
      all_goals try dsimp only
      ·refine ⟨by omega,by omega,?_,by simp only [List.length_append];omega,by simp [i5],by rw [List.length_append];exact hc3⟩
       rw [←i3,←k4,if_neg (by omega)]
       simp only [List.append_assoc,List.append_nil]
      ·omega
   ·rw [if_neg hh] at i3
    rw [Bool.not_eq_true] at hh
    rw [hh]
    repeat first|exact zE|refine wkT ?_|refine zB fun b=>?_|refine zC fun a' c' hc1 hc2=>?_|(apply GJ.a;exact rfl;intro hg)|(apply GJ.o;exact rfl;intro hg)
    refine Wk.id ⟨(c+1,m,l,a,cap),⟨rfl,?_⟩,?_,Sub.z,Sup.z⟩
    all_goals try dsimp only
    ·exact ⟨by omega,by omega,i3,by omega,i5,i6⟩
    ·omega
  ·obtain rfl:c=256:=by omega
   have i7:zBV s m 256=[]:=by
    cases m with
    | zero=>rfl
    | succ m=>rw [zBV,if_pos (by omega)]
   rw [i7,List.append_nil] at i3
   repeat first|exact zE|refine wkT ?_|refine zB fun b=>?_|refine zC fun a' c' hc1 hc2=>?_|(apply GJ.a;exact rfl;intro hg)|(apply GJ.o;exact rfl;intro hg)
   refine zFg (u:=93) (.inr rfl) rfl rfl (by omega) (fun a2 c2 hc3 hc4=>?_)
   repeat first|exact zE|refine wkT ?_|refine zB fun b=>?_|refine zC fun a' c' hc1 hc2=>?_|(apply GJ.a;exact rfl;intro hg)|(apply GJ.o;exact rfl;intro hg)
   refine zNR (l:=l++[93]) (by simp) (by simp) hc3 (by simp;omega) ?_
   repeat first|exact zE|refine wkT ?_|refine zB fun b=>?_|refine zC fun a' c' hc1 hc2=>?_|(apply GJ.a;exact rfl;intro hg)|(apply GJ.o;exact rfl;intro hg)
   rw [i3]
   exact Wk.outS Sup.z (.refl _) hk
 ·repeat first|exact zE|refine wkT ?_|refine zB fun b=>?_|refine zC fun a' c' hc1 hc2=>?_|(apply GJ.a;exact rfl;intro hg)|(apply GJ.o;exact rfl;intro hg)
  refine len_ok hs ?_
  repeat first|exact zE|refine wkT ?_|refine zB fun b=>?_|refine zC fun a' c' hc1 hc2=>?_|(apply GJ.a;exact rfl;intro hg)|(apply GJ.o;exact rfl;intro hg)
  refine Br.cases (fun hl=>?_) (fun hl=>?_)
  ·rw [zBC,if_neg hne,if_pos (by omega)] at hk
   have hf:(List.range 256).find? s.has=some c:=by
    rw [List.find?_range_eq_some]
    exact ⟨h1,List.mem_range.2 hc,fun j hj=>by rw [h2 j hj];rfl⟩
   rw [hf] at hk
   repeat first|exact zE|refine wkT ?_|refine zB fun b=>?_|refine zC fun a' c' hc1 hc2=>?_|(apply GJ.a;exact rfl;intro hg)|(apply GJ.o;exact rfl;intro hg)
   refine zCS (u:=UInt8.ofNat c) (by simp;omega) ?_
   repeat first|exact zE|refine wkT ?_|refine zB fun b=>?_|refine zC fun a' c' hc1 hc2=>?_|(apply GJ.a;exact rfl;intro hg)|(apply GJ.o;exact rfl;intro hg)
   exact Wk.outS Sup.z (.refl _) hk
  ·have hT:zBC s=91::(zBV s 256 0++[93]):=by rw [zBC,if_neg hne,if_neg (by omega)]
   rw [hT] at hk
   repeat first|exact zE|refine wkT ?_|refine zB fun b=>?_|refine zC fun a' c' hc1 hc2=>?_|(apply GJ.a;exact rfl;intro hg)|(apply GJ.o;exact rfl;intro hg)
   refine CallOk.sup (own0:=.blk b 62 [.pointer none,.slice none 0 0]::.sl none 0 0 5 1 (([]:List UInt8).map u8)::.blk p 113 (setV s)::own) Sup.z ?_
   refine zFg (u:=91) (.inl rfl) rfl rfl (by simp) (fun a1 c1 hc1 hc2=>?_)
   repeat first|exact zE|refine wkT ?_|refine zB fun b=>?_|refine zC fun a' c' hc1 hc2=>?_|(apply GJ.a;exact rfl;intro hg)|(apply GJ.o;exact rfl;intro hg)
   refine LoopOk.at (ι:=Nat × Nat × List UInt8 × Option Addr × Nat) Keep.z (fun (c,m,l,a,cap)=>[(6,.int .i64 (c:Int))]) (fun (c,m,l,a,cap)=>.blk b 62 [ptr' b,.slice a l.length cap]::.sl a l.length cap 5 1 (l.map u8)::.blk p 113 (setV s)::own) (fun (c,m,l,a,cap)=>c≤256∧256≤c+m∧l++zBV s m c=91::zBV s 256 0∧l.length≤12*c+1∧l≠[]∧l.length≤cap) (fun (c,m,l,a,cap)=>256-c) (0,256,[91],a1,c1) ?_ Sub.z Sup.z ?_
   ·exact ⟨by omega,by omega,rfl,by simp,by simp,by simpa using hc1⟩
   rintro ⟨c,m,l,a,cap⟩ ⟨i1,i2,i3,i4,i5,i6⟩
   dsimp only [List.cons_append,List.nil_append] at i1 i2 i3 i4 i5 i6 ⊢
   repeat first|exact zE|refine wkT ?_|refine zB fun b=>?_|refine zC fun a' c' hc1 hc2=>?_|(apply GJ.a;exact rfl;intro hg)|(apply GJ.o;exact rfl;intro hg)
   refine Br.cases (fun hg=>?_) (fun hg=>?_)
   ·have em:(c:Int) % 256=((c:Nat):Int):=by omega
    obtain ⟨m,rfl⟩:∃ k,m=k+1:=⟨m-1,by omega⟩
    rw [zBV,if_neg (by omega)] at i3
    repeat first|exact zE|refine wkT ?_|refine zB fun b=>?_|refine zC fun a' c' hc1 hc2=>?_|(apply GJ.a;exact rfl;intro hg)|(apply GJ.o;exact rfl;intro hg)
    refine SeqOk.pass ?_
    repeat first|exact zE|refine wkT ?_|refine zB fun b=>?_|refine zC fun a' c' hc1 hc2=>?_|(apply GJ.a;exact rfl;intro hg)|(apply GJ.o;exact rfl;intro hg)
    rw [em]
    refine zG9 hs (by omega) ?_
    by_cases hh:s.has c=true
    ·rw [hh]
     rw [if_pos hh] at i3
     have hl1:=zCe c
     repeat first|exact zE|refine wkT ?_|refine zB fun b=>?_|refine zC fun a' c' hc1 hc2=>?_|(apply GJ.a;exact rfl;intro hg)|(apply GJ.o;exact rfl;intro hg)
     refine LoopOk.at (ι:=Nat × Nat) Keep.z (fun (t,k)=>[(7,.int .i64 (t:Int))]) (fun (t,k)=>.blk b 62 [ptr' b,.slice a l.length cap]::.sl a l.length cap 5 1 (l.map u8)::.blk p 113 (setV s)::own) (fun (t,k)=>c≤t∧t≤255∧255≤t+k∧endF s k t=endF s 256 c) (fun (t,k)=>255-t) (c,256) ?_ Sub.z Sup.z ?_
     ·exact ⟨by omega,by omega,by omega,rfl⟩
     rintro ⟨t,k⟩ ⟨k1,k2,k3,k4⟩
     dsimp only [List.cons_append,List.nil_append] at k1 k2 k3 k4 ⊢
     have hl2:=zCe t
     by_cases ht:t<255
     ·have em3:((t:Int)+1) % 256=((t+1:Nat):Int):=by omega
      obtain ⟨k,rfl⟩:∃ j,k=j+1:=⟨k-1,by omega⟩
      rw [endF] at k4
      repeat first|exact zE|refine wkT ?_|refine zB fun b=>?_|refine zC fun a' c' hc1 hc2=>?_|(apply GJ.a;exact rfl;intro hg)|(apply GJ.o;exact rfl;intro hg)
      rw [em3]
      refine zG9 hs (by omega) ?_
      by_cases hh2:s.has (t+1)=true
      ·rw [hh2]
       rw [if_pos ⟨ht,hh2⟩] at k4
       repeat first|exact zE|refine wkT ?_|refine zB fun b=>?_|refine zC fun a' c' hc1 hc2=>?_|(apply GJ.a;exact rfl;intro hg)|(apply GJ.o;exact rfl;intro hg)
       refine Wk.id ⟨(t+1,k),⟨rfl,?_⟩,?_,Sub.z,Sup.z⟩
       all_goals try dsimp only
       ·exact ⟨by omega,by omega,by omega,k4⟩
       ·omega
      ·rw [if_neg (fun hc=>hh2 hc.2)] at k4
       rw [Bool.not_eq_true] at hh2
       rw [hh2]
       repeat first|exact zE|refine wkT ?_|refine zB fun b=>?_|refine zC fun a' c' hc1 hc2=>?_|(apply GJ.a;exact rfl;intro hg)|(apply GJ.o;exact rfl;intro hg)
       rw [em]
       refine zCS (u:=UInt8.ofNat c) (by simp;omega) ?_
       repeat first|exact zE|refine wkT ?_|refine zB fun b=>?_|refine zC fun a' c' hc1 hc2=>?_|(apply GJ.a;exact rfl;intro hg)|(apply GJ.o;exact rfl;intro hg)
       refine zDp (.inr rfl) rfl ⟨by omega,by omega⟩ (fun a3 c3 hc3 hc4=>?_)
       rw [←List.length_append]
       repeat first|exact zE|refine wkT ?_|refine zB fun b=>?_|refine zC fun a' c' hc1 hc2=>?_|(apply GJ.a;exact rfl;intro hg)|(apply GJ.o;exact rfl;intro hg)
       refine SeqOk.pass ?_
       repeat first|exact zE|refine wkT ?_|refine zB fun b=>?_|refine zC fun a' c' hc1 hc2=>?_|(apply GJ.a;exact rfl;intro hg)|(apply GJ.o;exact rfl;intro hg)
       refine Br.cases (fun hgt=>?_) (fun hgt=>?_)
       ·have em2:(t:Int) % 256=((t:Nat):Int):=by omega
        repeat first|exact zE|refine wkT ?_|refine zB fun b=>?_|refine zC fun a' c' hc1 hc2=>?_|(apply GJ.a;exact rfl;intro hg)|(apply GJ.o;exact rfl;intro hg)
        rw [em2]
        refine zCS (u:=UInt8.ofNat t) (by simp;omega) ?_
        repeat first|exact zE|refine wkT ?_|refine zB fun b=>?_|refine zC fun a' c' hc1 hc2=>?_|(apply GJ.a;exact rfl;intro hg)|(apply GJ.o;exact rfl;intro hg)
        refine ⟨by show 1+_≤_;omega,?_⟩
        repeat first|exact zE|refine wkT ?_|refine zB fun b=>?_|refine zC fun a' c' hc1 hc2=>?_|(apply GJ.a;exact rfl;intro hg)|(apply GJ.o;exact rfl;intro hg)
        refine zDp (l:=l++zAW c) (m:=45::zAW t) (.inr rfl) rfl ⟨by rw [List.length_append];omega,by rw [List.length_cons];omega⟩ (fun a4 c4 hc5 hc6=>?_)
        rw [←List.length_append] at hc5 ⊢
        repeat first|exact zE|refine wkT ?_|refine zB fun b=>?_|refine zC fun a' c' hc1 hc2=>?_|(apply GJ.a;exact rfl;intro hg)|(apply GJ.o;exact rfl;intro hg)
        refine Wk.id ⟨(t+1,m,l++zAW c++45::zAW t,a4,c4),⟨rfl,?_⟩,?_,Sub.z,Sup.z⟩
        all_goals try dsimp only
        ·refine ⟨by omega,by omega,?_,by simp only [List.length_append,List.length_cons];omega,by simp,hc5⟩
         rw [←i3,←k4,if_pos (by omega)]
         simp only [List.append_assoc]
        ·omega
       ·obtain rfl:t=c:=by omega
        repeat first|exact zE|refine wkT ?_|refine zB fun b=>?_|refine zC fun a' c' hc1 hc2=>?_|(apply GJ.a;exact rfl;intro hg)|(apply GJ.o;exact rfl;intro hg)
        refine Wk.id ⟨(t+1,m,l++zAW t,a3,c3),⟨rfl,?_⟩,?_,Sub.z,Sup.z⟩
        all_goals try dsimp only
        ·refine ⟨by omega,by omega,?_,by simp only [List.length_append];omega,by simp [i5],by rw [List.length_append];exact hc3⟩
         rw [←i3,←k4,if_neg (by omega)]
         simp only [List.append_assoc,List.append_nil]
        ·omega
     ·have k5:endF s k t=t:=by
       cases k with
       | zero=>rfl
       | succ k=>rw [endF,if_neg (fun hc=>ht hc.1)]
      rw [k5] at k4
      repeat first|exact zE|refine wkT ?_|refine zB fun b=>?_|refine zC fun a' c' hc1 hc2=>?_|(apply GJ.a;exact rfl;intro hg)|(apply GJ.o;exact rfl;intro hg)
      rw [em]
      refine zCS (u:=UInt8.ofNat c) (by simp;omega) ?_
      repeat first|exact zE|refine wkT ?_|refine zB fun b=>?_|refine zC fun a' c' hc1 hc2=>?_|(apply GJ.a;exact rfl;intro hg)|(apply GJ.o;exact rfl;intro hg)
      refine zDp (.inr rfl) rfl ⟨by omega,by omega⟩ (fun a3 c3 hc3 hc4=>?_)
      rw [←List.length_append]
      repeat first|exact zE|refine wkT ?_|refine zB fun b=>?_|refine zC fun a' c' hc1 hc2=>?_|(apply GJ.a;exact rfl;intro hg)|(apply GJ.o;exact rfl;intro hg)
      refine SeqOk.pass ?_
      repeat first|exact zE|refine wkT ?_|refine zB fun b=>?_|refine zC fun a' c' hc1 hc2=>?_|(apply GJ.a;exact rfl;intro hg)|(apply GJ.o;exact rfl;intro hg)
      refine Br.cases (fun hgt=>?_) (fun hgt=>?_)
      ·have em2:(t:Int) % 256=((t:Nat):Int):=by omega
       repeat first|exact zE|refine wkT ?_|refine zB fun b=>?_|refine zC fun a' c' hc1 hc2=>?_|(apply GJ.a;exact rfl;intro hg)|(apply GJ.o;exact rfl;intro hg)
       rw [em2]
       refine zCS (u:=UInt8.ofNat t) (by simp;omega) ?_
       repeat first|exact zE|refine wkT ?_|refine zB fun b=>?_|refine zC fun a' c' hc1 hc2=>?_|(apply GJ.a;exact rfl;intro hg)|(apply GJ.o;exact rfl;intro hg)
       refine ⟨by show 1+_≤_;omega,?_⟩
       repeat first|exact zE|refine wkT ?_|refine zB fun b=>?_|refine zC fun a' c' hc1 hc2=>?_|(apply GJ.a;exact rfl;intro hg)|(apply GJ.o;exact rfl;intro hg)
       refine zDp (l:=l++zAW c) (m:=45::zAW t) (.inr rfl) rfl ⟨by rw [List.length_append];omega,by rw [List.length_cons];omega⟩ (fun a4 c4 hc5 hc6=>?_)
       rw [←List.length_append] at hc5 ⊢
       repeat first|exact zE|refine wkT ?_|refine zB fun b=>?_|refine zC fun a' c' hc1 hc2=>?_|(apply GJ.a;exact rfl;intro hg)|(apply GJ.o;exact rfl;intro hg)
       refine Wk.id ⟨(t+1,m,l++zAW c++45::zAW t,a4,c4),⟨rfl,?_⟩,?_,Sub.z,Sup.z⟩
       all_goals try dsimp only
       ·refine ⟨by omega,by omega,?_,by simp only [List.length_append,List.length_cons];omega,by simp,hc5⟩
        rw [←i3,←k4,if_pos (by omega)]
        simp only [List.append_assoc]
       ·omega
      ·obtain rfl:t=c:=by omega
       repeat first|exact zE|refine wkT ?_|refine zB fun b=>?_|refine zC fun a' c' hc1 hc2=>?_|(apply GJ.a;exact rfl;intro hg)|(apply GJ.o;exact rfl;intro hg)
       refine Wk.id ⟨(t+1,m,l++zAW t,a3,c3),⟨rfl,?_⟩,?_,Sub.z,Sup.z⟩
       all_goals try dsimp only
       ·refine ⟨by omega,by omega,?_,by simp only [List.length_append];omega,by simp [i5],by rw [List.length_append];exact hc3⟩
        rw [←i3,←k4,if_neg (by omega)]
        simp only [List.append_assoc,List.append_nil]
       ·omega
    ·rw [if_neg hh] at i3
     rw [Bool.not_eq_true] at hh
     rw [hh]
     repeat first|exact zE|refine wkT ?_|refine zB fun b=>?_|refine zC fun a' c' hc1 hc2=>?_|(apply GJ.a;exact rfl;intro hg)|(apply GJ.o;exact rfl;intro hg)
     refine Wk.id ⟨(c+1,m,l,a,cap),⟨rfl,?_⟩,?_,Sub.z,Sup.z⟩
     all_goals try dsimp only
     ·exact ⟨by omega,by omega,i3,by omega,i5,i6⟩
     ·omega
   ·obtain rfl:c=256:=by omega
    have i7:zBV s m 256=[]:=by
     cases m with
     | zero=>rfl
     | succ m=>rw [zBV,if_pos (by omega)]
    rw [i7,List.append_nil] at i3
    repeat first|exact zE|refine wkT ?_|refine zB fun b=>?_|refine zC fun a' c' hc1 hc2=>?_|(apply GJ.a;exact rfl;intro hg)|(apply GJ.o;exact rfl;intro hg)
    refine zFg (u:=93) (.inr rfl) rfl rfl (by omega) (fun a2 c2 hc3 hc4=>?_)
    repeat first|exact zE|refine wkT ?_|refine zB fun b=>?_|refine zC fun a' c' hc1 hc2=>?_|(apply GJ.a;exact rfl;intro hg)|(apply GJ.o;exact rfl;intro hg)
    refine zNR (l:=l++[93]) (by simp) (by simp) hc3 (by simp;omega) ?_
    repeat first|exact zE|refine wkT ?_|refine zB fun b=>?_|refine zC fun a' c' hc1 hc2=>?_|(apply GJ.a;exact rfl;intro hg)|(apply GJ.o;exact rfl;intro hg)
    rw [i3]
    exact Wk.outS Sup.z (.refl _) hk
end
end Go.Proofs.YtmaennnkaoollaaGreatDoor
end
section
namespace Go.E
open Go
theorem LdN.atR {ro ro':Ro}{own own':Chs}{a:Option Addr}{n c s k z o:Nat}{cs vs:List Value} (hr:Rds ro own a n c s cs) (hd:(cs.drop k).take z=vs) (ho:o=ao a+k) [hl:Leq ro ro'] [hp:Suf own' own]:LdN ro' own' (ab a) o vs:=by
 subst ho;subst hd;exact LdN.rds hr
end Go.E
namespace Go.E
open Go
theorem Sub2.refl (e:Env):Sub2 e e:=fun _ _ h=>h
section
variable {P:Program}{T:TT}{Q:Exit→Act→World→Prop}{n:Nat}{σ:World}
end
end Go.E
namespace Go.E
open Go
section
variable {P:Program}{T:TT}{Q:Exit→Act→World→Prop}{n:Fr}{σ:World}
end
end Go.E
namespace Go.E
open Go
section
variable {P:Program}{f:FuncId}{fn:Func}{ro:Ro}{own:Chs}{K:Value→Ro→Chs→Prop}
end
section
variable {P:Program}{T:TT} [hT:TTab P T] {ty:TypeId}{env:Env}{ro:Ro}{own:Chs}{K:Value→Ro→Chs→Prop}
theorem zI4 (a:Option Addr) (c s:Nat):cutA a 0 c s=a:=by
 unfold cutA
 split
 ·rfl
 ·cases a with
  | none=>rfl
  | some a=>simp [Addr.add]
end
end Go.E
namespace Go.E
open Go
section
variable {P:Program}{f:FuncId}{ro:Ro}{own:Chs}{K:Value→Ro→Chs→Prop}
theorem CallOk.ofBelow {args:Array Value}{v:Value} (enter:∀ args w,(callFunc f args).run P w=.ok (.enter f args) w) (h:∀ w,Calls P f args w fun e w'=>e=.returned v∧Go.RowKit.Below w.heap.size w w') (hk:K v ro own):CallOk P f args ro own K :=
 CallOk.body enter fun h0 hs w hw=>(h w).mono fun e w' ⟨he,hb⟩=>⟨v,he,⟨rfl,hb.os,hb.tape,hb.output⟩,ro,own,Le.refl _,hs.keep (fun b hb'=>by subst hw;exact hb.block b hb'),hk⟩
end
end Go.E
namespace Go.E
open Go
section
variable {P:Program}{T:TT} [hT:TTab P T] {ty:TypeId}{env:Env}{ro:Ro}{own:Chs}{K:Value→Ro→Chs→Prop}
end
end Go.E
namespace Go.E
open Go
section
variable {P:Program}{T:TT}{ty:TypeId}{env:Env}{ro:Ro}{own:Chs}{K:Value→Ro→Chs→Prop}
theorem Chunk.holds.shrink {ro:Ro}{a:Option Addr}{n m c s:Nat}{t:TypeId}{cs:List Value} (h:(Chunk.sl a n c t s cs).holds ro) (hm:m≤n):(Chunk.sl a m c t s (cs.take (m*s))).holds ro:=by
 obtain ⟨h1,h2,h3,h4⟩:=h
 have hms:=Nat.mul_le_mul_right s hm
 refine ⟨by rw [List.length_take];omega,by omega,h3,?_⟩
 rcases h4 with ⟨h5,h6,h7⟩|⟨b,sp,rfl,h5,h6⟩
 ·exact .inl ⟨h5,by omega,h7⟩
 ·refine .inr ⟨b,cs.drop (m*s)++sp,rfl,?_,?_⟩
  ·rw [←List.append_assoc,List.take_append_drop];exact h5
  ·rw [List.length_append,List.length_take,List.length_drop];omega
theorem Sat.shrink {ro:Ro}{own:Chs}{h:Heap}{a:Option Addr}{n m c s:Nat}{t:TypeId}{cs:List Value}{f:Chunk→Chs} [hb:HasSl own a n c t s cs f] (hm:m≤n) (hs:Sat ro own h):Sat ro (f (.sl a m c t s (cs.take (m*s)))) h:=by
 obtain ⟨r,p1,p2⟩:=hb.split
 refine Sat.perm ?_ (p2 _)
 have hs:=hs.perm p1
 refine hs.put (fun b _ _=>rfl) (hs.cons.1.shrink hm) (fun b hb=>.inl ?_) ?_
 ·cases a<;>exact hb
 ·cases a<;>simp [Chunk.fp]
theorem OpOk.shrink {op:Op}{a:Option Addr}{n m c s:Nat}{t:TypeId}{cs:List Value}{f:Chunk→Chs} [hb:HasSl own a n c t s cs f] (hm:m≤n) (h:OpOk P op ty env ro (f (.sl a m c t s (cs.take (m*s)))) K):OpOk P op ty env ro own K :=
 ⟨fun g hg=>h.run g (hg.shrink hm)⟩
end
end Go.E
namespace Go.E
open Go
section
variable {P:Program}{T:TT} [hT:TTab P T] {ty:TypeId}{env:Env}{ro:Ro}{own:Chs}{K:Value→Ro→Chs→Prop}
theorem OpOk.storePart {t:TypeId}{x y:Operand}{b o:Nat}{vs:List Value}{t0:TypeId}{cs cs':List Value}{f:Chunk→Chs}{z:Nat} (hx:ev env x=some (.pointer (some ⟨b,o,none⟩))) (hy:ev env y=some (.agg vs.toArray)) (ht:rowT T t=some z) (hz:vs.length=z) (h1:vs.all (fun u=>u.oneCell')=true)
  [hb:HasBlk own b t0 cs f] (hc:o+z≤cs.length) (he:Nf (splice cs o vs) cs') (hk:K undef ro (f (.blk b t0 cs'))):OpOk P (.store t x y) ty env ro own K :=
 ⟨fun h hsat d pos af g=>by
  have he:=he.eq
  subst he
  obtain ⟨r,p1,p2⟩:=(hb.repl (.blk b t0 (splice cs o vs))).perm
  have hsat:=hsat.perm p1
  refine (Eff.storeN0 hx hy ((rsz ht).trans (by simp [Value.cells,hz])) (by simpa [Value.cells] using List.all_eq_true.1 h1) hsat.cons.1 (by simp [Value.cells];omega)).mono ?_
  rintro _ h' ⟨rfl,g1,g2,g3⟩
  have g2':Row h' b t0 (splice cs o vs):=by simpa [Value.cells] using g2
  exact ⟨ro,_,Le.refl _,(hsat.put (c':=.blk b t0 (splice cs o vs)) (fun k _ hk=>g3 k (by simpa [Chunk.fp] using hk)) g2' (fun k hk=>.inl hk) (by simp [Chunk.fp])).perm p2.symm,hk⟩⟩
theorem LdN.slRow {a:Option Addr}{n c s k z:Nat}{t:TypeId}{cs vs:List Value}{f:Chunk→Chs} [hb:HasSl own a n c t s cs f] (hd:(cs.drop k).take z=vs):LdN ro own (ab a) (ao a+k) vs:=hd▸LdN.hasSl
theorem Wk.outE {K:Value→Ro→Chs→Prop}{v u:Value}{env:Env}{ro:Ro}{own own1 own':Chs} (hs:Sup own own1) (hp:own1.Perm own') (h:K u ro own') (e:u=v):Wk (fun _ ro own=>K v ro own) env ro own:=by subst e;exact Wk.outS hs hp h
end
end Go.E
namespace Go.E
open Go
section
variable {P:Program}{T:TT} [hT:TTab P T] {ty:TypeId}{env:Env}{ro:Ro}{own:Chs}{K:Value→Ro→Chs→Prop}
theorem OpOk.sliceArrL {t:TypeId}{x lo:Operand}{b n s:Nat}{k:IntKind}{l:Int} (hx:ev env x=some (.pointer (some ⟨b,0,none⟩))) (hl:ev env lo=some (.int k l)) (hm:zN4 T t=some (n,s)) (h:0≤l∧l<n)
  (hk:K (.slice (some ⟨b,l.toNat*s,none⟩) (n-l.toNat) (n-l.toNat)) ro own):OpOk P (.slice t x (some lo) none none) ty env ro own K:=by
 have h00:=zEM hm
 clear hm
 obtain ⟨e,z3,z4,te,hm,he,rfl⟩:=h00
 have hu:=hT.ok.arr hm
 have h1:P.elem t=e:=by simp [Program.elem,hu]
 have h2:P.arrayLen t=n:=by simp [Program.arrayLen,hu]
 have hu':P.underlying t=some (.array (P.arrayLen t) (P.elem t)):=by rw [h1,h2];exact hu
 exact OpOk.pu (fun g hs d pos af gd=>.mk fun ρ w hρ _=>by
  simp only [execOp,Option.map_some,Option.map_none,hρ _ _ hx,hρ _ _ hl,Sem.run_bind]
  rw [run_sliceAt_array_l w t ⟨b,0,none⟩ hu' k l h.1 (by rw [h2];omega),h1,h2,zAN (hT.ok.sz he)]
  simp only [Sem.run_pure,Result.andThen_ok,slicedAt]
  rw [if_neg (by omega)]
  simp [Addr.add_mid]) hk
theorem Rds.arr {b k n:Nat}{t:TypeId}{cs:List Value}{f:Chunk→Chs}{l:List Value} [hb:HasBlk own b t cs f] (hd:cs.drop k=l) (hn:l.length=n) (h0:0<n) (hm:n≤maxLen):Rds ro own (some ⟨b,k,none⟩) n n 1 l:=by
 subst hd
 refine ⟨fun h hs=>?_,by omega,Nat.le_refl _,hm⟩
 have hc:=LdN.hasBlk (ro:=ro) (own:=own) (b:=b) h hs
 have hlt:b<h.size:=by
  have:=(hb.repl (.obj 0 default)).get hs
  exact this.lt b (by simp [Chunk.fp])
 refine .inr ⟨h0,b,k,n,rfl,Nat.le_refl _,hm,hlt,fun j v hv=>?_⟩
 have:=hc (k+j) v (by rw [←hv,List.getElem?_drop])
 simpa using this
end
end Go.E
end
