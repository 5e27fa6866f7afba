/- The law WholeSums: its contract. -/
import Derived.Test.YtpjiaafkcojddaaCrA
import Derived.Test.YtpjiaafkcojddaaCrB
import Derived.Test.YtpjiaafkcojddaaWd
import Derived.Test.YtpjiaafkcojddaaOc4
namespace Go.Proofs.Ytpjiaafkcojddaa
open Go Go.E
set_option linter.unusedVariables false
set_option maxRecDepth 10000
/-- A piece behind its length. -/
def pieceS (ls : List (List UInt8)) (i : Nat) : List UInt8 := putB false 2 (ls[i]!).length ++ ls[i]!
def catS (ls : List (List UInt8)) (i : Nat) : List UInt8 := (List.range i).flatMap (pieceS ls)
theorem catS_succ (ls : List (List UInt8)) (i : Nat) : catS ls (i + 1) = catS ls i ++ pieceS ls i := by simp [catS, List.range_succ]
theorem catS_split (ls : List (List UInt8)) : ∀ n i, i ≤ n → ∃ rest, catS ls n = catS ls i ++ rest
  | 0, i, hi => by
    obtain rfl : i = 0 := by omega
    exact ⟨[], by simp⟩
  | n + 1, i, hi => by
    rcases Nat.lt_or_ge i (n + 1) with h | h
    · obtain ⟨r, hr⟩ := catS_split ls n i (by omega)
      exact ⟨r ++ pieceS ls n, by rw [catS_succ, hr, List.append_assoc]⟩
    · obtain rfl : i = n + 1 := by omega
      exact ⟨[], by simp⟩
section
variable {ro : Ro} {own r : Chs} {K : Value → Ro → Chs → Prop} {g : Chunk → Chs}
theorem wholeSums_ok {n c : Nat} {a : Option Addr} {ls : List (List UInt8)} (hr0 : Bys2 ro a n c ls) (hk : K (.bool true) ro own) : CallOk Try.prog 11 #[.slice a n c] ro own K := by
  obtain ⟨vs, hr, hl, hv⟩ := hr0.run
  have hvl := hr.n1
  refine CallOk.back ?_
  refine CallOk.intro (args := [_]) (rs := [_]) T_ok Try.func11 Try.call11 rfl rfl (by kernel_rfl) rfl rfl ?_
  repeat (first
    | (show _ ∧ _; exact ⟨rfl, rfl, rfl⟩)
    | refine wkG ?_
    | (show OpOk _ _ _ _ _ _ _; first | refine opB (fun b => ?_) | refine opA (fun a' c' hc1 hc2 => ?_))
    | (show GJ _ _ _ _ _ _ _; first | (apply GJ.and; exact rfl; intro hg) | (apply GJ.or; exact rfl; intro hg) | refine GJ.t omAuto ?_ | refine GJ.f omAuto ?_ | refine GJ.ft omAuto ?_ | refine GJ.ff omAuto ?_))
  refine wideAdd_ok (x := 2) (y := 3) (by omega) ?_
  repeat (first
    | (show _ ∧ _; exact ⟨rfl, rfl, rfl⟩)
    | refine wkT ?_
    | (show OpOk _ _ _ _ _ _ _; first | refine opB (fun b => ?_) | refine opA (fun a' c' hc1 hc2 => ?_))
    | (show GJ _ _ _ _ _ _ _; first | (apply GJ.and; exact rfl; intro hg) | (apply GJ.or; exact rfl; intro hg)))
  refine join_ok (x := 7) (y := 0) (k := 0) (by omega) (by omega) (by omega) (by omega) ?_
  rw [show (bits (8 * 0) 7 ^^^ 0 : Nat) = 7 from rfl]
  repeat (first
    | (show _ ∧ _; exact ⟨rfl, rfl, rfl⟩)
    | refine wkT ?_
    | (show OpOk _ _ _ _ _ _ _; first | refine opB (fun b => ?_) | refine opA (fun a' c' hc1 hc2 => ?_))
    | (show GJ _ _ _ _ _ _ _; first | (apply GJ.and; exact rfl; intro hg) | (apply GJ.or; exact rfl; intro hg)))
  refine Br.cases (fun hc => ?_) (fun hc => ?_)
  · repeat (first
      | (show _ ∧ _; exact ⟨rfl, rfl, rfl⟩)
      | refine wkG ?_
      | (show OpOk _ _ _ _ _ _ _; first | refine opB (fun b => ?_) | refine opA (fun a' c' hc1 hc2 => ?_))
      | (show GJ _ _ _ _ _ _ _; first | (apply GJ.and; exact rfl; intro hg) | (apply GJ.or; exact rfl; intro hg) | refine GJ.t omAuto ?_ | refine GJ.f omAuto ?_ | refine GJ.ft omAuto ?_ | refine GJ.ff omAuto ?_))
    exact Wk.back1 Sup.auto (.refl _) hk
  repeat (first
    | (show _ ∧ _; exact ⟨rfl, rfl, rfl⟩)
    | refine wkG ?_
    | (show OpOk _ _ _ _ _ _ _; first | refine opB (fun b => ?_) | refine opA (fun a' c' hc1 hc2 => ?_))
    | (show GJ _ _ _ _ _ _ _; first | (apply GJ.and; exact rfl; intro hg) | (apply GJ.or; exact rfl; intro hg) | refine GJ.t omAuto ?_ | refine GJ.f omAuto ?_ | refine GJ.ft omAuto ?_ | refine GJ.ff omAuto ?_))
  rw [tcells_none]
  refine LoopOk.at (ι := Nat × Option Nat × Nat × List Value × Option Addr × Nat × Nat) Keep.auto (fun (i, o, y, cs, a1, n1, c1) => [(42, .int .i64 (i : Int)), (6, .slice a1 n1 c1), (7, .int .u32 (y : Int)), (8, .int .u64 (n1 : Int))]) (fun (i, o, y, cs, a1, n1, c1) => .blk b 45 (tcells o) :: .sl a1 n1 c1 5 1 cs :: own) (fun (i, o, y, cs, a1, n1, c1) => i ≤ n ∧ y = crcOf (catS ls i) ∧ cs = (catS ls i).map u8 ∧ n1 = (catS ls i).length ∧ o.getD 0 = n1 ∧ n1 ≤ c1 ∧ c1 ≤ maxLen ∧ n1 ≤ 202 * i) (fun (i, o, y, cs, a1, n1, c1) => n - i) (0, none, 0, [], none, 0, 0) ?_ Sub.auto Sup.auto ?_
  · exact ⟨by omega, crcOf_nil.symm, rfl, rfl, rfl, by omega, by omega, by omega⟩
  rintro ⟨i, o, y, cs, a1, n1, c1⟩ ⟨i1, rfl, rfl, rfl, i5, i6, i7, i8⟩
  dsimp only [List.cons_append, List.nil_append]
  repeat (first
    | (show _ ∧ _; exact ⟨rfl, rfl, rfl⟩)
    | refine wkG ?_
    | (show OpOk _ _ _ _ _ _ _; first | refine opB (fun b => ?_) | refine opA (fun a' c' hc1 hc2 => ?_))
    | (show GJ _ _ _ _ _ _ _; first | (apply GJ.and; exact rfl; intro hg) | (apply GJ.or; exact rfl; intro hg) | refine GJ.t omAuto ?_ | refine GJ.f omAuto ?_ | refine GJ.ft omAuto ?_ | refine GJ.ff omAuto ?_))
  refine Br.cases (fun hd => ?_) (fun hd => ?_)
  · obtain ⟨a2, n2, c2, hvi, hp⟩ := hv i (by omega)
    have hpl := hp.n
    have hfl := catS_succ ls i
    have hj := crcOf_join (catS ls i) (pieceS ls i)
    rw [← hfl] at hj
    have hlt := crcOf_lt (catS ls i)
    have hln := congrArg List.length hfl
    rw [List.length_append] at hln
    have hpc : (pieceS ls i).length = n2 + 2 := by rw [pieceS, List.length_append, putB_len]; omega
    repeat (first
      | (show _ ∧ _; exact ⟨rfl, rfl, rfl⟩)
      | refine wkG ?_
      | (show OpOk _ _ _ _ _ _ _; first | refine opB (fun b => ?_) | refine opA (fun a' c' hc1 hc2 => ?_))
      | (show GJ _ _ _ _ _ _ _; first | (apply GJ.and; exact rfl; intro hg) | (apply GJ.or; exact rfl; intro hg) | refine GJ.t omAuto ?_ | refine GJ.f omAuto ?_ | refine GJ.ft omAuto ?_ | refine GJ.ff omAuto ?_))
    rw [Int.toNat_natCast]
    refine OpOk.load rfl rfl (Ld.rs hr hvi) ?_
    repeat (first
      | (show _ ∧ _; exact ⟨rfl, rfl, rfl⟩)
      | refine wkG ?_
      | (show OpOk _ _ _ _ _ _ _; first | refine opB (fun b => ?_) | refine opA (fun a' c' hc1 hc2 => ?_))
      | (show GJ _ _ _ _ _ _ _; first | (apply GJ.and; exact rfl; intro hg) | (apply GJ.or; exact rfl; intro hg) | refine GJ.t omAuto ?_ | refine GJ.f omAuto ?_ | refine GJ.ft omAuto ?_ | refine GJ.ff omAuto ?_))
    refine Br.cases (fun he => ?_) (fun he => ?_)
    · repeat (first
        | (show _ ∧ _; exact ⟨rfl, rfl, rfl⟩)
        | refine wkG ?_
        | (show OpOk _ _ _ _ _ _ _; first | refine opB (fun b => ?_) | refine opA (fun a' c' hc1 hc2 => ?_))
        | (show GJ _ _ _ _ _ _ _; first | (apply GJ.and; exact rfl; intro hg) | (apply GJ.or; exact rfl; intro hg) | refine GJ.t omAuto ?_ | refine GJ.f omAuto ?_ | refine GJ.ft omAuto ?_ | refine GJ.ff omAuto ?_))
      exact Wk.back1 Sup.auto (.refl _) hk
    repeat (first
      | (show _ ∧ _; exact ⟨rfl, rfl, rfl⟩)
      | refine wkG ?_
      | (show OpOk _ _ _ _ _ _ _; first | refine opB (fun b => ?_) | refine opA (fun a' c' hc1 hc2 => ?_))
      | (show GJ _ _ _ _ _ _ _; first | (apply GJ.and; exact rfl; intro hg) | (apply GJ.or; exact rfl; intro hg) | refine GJ.t omAuto ?_ | refine GJ.f omAuto ?_ | refine GJ.ft omAuto ?_ | refine GJ.ff omAuto ?_))
    rw [show (n2 : Int) % 18446744073709551616 = ((n2 : Nat) : Int) by omega]
    refine oput_ok (l := []) (x := n2) (w := 2) (Rds.nil _ _ _) (by simp) (by omega) (by simp [mostN]; omega) (fun a3 n3 c3 h1 h2 h3 => ?_)
    simp only [List.nil_append, List.length_nil, Nat.zero_add] at h1 ⊢
    repeat (first
      | (show _ ∧ _; exact ⟨rfl, rfl, rfl⟩)
      | refine wkG ?_
      | (show OpOk _ _ _ _ _ _ _; first | refine opB (fun b => ?_) | refine opA (fun a' c' hc1 hc2 => ?_))
      | (show GJ _ _ _ _ _ _ _; first | (apply GJ.and; exact rfl; intro hg) | (apply GJ.or; exact rfl; intro hg) | refine GJ.t omAuto ?_ | refine GJ.f omAuto ?_ | refine GJ.ft omAuto ?_ | refine GJ.ff omAuto ?_))
    have hcell : (putB false 2 n2).map u8 ++ (ls[i]!).map u8 = (pieceS ls i).map u8 := by rw [pieceS, List.map_append, hpl]
    rw [hcell, show n3 + n2 = (pieceS ls i).length by omega]
    generalize hP : pieceS ls i = P at hj hln hpc hfl
    have hltP := crcOf_lt P
    refine CallOk.perm (Take.perm (.miss _ (.hit _ _))) ?_
    refine tof_ok (l := P) (Rds.hasSl (by omega) (by omega) (by rw [List.length_map]; omega)) (by omega) (by omega) ?_
    generalize crcOf P = q at hj hltP
    repeat (first
      | (show _ ∧ _; exact ⟨rfl, rfl, rfl⟩)
      | refine wkG ?_
      | (show OpOk _ _ _ _ _ _ _; first | refine opB (fun b => ?_) | refine opA (fun a' c' hc1 hc2 => ?_))
      | (show GJ _ _ _ _ _ _ _; first | (apply GJ.and; exact rfl; intro hg) | (apply GJ.or; exact rfl; intro hg) | refine GJ.t omAuto ?_ | refine GJ.f omAuto ?_ | refine GJ.ft omAuto ?_ | refine GJ.ff omAuto ?_))
    generalize crcOf (catS ls i) = y at hj hlt
    refine join_ok (k := P.length) hlt hltP (by omega) (by omega) ?_
    rw [← hj]
    repeat (first
      | (show _ ∧ _; exact ⟨rfl, rfl, rfl⟩)
      | refine wkG ?_
      | (show OpOk _ _ _ _ _ _ _; first | refine opB (fun b => ?_) | refine opA (fun a' c' hc1 hc2 => ?_))
      | (show GJ _ _ _ _ _ _ _; first | (apply GJ.and; exact rfl; intro hg) | (apply GJ.or; exact rfl; intro hg) | refine GJ.t omAuto ?_ | refine GJ.f omAuto ?_ | refine GJ.ft omAuto ?_ | refine GJ.ff omAuto ?_))
    rw [show (P.length : Int) % 18446744073709551616 = ((P.length : Nat) : Int) by omega]
    refine wideSum2_ok (by omega) ?_
    repeat (first
      | (show _ ∧ _; exact ⟨rfl, rfl, rfl⟩)
      | refine wkG ?_
      | (show OpOk _ _ _ _ _ _ _; first | refine opB (fun b => ?_) | refine opA (fun a' c' hc1 hc2 => ?_))
      | (show GJ _ _ _ _ _ _ _; first | (apply GJ.and; exact rfl; intro hg) | (apply GJ.or; exact rfl; intro hg) | refine GJ.t omAuto ?_ | refine GJ.f omAuto ?_ | refine GJ.ft omAuto ?_ | refine GJ.ff omAuto ?_))
    refine Wk.id ⟨(i + 1, some (o.getD 0 + P.length), _, _, _, _, _), ⟨rfl, ?_⟩, ?_, Sub.auto, Sup.auto⟩
    all_goals try dsimp only
    · exact ⟨by omega, rfl, by rw [hfl, List.map_append], by omega, by rw [Option.getD_some]; omega, by omega, by omega, by omega⟩
    · omega
  · obtain rfl : i = n := by omega
    have hlen : (catS ls i ++ be4 (crcOf (catS ls i))).length = (catS ls i).length + 4 := by rw [List.length_append, be4_len]
    have htk : (catS ls i ++ be4 (crcOf (catS ls i))).take (catS ls i).length = catS ls i := List.take_left' rfl
    generalize hX : catS ls i = X at *
    repeat (first
      | (show _ ∧ _; exact ⟨rfl, rfl, rfl⟩)
      | refine wkG ?_
      | (show OpOk _ _ _ _ _ _ _; first | refine opB (fun b => ?_) | refine opA (fun a' c' hc1 hc2 => ?_))
      | (show GJ _ _ _ _ _ _ _; first | (apply GJ.and; exact rfl; intro hg) | (apply GJ.or; exact rfl; intro hg) | refine GJ.t omAuto ?_ | refine GJ.f omAuto ?_ | refine GJ.ft omAuto ?_ | refine GJ.ff omAuto ?_))
    refine seal_ok (l := X) (Rds.hasSl (by omega) (by omega) (by rw [List.length_map]; omega)) (by omega) (by omega) (fun a2 n2 c2 h1 h2 h3 => ?_)
    repeat (first
      | (show _ ∧ _; exact ⟨rfl, rfl, rfl⟩)
      | refine wkG ?_
      | (show OpOk _ _ _ _ _ _ _; first | refine opB (fun b => ?_) | refine opA (fun a' c' hc1 hc2 => ?_))
      | (show GJ _ _ _ _ _ _ _; first | (apply GJ.and; exact rfl; intro hg) | (apply GJ.or; exact rfl; intro hg) | refine GJ.t omAuto ?_ | refine GJ.f omAuto ?_ | refine GJ.ft omAuto ?_ | refine GJ.ff omAuto ?_))
    refine CallOk.perm (Take.perm (.miss _ (.hit _ _))) ?_
    refine open_ok (m := X.length) (l := X ++ be4 (crcOf X)) (Rds.hasSl (by omega) h3 (by rw [List.length_map]; omega)) (by omega) (by omega) (by rw [Option.getD_some]; omega) (fun he a3 c3 h4 h5 => ?_) (fun he => absurd (by rw [htk]) he)
    rw [htk]
    repeat (first
      | (show _ ∧ _; exact ⟨rfl, rfl, rfl⟩)
      | refine wkT ?_
      | (show OpOk _ _ _ _ _ _ _; first | refine opB (fun b => ?_) | refine opA (fun a' c' hc1 hc2 => ?_))
      | (show GJ _ _ _ _ _ _ _; first | (apply GJ.and; exact rfl; intro hg) | (apply GJ.or; exact rfl; intro hg)))
    refine CallOk.perm (Take.perm (.miss _ (.hit _ _))) ?_
    refine tof_ok (l := X) (Rds.hasSl (by omega) (by omega) (by rw [List.length_map]; omega)) (by omega) (by rw [Option.getD_some, Option.getD_some]; omega) ?_
    have hxl := crcOf_lt X
    generalize crcOf X = q at hxl
    repeat (first
      | (show _ ∧ _; exact ⟨rfl, rfl, rfl⟩)
      | refine wkT ?_
      | (show OpOk _ _ _ _ _ _ _; first | refine opB (fun b => ?_) | refine opA (fun a' c' hc1 hc2 => ?_))
      | (show GJ _ _ _ _ _ _ _; first | (apply GJ.and; exact rfl; intro hg) | (apply GJ.or; exact rfl; intro hg)))
    refine CallOk.freeze (c := .sl a3 _ _ _ _ _) Take.auto (fun ro1 hl1 hc1 => ?_)
    have hB : Bys ro1 a3 X.length c3 X := Rs.last hc1
    refine new_ok (fun b3 => ?_)
    repeat (first
      | (show _ ∧ _; exact ⟨rfl, rfl, rfl⟩)
      | refine wkG ?_
      | (show OpOk _ _ _ _ _ _ _; first | refine opB (fun b => ?_) | refine opA (fun a' c' hc1 hc2 => ?_))
      | (show GJ _ _ _ _ _ _ _; first | (apply GJ.and; exact rfl; intro hg) | (apply GJ.or; exact rfl; intro hg) | refine GJ.t omAuto ?_ | refine GJ.f omAuto ?_ | refine GJ.ft omAuto ?_ | refine GJ.ff omAuto ?_))
    refine LoopOk.at (ι := Nat) Keep.auto (fun j => [(111, .int .i64 (j : Int))]) (fun j => .blk b3 130 (rdr a3 X.length c3 ((catS ls j).length : Nat)) :: own) (fun j => j ≤ i) (fun j => i - j) 0 ?_ Sub.auto Sup.auto ?_
    · omega
    rintro j j1
    dsimp only [List.cons_append, List.nil_append]
    repeat (first
      | (show _ ∧ _; exact ⟨rfl, rfl, rfl⟩)
      | refine wkG ?_
      | (show OpOk _ _ _ _ _ _ _; first | refine opB (fun b => ?_) | refine opA (fun a' c' hc1 hc2 => ?_))
      | (show GJ _ _ _ _ _ _ _; first | (apply GJ.and; exact rfl; intro hg) | (apply GJ.or; exact rfl; intro hg) | refine GJ.t omAuto ?_ | refine GJ.f omAuto ?_ | refine GJ.ft omAuto ?_ | refine GJ.ff omAuto ?_))
    refine Br.cases (fun hd => ?_) (fun hd => ?_)
    · obtain ⟨a4, n4, c4, hvj, hp⟩ := hv j (by omega)
      have hpl := hp.n
      have hcs := congrArg List.length (catS_succ ls j)
      rw [List.length_append] at hcs
      obtain ⟨rest, hrest⟩ := catS_split ls i (j + 1) (by omega)
      rw [hX] at hrest
      have hdrop : X.drop (catS ls j).length = putB false 2 (ls[j]!).length ++ ls[j]! ++ rest := by
        rw [hrest, catS_succ, List.append_assoc, List.drop_left, pieceS]
      have hlen2 := congrArg List.length hrest
      rw [List.length_append] at hlen2
      have hpc : (pieceS ls j).length = n4 + 2 := by rw [pieceS, List.length_append, putB_len]; omega
      repeat (first
        | (show _ ∧ _; exact ⟨rfl, rfl, rfl⟩)
        | refine wkG ?_
        | (show OpOk _ _ _ _ _ _ _; first | refine opB (fun b => ?_) | refine opA (fun a' c' hc1 hc2 => ?_))
        | (show GJ _ _ _ _ _ _ _; first | (apply GJ.and; exact rfl; intro hg) | (apply GJ.or; exact rfl; intro hg) | refine GJ.t omAuto ?_ | refine GJ.f omAuto ?_ | refine GJ.ft omAuto ?_ | refine GJ.ff omAuto ?_))
      rw [Int.toNat_natCast]
      refine OpOk.load rfl rfl (Ld.rs hr hvj) ?_
      repeat (first
        | (show _ ∧ _; exact ⟨rfl, rfl, rfl⟩)
        | refine wkG ?_
        | (show OpOk _ _ _ _ _ _ _; first | refine opB (fun b => ?_) | refine opA (fun a' c' hc1 hc2 => ?_))
        | (show GJ _ _ _ _ _ _ _; first | (apply GJ.and; exact rfl; intro hg) | (apply GJ.or; exact rfl; intro hg) | refine GJ.t omAuto ?_ | refine GJ.f omAuto ?_ | refine GJ.ft omAuto ?_ | refine GJ.ff omAuto ?_))
      refine rnumber_ok (w := 2) hB (by omega) (by omega) (by omega) ?_
      have hval : beN (dirB false ((X.drop (catS ls j).length).take 2)) = n4 := by
        rw [hdrop, List.append_assoc, List.take_left' (putB_len _ _ _), putB_back (by rw [hpl]; omega), hpl]
      rw [hval]
      repeat (first
        | (show _ ∧ _; exact ⟨rfl, rfl, rfl⟩)
        | refine wkG ?_
        | (show OpOk _ _ _ _ _ _ _; first | refine opB (fun b => ?_) | refine opA (fun a' c' hc1 hc2 => ?_))
        | (show GJ _ _ _ _ _ _ _; first | (apply GJ.and; exact rfl; intro hg) | (apply GJ.or; exact rfl; intro hg) | refine GJ.t omAuto ?_ | refine GJ.f omAuto ?_ | refine GJ.ft omAuto ?_ | refine GJ.ff omAuto ?_))
      rw [show IntKind.i64.wrap (n4 : Int) = (n4 : Int) from wrap_i64 (by omega)]
      refine take_ok (m := n4) hB (by omega) (by omega) (fun a' c' h6 h7 => ?_)
      have htk2 : (X.drop ((catS ls j).length + 2)).take n4 = ls[j]! := by
        rw [← List.drop_drop, hdrop, List.append_assoc, List.drop_left' (putB_len _ _ _), List.take_left' hpl]
      rw [htk2, show (catS ls j).length + 2 + n4 = (catS ls (j + 1)).length by omega]
      repeat (first
        | (show _ ∧ _; exact ⟨rfl, rfl, rfl⟩)
        | refine wkT ?_
        | (show OpOk _ _ _ _ _ _ _; first | refine opB (fun b => ?_) | refine opA (fun a' c' hc1 hc2 => ?_))
        | (show GJ _ _ _ _ _ _ _; first | (apply GJ.and; exact rfl; intro hg) | (apply GJ.or; exact rfl; intro hg)))
      refine Br.f (by simp) ?_
      repeat (first
        | (show _ ∧ _; exact ⟨rfl, rfl, rfl⟩)
        | refine wkT ?_
        | (show OpOk _ _ _ _ _ _ _; first | refine opB (fun b => ?_) | refine opA (fun a' c' hc1 hc2 => ?_))
        | (show GJ _ _ _ _ _ _ _; first | (apply GJ.and; exact rfl; intro hg) | (apply GJ.or; exact rfl; intro hg)))
      refine Wk.id ⟨j + 1, ⟨rfl, ?_⟩, ?_, Sub.auto, Sup.auto⟩
      all_goals try dsimp only
      · omega
      · omega
    · obtain rfl : j = i := by omega
      rw [hX]
      repeat (first
        | (show _ ∧ _; exact ⟨rfl, rfl, rfl⟩)
        | refine wkG ?_
        | (show OpOk _ _ _ _ _ _ _; first | refine opB (fun b => ?_) | refine opA (fun a' c' hc1 hc2 => ?_))
        | (show GJ _ _ _ _ _ _ _; first | (apply GJ.and; exact rfl; intro hg) | (apply GJ.or; exact rfl; intro hg) | refine GJ.t omAuto ?_ | refine GJ.f omAuto ?_ | refine GJ.ft omAuto ?_ | refine GJ.ff omAuto ?_))
      refine left_ok (by omega) (by omega) ?_
      repeat (first
        | (show _ ∧ _; exact ⟨rfl, rfl, rfl⟩)
        | refine wkG ?_
        | (show OpOk _ _ _ _ _ _ _; first | refine opB (fun b => ?_) | refine opA (fun a' c' hc1 hc2 => ?_))
        | (show GJ _ _ _ _ _ _ _; first | (apply GJ.and; exact rfl; intro hg) | (apply GJ.or; exact rfl; intro hg) | refine GJ.t omAuto ?_ | refine GJ.f omAuto ?_ | refine GJ.ft omAuto ?_ | refine GJ.ff omAuto ?_))
      refine Wk.backB ?_ Sup.auto (.refl _) hk
      simp
end
end Go.Proofs.Ytpjiaafkcojddaa
