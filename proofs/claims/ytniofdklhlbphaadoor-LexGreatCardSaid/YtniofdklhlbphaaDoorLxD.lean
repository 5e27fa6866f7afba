/- The table of blanks; strings.Fields of all signs. -/
import Derived.Test.YtniofdklhlbphaaDoorLxC
import Derived.Lib.LaidTab
import Derived.Stop.LaidErr
namespace Go.Proofs.YtniofdklhlbphaaDoor
open Go Go.E
set_option linter.unusedVariables false
set_option linter.unusedSimpArgs false
set_option maxRecDepth 10000
def spI (i : Nat) : Int := if 9 ≤ i ∧ i ≤ 13 ∨ i = 32 then 1 else 0
def spL : List Int := (List.range 256).map spI
structure SpOk (ro : Ro) : Prop where
  cells : ∃ cs t fr, ro 0 = some (.cells cs t fr) ∧ ∀ i, i < 256 → cs[i]? = some (.int .u8 (spI i))
theorem SpOk.le {ro ro' : Ro} (h : SpOk ro) (hl : Le ro ro') : SpOk ro' := by
  obtain ⟨cs, t, fr, h1, h2⟩ := h.cells
  exact ⟨cs, t, fr, hl.le _ _ h1, h2⟩
theorem SpOk.ld {ro : Ro} {own : Chs} {o i : Nat} (h : SpOk ro) (ho : o = i) (hi : i < 256) : Ld ro own 0 o (.int .u8 (spI i)) := fun hp hs => by
  subst ho
  obtain ⟨cs, t, fr, h1, h2⟩ := h.cells
  have := hs.last _ _ h1
  rw [cellAt_of this]; exact h2 o hi
theorem SpOk.ofLaid {W : World} {x : String × DataW Unit} {rest : List (String × DataW Unit)} (h : laidMet Tryd.prog (x :: ("strings.asciiSpace", Lib.tabData .u8 spL) :: rest) W) : SpOk (hm W.heap) := by
  have hg : Tryd.prog.globalNamed "strings.asciiSpace" = some 0 := by kernel_rfl
  have hT := Lib.tabIs_of_head (n := 256) hg (by kernel_rfl) Tryd.underlying40 Tryd.underlying5 (by kernel_rfl) (by kernel_rfl) h.tail
  unfold Lib.TabIs World.var? at hT
  rw [hg] at hT
  simp only [Option.bind_some] at hT
  split at hT
  · rename_i cs t fr he
    cases hT
    refine ⟨⟨_, _, _, he, fun i hi => ?_⟩⟩
    simp [spL, hi]
  · cases hT
def sgB : List UInt8 := [46, 46, 32, 61, 32, 59, 32, 123, 32, 125, 32, 91, 32, 93, 32, 40, 32, 41, 32, 58, 32, 124, 32, 42, 32, 43, 32, 37]
def sgU (i : Nat) : UInt8 := sgB.getD i 0
def spU (u : UInt8) : Int := spI u.toNat
def wF : Nat → Int
  | 0 => 1
  | i + 1 => spU (sgU i)
def nF : Nat → Int
  | 0 => 0
  | i + 1 => nF i + iand (wF i) (ixor (-1) (spU (sgU i)))
def bF : Nat → Nat
  | 0 => 0
  | i + 1 => bF i ||| (sgU i).toNat
def naF : Nat → Nat
  | 0 => 0
  | i + 1 => if spU (sgU i) = 0 then naF i else naF i + 1
def fsF : Nat → Nat
  | 0 => 0
  | i + 1 => if spU (sgU i) = 0 then fsF i else i + 1
def tbF : Nat → List (List UInt8)
  | 0 => List.replicate 14 []
  | i + 1 => if spU (sgU i) = 0 then tbF i else (tbF i).set (naF i) ((sgB.drop (fsF i)).take (i - fsF i))
def signsL : List (List UInt8) := [[46, 46], [61], [59], [123], [125], [91], [93], [40], [41], [58], [124], [42], [43], [37]]
theorem sg_one : ∀ i, i ≤ 28 → 0 ≤ nF i ∧ nF i ≤ 28 ∧ (wF i = 0 ∨ wF i = 1) ∧ bF i < 128 := by decide +kernel
theorem sg_get : ∀ i, i < 28 → sgB[i]? = some (sgU i) := by decide +kernel
theorem sg_n : nF 28 = 14 := by decide +kernel
theorem sg_two : ∀ i, i ≤ 28 → naF i ≤ 13 ∧ fsF i ≤ i ∧ (tbF i).length = 14 := by decide +kernel
theorem sg_next : ∀ i, i < 27 → spU (sgU i) ≠ 0 → spU (sgU (i + 1)) = 0 := by decide +kernel
theorem sg_end : fsF 28 = 27 ∧ naF 28 = 13 ∧ (tbF 28).set 13 (sgB.drop 27) = signsL ∧ spU (sgU 27) = 0 := by decide +kernel
section
variable {ro : Ro} {own r : Chs} {K : Value → Ro → Chs → Prop} {g : Chunk → Chs}
set_option maxHeartbeats 2000000 in
theorem fields_ok (hS : SpOk ro) (hk : ∀ b : Nat, K (.slice (some ⟨b, 0, none⟩) 14 14) ro (.sl (some ⟨b, 0, none⟩) 14 14 9 1 (signsL.map str) :: own)) : CallOk Tryd.prog 64 #[str sgB] ro own K := by
  have hlen : sgB.length = 28 := rfl
  obtain ⟨sg, hsg⟩ : ∃ x, sgB = x := ⟨_, rfl⟩
  rw [hsg] at hlen ⊢
  have hget := sg_get
  rw [hsg] at hget
  refine CallOk.intro (args := [_]) (rs := [_]) T_ok Tryd.func64 Tryd.call64 rfl rfl (by kernel_rfl) rfl rfl ?_
  repeat (first
    | (show _ ∧ _; exact ⟨rfl, rfl, rfl⟩)
    | refine wkT ?_
    | (show OpOk _ _ _ _ _ _ _; first | refine opB (fun b => ?_) | refine opA (fun a' c' hc1 hc2 => ?_))
    | (show GJ _ _ _ _ _ _ _; first | (apply GJ.and; exact rfl; intro hg) | (apply GJ.or; exact rfl; intro hg)))
  refine LoopOk.at (ι := Nat) Keep.auto (fun i => [(6, .int .i64 (i : Int)), (3, .int .i64 (nF i)), (4, .int .i64 (wF i)), (5, .int .u8 ((bF i : Nat) : Int))]) (fun i => own) (fun i => i ≤ 28) (fun i => 28 - i) 0 ?_ Sub.auto Sup.auto ?_
  · exact Nat.zero_le _
  rintro i i1
  dsimp only [List.cons_append, List.nil_append] at i1 ⊢
  by_cases hb : i < 28
  · have hu := hget i hb
    have h1 := sg_one i i1
    have h2 := sg_one (i + 1) hb
    have hn : nF (i + 1) = nF i + iand (wF i) (ixor (-1) (spU (sgU i))) := rfl
    have hw : wF (i + 1) = spU (sgU i) := rfl
    have hbb : bF (i + 1) = bF i ||| (sgU i).toNat := rfl
    have hsp : spU (sgU i) = spI (sgU i).toNat := rfl
    generalize hn2 : nF (i + 1) = n2 at hn h2
    generalize hw2 : wF (i + 1) = w2 at hw h2
    generalize hb2 : bF (i + 1) = b2 at hbb h2
    generalize hn1 : nF i = n1 at h1 hn ⊢
    generalize hw1 : wF i = w1 at h1 hn ⊢
    generalize hb1 : bF i = b1 at h1 hbb ⊢
    generalize sgU i = u at hu hn hw hbb hsp
    generalize spU u = s at hn hw hsp
    have hun := u.toNat_lt
    have hu2 : sg[(i : Int).toNat]! = u := by
      rw [Int.toNat_natCast, List.getElem!_eq_getElem?_getD, hu]; rfl
    have hor : nor2 ((b1 : Nat) : Int) ((u.toNat : Nat) : Int) = ((b2 : Nat) : Int) := by rw [hbb]; rfl
    repeat (first
      | (show _ ∧ _; exact ⟨rfl, rfl, rfl⟩)
      | refine wkT ?_
      | (show OpOk _ _ _ _ _ _ _; first | refine opB (fun b => ?_) | refine opA (fun a' c' hc1 hc2 => ?_))
      | (show GJ _ _ _ _ _ _ _; first | (apply GJ.and; exact rfl; intro hg) | (apply GJ.or; exact rfl; intro hg)))
    rw [hu2, hor]
    refine ⟨by omega, ?_⟩
    repeat (first
      | (show _ ∧ _; exact ⟨rfl, rfl, rfl⟩)
      | refine wkT ?_
      | (show OpOk _ _ _ _ _ _ _; first | refine opB (fun b => ?_) | refine opA (fun a' c' hc1 hc2 => ?_))
      | (show GJ _ _ _ _ _ _ _; first | (apply GJ.and; exact rfl; intro hg) | (apply GJ.or; exact rfl; intro hg)))
    refine OpOk.load rfl rfl (hS.ld (i := u.toNat) (by omega) (by omega)) ?_
    rw [← hsp]
    repeat (first
      | (show _ ∧ _; exact ⟨rfl, rfl, rfl⟩)
      | refine wkT ?_
      | (show OpOk _ _ _ _ _ _ _; first | refine opB (fun b => ?_) | refine opA (fun a' c' hc1 hc2 => ?_))
      | (show GJ _ _ _ _ _ _ _; first | (apply GJ.and; exact rfl; intro hg) | (apply GJ.or; exact rfl; intro hg)))
    refine OpOk.notI rfl ?_
    generalize ixor (-1) s = x at hn ⊢
    repeat (first
      | (show _ ∧ _; exact ⟨rfl, rfl, rfl⟩)
      | refine wkT ?_
      | (show OpOk _ _ _ _ _ _ _; first | refine opB (fun b => ?_) | refine opA (fun a' c' hc1 hc2 => ?_))
      | (show GJ _ _ _ _ _ _ _; first | (apply GJ.and; exact rfl; intro hg) | (apply GJ.or; exact rfl; intro hg)))
    refine OpOk.andI rfl rfl ?_
    generalize iand w1 x = y at hn ⊢
    repeat (first
      | (show _ ∧ _; exact ⟨rfl, rfl, rfl⟩)
      | refine wkT ?_
      | (show OpOk _ _ _ _ _ _ _; first | refine opB (fun b => ?_) | refine opA (fun a' c' hc1 hc2 => ?_))
      | (show GJ _ _ _ _ _ _ _; first | (apply GJ.and; exact rfl; intro hg) | (apply GJ.or; exact rfl; intro hg)))
    try rw [← hn]
    repeat (first
      | (show _ ∧ _; exact ⟨rfl, rfl, rfl⟩)
      | refine wkT ?_
      | (show OpOk _ _ _ _ _ _ _; first | refine opB (fun b => ?_) | refine opA (fun a' c' hc1 hc2 => ?_))
      | (show GJ _ _ _ _ _ _ _; first | (apply GJ.and; exact rfl; intro hg) | (apply GJ.or; exact rfl; intro hg)))
    try rw [← hn]
    try rw [← hw]
    subst hn2
    subst hw2
    subst hb2
    refine Wk.id ⟨i + 1, ⟨rfl, ?_⟩, ?_, Sub.auto, Sup.auto⟩
    all_goals try dsimp only
    · omega
    · omega
  · obtain rfl : i = 28 := by omega
    have h1 := sg_one 28 (Nat.le_refl _)
    rw [sg_n] at h1 ⊢
    generalize wF 28 = w at h1 ⊢
    generalize bF 28 = bb at h1 ⊢
    repeat (first
      | (show _ ∧ _; exact ⟨rfl, rfl, rfl⟩)
      | refine wkT ?_
      | (show OpOk _ _ _ _ _ _ _; first | refine opB (fun b => ?_) | refine opA (fun a' c' hc1 hc2 => ?_))
      | (show GJ _ _ _ _ _ _ _; first | (apply GJ.and; exact rfl; intro hg) | (apply GJ.or; exact rfl; intro hg)))
    have hu0 : sg[Int.toNat 0]! = 46 := by rw [← hsg]; rfl
    have hs46 : spI 46 = 0 := by decide
    have hx46 : (46 : UInt8).toNat = 46 := rfl
    refine LoopOk.at (ι := Unit) Keep.auto (fun _u => [(12, .int .i64 0)]) (fun _u => .sl (some ⟨b, 0, none⟩) 14 14 9 1 (List.replicate 14 (str [])) :: own) (fun _u => True) (fun _u => 0) () ?_ Sub.auto Sup.auto ?_
    · trivial
    rintro _u -
    dsimp only [List.cons_append, List.nil_append]
    repeat (first
      | (show _ ∧ _; exact ⟨rfl, rfl, rfl⟩)
      | refine wkT ?_
      | refine Bs.all ?_
      | (show RetOk _ _ _ _ _ _; refine RetOk.of (T := T) (RL.row rfl rfl LdN.hasBlk (by rfl) (RL.tmp rfl (RL.tmp rfl RL.nil))) ?_)
      | (show QOk _ _ _ _ _ _ _; refine QOk.build rfl rfl Nf.auto ?_)
      | (show OpOk _ _ _ _ _ _ _; first | refine opB (fun b => ?_) | refine opA (fun a' c' hc1 hc2 => ?_))
      | (show GJ _ _ _ _ _ _ _; first | refine GJ.t (by decide) ?_ | refine GJ.f (by decide) ?_ | refine GJ.ft (by decide) ?_ | refine GJ.ff (by decide) ?_)
      | (show Br _ _ _; first | refine Br.t (by decide) ?_ | refine Br.f (by decide) ?_)
      | (show GJ _ _ _ _ _ _ _; first | (apply GJ.and; exact rfl; intro hg) | (apply GJ.or; exact rfl; intro hg)))
    try rw [hu0]
    repeat (first
      | (show _ ∧ _; exact ⟨rfl, rfl, rfl⟩)
      | refine wkT ?_
      | refine Bs.all ?_
      | (show RetOk _ _ _ _ _ _; refine RetOk.of (T := T) (RL.row rfl rfl LdN.hasBlk (by rfl) (RL.tmp rfl (RL.tmp rfl RL.nil))) ?_)
      | (show QOk _ _ _ _ _ _ _; refine QOk.build rfl rfl Nf.auto ?_)
      | (show OpOk _ _ _ _ _ _ _; first | refine opB (fun b => ?_) | refine opA (fun a' c' hc1 hc2 => ?_))
      | (show GJ _ _ _ _ _ _ _; first | refine GJ.t (by decide) ?_ | refine GJ.f (by decide) ?_ | refine GJ.ft (by decide) ?_ | refine GJ.ff (by decide) ?_)
      | (show Br _ _ _; first | refine Br.t (by decide) ?_ | refine Br.f (by decide) ?_)
      | (show GJ _ _ _ _ _ _ _; first | (apply GJ.and; exact rfl; intro hg) | (apply GJ.or; exact rfl; intro hg)))
    refine OpOk.load rfl rfl (hS.ld (i := 46) (by omega) (by omega)) ?_
    rw [hs46]
    repeat (first
      | (show _ ∧ _; exact ⟨rfl, rfl, rfl⟩)
      | refine wkT ?_
      | refine Bs.all ?_
      | (show RetOk _ _ _ _ _ _; refine RetOk.of (T := T) (RL.row rfl rfl LdN.hasBlk (by rfl) (RL.tmp rfl (RL.tmp rfl RL.nil))) ?_)
      | (show QOk _ _ _ _ _ _ _; refine QOk.build rfl rfl Nf.auto ?_)
      | (show OpOk _ _ _ _ _ _ _; first | refine opB (fun b => ?_) | refine opA (fun a' c' hc1 hc2 => ?_))
      | (show GJ _ _ _ _ _ _ _; first | refine GJ.t (by decide) ?_ | refine GJ.f (by decide) ?_ | refine GJ.ft (by decide) ?_ | refine GJ.ff (by decide) ?_)
      | (show Br _ _ _; first | refine Br.t (by decide) ?_ | refine Br.f (by decide) ?_)
      | (show GJ _ _ _ _ _ _ _; first | (apply GJ.and; exact rfl; intro hg) | (apply GJ.or; exact rfl; intro hg)))
    refine LoopOk.at (ι := Nat) Keep.auto (fun i => [(12, .int .i64 (i : Int)), (10, .int .i64 ((naF i : Nat) : Int)), (11, .int .i64 ((fsF i : Nat) : Int))]) (fun i => .sl (some ⟨b, 0, none⟩) 14 14 9 1 ((tbF i).map str) :: own) (fun i => i ≤ 28) (fun i => 28 - i) 0 ?_ Sub.auto Sup.auto ?_
    · exact Nat.zero_le _
    rintro i i1
    dsimp only [List.cons_append, List.nil_append] at i1 ⊢
    have h2 := sg_two i i1
    by_cases hb : i < 28
    · have hu := hget i hb
      have h3 := sg_next i
      have h4 := sg_end.2.2.2
      have hna : naF (i + 1) = if spU (sgU i) = 0 then naF i else naF i + 1 := rfl
      have hfs : fsF (i + 1) = if spU (sgU i) = 0 then fsF i else i + 1 := rfl
      have htb : tbF (i + 1) = if spU (sgU i) = 0 then tbF i else (tbF i).set (naF i) ((sg.drop (fsF i)).take (i - fsF i)) := by rw [← hsg]; rfl
      have hsp : spU (sgU i) = spI (sgU i).toNat := rfl
      have hs1 := (sg_one (i + 1) hb).2.2.1
      have hw : wF (i + 1) = spU (sgU i) := rfl
      rw [hw] at hs1
      have hi27 : spU (sgU i) ≠ 0 → i < 27 := fun hne => by
        rcases Nat.lt_or_ge i 27 with h | h
        · exact h
        · obtain rfl : i = 27 := by omega
          exact absurd h4 hne
      clear hw h4
      generalize hn1 : naF i = na at hna htb h2 ⊢
      generalize hf1 : fsF i = fs at hfs htb h2 ⊢
      generalize ht1 : tbF i = tb at htb h2 ⊢
      generalize hui : sgU i = u at hu h3 hna hfs htb hsp hs1 hi27
      generalize hsu : spU u = s at h3 hna hfs htb hsp hs1 hi27
      have hun := u.toNat_lt
      have hu2 : sg[(i : Int).toNat]! = u := by
        rw [Int.toNat_natCast, List.getElem!_eq_getElem?_getD, hu]; rfl
      repeat (first
        | (show _ ∧ _; exact ⟨rfl, rfl, rfl⟩)
        | refine wkT ?_
        | refine Bs.all ?_
        | (show RetOk _ _ _ _ _ _; refine RetOk.of (T := T) (RL.row rfl rfl LdN.hasBlk (by rfl) (RL.tmp rfl (RL.tmp rfl RL.nil))) ?_)
        | (show QOk _ _ _ _ _ _ _; refine QOk.build rfl rfl Nf.auto ?_)
        | (show OpOk _ _ _ _ _ _ _; first | refine opB (fun b => ?_) | refine opA (fun a' c' hc1 hc2 => ?_))
        | (show GJ _ _ _ _ _ _ _; first | refine GJ.t (by decide) ?_ | refine GJ.f (by decide) ?_ | refine GJ.ft (by decide) ?_ | refine GJ.ff (by decide) ?_)
        | (show Br _ _ _; first | refine Br.t (by decide) ?_ | refine Br.f (by decide) ?_)
        | (show GJ _ _ _ _ _ _ _; first | (apply GJ.and; exact rfl; intro hg) | (apply GJ.or; exact rfl; intro hg)))
      try rw [hu2]
      repeat (first
        | (show _ ∧ _; exact ⟨rfl, rfl, rfl⟩)
        | refine wkT ?_
        | refine Bs.all ?_
        | (show RetOk _ _ _ _ _ _; refine RetOk.of (T := T) (RL.row rfl rfl LdN.hasBlk (by rfl) (RL.tmp rfl (RL.tmp rfl RL.nil))) ?_)
        | (show QOk _ _ _ _ _ _ _; refine QOk.build rfl rfl Nf.auto ?_)
        | (show OpOk _ _ _ _ _ _ _; first | refine opB (fun b => ?_) | refine opA (fun a' c' hc1 hc2 => ?_))
        | (show GJ _ _ _ _ _ _ _; first | refine GJ.t (by decide) ?_ | refine GJ.f (by decide) ?_ | refine GJ.ft (by decide) ?_ | refine GJ.ff (by decide) ?_)
        | (show Br _ _ _; first | refine Br.t (by decide) ?_ | refine Br.f (by decide) ?_)
        | (show GJ _ _ _ _ _ _ _; first | (apply GJ.and; exact rfl; intro hg) | (apply GJ.or; exact rfl; intro hg)))
      refine OpOk.load rfl rfl (hS.ld (i := u.toNat) (by omega) (by omega)) ?_
      rw [← hsp]
      by_cases hs0 : s = 0
      · rw [if_pos hs0] at hna hfs htb
        repeat (first
          | (show _ ∧ _; exact ⟨rfl, rfl, rfl⟩)
          | refine wkT ?_
          | refine Bs.all ?_
          | (show RetOk _ _ _ _ _ _; refine RetOk.of (T := T) (RL.row rfl rfl LdN.hasBlk (by rfl) (RL.tmp rfl (RL.tmp rfl RL.nil))) ?_)
          | (show QOk _ _ _ _ _ _ _; refine QOk.build rfl rfl Nf.auto ?_)
          | (show OpOk _ _ _ _ _ _ _; first | refine opB (fun b => ?_) | refine opA (fun a' c' hc1 hc2 => ?_))
          | (show GJ _ _ _ _ _ _ _; first | refine GJ.t (by decide) ?_ | refine GJ.f (by decide) ?_ | refine GJ.ft (by decide) ?_ | refine GJ.ff (by decide) ?_)
          | (show Br _ _ _; first | refine Br.t (by decide) ?_ | refine Br.f (by decide) ?_)
          | (show GJ _ _ _ _ _ _ _; first | (apply GJ.and; exact rfl; intro hg) | (apply GJ.or; exact rfl; intro hg)))
        rw [← htb]
        refine Wk.id ⟨i + 1, ⟨rfl, ?_⟩, ?_, Sub.auto, Sup.auto⟩
        all_goals try dsimp only
        · omega
        · omega
      · rw [if_neg hs0] at hna hfs htb
        have hi := hi27 hs0
        have h5 := h3 hi hs0
        have hu3 := hget (i + 1) (by omega)
        have hsp3 : spU (sgU (i + 1)) = spI (sgU (i + 1)).toNat := rfl
        generalize sgU (i + 1) = u3 at h5 hu3 hsp3
        have hun3 := u3.toNat_lt
        have hu4 : sg[((i : Int) + 1).toNat]! = u3 := by
          rw [show ((i : Int) + 1).toNat = i + 1 by omega, List.getElem!_eq_getElem?_getD, hu3]; rfl
        have hml : (List.map str tb).length = 14 := by rw [List.length_map]; exact h2.2.2
        have hset : (List.map str tb).set na (str (List.take ((i : Int).toNat - (fs : Int).toNat) (List.drop (fs : Int).toNat sg))) = List.map str (tbF (i + 1)) := by
          rw [htb, List.map_set]; rfl
        repeat (first
          | (show _ ∧ _; exact ⟨rfl, rfl, rfl⟩)
          | refine wkT ?_
          | refine Bs.all ?_
          | (show RetOk _ _ _ _ _ _; refine RetOk.of (T := T) (RL.row rfl rfl LdN.hasBlk (by rfl) (RL.tmp rfl (RL.tmp rfl RL.nil))) ?_)
          | (show QOk _ _ _ _ _ _ _; refine QOk.build rfl rfl Nf.auto ?_)
          | (show OpOk _ _ _ _ _ _ _; first | refine opB (fun b => ?_) | refine opA (fun a' c' hc1 hc2 => ?_))
          | (show GJ _ _ _ _ _ _ _; first | refine GJ.t (by decide) ?_ | refine GJ.f (by decide) ?_ | refine GJ.ft (by decide) ?_ | refine GJ.ff (by decide) ?_)
          | (show Br _ _ _; first | refine Br.t (by decide) ?_ | refine Br.f (by decide) ?_)
          | (show GJ _ _ _ _ _ _ _; first | (apply GJ.and; exact rfl; intro hg) | (apply GJ.or; exact rfl; intro hg)))
        refine OpOk.storeSl (k := na) rfl rfl rfl rfl (by omega) ?_
        rw [hset]
        repeat (first
          | (show _ ∧ _; exact ⟨rfl, rfl, rfl⟩)
          | refine wkT ?_
          | refine Bs.all ?_
          | (show RetOk _ _ _ _ _ _; refine RetOk.of (T := T) (RL.row rfl rfl LdN.hasBlk (by rfl) (RL.tmp rfl (RL.tmp rfl RL.nil))) ?_)
          | (show QOk _ _ _ _ _ _ _; refine QOk.build rfl rfl Nf.auto ?_)
          | (show OpOk _ _ _ _ _ _ _; first | refine opB (fun b => ?_) | refine opA (fun a' c' hc1 hc2 => ?_))
          | (show GJ _ _ _ _ _ _ _; first | refine GJ.t (by decide) ?_ | refine GJ.f (by decide) ?_ | refine GJ.ft (by decide) ?_ | refine GJ.ff (by decide) ?_)
          | (show Br _ _ _; first | refine Br.t (by decide) ?_ | refine Br.f (by decide) ?_)
          | (show GJ _ _ _ _ _ _ _; first | (apply GJ.and; exact rfl; intro hg) | (apply GJ.or; exact rfl; intro hg)))
        refine LoopOk.at (ι := Unit) Keep.auto (fun _u => [(12, .int .i64 ((i : Int) + 1))]) (fun _u => .sl (some ⟨b, 0, none⟩) 14 14 9 1 (List.map str (tbF (i + 1))) :: own) (fun _u => True) (fun _u => 0) () ?_ Sub.auto Sup.auto ?_
        · trivial
        rintro _u -
        dsimp only [List.cons_append, List.nil_append]
        repeat (first
          | (show _ ∧ _; exact ⟨rfl, rfl, rfl⟩)
          | refine wkT ?_
          | refine Bs.all ?_
          | (show RetOk _ _ _ _ _ _; refine RetOk.of (T := T) (RL.row rfl rfl LdN.hasBlk (by rfl) (RL.tmp rfl (RL.tmp rfl RL.nil))) ?_)
          | (show QOk _ _ _ _ _ _ _; refine QOk.build rfl rfl Nf.auto ?_)
          | (show OpOk _ _ _ _ _ _ _; first | refine opB (fun b => ?_) | refine opA (fun a' c' hc1 hc2 => ?_))
          | (show GJ _ _ _ _ _ _ _; first | refine GJ.t (by decide) ?_ | refine GJ.f (by decide) ?_ | refine GJ.ft (by decide) ?_ | refine GJ.ff (by decide) ?_)
          | (show Br _ _ _; first | refine Br.t (by decide) ?_ | refine Br.f (by decide) ?_)
          | (show GJ _ _ _ _ _ _ _; first | (apply GJ.and; exact rfl; intro hg) | (apply GJ.or; exact rfl; intro hg)))
        try rw [hu4]
        repeat (first
          | (show _ ∧ _; exact ⟨rfl, rfl, rfl⟩)
          | refine wkT ?_
          | refine Bs.all ?_
          | (show RetOk _ _ _ _ _ _; refine RetOk.of (T := T) (RL.row rfl rfl LdN.hasBlk (by rfl) (RL.tmp rfl (RL.tmp rfl RL.nil))) ?_)
          | (show QOk _ _ _ _ _ _ _; refine QOk.build rfl rfl Nf.auto ?_)
          | (show OpOk _ _ _ _ _ _ _; first | refine opB (fun b => ?_) | refine opA (fun a' c' hc1 hc2 => ?_))
          | (show GJ _ _ _ _ _ _ _; first | refine GJ.t (by decide) ?_ | refine GJ.f (by decide) ?_ | refine GJ.ft (by decide) ?_ | refine GJ.ff (by decide) ?_)
          | (show Br _ _ _; first | refine Br.t (by decide) ?_ | refine Br.f (by decide) ?_)
          | (show GJ _ _ _ _ _ _ _; first | (apply GJ.and; exact rfl; intro hg) | (apply GJ.or; exact rfl; intro hg)))
        refine OpOk.load rfl rfl (hS.ld (i := u3.toNat) (by omega) (by omega)) ?_
        rw [← hsp3, h5]
        repeat (first
          | (show _ ∧ _; exact ⟨rfl, rfl, rfl⟩)
          | refine wkT ?_
          | refine Bs.all ?_
          | (show RetOk _ _ _ _ _ _; refine RetOk.of (T := T) (RL.row rfl rfl LdN.hasBlk (by rfl) (RL.tmp rfl (RL.tmp rfl RL.nil))) ?_)
          | (show QOk _ _ _ _ _ _ _; refine QOk.build rfl rfl Nf.auto ?_)
          | (show OpOk _ _ _ _ _ _ _; first | refine opB (fun b => ?_) | refine opA (fun a' c' hc1 hc2 => ?_))
          | (show GJ _ _ _ _ _ _ _; first | refine GJ.t (by decide) ?_ | refine GJ.f (by decide) ?_ | refine GJ.ft (by decide) ?_ | refine GJ.ff (by decide) ?_)
          | (show Br _ _ _; first | refine Br.t (by decide) ?_ | refine Br.f (by decide) ?_)
          | (show GJ _ _ _ _ _ _ _; first | (apply GJ.and; exact rfl; intro hg) | (apply GJ.or; exact rfl; intro hg)))
        refine Wk.id ⟨i + 1, ⟨rfl, ?_⟩, ?_, Sub.auto, Sup.auto⟩
        all_goals try dsimp only
        · omega
        · omega
    · obtain rfl : i = 28 := by omega
      obtain ⟨e1, e2, e3, _⟩ := sg_end
      rw [hsg] at e3
      rw [e1, e2]
      generalize tbF 28 = tb at e3 h2 ⊢
      have hml : (List.map str tb).length = 14 := by rw [List.length_map]; exact h2.2.2
      have hset : (List.map str tb).set 13 (str (List.drop ((27 : Nat) : Int).toNat sg)) = List.map str signsL := by
        rw [← e3, List.map_set]; rfl
      repeat (first
        | (show _ ∧ _; exact ⟨rfl, rfl, rfl⟩)
        | refine wkT ?_
        | refine Bs.all ?_
        | (show RetOk _ _ _ _ _ _; refine RetOk.of (T := T) (RL.row rfl rfl LdN.hasBlk (by rfl) (RL.tmp rfl (RL.tmp rfl RL.nil))) ?_)
        | (show QOk _ _ _ _ _ _ _; refine QOk.build rfl rfl Nf.auto ?_)
        | (show OpOk _ _ _ _ _ _ _; first | refine opB (fun b => ?_) | refine opA (fun a' c' hc1 hc2 => ?_))
        | (show GJ _ _ _ _ _ _ _; first | refine GJ.t (by decide) ?_ | refine GJ.f (by decide) ?_ | refine GJ.ft (by decide) ?_ | refine GJ.ff (by decide) ?_)
        | (show Br _ _ _; first | refine Br.t (by decide) ?_ | refine Br.f (by decide) ?_)
        | (show GJ _ _ _ _ _ _ _; first | (apply GJ.and; exact rfl; intro hg) | (apply GJ.or; exact rfl; intro hg)))
      refine SeqOk.pass ?_
      repeat (first
        | (show _ ∧ _; exact ⟨rfl, rfl, rfl⟩)
        | refine wkT ?_
        | refine Bs.all ?_
        | (show RetOk _ _ _ _ _ _; refine RetOk.of (T := T) (RL.row rfl rfl LdN.hasBlk (by rfl) (RL.tmp rfl (RL.tmp rfl RL.nil))) ?_)
        | (show QOk _ _ _ _ _ _ _; refine QOk.build rfl rfl Nf.auto ?_)
        | (show OpOk _ _ _ _ _ _ _; first | refine opB (fun b => ?_) | refine opA (fun a' c' hc1 hc2 => ?_))
        | (show GJ _ _ _ _ _ _ _; first | refine GJ.t (by decide) ?_ | refine GJ.f (by decide) ?_ | refine GJ.ft (by decide) ?_ | refine GJ.ff (by decide) ?_)
        | (show Br _ _ _; first | refine Br.t (by decide) ?_ | refine Br.f (by decide) ?_)
        | (show GJ _ _ _ _ _ _ _; first | (apply GJ.and; exact rfl; intro hg) | (apply GJ.or; exact rfl; intro hg)))
      refine OpOk.storeSl (k := 13) rfl rfl rfl rfl (by omega) ?_
      rw [hset]
      repeat (first
        | (show _ ∧ _; exact ⟨rfl, rfl, rfl⟩)
        | refine wkT ?_
        | refine Bs.all ?_
        | (show RetOk _ _ _ _ _ _; refine RetOk.of (T := T) (RL.row rfl rfl LdN.hasBlk (by rfl) (RL.tmp rfl (RL.tmp rfl RL.nil))) ?_)
        | (show QOk _ _ _ _ _ _ _; refine QOk.build rfl rfl Nf.auto ?_)
        | (show OpOk _ _ _ _ _ _ _; first | refine opB (fun b => ?_) | refine opA (fun a' c' hc1 hc2 => ?_))
        | (show GJ _ _ _ _ _ _ _; first | refine GJ.t (by decide) ?_ | refine GJ.f (by decide) ?_ | refine GJ.ft (by decide) ?_ | refine GJ.ff (by decide) ?_)
        | (show Br _ _ _; first | refine Br.t (by decide) ?_ | refine Br.f (by decide) ?_)
        | (show GJ _ _ _ _ _ _ _; first | (apply GJ.and; exact rfl; intro hg) | (apply GJ.or; exact rfl; intro hg)))
      exact Wk.outS Sup.auto (.refl _) (hk b)
end
end Go.Proofs.YtniofdklhlbphaaDoor
