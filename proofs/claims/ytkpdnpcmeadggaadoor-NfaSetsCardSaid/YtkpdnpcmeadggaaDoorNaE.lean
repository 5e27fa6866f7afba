/- The law NfaSets. -/
import Derived.Test.YtkpdnpcmeadggaaDoorNaQ
import Derived.Test.YtkpdnpcmeadggaaDoorCC
import Derived.Test.YtkpdnpcmeadggaaDoorCI
import Derived.Test.YtkpdnpcmeadggaaDoorCM
namespace Go.Proofs.YtkpdnpcmeadggaaDoor
open Go Go.E
set_option linter.unusedVariables false
set_option linter.unusedSimpArgs false
set_option maxRecDepth 10000
section
variable {ro : Ro} {own r : Chs} {K : Value → Ro → Chs → Prop} {g : Chunk → Chs}
set_option maxHeartbeats 8000000 in
theorem nnsets_law {n : RgD} {v : List Value} {tx : List UInt8} {ab : Option Addr} {nb cb c : Nat} (ht : TabOk ro) (hv : RgOk ro n v) (hb : Bys ro ab nb cb tx) (hc : c < 256) (hk : K (.bool true) ro own) : CallOk Tryd.prog 3 #[.agg v.toArray, .slice ab nb cb, .int .u8 (c : Int)] ro own K := by
  refine CallOk.back ?_
  have hin := rg_ins hv
  obtain ⟨a1, c1, hvc⟩ := hv.cells
  have hv0 := hv
  subst hvc
  have hmx := hb.max
  have hncl := hb.le
  unfold maxLen at hmx
  have hnb := hb.n1
  obtain rfl : tx.length = nb := by simpa using hnb
  have hsz := fewX_size (mn := 6) (mx := 8) n 30
  refine CallOk.intro (args := [_, _, _]) (rs := [_]) T_ok Tryd.func3 Tryd.call3 rfl rfl (by kernel_rfl) rfl rfl ?_
  repeat (first
    | (show _ ∧ _; exact ⟨rfl, rfl, rfl⟩)
    | refine wkP ?_
    | (show OpOk _ _ _ _ _ _ _; first | refine opB (fun b => ?_) | refine opA (fun a' c' hc1 hc2 => ?_))
    | (show GJ _ _ _ _ _ _ _; first | (apply GJ.and; exact rfl; intro hg) | (apply GJ.or; exact rfl; intro hg)))
  refine nruns_ok (fun ro1 hl1 => ?_)
  repeat (first
    | (show _ ∧ _; exact ⟨rfl, rfl, rfl⟩)
    | refine wkP ?_
    | (show OpOk _ _ _ _ _ _ _; first | refine opB (fun b => ?_) | refine opA (fun a' c' hc1 hc2 => ?_))
    | (show GJ _ _ _ _ _ _ _; first | (apply GJ.and; exact rfl; intro hg) | (apply GJ.or; exact rfl; intro hg)))
  refine (fwC n).run (hv0.le hl1) (by decide) (by decide) ?_
  generalize fewX 6 8 n 30 = F at *
  obtain ⟨f1, f2⟩ := F
  dsimp only at hsz ⊢
  cases f1 with
  | false =>
    repeat (first
      | (show _ ∧ _; exact ⟨rfl, rfl, rfl⟩)
      | refine wkP ?_
      | (show OpOk _ _ _ _ _ _ _; first | refine opB (fun b => ?_) | refine opA (fun a' c' hc1 hc2 => ?_))
      | (show GJ _ _ _ _ _ _ _; first | (apply GJ.and; exact rfl; intro hg) | (apply GJ.or; exact rfl; intro hg)))
    exact Wk.back1 Sup.auto (.refl _) hk
  | true =>
    have hsz := hsz rfl
    by_cases h30 : 30 < tx.length
    · repeat (first
        | (show _ ∧ _; exact ⟨rfl, rfl, rfl⟩)
        | refine wkP ?_
        | (show OpOk _ _ _ _ _ _ _; first | refine opB (fun b => ?_) | refine opA (fun a' c' hc1 hc2 => ?_))
        | (show GJ _ _ _ _ _ _ _; first | (apply GJ.and; exact rfl; intro hg) | (apply GJ.or; exact rfl; intro hg)))
      exact Wk.back1 Sup.auto (.refl _) hk
    repeat (first
      | (show _ ∧ _; exact ⟨rfl, rfl, rfl⟩)
      | refine wkP ?_
      | (show OpOk _ _ _ _ _ _ _; first | refine opB (fun b => ?_) | refine opA (fun a' c' hc1 hc2 => ?_))
      | (show GJ _ _ _ _ _ _ _; first | (apply GJ.and; exact rfl; intro hg) | (apply GJ.or; exact rfl; intro hg)))
    refine nmake_ok (hv0.le hl1) (fun ro2 v2 hl2 hA => ?_)
    have hA0 := hA
    have hK := make_k hin
    have hsl := sets_len n
    generalize (makeN n).2 = a at *
    obtain ⟨ad, cp, hs, rfl, hrs, hrw⟩ := hA
    by_cases h1 : ¬ (makeN n).1 = 0
    · repeat (first
        | (show _ ∧ _; exact ⟨rfl, rfl, rfl⟩)
        | refine wkP ?_
        | (show OpOk _ _ _ _ _ _ _; first | refine opB (fun b => ?_) | refine opA (fun a' c' hc1 hc2 => ?_))
        | (show GJ _ _ _ _ _ _ _; first | (apply GJ.and; exact rfl; intro hg) | (apply GJ.or; exact rfl; intro hg)))
      exact Wk.back1 Sup.auto (.refl _) hk
    have h1 := Decidable.of_not_not h1
    rw [h1]
    repeat (first
      | (show _ ∧ _; exact ⟨rfl, rfl, rfl⟩)
      | refine wkP ?_
      | (show OpOk _ _ _ _ _ _ _; first | refine opB (fun b => ?_) | refine opA (fun a' c' hc1 hc2 => ?_))
      | (show GJ _ _ _ _ _ _ _; first | (apply GJ.and; exact rfl; intro hg) | (apply GJ.or; exact rfl; intro hg)))
    obtain ⟨bA, hbA⟩ : ∃ z : Nat, z = b := ⟨_, rfl⟩
    subst hbA
    refine nstart_ok hA0 hK.ok (fun a0 c0 g1 g2 => ?_)
    have hb1 : Bys ro1 ab tx.length cb tx := Rs.up hb
    have hb2 : Bys ro2 ab tx.length cb tx := Rs.up hb1
    repeat (first
      | (show _ ∧ _; exact ⟨rfl, rfl, rfl⟩)
      | refine wkP ?_
      | (show OpOk _ _ _ _ _ _ _; first | refine opB (fun b => ?_) | refine opA (fun a' c' hc1 hc2 => ?_))
      | (show GJ _ _ _ _ _ _ _; first | (apply GJ.and; exact rfl; intro hg) | (apply GJ.or; exact rfl; intro hg)))
    refine LoopOk.at (ι := Nat × Option Addr × Nat) Keep.auto (fun (i, al, cl) => [(39, .int .i64 (i : Int)), (10, .slice al (runN a (tx.take i)).length cl)]) (fun (i, al, cl) => .sl al (runN a (tx.take i)).length cl 3 1 (natsV (runN a (tx.take i))) :: .blk bA 33 [.slice ad a.rows.length cp, .int .i64 a.last] :: own) (fun (i, al, cl) => i ≤ tx.length ∧ (runN a (tx.take i)).length ≤ cl ∧ cl ≤ maxLen) (fun (i, al, cl) => tx.length - i) (0, a0, c0) ?_ Sub.auto Sup.auto ?_
    · exact ⟨Nat.zero_le _, g1, g2⟩
    rintro ⟨i, al, cl⟩ ⟨i1, i2, i3⟩
    dsimp only [List.cons_append, List.nil_append] at i1 i2 i3 ⊢
    by_cases hi : i < tx.length
    · obtain ⟨z, hz⟩ : ∃ z, tx[i]? = some z := ⟨_, List.getElem?_eq_getElem hi⟩
      have htk : tx.take (i + 1) = tx.take i ++ [z] := by rw [List.take_add_one, hz]; rfl
      have hrn := runN_snoc a (tx.take i) z
      rw [← htk] at hrn
      have hso := run_sorted a (tx.take i)
      have hln := run_len a (tx.take i)
      have hstl := step_len (rows := a.rows) (c := z.toNat) hso
      have hed := hK.edges
      have hle := hK.ok.le
      have hzb : tx[((i : Nat) : Int).toNat]! = z := by rw [Int.toNat_natCast, List.getElem!_eq_getElem?_getD, hz]; rfl
      generalize runN a (tx.take i) = R at *
      generalize hR2 : runN a (tx.take (i + 1)) = R2 at *
      repeat (first
        | (show _ ∧ _; exact ⟨rfl, rfl, rfl⟩)
        | refine wkP ?_
        | (show OpOk _ _ _ _ _ _ _; first | refine opB (fun b => ?_) | refine opA (fun a' c' hc1 hc2 => ?_))
        | (show GJ _ _ _ _ _ _ _; first | (apply GJ.and; exact rfl; intro hg) | (apply GJ.or; exact rfl; intro hg)))
      rw [hzb]
      refine nstep_ok (list := intsN R) (c := z.toNat) hA0 hK (by rw [ints_nats]; exact Rds.hasSl i2 i3 (by simp [natsV])) (ints_len R) (UInt8.toNat_lt z) (by omega) (fun a2 c2 g1 g2 => ?_)
      rw [← hrn] at *
      repeat (first
        | (show _ ∧ _; exact ⟨rfl, rfl, rfl⟩)
        | refine wkP ?_
        | (show OpOk _ _ _ _ _ _ _; first | refine opB (fun b => ?_) | refine opA (fun a' c' hc1 hc2 => ?_))
        | (show GJ _ _ _ _ _ _ _; first | (apply GJ.and; exact rfl; intro hg) | (apply GJ.or; exact rfl; intro hg)))
      subst hR2
      refine Wk.id ⟨(i + 1, a2, c2), ⟨rfl, ?_⟩, ?_, Sub.auto, Sup.auto⟩
      all_goals try dsimp only
      · exact ⟨by omega, g1, g2⟩
      · omega
    · obtain rfl : i = tx.length := by omega
      rw [List.take_length] at *
      have hso := run_sorted a tx
      have hln := run_len a tx
      have hstl := step_len (rows := a.rows) (c := c) hso
      have hed := hK.edges
      have hle := hK.ok.le
      generalize runN a tx = R at *
      repeat (first
        | (show _ ∧ _; exact ⟨rfl, rfl, rfl⟩)
        | refine wkP ?_
        | (show OpOk _ _ _ _ _ _ _; first | refine opB (fun b => ?_) | refine opA (fun a' c' hc1 hc2 => ?_))
        | (show GJ _ _ _ _ _ _ _; first | (apply GJ.and; exact rfl; intro hg) | (apply GJ.or; exact rfl; intro hg)))
      refine nstep_ok (list := intsN R) (c := c) hA0 hK (by rw [ints_nats]; exact Rds.hasSl i2 i3 (by simp [natsV])) (ints_len R) hc (by omega) (fun aw cw w1 w2 => ?_)
      repeat (first
        | (show _ ∧ _; exact ⟨rfl, rfl, rfl⟩)
        | refine wkP ?_
        | (show OpOk _ _ _ _ _ _ _; first | refine opB (fun b => ?_) | refine opA (fun a' c' hc1 hc2 => ?_))
        | (show GJ _ _ _ _ _ _ _; first | (apply GJ.and; exact rfl; intro hg) | (apply GJ.or; exact rfl; intro hg)))
      refine nsets_ok hA0 hK (fun ag cg s1 s2 => ?_)
      repeat (first
        | (show _ ∧ _; exact ⟨rfl, rfl, rfl⟩)
        | refine wkP ?_
        | (show OpOk _ _ _ _ _ _ _; first | refine opB (fun b => ?_) | refine opA (fun a' c' hc1 hc2 => ?_))
        | (show GJ _ _ _ _ _ _ _; first | (apply GJ.and; exact rfl; intro hg) | (apply GJ.or; exact rfl; intro hg)))
      refine split_ok ((ht.le hl1).le hl2) hK.sets (by omega) (Rds.hasSl s1 s2 (setsV_len _)) (fun ap cpp p1 p2 => ?_)
      have hcut := splitD_cuts hK.sets
      have hpl : (splitD (setsN a.rows)).length = (splitD (setsN a.rows)).length := rfl
      have p3 := p2
      unfold maxLen at p3
      have hpv := setsV_len (splitD (setsN a.rows))
      have hlike : ∀ p ∈ splitD (setsN a.rows), p.has c = true → ∀ d, d < 256 → p.has d = true → stepN a.rows (intsN R) d = stepN a.rows (intsN R) c := fun p hp h1 d hd h2 => by
        have hsg := (hcut.like p hp c d hc hd h1).1 h2
        refine (step_like (fun s hs => ?_) _).symm
        unfold sig at hsg
        exact List.map_inj_left.1 hsg s hs
      generalize splitD (setsN a.rows) = P at *
      generalize hW : stepN a.rows (intsN R) c = W at *
      repeat (first
        | (show _ ∧ _; exact ⟨rfl, rfl, rfl⟩)
        | refine wkP ?_
        | (show OpOk _ _ _ _ _ _ _; first | refine opB (fun b => ?_) | refine opA (fun a' c' hc1 hc2 => ?_))
        | (show GJ _ _ _ _ _ _ _; first | (apply GJ.and; exact rfl; intro hg) | (apply GJ.or; exact rfl; intro hg)))
      refine LoopOk.at (ι := Nat) Keep.auto (fun i => [(56, .int .i64 (i : Int))]) (fun i => .sl ap P.length cpp 43 4 (setsV P) :: .sl aw W.length cw 3 1 (natsV W) :: .sl al R.length cl 3 1 (natsV R) :: .blk bA 33 [.slice ad a.rows.length cp, .int .i64 a.last] :: own) (fun i => i ≤ P.length) (fun i => P.length - i) 0 ?_ Sub.auto Sup.auto ?_
      · exact Nat.zero_le _
      rintro i j1
      dsimp only [List.cons_append, List.nil_append] at j1 ⊢
      by_cases hi : i < P.length
      · obtain ⟨p, hp⟩ : ∃ p, P[i]? = some p := ⟨_, List.getElem?_eq_getElem hi⟩
        have hpm := List.mem_of_getElem? hp
        have hps := (hcut.each p hpm).1
        have hdr := setsV_drop P i p hp
        have hlk := hlike p hpm
        obtain ⟨q1, q2, q3, q4⟩ := p
        dsimp only [setV] at hdr
        repeat (first
          | (show _ ∧ _; exact ⟨rfl, rfl, rfl⟩)
          | refine wkP ?_
          | (show OpOk _ _ _ _ _ _ _; first | refine opB (fun b => ?_) | refine opA (fun a' c' hc1 hc2 => ?_))
          | (show GJ _ _ _ _ _ _ _; first | (apply GJ.and; exact rfl; intro hg) | (apply GJ.or; exact rfl; intro hg)))
        rw [Int.toNat_natCast]
        refine OpOk.loadRow rfl rfl (LdN.slRow hdr) rfl ?_
        repeat (first
          | (show _ ∧ _; exact ⟨rfl, rfl, rfl⟩)
          | refine wkP ?_
          | (show OpOk _ _ _ _ _ _ _; first | refine opB (fun b => ?_) | refine opA (fun a' c' hc1 hc2 => ?_))
          | (show GJ _ _ _ _ _ _ _; first | (apply GJ.and; exact rfl; intro hg) | (apply GJ.or; exact rfl; intro hg)))
        refine has_ok (s := ⟨q1, q2, q3, q4⟩) hps hc ?_
        cases hqc : SetD.has ⟨q1, q2, q3, q4⟩ c with
        | false =>
          repeat (first
            | (show _ ∧ _; exact ⟨rfl, rfl, rfl⟩)
            | refine wkP ?_
            | (show OpOk _ _ _ _ _ _ _; first | refine opB (fun b => ?_) | refine opA (fun a' c' hc1 hc2 => ?_))
            | (show GJ _ _ _ _ _ _ _; first | (apply GJ.and; exact rfl; intro hg) | (apply GJ.or; exact rfl; intro hg)))
          repeat (first
            | (show _ ∧ _; exact ⟨rfl, rfl, rfl⟩)
            | refine wkP ?_
            | (show OpOk _ _ _ _ _ _ _; first | refine opB (fun b => ?_) | refine opA (fun a' c' hc1 hc2 => ?_))
            | (show GJ _ _ _ _ _ _ _; first | (apply GJ.and; exact rfl; intro hg) | (apply GJ.or; exact rfl; intro hg)))
          repeat (first
            | (show _ ∧ _; exact ⟨rfl, rfl, rfl⟩)
            | refine wkP ?_
            | (show OpOk _ _ _ _ _ _ _; first | refine opB (fun b => ?_) | refine opA (fun a' c' hc1 hc2 => ?_))
            | (show GJ _ _ _ _ _ _ _; first | (apply GJ.and; exact rfl; intro hg) | (apply GJ.or; exact rfl; intro hg)))
          refine Wk.id ⟨i + 1, ⟨rfl, ?_⟩, ?_, Sub.auto, Sup.auto⟩
          all_goals try dsimp only
          · omega
          · omega
        | true =>
          have hlk := hlk hqc
          have hBl := bytesD_len ⟨q1, q2, q3, q4⟩
          have hBm : ∀ x ∈ bytesD ⟨q1, q2, q3, q4⟩, x < 256 ∧ stepN a.rows (intsN R) x = W := fun x hx => ⟨bytesD_lt hx, hlk x (bytesD_lt hx) (List.mem_filter.1 hx).2⟩
          repeat (first
            | (show _ ∧ _; exact ⟨rfl, rfl, rfl⟩)
            | refine wkP ?_
            | (show OpOk _ _ _ _ _ _ _; first | refine opB (fun b => ?_) | refine opA (fun a' c' hc1 hc2 => ?_))
            | (show GJ _ _ _ _ _ _ _; first | (apply GJ.and; exact rfl; intro hg) | (apply GJ.or; exact rfl; intro hg)))
          refine bytes_ok (s := ⟨q1, q2, q3, q4⟩) hps (fun aB cB y1 y2 => ?_)
          generalize bytesD ⟨q1, q2, q3, q4⟩ = B at *
          have hBv : (nbV B).length = B.length := by simp [nbV]
          repeat (first
            | (show _ ∧ _; exact ⟨rfl, rfl, rfl⟩)
            | refine wkP ?_
            | (show OpOk _ _ _ _ _ _ _; first | refine opB (fun b => ?_) | refine opA (fun a' c' hc1 hc2 => ?_))
            | (show GJ _ _ _ _ _ _ _; first | (apply GJ.and; exact rfl; intro hg) | (apply GJ.or; exact rfl; intro hg)))
          refine LoopOk.at (ι := Nat) Keep.auto (fun j => [(67, .int .i64 (j : Int))]) (fun j => .sl aB B.length cB 5 1 (nbV B) :: .sl ap P.length cpp 43 4 (setsV P) :: .sl aw W.length cw 3 1 (natsV W) :: .sl al R.length cl 3 1 (natsV R) :: .blk bA 33 [.slice ad a.rows.length cp, .int .i64 a.last] :: own) (fun j => j ≤ B.length) (fun j => B.length - j) 0 ?_ Sub.auto Sup.auto ?_
          · exact Nat.zero_le _
          rintro j z1
          dsimp only [List.cons_append, List.nil_append] at z1 ⊢
          by_cases hj : j < B.length
          · obtain ⟨x, hx⟩ : ∃ x, B[j]? = some x := ⟨_, List.getElem?_eq_getElem hj⟩
            obtain ⟨hx1, hx2⟩ := hBm x (List.mem_of_getElem? hx)
            have hgx : (nbV B)[j]? = some (.int .u8 (x : Int)) := by simp [nbV, hx]
            have hstx := step_len (rows := a.rows) (c := x) hso
            by_cases hj40 : j < 40
            · repeat (first
                | (show _ ∧ _; exact ⟨rfl, rfl, rfl⟩)
                | refine wkP ?_
                | (show OpOk _ _ _ _ _ _ _; first | refine opB (fun b => ?_) | refine opA (fun a' c' hc1 hc2 => ?_))
                | (show GJ _ _ _ _ _ _ _; first | (apply GJ.and; exact rfl; intro hg) | (apply GJ.or; exact rfl; intro hg)))
              rw [show B[((j : Nat) : Int).toNat]! = x by rw [Int.toNat_natCast, List.getElem!_eq_getElem?_getD, hx]; rfl]
              refine nstep_ok (list := intsN R) (c := x) hA0 hK (by rw [ints_nats]; exact Rds.hasSl i2 i3 (by simp [natsV])) (ints_len R) hx1 (by omega) (fun a5 c5 u1 u2 => ?_)
              rw [hx2] at u1 ⊢
              repeat (first
                | (show _ ∧ _; exact ⟨rfl, rfl, rfl⟩)
                | refine wkP ?_
                | (show OpOk _ _ _ _ _ _ _; first | refine opB (fun b => ?_) | refine opA (fun a' c' hc1 hc2 => ?_))
                | (show GJ _ _ _ _ _ _ _; first | (apply GJ.and; exact rfl; intro hg) | (apply GJ.or; exact rfl; intro hg)))
              refine equalI_ok (l := intsN W) (m := intsN W) (by rw [ints_nats]; exact Rds.hasSl u1 u2 (by simp [natsV])) (by rw [ints_nats]; exact Rds.hasSl w1 w2 (by simp [natsV])) (ints_len W) (ints_len W) (fun q hq => ?_)
              obtain rfl : q = true := hq.2 rfl
              repeat (first
                | (show _ ∧ _; exact ⟨rfl, rfl, rfl⟩)
                | refine wkP ?_
                | (show OpOk _ _ _ _ _ _ _; first | refine opB (fun b => ?_) | refine opA (fun a' c' hc1 hc2 => ?_))
                | (show GJ _ _ _ _ _ _ _; first | (apply GJ.and; exact rfl; intro hg) | (apply GJ.or; exact rfl; intro hg)))
              repeat (first
                | (show _ ∧ _; exact ⟨rfl, rfl, rfl⟩)
                | refine wkP ?_
                | (show OpOk _ _ _ _ _ _ _; first | refine opB (fun b => ?_) | refine opA (fun a' c' hc1 hc2 => ?_))
                | (show GJ _ _ _ _ _ _ _; first | (apply GJ.and; exact rfl; intro hg) | (apply GJ.or; exact rfl; intro hg)))
              refine Wk.id ⟨j + 1, ⟨rfl, ?_⟩, ?_, Sub.auto, Sup.auto⟩
              all_goals try dsimp only
              · omega
              · omega
            · repeat (first
                | (show _ ∧ _; exact ⟨rfl, rfl, rfl⟩)
                | refine wkP ?_
                | (show OpOk _ _ _ _ _ _ _; first | refine opB (fun b => ?_) | refine opA (fun a' c' hc1 hc2 => ?_))
                | (show GJ _ _ _ _ _ _ _; first | (apply GJ.and; exact rfl; intro hg) | (apply GJ.or; exact rfl; intro hg)))
              repeat (first
                | (show _ ∧ _; exact ⟨rfl, rfl, rfl⟩)
                | refine wkP ?_
                | (show OpOk _ _ _ _ _ _ _; first | refine opB (fun b => ?_) | refine opA (fun a' c' hc1 hc2 => ?_))
                | (show GJ _ _ _ _ _ _ _; first | (apply GJ.and; exact rfl; intro hg) | (apply GJ.or; exact rfl; intro hg)))
              refine Wk.id ⟨j + 1, ⟨rfl, ?_⟩, ?_, Sub.auto, Sup.auto⟩
              all_goals try dsimp only
              · omega
              · omega
          · obtain rfl : j = B.length := by omega
            repeat (first
              | (show _ ∧ _; exact ⟨rfl, rfl, rfl⟩)
              | refine wkP ?_
              | (show OpOk _ _ _ _ _ _ _; first | refine opB (fun b => ?_) | refine opA (fun a' c' hc1 hc2 => ?_))
              | (show GJ _ _ _ _ _ _ _; first | (apply GJ.and; exact rfl; intro hg) | (apply GJ.or; exact rfl; intro hg)))
            repeat (first
              | (show _ ∧ _; exact ⟨rfl, rfl, rfl⟩)
              | refine wkP ?_
              | (show OpOk _ _ _ _ _ _ _; first | refine opB (fun b => ?_) | refine opA (fun a' c' hc1 hc2 => ?_))
              | (show GJ _ _ _ _ _ _ _; first | (apply GJ.and; exact rfl; intro hg) | (apply GJ.or; exact rfl; intro hg)))
            repeat (first
              | (show _ ∧ _; exact ⟨rfl, rfl, rfl⟩)
              | refine wkP ?_
              | (show OpOk _ _ _ _ _ _ _; first | refine opB (fun b => ?_) | refine opA (fun a' c' hc1 hc2 => ?_))
              | (show GJ _ _ _ _ _ _ _; first | (apply GJ.and; exact rfl; intro hg) | (apply GJ.or; exact rfl; intro hg)))
            refine Wk.id ⟨i + 1, ⟨rfl, ?_⟩, ?_, Sub.auto, Sup.auto⟩
            all_goals try dsimp only
            · omega
            · omega
      · obtain rfl : i = P.length := by omega
        repeat (first
          | (show _ ∧ _; exact ⟨rfl, rfl, rfl⟩)
          | refine wkP ?_
          | (show OpOk _ _ _ _ _ _ _; first | refine opB (fun b => ?_) | refine opA (fun a' c' hc1 hc2 => ?_))
          | (show GJ _ _ _ _ _ _ _; first | (apply GJ.and; exact rfl; intro hg) | (apply GJ.or; exact rfl; intro hg)))
        repeat (first
          | (show _ ∧ _; exact ⟨rfl, rfl, rfl⟩)
          | refine wkP ?_
          | (show OpOk _ _ _ _ _ _ _; first | refine opB (fun b => ?_) | refine opA (fun a' c' hc1 hc2 => ?_))
          | (show GJ _ _ _ _ _ _ _; first | (apply GJ.and; exact rfl; intro hg) | (apply GJ.or; exact rfl; intro hg)))
        exact Wk.back1 Sup.auto (.refl _) hk
theorem nsets_law {n : RgD} {v : List Value} {tx : List UInt8} {ab : Option Addr} {nb cb : Nat} {c : Int} (ht : TabOk ro) (hv : RgOk ro n v) (hb : Bys ro ab nb cb tx) (hc : 0 ≤ c ∧ c < 256) (hk : K (.bool true) ro own) : CallOk Tryd.prog 3 #[.agg v.toArray, .slice ab nb cb, .int .u8 c] ro own K := by
  obtain ⟨k, rfl⟩ : ∃ k : Nat, c = (k : Int) := ⟨c.toNat, by omega⟩
  exact nnsets_law ht hv hb (by omega) hk
end
end Go.Proofs.YtkpdnpcmeadggaaDoor
