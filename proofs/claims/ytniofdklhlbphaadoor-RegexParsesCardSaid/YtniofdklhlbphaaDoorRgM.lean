/- Contracts of the statements of regex: reads. -/
import Derived.Test.YtniofdklhlbphaaDoorRgH
import Derived.Test.YtniofdklhlbphaaDoorRgI
import Derived.Test.YtniofdklhlbphaaDoorRgJ
import Derived.Test.YtniofdklhlbphaaDoorRgK
import Derived.Test.YtniofdklhlbphaaDoorRgL
import Derived.Test.YtniofdklhlbphaaDoorEn3
namespace Go.Proofs.YtniofdklhlbphaaDoor
open Go Go.E
set_option linter.unusedVariables false
set_option linter.unusedSimpArgs false
set_option maxRecDepth 10000
theorem reads_parse : parseD readsT = (readsN, (0, 0)) := by kernel_rfl
theorem reads_parse2 : parseD [97, 41] = (noneD, (5, 1)) := by kernel_rfl
theorem reads_text : textR readsN = readsT := by kernel_rfl
theorem reads_check : checkD readsN 512 = (0, 505) := by kernel_rfl
theorem reads_wrong : wrongD readsN = 0 := by kernel_rfl
theorem reads_same : sameD readsN readsN = true := by kernel_rfl
theorem reads_same2 : sameD readsN (oneD (ofD 97)) = false := by kernel_rfl
theorem reads_size : sizeD readsN = 7 := by kernel_rfl
section
variable {ro : Ro} {own r : Chs} {K : Value → Ro → Chs → Prop} {g : Chunk → Chs}
theorem rcheck_ok {n : RgD} {v : List Value} (hv : RgOk ro n v) (hk : K (.int .i64 ((checkD n 512).1 : Int)) ro own) : CallOk Tryd.prog 28 #[.agg v.toArray] ro own K := by
  obtain ⟨a1, c1, hvc⟩ := hv.cells
  rw [hvc] at hv ⊢
  refine CallOk.intro (args := [_]) (rs := [_]) T_ok Tryd.func28 Tryd.call28 rfl rfl (by kernel_rfl) rfl rfl ?_
  repeat (first
    | (show _ ∧ _; exact ⟨rfl, rfl, rfl⟩)
    | refine wkP ?_
    | (show OpOk _ _ _ _ _ _ _; first | refine opB (fun b => ?_) | refine opA (fun a' c' hc1 hc2 => ?_))
    | (show GJ _ _ _ _ _ _ _; first | (apply GJ.and; exact rfl; intro hg) | (apply GJ.or; exact rfl; intro hg)))
  refine CallOk.sup (own0 := .blk b 3 [.int .i64 512] :: own) Sup.auto ?_
  refine (chC n).run hv (by decide) (by decide) (by decide) (by decide) ?_
  repeat (first
    | (show _ ∧ _; exact ⟨rfl, rfl, rfl⟩)
    | refine wkP ?_
    | (show OpOk _ _ _ _ _ _ _; first | refine opB (fun b => ?_) | refine opA (fun a' c' hc1 hc2 => ?_))
    | (show GJ _ _ _ _ _ _ _; first | (apply GJ.and; exact rfl; intro hg) | (apply GJ.or; exact rfl; intro hg)))
  exact Wk.outS Sup.auto (.refl _) hk
set_option maxHeartbeats 16000000 in
theorem reads_ok (ht : TabOk ro) (hk : ∀ ro', Le ro ro' → K (.bool true) ro' own) : CallOk Tryd.prog 26 #[] ro own K := by
  refine CallOk.intro (args := []) (rs := [_]) T_ok Tryd.func26 Tryd.call26 rfl rfl (by kernel_rfl) rfl rfl ?_
  repeat (first
    | (show _ ∧ _; exact ⟨rfl, rfl, rfl⟩)
    | refine wkP ?_
    | (show OpOk _ _ _ _ _ _ _; first | refine opB (fun b => ?_) | refine opA (fun a' c' hc1 hc2 => ?_))
    | (show GJ _ _ _ _ _ _ _; first | (apply GJ.and; exact rfl; intro hg) | (apply GJ.or; exact rfl; intro hg)))
  refine rparse_ok (t := readsT) (by decide) (fun ro1 v hl1 hv => ?_)
  rw [reads_parse] at hv ⊢
  have hv0 := hv
  unfold readsN catD' at hv
  rw [RgOk] at hv
  obtain ⟨ad, cp, cs, hvc, _, hrs, hks⟩ := hv
  rw [RgsOk] at hks
  obtain ⟨w1, r1, rfl, hw1, hks⟩ := hks
  rw [RgsOk] at hks
  obtain ⟨w2, r2, rfl, hw2, hks⟩ := hks
  rw [RgsOk] at hks
  subst hks
  obtain ⟨a1, c1, h1⟩ := hw1.cells
  obtain ⟨a2, c2, h2⟩ := hw2.cells
  have h1 : w1 = nodeV 2 (ofD 97) a1 0 c1 0 0 := h1
  have h2 : w2 = nodeV 5 zeroS a2 1 c2 0 (-1) := h2
  subst h1; subst h2
  have hvc : v = nodeV 3 zeroS ad 2 cp 0 0 := hvc
  subst hvc
  have hrs : Rs ro1 ad 2 cp 8 (nodeV 2 (ofD 97) a1 0 c1 0 0 ++ (nodeV 5 zeroS a2 1 c2 0 (-1) ++ [])) := hrs
  repeat (first
    | (show _ ∧ _; exact ⟨rfl, rfl, rfl⟩)
    | refine wkP ?_
    | (show OpOk _ _ _ _ _ _ _; first | refine opB (fun b => ?_) | refine opA (fun a' c' hc1 hc2 => ?_))
    | (show GJ _ _ _ _ _ _ _; first | (apply GJ.and; exact rfl; intro hg) | (apply GJ.or; exact rfl; intro hg)))
  refine rparse_ok (t := [97, 41]) (by decide) (fun ro2 v2 hl2 hv2 => ?_)
  rw [reads_parse2] at hv2 ⊢
  obtain ⟨a3, c3, h3⟩ := hv2.cells
  have h3 : v2 = nodeV 0 zeroS a3 0 c3 0 0 := h3
  subst h3
  repeat (first
    | (show _ ∧ _; exact ⟨rfl, rfl, rfl⟩)
    | refine wkP ?_
    | (show OpOk _ _ _ _ _ _ _; first | refine opB (fun b => ?_) | refine opA (fun a' c' hc1 hc2 => ?_))
    | (show GJ _ _ _ _ _ _ _; first | (apply GJ.and; exact rfl; intro hg) | (apply GJ.or; exact rfl; intro hg)))
  have hv3 : RgOk ro2 readsN (nodeV 3 zeroS ad 2 cp 0 0) := hv0.le hl2
  have hw3 : RgOk ro2 (oneD (ofD 97)) (nodeV 2 (ofD 97) a1 0 c1 0 0) := hw1.le hl2
  refine QOk.load rfl rfl (Ld.rs (k := 8) hrs rfl) ?_
  repeat (first
    | (show _ ∧ _; exact ⟨rfl, rfl, rfl⟩)
    | refine wkT ?_
    | refine Bs.all ?_
    | (show QOk _ _ _ _ _ _ _; refine QOk.build rfl rfl Nf.auto ?_)
    | (show OpOk _ _ _ _ _ _ _; first | refine opB (fun b => ?_) | refine opA (fun a' c' hc1 hc2 => ?_))
    | (show GJ _ _ _ _ _ _ _; first | refine GJ.t (by decide) ?_ | refine GJ.t omAuto ?_))
  refine QOk.load rfl rfl (Ld.rs (k := 15) hrs rfl) ?_
  repeat (first
    | (show _ ∧ _; exact ⟨rfl, rfl, rfl⟩)
    | refine wkT ?_
    | refine Bs.all ?_
    | (show QOk _ _ _ _ _ _ _; refine QOk.build rfl rfl Nf.auto ?_)
    | (show OpOk _ _ _ _ _ _ _; first | refine opB (fun b => ?_) | refine opA (fun a' c' hc1 hc2 => ?_))
    | (show GJ _ _ _ _ _ _ _; first | refine GJ.t (by decide) ?_ | refine GJ.t omAuto ?_))
  refine rtext_ok (n := readsN) ((ht.le hl1).le hl2) reads_wrong hv3 (by rw [reads_size]; decide) ?_
  rw [reads_text]
  repeat (first
    | (show _ ∧ _; exact ⟨rfl, rfl, rfl⟩)
    | refine wkT ?_
    | refine Bs.all ?_
    | (show QOk _ _ _ _ _ _ _; refine QOk.build rfl rfl Nf.auto ?_)
    | (show OpOk _ _ _ _ _ _ _; first | refine opB (fun b => ?_) | refine opA (fun a' c' hc1 hc2 => ?_))
    | (show GJ _ _ _ _ _ _ _; first | refine GJ.t (by decide) ?_ | refine GJ.t omAuto ?_))
  refine rcheck_ok (n := readsN) hv3 ?_
  rw [reads_check]
  repeat (first
    | (show _ ∧ _; exact ⟨rfl, rfl, rfl⟩)
    | refine wkT ?_
    | refine Bs.all ?_
    | (show QOk _ _ _ _ _ _ _; refine QOk.build rfl rfl Nf.auto ?_)
    | (show OpOk _ _ _ _ _ _ _; first | refine opB (fun b => ?_) | refine opA (fun a' c' hc1 hc2 => ?_))
    | (show GJ _ _ _ _ _ _ _; first | refine GJ.t (by decide) ?_ | refine GJ.t omAuto ?_))
  refine QOk.eqlStruct (xs := [.int .i64 5, .int .i64 1]) (ys := [.int .i64 5, .int .i64 1]) (q := decide ((5 : Int) = 5) && (decide ((1 : Int) = 1) && true)) rfl rfl rfl rfl (by kernel_rfl) (by kernel_rfl) (by kernel_rfl) ?_
  rw [show (decide ((5 : Int) = 5) && (decide ((1 : Int) = 1) && true)) = true from rfl]
  repeat (first
    | (show _ ∧ _; exact ⟨rfl, rfl, rfl⟩)
    | refine wkT ?_
    | refine Bs.all ?_
    | (show QOk _ _ _ _ _ _ _; refine QOk.build rfl rfl Nf.auto ?_)
    | (show OpOk _ _ _ _ _ _ _; first | refine opB (fun b => ?_) | refine opA (fun a' c' hc1 hc2 => ?_))
    | (show GJ _ _ _ _ _ _ _; first | refine GJ.t (by decide) ?_ | refine GJ.t omAuto ?_))
  refine (smC readsN).run hv3 hv3 ?_
  rw [reads_same]
  repeat (first
    | (show _ ∧ _; exact ⟨rfl, rfl, rfl⟩)
    | refine wkT ?_
    | refine Bs.all ?_
    | (show QOk _ _ _ _ _ _ _; refine QOk.build rfl rfl Nf.auto ?_)
    | (show OpOk _ _ _ _ _ _ _; first | refine opB (fun b => ?_) | refine opA (fun a' c' hc1 hc2 => ?_))
    | (show GJ _ _ _ _ _ _ _; first | refine GJ.t (by decide) ?_ | refine GJ.t omAuto ?_))
  refine QOk.loadRow rfl rfl (LdN.at (k := 0) (z := 8) (vs := nodeV 2 (ofD 97) a1 0 c1 0 0) hrs rfl) rfl ?_
  repeat (first
    | (show _ ∧ _; exact ⟨rfl, rfl, rfl⟩)
    | refine wkT ?_
    | refine Bs.all ?_
    | (show QOk _ _ _ _ _ _ _; refine QOk.build rfl rfl Nf.auto ?_)
    | (show OpOk _ _ _ _ _ _ _; first | refine opB (fun b => ?_) | refine opA (fun a' c' hc1 hc2 => ?_))
    | (show GJ _ _ _ _ _ _ _; first | refine GJ.t (by decide) ?_ | refine GJ.t omAuto ?_))
  refine (smC readsN).run hv3 hw3 ?_
  rw [reads_same2]
  repeat (first
    | (show _ ∧ _; exact ⟨rfl, rfl, rfl⟩)
    | refine wkT ?_
    | refine Bs.all ?_
    | (show QOk _ _ _ _ _ _ _; refine QOk.build rfl rfl Nf.auto ?_)
    | (show OpOk _ _ _ _ _ _ _; first | refine opB (fun b => ?_) | refine opA (fun a' c' hc1 hc2 => ?_))
    | (show GJ _ _ _ _ _ _ _; first | refine GJ.t (by decide) ?_ | refine GJ.t omAuto ?_))
  exact Wk.outS Sup.auto (.refl _) (hk ro2 (hl1.trans hl2))
end
end Go.Proofs.YtniofdklhlbphaaDoor
