/- Contracts of regex: write, any expression; Text. -/
import Derived.Test.YtniofdklhlbphaaDoorRgG
namespace Go.Proofs.YtniofdklhlbphaaDoor
open Go Go.E
set_option linter.unusedVariables false
set_option linter.unusedSimpArgs false
set_option maxRecDepth 10000
theorem rs_small {ro : Ro} {a : Option Addr} {n c s : Nat} {cs : List Value} (h : Rs ro a n c s cs) : n ≤ 9223372036854775807 := by
  have h1 := h.le
  have h2 := h.max
  unfold maxLen at h2
  omega
theorem wrC : ∀ n, WrC n := RgD.ind fun k s l x y ih => ⟨fun {ro r K b c q a ls v z} w hz hw ht hr hq hc hm hl hk => by
  obtain ⟨hf, hwk⟩ := wrongD_parts hw
  rw [RgOk] at hr
  obtain ⟨ad, cp, cs, rfl, hs, hrs, hks⟩ := hr
  cases form_cases hf with
  | none s x y =>
    refine write_none w hz hq hc hm (by omega) (fun q' a' c' l' e g1 g2 g3 _ => ?_)
    have e2 : ls ++ writeD (.mk 1 s [] x y) w = l' := by rw [e, writeD]; cases w <;> simp
    have := hk q' a' c' g1 (by rw [e2]; exact g2) g3
    rwa [e2] at this
  | one s x y h =>
    have e2 : writeD (.mk 2 s [] x y) w = textD s := by rw [writeD]; simp
    rw [e2] at hl hk
    exact write_one ht hs hq hc hm hl hk
  | cat s x1 y1 l1 x y =>
    generalize x1 :: y1 :: l1 = L at ih hrs hks hw hl hk hf hwk ⊢
    have e2 : writeD (.mk 3 s L x y) w = (if w then [40] ++ (writeC L ++ [41]) else writeC L) := by rw [writeD]; cases w <;> simp
    rw [e2] at hl hk
    refine write_cat w ih hz hwk ht hrs hks (rs_small hrs) hq hc hm ?_ (fun q' a' c' l' e g1 g2 g3 => ?_)
    · cases w with
      | true => simp at hl ⊢; omega
      | false => simpa using hl
    · have e3 : ls ++ (if w then [40] ++ (writeC L ++ [41]) else writeC L) = l' := by rw [e]; cases w <;> simp
      have := hk q' a' c' g1 (by rw [e3]; exact g2) g3
      rwa [e3] at this
  | alt s x1 y1 l1 x y =>
    generalize x1 :: y1 :: l1 = L at ih hrs hks hw hl hk hf hwk ⊢
    have e2 : writeD (.mk 4 s L x y) w = (if w then [40] ++ (writeA L true ++ [41]) else writeA L true) := by rw [writeD]; cases w <;> simp
    rw [e2] at hl hk
    refine write_alt w ih hz hwk ht hrs hks (rs_small hrs) hq hc hm ?_ (fun q' a' c' l' e g1 g2 g3 => ?_)
    · cases w with
      | true => simp at hl ⊢; omega
      | false => simpa using hl
    · have e3 : ls ++ (if w then [40] ++ (writeA L true ++ [41]) else writeA L true) = l' := by rw [e]; cases w <;> simp
      have := hk q' a' c' g1 (by rw [e3]; exact g2) g3
      rwa [e3] at this
  | rep s k1 x y h =>
    have e2 : writeD (.mk 5 s [k1] x y) w = writeD k1 true ++ oftenD x y := by rw [writeD, writeH]; simp
    rw [e2] at hl hk
    exact write_rep (ih k1 (by simp)) (wrongK_cons hwk).1 ht hrs hks.single h hq hc hm (by rw [List.length_append] at hl; omega) hk⟩
theorem OpOk.sliceData0 {P : Program} {ty : TypeId} {env : Env} {ro : Ro} {own : Chs} {K : Value → Ro → Chs → Prop} {x : Operand} {t : TypeId} {n c : Nat} (hx : ev env x = some (.slice none n c)) (hk : K (.pointer none) ro own) : OpOk P (.call ⟨.builtin .unsafeSliceData, #[x], #[t]⟩) ty env ro own K :=
  OpOk.pu (fun h hs d pos af g => .mk fun ρ w hρ hw => by
    have := Lib.run_unsafeSliceData_nil (P := P) w #[t] ty n c
    simp only [execOp, resolve, invoke, builtin, Sem.run_bind, Sem.run_pure, Result.andThen_ok]
    simp [hρ _ _ hx, this, Result.andThen]) hk
theorem bstr0_ok {ro : Ro} {r : Chs} {K : Value → Ro → Chs → Prop} {b : Nat} (hk : K (str []) ro (.blk b 87 [.pointer none, .slice none 0 0] :: r)) :
    CallOk Tryd.prog 44 #[ptr' b] ro (.blk b 87 [.pointer none, .slice none 0 0] :: r) K := by
  refine CallOk.intro (args := [_]) (rs := [_]) T_ok Tryd.func44 Tryd.call44 rfl rfl (by kernel_rfl) rfl rfl ?_
  repeat (first
    | (show _ ∧ _; exact ⟨rfl, rfl, rfl⟩)
    | refine wkG ?_
    | (show OpOk _ _ _ _ _ _ _; first | refine opB (fun b => ?_) | refine opA (fun a' c' hc1 hc2 => ?_))
    | (show GJ _ _ _ _ _ _ _; first | (apply GJ.and; exact rfl; intro hg) | (apply GJ.or; exact rfl; intro hg) | refine GJ.t omAuto ?_ | refine GJ.f omAuto ?_ | refine GJ.ft omAuto ?_ | refine GJ.ff omAuto ?_))
  refine Bs.all ?_
  repeat (first
    | (show _ ∧ _; exact ⟨rfl, rfl, rfl⟩)
    | refine wkG ?_
    | (show OpOk _ _ _ _ _ _ _; first | refine opB (fun b => ?_) | refine opA (fun a' c' hc1 hc2 => ?_))
    | (show GJ _ _ _ _ _ _ _; first | (apply GJ.and; exact rfl; intro hg) | (apply GJ.or; exact rfl; intro hg) | refine GJ.t omAuto ?_ | refine GJ.f omAuto ?_ | refine GJ.ft omAuto ?_ | refine GJ.ff omAuto ?_))
  refine OpOk.sliceData0 rfl ?_
  repeat (first
    | (show _ ∧ _; exact ⟨rfl, rfl, rfl⟩)
    | refine wkG ?_
    | (show OpOk _ _ _ _ _ _ _; first | refine opB (fun b => ?_) | refine opA (fun a' c' hc1 hc2 => ?_))
    | (show GJ _ _ _ _ _ _ _; first | (apply GJ.and; exact rfl; intro hg) | (apply GJ.or; exact rfl; intro hg) | refine GJ.t omAuto ?_ | refine GJ.f omAuto ?_ | refine GJ.ft omAuto ?_ | refine GJ.ff omAuto ?_))
  refine OpOk.unsafeString0 rfl rfl ?_
  repeat (first
    | (show _ ∧ _; exact ⟨rfl, rfl, rfl⟩)
    | refine wkG ?_
    | (show OpOk _ _ _ _ _ _ _; first | refine opB (fun b => ?_) | refine opA (fun a' c' hc1 hc2 => ?_))
    | (show GJ _ _ _ _ _ _ _; first | (apply GJ.and; exact rfl; intro hg) | (apply GJ.or; exact rfl; intro hg) | refine GJ.t omAuto ?_ | refine GJ.f omAuto ?_ | refine GJ.ft omAuto ?_ | refine GJ.ff omAuto ?_))
  exact Wk.outS Sup.auto (.refl _) hk
theorem write_head {n : RgD} (hw : wrongD n = 0) (hi : insD n) (h1 : n.kind ≠ 1) : textR n ≠ [] := by
  intro e
  obtain ⟨k, s, l, a, b⟩ := n
  obtain ⟨hf, hk⟩ := wrongD_parts hw
  unfold textR at e
  rw [writeD] at e
  rw [insD] at hi
  cases form_cases hf with
  | none => exact h1 rfl
  | one s a b h =>
    obtain ⟨x, m, hx⟩ := text_head hi.1
    rw [hx] at e; simp at e
  | cat s x y l a b =>
    simp [writeC] at e
    obtain ⟨x1, m, hx, _⟩ := (write_ok x (wrongK_cons hk).1 (by have := hi.2; rw [insK] at this; exact this.1)).1.head
    rw [hx] at e; simp at e
  | alt s x y l a b => simp [writeA] at e
  | rep s x a b h =>
    simp [writeH] at e
    obtain ⟨x1, m, hx, _⟩ := (write_ok x (wrongK_cons hk).1 (by have := hi.2; rw [insK] at this; exact this.1)).1.head
    rw [hx] at e; simp at e
mutual
theorem RgOk.ins {ro : Ro} : ∀ {n : RgD} {v : List Value}, RgOk ro n v → insD n
  | .mk k z l x y, v, h => by
    rw [RgOk] at h
    obtain ⟨a, c, cs, h1, h2, h3, h4⟩ := h
    rw [insD]
    exact ⟨h2, RgsOk.ins h4⟩
theorem RgsOk.ins {ro : Ro} : ∀ {l : List RgD} {cs : List Value}, RgsOk ro l cs → insK l
  | [], cs, h => by rw [insK]; trivial
  | n :: l, cs, h => by
    rw [RgsOk] at h
    obtain ⟨v, r, h0, h1, h2⟩ := h
    rw [insK]
    exact ⟨RgOk.ins h1, RgsOk.ins h2⟩
end

section
variable {ro : Ro} {own r : Chs} {K : Value → Ro → Chs → Prop} {g : Chunk → Chs}
set_option maxHeartbeats 4000000 in
theorem rtext_ok {n : RgD} {v : List Value} (ht : TabOk ro) (hw : wrongD n = 0) (hv : RgOk ro n v) (hs : sizeD n ≤ 4000) (hk : K (str (textR n)) ro own) : CallOk Tryd.prog 31 #[.agg v.toArray] ro own K := by
  have hlen := write_len n false
  obtain ⟨a1, c1, hvc⟩ := hv.cells
  by_cases h1 : n.kind = 1
  · have hT : textR n = [] := by
      obtain ⟨k, s, l, a, b⟩ := n
      have h1 : k = 1 := h1
      subst h1
      unfold textR; rw [writeD]; simp
    rw [hT] at hk
    subst hvc
    rw [h1]
    refine CallOk.intro (args := [_]) (rs := [_]) T_ok Tryd.func31 Tryd.call31 rfl rfl (by kernel_rfl) rfl rfl ?_
    repeat (first
      | (show _ ∧ _; exact ⟨rfl, rfl, rfl⟩)
      | refine wkP ?_
      | (show OpOk _ _ _ _ _ _ _; first | refine opB (fun b => ?_) | refine opA (fun a' c' hc1 hc2 => ?_))
      | (show GJ _ _ _ _ _ _ _; first | (apply GJ.and; exact rfl; intro hg) | (apply GJ.or; exact rfl; intro hg)))
    rename_i b0
    obtain ⟨p, hp⟩ : ∃ z : Nat, z = b := ⟨_, rfl⟩
    subst hp
    refine CallOk.sup (own0 := .blk p 87 [.pointer none, .slice none ([] : List UInt8).length 0] :: .sl none ([] : List UInt8).length 0 5 1 (([] : List UInt8).map u8) :: own) Sup.auto ?_
    refine write_none false rfl (.inl rfl) (Nat.zero_le _) (Nat.zero_le _) (by decide) (fun q' a' c' l' e g1 g2 g3 g4 => ?_)
    obtain ⟨rfl, rfl, rfl⟩ := g4 rfl
    subst e
    repeat (first
      | (show _ ∧ _; exact ⟨rfl, rfl, rfl⟩)
      | refine wkP ?_
      | (show OpOk _ _ _ _ _ _ _; first | refine opB (fun b => ?_) | refine opA (fun a' c' hc1 hc2 => ?_))
      | (show GJ _ _ _ _ _ _ _; first | (apply GJ.and; exact rfl; intro hg) | (apply GJ.or; exact rfl; intro hg)))
    refine CallOk.sup (own0 := .blk p 87 [.pointer none, .slice none 0 0] :: own) Sup.auto ?_
    refine bstr0_ok ?_
    repeat (first
      | (show _ ∧ _; exact ⟨rfl, rfl, rfl⟩)
      | refine wkP ?_
      | (show OpOk _ _ _ _ _ _ _; first | refine opB (fun b => ?_) | refine opA (fun a' c' hc1 hc2 => ?_))
      | (show GJ _ _ _ _ _ _ _; first | (apply GJ.and; exact rfl; intro hg) | (apply GJ.or; exact rfl; intro hg)))
    exact Wk.outS Sup.auto (.refl _) hk
  · have hne := write_head hw hv.ins h1
    have hT : textR n = writeD n false := rfl
    have hwr := wrC n
    rw [hvc] at hv ⊢
    refine CallOk.intro (args := [_]) (rs := [_]) T_ok Tryd.func31 Tryd.call31 rfl rfl (by kernel_rfl) rfl rfl ?_
    repeat (first
      | (show _ ∧ _; exact ⟨rfl, rfl, rfl⟩)
      | refine wkP ?_
      | (show OpOk _ _ _ _ _ _ _; first | refine opB (fun b => ?_) | refine opA (fun a' c' hc1 hc2 => ?_))
      | (show GJ _ _ _ _ _ _ _; first | (apply GJ.and; exact rfl; intro hg) | (apply GJ.or; exact rfl; intro hg)))
    rename_i b0
    obtain ⟨p, hp⟩ : ∃ z : Nat, z = b := ⟨_, rfl⟩
    subst hp
    refine CallOk.sup (own0 := .blk p 87 [.pointer none, .slice none ([] : List UInt8).length 0] :: .sl none ([] : List UInt8).length 0 5 1 (([] : List UInt8).map u8) :: own) Sup.auto ?_
    refine hwr.run false rfl hw ht hv (.inl rfl) (Nat.zero_le _) (Nat.zero_le _) (by simp only [List.length_nil]; omega) (fun q' a' c' g1 g2 g3 => ?_)
    rw [List.nil_append] at g2 ⊢
    rw [← hT] at g2 hlen ⊢
    repeat (first
      | (show _ ∧ _; exact ⟨rfl, rfl, rfl⟩)
      | refine wkP ?_
      | (show OpOk _ _ _ _ _ _ _; first | refine opB (fun b => ?_) | refine opA (fun a' c' hc1 hc2 => ?_))
      | (show GJ _ _ _ _ _ _ _; first | (apply GJ.and; exact rfl; intro hg) | (apply GJ.or; exact rfl; intro hg)))
    refine bstrL_ok rfl hne g2 (by omega) ?_
    repeat (first
      | (show _ ∧ _; exact ⟨rfl, rfl, rfl⟩)
      | refine wkP ?_
      | (show OpOk _ _ _ _ _ _ _; first | refine opB (fun b => ?_) | refine opA (fun a' c' hc1 hc2 => ?_))
      | (show GJ _ _ _ _ _ _ _; first | (apply GJ.and; exact rfl; intro hg) | (apply GJ.or; exact rfl; intro hg)))
    exact Wk.outS Sup.auto (.refl _) hk
end
end Go.Proofs.YtniofdklhlbphaaDoor
