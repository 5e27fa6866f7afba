/- Contracts of the laws of spec: what they reckon with. -/
import Derived.Test.YtpjiaafkcojddaaSp8
namespace Go.Proofs.Ytpjiaafkcojddaa
open Go Go.E
set_option linter.unusedVariables false
set_option maxRecDepth 10000
section
variable {ro : Ro} {own r : Chs} {K : Value → Ro → Chs → Prop} {g : Chunk → Chs}
theorem lkids_ok {d : NodeD} {a : NodeA} (ho : NodeOk ro d a) (hn : d.kids.length ≤ 1000000 ∧ d.fields.length ≤ 1000000 ∧ d.cases.length ≤ 1000000) (hk : ∀ a' n' c', n' = (kidsD d).length → n' ≤ c' → c' ≤ maxLen → K (.slice a' n' c') ro (.sl a' n' c' 3 1 (kidsV (kidsD d)) :: own)) :
    CallOk Try.prog 25 #[.agg (nodeV d a).toArray] ro own K := by
  have hr1 := ho.kids
  have hr3 := ho.fields
  have hr4 := ho.cases
  refine CallOk.intro (args := [_]) (rs := [_]) T_ok Try.func25 Try.call25 rfl rfl (by kernel_rfl) rfl rfl ?_
  repeat (first
    | (show _ ∧ _; exact ⟨rfl, rfl, rfl⟩)
    | refine wkG ?_
    | (show OpOk _ _ _ _ _ _ _; first | refine opB (fun b => ?_) | refine opA (fun a' c' hc1 hc2 => ?_))
    | (show GJ _ _ _ _ _ _ _; first | (apply GJ.and; exact rfl; intro hg) | (apply GJ.or; exact rfl; intro hg) | refine GJ.t omAuto ?_ | refine GJ.f omAuto ?_ | refine GJ.ft omAuto ?_ | refine GJ.ff omAuto ?_))
  rename_i bx
  refine LoopOk.at (ι := Nat × List Value × Option Addr × Nat × Nat) Keep.auto (fun (i, cs, a1, n1, c1) => [(15, .int .i64 (i : Int)), (3, .slice a1 n1 c1)]) (fun (i, cs, a1, n1, c1) => .sl a1 n1 c1 3 1 cs :: .blk bx 78 (nodeV d a) :: own) (fun (i, cs, a1, n1, c1) => i ≤ d.fields.length ∧ cs = kidsV (d.kids ++ (d.fields.take i).map (·.type)) ∧ n1 = d.kids.length + i ∧ n1 ≤ c1 ∧ c1 ≤ maxLen) (fun (i, cs, a1, n1, c1) => d.fields.length - i) (0, _, _, _, _) ?_ Sub.auto Sup.auto ?_
  · exact ⟨by omega, by simp, by omega, by omega, by omega⟩
  rintro ⟨i, cs, a1, n1, c1⟩ ⟨i1, rfl, rfl, i4, i5⟩
  dsimp only [List.cons_append, List.nil_append]
  repeat (first
    | (show _ ∧ _; exact ⟨rfl, rfl, rfl⟩)
    | refine wkG ?_
    | (show OpOk _ _ _ _ _ _ _; first | refine opB (fun b => ?_) | refine opA (fun a' c' hc1 hc2 => ?_))
    | (show GJ _ _ _ _ _ _ _; first | (apply GJ.and; exact rfl; intro hg) | (apply GJ.or; exact rfl; intro hg) | refine GJ.t omAuto ?_ | refine GJ.f omAuto ?_ | refine GJ.ft omAuto ?_ | refine GJ.ff omAuto ?_))
  refine Br.cases (fun hc => ?_) (fun hc => ?_)
  · have hd := fieldsV_drop d.fields (i := i) (by omega)
    have htk : d.fields.take (i + 1) = d.fields.take i ++ [d.fields[i]'(by omega)] := by rw [List.take_add_one, List.getElem?_eq_getElem (by omega)]; rfl
    generalize hf : d.fields[i]'(by omega) = f at hd htk
    repeat (first
      | (show _ ∧ _; exact ⟨rfl, rfl, rfl⟩)
      | refine wkG ?_
      | (show OpOk _ _ _ _ _ _ _; first | refine opB (fun b => ?_) | refine opA (fun a' c' hc1 hc2 => ?_))
      | (show GJ _ _ _ _ _ _ _; first | (apply GJ.and; exact rfl; intro hg) | (apply GJ.or; exact rfl; intro hg) | refine GJ.t omAuto ?_ | refine GJ.f omAuto ?_ | refine GJ.ft omAuto ?_ | refine GJ.ff omAuto ?_))
    rw [Int.toNat_natCast]
    refine OpOk.loadRow rfl rfl (LdN.at hr3 hd) rfl ?_
    repeat (first
      | (show _ ∧ _; exact ⟨rfl, rfl, rfl⟩)
      | refine wkG ?_
      | (show OpOk _ _ _ _ _ _ _; first | refine opB (fun b => ?_) | refine opA (fun a' c' hc1 hc2 => ?_))
      | (show GJ _ _ _ _ _ _ _; first | (apply GJ.and; exact rfl; intro hg) | (apply GJ.or; exact rfl; intro hg) | refine GJ.t omAuto ?_ | refine GJ.f omAuto ?_ | refine GJ.ft omAuto ?_ | refine GJ.ff omAuto ?_))
    refine Wk.id ⟨(i + 1, _, _, _, _), ⟨rfl, ?_⟩, ?_, Sub.auto, Sup.auto⟩
    all_goals try dsimp only
    · exact ⟨by omega, by rw [htk]; simp [kidsV], by omega, by omega, by omega⟩
    · omega
  · obtain rfl : i = d.fields.length := by omega
    rw [List.take_length]
    repeat (first
      | (show _ ∧ _; exact ⟨rfl, rfl, rfl⟩)
      | refine wkG ?_
      | (show OpOk _ _ _ _ _ _ _; first | refine opB (fun b => ?_) | refine opA (fun a' c' hc1 hc2 => ?_))
      | (show GJ _ _ _ _ _ _ _; first | (apply GJ.and; exact rfl; intro hg) | (apply GJ.or; exact rfl; intro hg) | refine GJ.t omAuto ?_ | refine GJ.f omAuto ?_ | refine GJ.ft omAuto ?_ | refine GJ.ff omAuto ?_))
    refine LoopOk.at (ι := Nat × List Value × Option Addr × Nat × Nat) Keep.auto (fun (i, cs, a1, n1, c1) => [(28, .int .i64 (i : Int)), (3, .slice a1 n1 c1)]) (fun (i, cs, a1, n1, c1) => .sl a1 n1 c1 3 1 cs :: .blk bx 78 (nodeV d a) :: own) (fun (i, cs, a1, n1, c1) => i ≤ d.cases.length ∧ cs = kidsV (d.kids ++ d.fields.map (·.type) ++ (d.cases.take i).map (·.type)) ∧ n1 = d.kids.length + d.fields.length + i ∧ n1 ≤ c1 ∧ c1 ≤ maxLen) (fun (i, cs, a1, n1, c1) => d.cases.length - i) (0, _, _, _, _) ?_ Sub.auto Sup.auto ?_
    · exact ⟨by omega, by simp, by omega, by omega, by omega⟩
    rintro ⟨i, cs, a1, n1, c1⟩ ⟨i1, rfl, rfl, i4, i5⟩
    dsimp only [List.cons_append, List.nil_append]
    repeat (first
      | (show _ ∧ _; exact ⟨rfl, rfl, rfl⟩)
      | refine wkG ?_
      | (show OpOk _ _ _ _ _ _ _; first | refine opB (fun b => ?_) | refine opA (fun a' c' hc1 hc2 => ?_))
      | (show GJ _ _ _ _ _ _ _; first | (apply GJ.and; exact rfl; intro hg) | (apply GJ.or; exact rfl; intro hg) | refine GJ.t omAuto ?_ | refine GJ.f omAuto ?_ | refine GJ.ft omAuto ?_ | refine GJ.ff omAuto ?_))
    refine Br.cases (fun hc => ?_) (fun hc => ?_)
    · have hd := casesV_drop d.cases (i := i) (by omega)
      have htk : d.cases.take (i + 1) = d.cases.take i ++ [d.cases[i]'(by omega)] := by rw [List.take_add_one, List.getElem?_eq_getElem (by omega)]; rfl
      generalize hf : d.cases[i]'(by omega) = f at hd htk
      repeat (first
        | (show _ ∧ _; exact ⟨rfl, rfl, rfl⟩)
        | refine wkG ?_
        | (show OpOk _ _ _ _ _ _ _; first | refine opB (fun b => ?_) | refine opA (fun a' c' hc1 hc2 => ?_))
        | (show GJ _ _ _ _ _ _ _; first | (apply GJ.and; exact rfl; intro hg) | (apply GJ.or; exact rfl; intro hg) | refine GJ.t omAuto ?_ | refine GJ.f omAuto ?_ | refine GJ.ft omAuto ?_ | refine GJ.ff omAuto ?_))
      rw [Int.toNat_natCast]
      refine OpOk.loadRow rfl rfl (LdN.at hr4 hd) rfl ?_
      repeat (first
        | (show _ ∧ _; exact ⟨rfl, rfl, rfl⟩)
        | refine wkG ?_
        | (show OpOk _ _ _ _ _ _ _; first | refine opB (fun b => ?_) | refine opA (fun a' c' hc1 hc2 => ?_))
        | (show GJ _ _ _ _ _ _ _; first | (apply GJ.and; exact rfl; intro hg) | (apply GJ.or; exact rfl; intro hg) | refine GJ.t omAuto ?_ | refine GJ.f omAuto ?_ | refine GJ.ft omAuto ?_ | refine GJ.ff omAuto ?_))
      refine Wk.id ⟨(i + 1, _, _, _, _), ⟨rfl, ?_⟩, ?_, Sub.auto, Sup.auto⟩
      all_goals try dsimp only
      · exact ⟨by omega, by rw [htk]; simp [kidsV], by omega, by omega, by omega⟩
      · omega
    · obtain rfl : i = d.cases.length := by omega
      rw [List.take_length]
      repeat (first
        | (show _ ∧ _; exact ⟨rfl, rfl, rfl⟩)
        | refine wkG ?_
        | (show OpOk _ _ _ _ _ _ _; first | refine opB (fun b => ?_) | refine opA (fun a' c' hc1 hc2 => ?_))
        | (show GJ _ _ _ _ _ _ _; first | (apply GJ.and; exact rfl; intro hg) | (apply GJ.or; exact rfl; intro hg) | refine GJ.t omAuto ?_ | refine GJ.f omAuto ?_ | refine GJ.ft omAuto ?_ | refine GJ.ff omAuto ?_))
      have hkl : (kidsD d).length = d.kids.length + d.fields.length + d.cases.length + (if d.kind = 9 ∧ 0 ≤ d.els then 1 else 0) := by
        unfold kidsD
        split <;> simp <;> omega
      refine SeqOk.pass ?_
      repeat (first
        | (show _ ∧ _; exact ⟨rfl, rfl, rfl⟩)
        | refine wkG ?_
        | (show OpOk _ _ _ _ _ _ _; first | refine opB (fun b => ?_) | refine opA (fun a' c' hc1 hc2 => ?_))
        | (show GJ _ _ _ _ _ _ _; first | (apply GJ.and; exact rfl; intro hg) | (apply GJ.or; exact rfl; intro hg) | refine GJ.t omAuto ?_ | refine GJ.f omAuto ?_ | refine GJ.ft omAuto ?_ | refine GJ.ff omAuto ?_))
      refine Br.cases (fun he => ?_) (fun he => ?_)
      · rw [if_pos (by omega)] at hkl
        have hks : kidsV (d.kids ++ d.fields.map (·.type) ++ d.cases.map (·.type)) ++ [.int .i64 d.els] = kidsV (kidsD d) := by rw [kidsD, if_pos (by omega)]; simp [kidsV]
        repeat (first
          | (show _ ∧ _; exact ⟨rfl, rfl, rfl⟩)
          | refine wkG ?_
          | (show OpOk _ _ _ _ _ _ _; first | refine opB (fun b => ?_) | refine opA (fun a' c' hc1 hc2 => ?_))
          | (show GJ _ _ _ _ _ _ _; first | (apply GJ.and; exact rfl; intro hg) | (apply GJ.or; exact rfl; intro hg) | refine GJ.t omAuto ?_ | refine GJ.f omAuto ?_ | refine GJ.ft omAuto ?_ | refine GJ.ff omAuto ?_))
        rw [hks]
        exact Wk.outS Sup.auto (.refl _) (hk _ _ _ (by omega) (by omega) (by omega))
      · rw [if_neg (by omega)] at hkl
        have hks : kidsV (d.kids ++ d.fields.map (·.type) ++ d.cases.map (·.type)) = kidsV (kidsD d) := by rw [kidsD, if_neg (by omega)]; simp [kidsV]
        rw [hks]
        repeat (first
          | (show _ ∧ _; exact ⟨rfl, rfl, rfl⟩)
          | refine wkG ?_
          | (show OpOk _ _ _ _ _ _ _; first | refine opB (fun b => ?_) | refine opA (fun a' c' hc1 hc2 => ?_))
          | (show GJ _ _ _ _ _ _ _; first | (apply GJ.and; exact rfl; intro hg) | (apply GJ.or; exact rfl; intro hg) | refine GJ.t omAuto ?_ | refine GJ.f omAuto ?_ | refine GJ.ft omAuto ?_ | refine GJ.ff omAuto ?_))
        exact Wk.outS Sup.auto (.refl _) (hk _ _ _ (by omega) (by omega) (by omega))

end
end Go.Proofs.Ytpjiaafkcojddaa
