/- Specifications as data, and how they lie in memory. Contracts of Kids, Number, Most. -/
import Derived.Test.YtniofdklhlbphaaSp1
import Derived.Test.YtniofdklhlbphaaOc2
namespace Go.Proofs.Ytniofdklhlbphaa
open Go Go.E
set_option linter.unusedVariables false
set_option maxRecDepth 10000
structure FieldD where
  name : List UInt8
  type : Int
  derive : Int
  of : List UInt8
  to : List UInt8
deriving DecidableEq
structure CaseD where
  value : Nat
  type : Int
deriving DecidableEq
structure NodeD where
  kind : Int
  width : Int
  little : Bool
  zig : Bool
  lenient : Bool
  min : Nat
  max : Nat
  text : List UInt8
  ereg : List UInt8
  emul : Nat
  eadd : Nat
  kids : List Int
  last : List Bool
  fields : List FieldD
  reg : List UInt8
  mod : Nat
  cases : List CaseD
  els : Int
deriving DecidableEq
structure DefD where
  name : List UInt8
  type : Int
deriving DecidableEq
structure SpecD where
  nodes : List NodeD
  defs : List DefD
deriving DecidableEq
def fieldV (f : FieldD) : List Value := [str f.name, .int .i64 f.type, .int .i64 f.derive, str f.of, str f.to]
def caseV (c : CaseD) : List Value := [.int .u64 (c.value : Nat), .int .i64 c.type]
def defV (d : DefD) : List Value := [str d.name, .int .i64 d.type]
/-- Where a node's slices lie. -/
structure NodeA where
  ka : Option Addr
  kc : Nat
  la : Option Addr
  lc : Nat
  fa : Option Addr
  fc : Nat
  ca : Option Addr
  cc : Nat
def nodeV (d : NodeD) (a : NodeA) : List Value :=
  [.int .i64 d.kind, .int .i64 d.width, .bool d.little, .bool d.zig, .bool d.lenient, .int .u64 (d.min : Nat), .int .u64 (d.max : Nat), str d.text, str d.ereg, .int .u64 (d.emul : Nat), .int .u64 (d.eadd : Nat),
   .slice a.ka d.kids.length a.kc, .slice a.la d.last.length a.lc, .slice a.fa d.fields.length a.fc, str d.reg, .int .u64 (d.mod : Nat), .slice a.ca d.cases.length a.cc, .int .i64 d.els]
def kidsV (l : List Int) : List Value := l.map (Value.int .i64)
def lastV (l : List Bool) : List Value := l.map Value.bool
def fieldsV (l : List FieldD) : List Value := l.flatMap fieldV
def casesV (l : List CaseD) : List Value := l.flatMap caseV
def defsV (l : List DefD) : List Value := l.flatMap defV
abbrev In64 (x : Int) : Prop := -9223372036854775808 ≤ x ∧ x ≤ 9223372036854775807
/-- A node's slices lie there, and last. -/
structure NodeOk (ro : Ro) (d : NodeD) (a : NodeA) : Prop where
  kids : Rs ro a.ka d.kids.length a.kc 1 (kidsV d.kids)
  last : Rs ro a.la d.last.length a.lc 1 (lastV d.last)
  fields : Rs ro a.fa d.fields.length a.fc 5 (fieldsV d.fields)
  cases : Rs ro a.ca d.cases.length a.cc 2 (casesV d.cases)
/-- A node's numbers are of their kinds. -/
structure NodeIn (d : NodeD) : Prop where
  kind : In64 d.kind
  width : In64 d.width
  min : d.min < 18446744073709551616
  max : d.max < 18446744073709551616
  emul : d.emul < 18446744073709551616
  eadd : d.eadd < 18446744073709551616
  mod : d.mod < 18446744073709551616
  els : In64 d.els
  kids : ∀ k ∈ d.kids, In64 k
  fields : ∀ f ∈ d.fields, In64 f.type ∧ In64 f.derive
  cases : ∀ c ∈ d.cases, In64 c.type ∧ c.value < 18446744073709551616
theorem fieldsV_len (l : List FieldD) : (fieldsV l).length = l.length * 5 := by induction l with
  | nil => rfl
  | cons f l ih => simp [fieldsV, fieldV] at ih ⊢; omega
theorem fieldsV_drop (l : List FieldD) : ∀ {i : Nat} (h : i < l.length), ((fieldsV l).drop (i * 5)).take 5 = fieldV l[i] := by
  induction l with
  | nil => intro i h; simp at h
  | cons f l ih =>
    intro i h
    cases i with
    | zero => rfl
    | succ i =>
      have := ih (i := i) (by simpa using h)
      rw [show (i + 1) * 5 = i * 5 + 5 by omega, Nat.add_comm]
      show List.take 5 (List.drop (5 + i * 5) (fieldV f ++ fieldsV l)) = _
      rw [← List.drop_drop, List.drop_left' (by rfl)]
      simpa using this
theorem casesV_len (l : List CaseD) : (casesV l).length = l.length * 2 := by induction l with
  | nil => rfl
  | cons f l ih => simp [casesV, caseV] at ih ⊢; omega
theorem casesV_drop (l : List CaseD) : ∀ {i : Nat} (h : i < l.length), ((casesV l).drop (i * 2)).take 2 = caseV l[i] := by
  induction l with
  | nil => intro i h; simp at h
  | cons f l ih =>
    intro i h
    cases i with
    | zero => rfl
    | succ i =>
      have := ih (i := i) (by simpa using h)
      rw [show (i + 1) * 2 = i * 2 + 2 by omega, Nat.add_comm]
      show List.take 2 (List.drop (2 + i * 2) (caseV f ++ casesV l)) = _
      rw [← List.drop_drop, List.drop_left' (by rfl)]
      simpa using this
theorem defsV_len (l : List DefD) : (defsV l).length = l.length * 2 := by induction l with
  | nil => rfl
  | cons f l ih => simp [defsV, defV] at ih ⊢; omega
theorem defsV_drop (l : List DefD) : ∀ {i : Nat} (h : i < l.length), ((defsV l).drop (i * 2)).take 2 = defV l[i] := by
  induction l with
  | nil => intro i h; simp at h
  | cons f l ih =>
    intro i h
    cases i with
    | zero => rfl
    | succ i =>
      have := ih (i := i) (by simpa using h)
      rw [show (i + 1) * 2 = i * 2 + 2 by omega, Nat.add_comm]
      show List.take 2 (List.drop (2 + i * 2) (defV f ++ defsV l)) = _
      rw [← List.drop_drop, List.drop_left' (by rfl)]
      simpa using this
theorem kidsV_one (l : List Int) : ∀ u ∈ kidsV l, u.oneCell' = true := one_int .i64 l
theorem lastV_one (l : List Bool) : ∀ u ∈ lastV l, u.oneCell' = true := fun u hu => by obtain ⟨b, _, rfl⟩ := List.mem_map.1 hu; rfl
theorem fieldsV_one (l : List FieldD) : ∀ u ∈ fieldsV l, u.oneCell' = true := fun u hu => by
  obtain ⟨f, _, hf⟩ := List.mem_flatMap.1 hu
  simp [fieldV] at hf
  rcases hf with rfl | rfl | rfl | rfl | rfl <;> rfl
theorem casesV_one (l : List CaseD) : ∀ u ∈ casesV l, u.oneCell' = true := fun u hu => by
  obtain ⟨f, _, hf⟩ := List.mem_flatMap.1 hu
  simp [caseV] at hf
  rcases hf with rfl | rfl <;> rfl
theorem defsV_one (l : List DefD) : ∀ u ∈ defsV l, u.oneCell' = true := fun u hu => by
  obtain ⟨f, _, hf⟩ := List.mem_flatMap.1 hu
  simp [defV] at hf
  rcases hf with rfl | rfl <;> rfl
/-- The types of which a type is made. -/
def kidsD (d : NodeD) : List Int := d.kids ++ d.fields.map (·.type) ++ d.cases.map (·.type) ++ (if d.kind = 9 ∧ 0 ≤ d.els then [d.els] else [])
section
variable {ro : Ro} {own r : Chs} {K : Value → Ro → Chs → Prop} {g : Chunk → Chs}
theorem kids_ok {d : NodeD} {a : NodeA} (ho : NodeOk ro d a) (hn : d.kids.length ≤ 1000000 ∧ d.fields.length ≤ 1000000 ∧ d.cases.length ≤ 1000000) (hk : ∀ a' n' c', n' = (kidsD d).length → n' ≤ c' → c' ≤ maxLen → K (.slice a' n' c') ro (.sl a' n' c' 3 1 (kidsV (kidsD d)) :: own)) :
    CallOk Try.prog 20 #[.agg (nodeV d a).toArray] ro own K := by
  have hr1 := ho.kids
  have hr3 := ho.fields
  have hr4 := ho.cases
  refine CallOk.intro (args := [_]) (rs := [_]) T_ok Try.func20 Try.call20 rfl rfl (by kernel_rfl) rfl rfl ?_
  repeat (first
    | (show _ ∧ _; exact ⟨rfl, rfl, rfl⟩)
    | refine wkG ?_
    | (show OpOk _ _ _ _ _ _ _; first | refine opB (fun b => ?_) | refine opA (fun a' c' hc1 hc2 => ?_))
    | (show GJ _ _ _ _ _ _ _; first | (apply GJ.and; exact rfl; intro hg) | (apply GJ.or; exact rfl; intro hg) | refine GJ.t omAuto ?_ | refine GJ.f omAuto ?_ | refine GJ.ft omAuto ?_ | refine GJ.ff omAuto ?_))
  refine cloneI_ok hr1 (kidsV_one _) (by omega) (fun a1 c1 h1 h2 => ?_)
  repeat (first
    | (show _ ∧ _; exact ⟨rfl, rfl, rfl⟩)
    | refine wkG ?_
    | (show OpOk _ _ _ _ _ _ _; first | refine opB (fun b => ?_) | refine opA (fun a' c' hc1 hc2 => ?_))
    | (show GJ _ _ _ _ _ _ _; first | (apply GJ.and; exact rfl; intro hg) | (apply GJ.or; exact rfl; intro hg) | refine GJ.t omAuto ?_ | refine GJ.f omAuto ?_ | refine GJ.ft omAuto ?_ | refine GJ.ff omAuto ?_))
  refine LoopOk.at (ι := Nat × List Value × Option Addr × Nat × Nat) Keep.auto (fun (i, cs, a1, n1, c1) => [(14, .int .i64 (i : Int)), (3, .slice a1 n1 c1)]) (fun (i, cs, a1, n1, c1) => .sl a1 n1 c1 3 1 cs :: .blk b 49 (nodeV d a) :: own) (fun (i, cs, a1, n1, c1) => i ≤ d.fields.length ∧ cs = kidsV (d.kids ++ (d.fields.take i).map (·.type)) ∧ n1 = d.kids.length + i ∧ n1 ≤ c1 ∧ c1 ≤ maxLen) (fun (i, cs, a1, n1, c1) => d.fields.length - i) (0, _, _, _, _) ?_ Sub.auto Sup.auto ?_
  · exact ⟨by omega, by simp, by omega, by omega, by omega⟩
  rintro ⟨i, cs, a1, n1, c1⟩ ⟨i1, rfl, rfl, i4, i5⟩
  dsimp only [List.cons_append, List.nil_append]
  repeat (first
    | (show _ ∧ _; exact ⟨rfl, rfl, rfl⟩)
    | refine wkG ?_
    | (show OpOk _ _ _ _ _ _ _; first | refine opB (fun b => ?_) | refine opA (fun a' c' hc1 hc2 => ?_))
    | (show GJ _ _ _ _ _ _ _; first | (apply GJ.and; exact rfl; intro hg) | (apply GJ.or; exact rfl; intro hg) | refine GJ.t omAuto ?_ | refine GJ.f omAuto ?_ | refine GJ.ft omAuto ?_ | refine GJ.ff omAuto ?_))
  refine Br.cases (fun hc => ?_) (fun hc => ?_)
  · have hd := fieldsV_drop d.fields (i := i) (by omega)
    have htk : d.fields.take (i + 1) = d.fields.take i ++ [d.fields[i]'(by omega)] := by rw [List.take_add_one, List.getElem?_eq_getElem (by omega)]; rfl
    generalize hf : d.fields[i]'(by omega) = f at hd htk
    repeat (first
      | (show _ ∧ _; exact ⟨rfl, rfl, rfl⟩)
      | refine wkG ?_
      | (show OpOk _ _ _ _ _ _ _; first | refine opB (fun b => ?_) | refine opA (fun a' c' hc1 hc2 => ?_))
      | (show GJ _ _ _ _ _ _ _; first | (apply GJ.and; exact rfl; intro hg) | (apply GJ.or; exact rfl; intro hg) | refine GJ.t omAuto ?_ | refine GJ.f omAuto ?_ | refine GJ.ft omAuto ?_ | refine GJ.ff omAuto ?_))
    rw [Int.toNat_natCast]
    refine OpOk.loadRow rfl rfl (LdN.at hr3 hd) rfl ?_
    repeat (first
      | (show _ ∧ _; exact ⟨rfl, rfl, rfl⟩)
      | refine wkG ?_
      | (show OpOk _ _ _ _ _ _ _; first | refine opB (fun b => ?_) | refine opA (fun a' c' hc1 hc2 => ?_))
      | (show GJ _ _ _ _ _ _ _; first | (apply GJ.and; exact rfl; intro hg) | (apply GJ.or; exact rfl; intro hg) | refine GJ.t omAuto ?_ | refine GJ.f omAuto ?_ | refine GJ.ft omAuto ?_ | refine GJ.ff omAuto ?_))
    refine Wk.id ⟨(i + 1, _, _, _, _), ⟨rfl, ?_⟩, ?_, Sub.auto, Sup.auto⟩
    all_goals try dsimp only
    · exact ⟨by omega, by rw [htk]; simp [kidsV], by omega, by omega, by omega⟩
    · omega
  · obtain rfl : i = d.fields.length := by omega
    rw [List.take_length]
    repeat (first
      | (show _ ∧ _; exact ⟨rfl, rfl, rfl⟩)
      | refine wkG ?_
      | (show OpOk _ _ _ _ _ _ _; first | refine opB (fun b => ?_) | refine opA (fun a' c' hc1 hc2 => ?_))
      | (show GJ _ _ _ _ _ _ _; first | (apply GJ.and; exact rfl; intro hg) | (apply GJ.or; exact rfl; intro hg) | refine GJ.t omAuto ?_ | refine GJ.f omAuto ?_ | refine GJ.ft omAuto ?_ | refine GJ.ff omAuto ?_))
    refine LoopOk.at (ι := Nat × List Value × Option Addr × Nat × Nat) Keep.auto (fun (i, cs, a1, n1, c1) => [(27, .int .i64 (i : Int)), (3, .slice a1 n1 c1)]) (fun (i, cs, a1, n1, c1) => .sl a1 n1 c1 3 1 cs :: .blk b 49 (nodeV d a) :: own) (fun (i, cs, a1, n1, c1) => i ≤ d.cases.length ∧ cs = kidsV (d.kids ++ d.fields.map (·.type) ++ (d.cases.take i).map (·.type)) ∧ n1 = d.kids.length + d.fields.length + i ∧ n1 ≤ c1 ∧ c1 ≤ maxLen) (fun (i, cs, a1, n1, c1) => d.cases.length - i) (0, _, _, _, _) ?_ Sub.auto Sup.auto ?_
    · exact ⟨by omega, by simp, by omega, by omega, by omega⟩
    rintro ⟨i, cs, a1, n1, c1⟩ ⟨i1, rfl, rfl, i4, i5⟩
    dsimp only [List.cons_append, List.nil_append]
    repeat (first
      | (show _ ∧ _; exact ⟨rfl, rfl, rfl⟩)
      | refine wkG ?_
      | (show OpOk _ _ _ _ _ _ _; first | refine opB (fun b => ?_) | refine opA (fun a' c' hc1 hc2 => ?_))
      | (show GJ _ _ _ _ _ _ _; first | (apply GJ.and; exact rfl; intro hg) | (apply GJ.or; exact rfl; intro hg) | refine GJ.t omAuto ?_ | refine GJ.f omAuto ?_ | refine GJ.ft omAuto ?_ | refine GJ.ff omAuto ?_))
    refine Br.cases (fun hc => ?_) (fun hc => ?_)
    · have hd := casesV_drop d.cases (i := i) (by omega)
      have htk : d.cases.take (i + 1) = d.cases.take i ++ [d.cases[i]'(by omega)] := by rw [List.take_add_one, List.getElem?_eq_getElem (by omega)]; rfl
      generalize hf : d.cases[i]'(by omega) = f at hd htk
      repeat (first
        | (show _ ∧ _; exact ⟨rfl, rfl, rfl⟩)
        | refine wkG ?_
        | (show OpOk _ _ _ _ _ _ _; first | refine opB (fun b => ?_) | refine opA (fun a' c' hc1 hc2 => ?_))
        | (show GJ _ _ _ _ _ _ _; first | (apply GJ.and; exact rfl; intro hg) | (apply GJ.or; exact rfl; intro hg) | refine GJ.t omAuto ?_ | refine GJ.f omAuto ?_ | refine GJ.ft omAuto ?_ | refine GJ.ff omAuto ?_))
      rw [Int.toNat_natCast]
      refine OpOk.loadRow rfl rfl (LdN.at hr4 hd) rfl ?_
      repeat (first
        | (show _ ∧ _; exact ⟨rfl, rfl, rfl⟩)
        | refine wkG ?_
        | (show OpOk _ _ _ _ _ _ _; first | refine opB (fun b => ?_) | refine opA (fun a' c' hc1 hc2 => ?_))
        | (show GJ _ _ _ _ _ _ _; first | (apply GJ.and; exact rfl; intro hg) | (apply GJ.or; exact rfl; intro hg) | refine GJ.t omAuto ?_ | refine GJ.f omAuto ?_ | refine GJ.ft omAuto ?_ | refine GJ.ff omAuto ?_))
      refine Wk.id ⟨(i + 1, _, _, _, _), ⟨rfl, ?_⟩, ?_, Sub.auto, Sup.auto⟩
      all_goals try dsimp only
      · exact ⟨by omega, by rw [htk]; simp [kidsV], by omega, by omega, by omega⟩
      · omega
    · obtain rfl : i = d.cases.length := by omega
      rw [List.take_length]
      repeat (first
        | (show _ ∧ _; exact ⟨rfl, rfl, rfl⟩)
        | refine wkG ?_
        | (show OpOk _ _ _ _ _ _ _; first | refine opB (fun b => ?_) | refine opA (fun a' c' hc1 hc2 => ?_))
        | (show GJ _ _ _ _ _ _ _; first | (apply GJ.and; exact rfl; intro hg) | (apply GJ.or; exact rfl; intro hg) | refine GJ.t omAuto ?_ | refine GJ.f omAuto ?_ | refine GJ.ft omAuto ?_ | refine GJ.ff omAuto ?_))
      have hkl : (kidsD d).length = d.kids.length + d.fields.length + d.cases.length + (if d.kind = 9 ∧ 0 ≤ d.els then 1 else 0) := by
        unfold kidsD
        split <;> simp <;> omega
      refine SeqOk.pass ?_
      repeat (first
        | (show _ ∧ _; exact ⟨rfl, rfl, rfl⟩)
        | refine wkG ?_
        | (show OpOk _ _ _ _ _ _ _; first | refine opB (fun b => ?_) | refine opA (fun a' c' hc1 hc2 => ?_))
        | (show GJ _ _ _ _ _ _ _; first | (apply GJ.and; exact rfl; intro hg) | (apply GJ.or; exact rfl; intro hg) | refine GJ.t omAuto ?_ | refine GJ.f omAuto ?_ | refine GJ.ft omAuto ?_ | refine GJ.ff omAuto ?_))
      refine Br.cases (fun he => ?_) (fun he => ?_)
      · rw [if_pos (by omega)] at hkl
        have hks : kidsV (d.kids ++ d.fields.map (·.type) ++ d.cases.map (·.type)) ++ [.int .i64 d.els] = kidsV (kidsD d) := by rw [kidsD, if_pos (by omega)]; simp [kidsV]
        repeat (first
          | (show _ ∧ _; exact ⟨rfl, rfl, rfl⟩)
          | refine wkG ?_
          | (show OpOk _ _ _ _ _ _ _; first | refine opB (fun b => ?_) | refine opA (fun a' c' hc1 hc2 => ?_))
          | (show GJ _ _ _ _ _ _ _; first | (apply GJ.and; exact rfl; intro hg) | (apply GJ.or; exact rfl; intro hg) | refine GJ.t omAuto ?_ | refine GJ.f omAuto ?_ | refine GJ.ft omAuto ?_ | refine GJ.ff omAuto ?_))
        rw [hks]
        exact Wk.outS Sup.auto (.refl _) (hk _ _ _ (by omega) (by omega) (by omega))
      · rw [if_neg (by omega)] at hkl
        have hks : kidsV (d.kids ++ d.fields.map (·.type) ++ d.cases.map (·.type)) = kidsV (kidsD d) := by rw [kidsD, if_neg (by omega)]; simp [kidsV]
        rw [hks]
        repeat (first
          | (show _ ∧ _; exact ⟨rfl, rfl, rfl⟩)
          | refine wkG ?_
          | (show OpOk _ _ _ _ _ _ _; first | refine opB (fun b => ?_) | refine opA (fun a' c' hc1 hc2 => ?_))
          | (show GJ _ _ _ _ _ _ _; first | (apply GJ.and; exact rfl; intro hg) | (apply GJ.or; exact rfl; intro hg) | refine GJ.t omAuto ?_ | refine GJ.f omAuto ?_ | refine GJ.ft omAuto ?_ | refine GJ.ff omAuto ?_))
        exact Wk.outS Sup.auto (.refl _) (hk _ _ _ (by omega) (by omega) (by omega))
theorem number_ok {d : NodeD} {a : NodeA} (hk : K (.bool (decide (d.kind = 1 ∨ d.kind = 2))) ro own) : CallOk Try.prog 19 #[.agg (nodeV d a).toArray] ro own K := by
  refine CallOk.intro (args := [_]) (rs := [_]) T_ok Try.func19 Try.call19 rfl rfl (by kernel_rfl) rfl rfl ?_
  repeat (first
    | (show _ ∧ _; exact ⟨rfl, rfl, rfl⟩)
    | refine wkG ?_
    | (show OpOk _ _ _ _ _ _ _; first | refine opB (fun b => ?_) | refine opA (fun a' c' hc1 hc2 => ?_))
    | (show GJ _ _ _ _ _ _ _; first | (apply GJ.and; exact rfl; intro hg) | (apply GJ.or; exact rfl; intro hg) | refine GJ.t omAuto ?_ | refine GJ.f omAuto ?_ | refine GJ.ft omAuto ?_ | refine GJ.ff omAuto ?_))
  have e : (decide (d.kind = 1) || decide (d.kind = 2)) = decide (d.kind = 1 ∨ d.kind = 2) := by rw [Bool.eq_iff_iff]; simp
  rw [← e] at hk
  exact Wk.outS Sup.auto (.refl _) hk
def mostD (d : NodeD) : Nat := if d.kind = 1 then mostN d.width else 18446744073709551615
theorem smost_ok {d : NodeD} {a : NodeA} (hk : K (.int .u64 (mostD d : Nat)) ro own) : CallOk Try.prog 18 #[.agg (nodeV d a).toArray] ro own K := by
  refine CallOk.intro (args := [_]) (rs := [_]) T_ok Try.func18 Try.call18 rfl rfl (by kernel_rfl) rfl rfl ?_
  repeat (first
    | (show _ ∧ _; exact ⟨rfl, rfl, rfl⟩)
    | refine wkG ?_
    | (show OpOk _ _ _ _ _ _ _; first | refine opB (fun b => ?_) | refine opA (fun a' c' hc1 hc2 => ?_))
    | (show GJ _ _ _ _ _ _ _; first | (apply GJ.and; exact rfl; intro hg) | (apply GJ.or; exact rfl; intro hg) | refine GJ.t omAuto ?_ | refine GJ.f omAuto ?_ | refine GJ.ft omAuto ?_ | refine GJ.ff omAuto ?_))
  refine Br.cases (fun he => ?_) (fun he => ?_)
  · rw [mostD, if_pos he] at hk
    repeat (first
      | (show _ ∧ _; exact ⟨rfl, rfl, rfl⟩)
      | refine wkG ?_
      | (show OpOk _ _ _ _ _ _ _; first | refine opB (fun b => ?_) | refine opA (fun a' c' hc1 hc2 => ?_))
      | (show GJ _ _ _ _ _ _ _; first | (apply GJ.and; exact rfl; intro hg) | (apply GJ.or; exact rfl; intro hg) | refine GJ.t omAuto ?_ | refine GJ.f omAuto ?_ | refine GJ.ft omAuto ?_ | refine GJ.ff omAuto ?_))
    refine most_ok ?_
    repeat (first
      | (show _ ∧ _; exact ⟨rfl, rfl, rfl⟩)
      | refine wkG ?_
      | (show OpOk _ _ _ _ _ _ _; first | refine opB (fun b => ?_) | refine opA (fun a' c' hc1 hc2 => ?_))
      | (show GJ _ _ _ _ _ _ _; first | (apply GJ.and; exact rfl; intro hg) | (apply GJ.or; exact rfl; intro hg) | refine GJ.t omAuto ?_ | refine GJ.f omAuto ?_ | refine GJ.ft omAuto ?_ | refine GJ.ff omAuto ?_))
    exact Wk.outS Sup.auto (.refl _) hk
  · rw [mostD, if_neg he] at hk
    repeat (first
      | (show _ ∧ _; exact ⟨rfl, rfl, rfl⟩)
      | refine wkG ?_
      | (show OpOk _ _ _ _ _ _ _; first | refine opB (fun b => ?_) | refine opA (fun a' c' hc1 hc2 => ?_))
      | (show GJ _ _ _ _ _ _ _; first | (apply GJ.and; exact rfl; intro hg) | (apply GJ.or; exact rfl; intro hg) | refine GJ.t omAuto ?_ | refine GJ.f omAuto ?_ | refine GJ.ft omAuto ?_ | refine GJ.ff omAuto ?_))
    exact Wk.outS Sup.auto (.refl _) hk
end
end Go.Proofs.Ytniofdklhlbphaa
