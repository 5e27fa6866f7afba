/- Texts of a walk, one behind the other. -/
import Derived.Lib.IndexMore
import Derived.Test.YtepdapdekaiioaaGreatDoorMg3
section
/- Contracts of slices: clones. -/
namespace Go.Proofs.YtepdapdekaiioaaGreatDoor
open Go Go.E
set_option linter.unusedVariables false
set_option maxRecDepth 10000
section
variable {ro : Ro} {own r : Chs} {K : Value → Ro → Chs → Prop} {g : Chunk → Chs}
theorem cloneI_ok {a : Option Addr} {n c : Nat} {cs : List Value} (hr : Rs ro a n c 1 cs) (h1 : ∀ u ∈ cs, u.oneCell' = true) (hn : n ≤ 100000000) (hk : ∀ a' c', n ≤ c' → c' ≤ maxLen → K (.slice a' n c') ro (.sl a' n c' 3 1 cs :: own)) :
    CallOk Tryz.prog 50 #[.slice a n c] ro own K := by
  have hln := hr.len
  have hle := hr.le
  refine CallOk.given (fun hsat => ?_)
  refine CallOk.intro (args := [_]) (rs := [_]) T_ok Tryz.func50 Tryz.call50 rfl rfl (by kernel_rfl) rfl rfl ?_
  repeat (first | exact endA | refine wkG ?_ | refine opB (fun b => ?_) | refine opA (fun a' c' hc1 hc2 => ?_) | (show GJ _ _ _ _ _ _ _; first | (apply GJ.and; exact rfl; intro hg) | (apply GJ.or; exact rfl; intro hg) | refine GJ.t omAuto ?_ | refine GJ.f omAuto ?_ | refine GJ.ft omAuto ?_ | refine GJ.ff omAuto ?_))
  refine Br.cases (fun hc => ?_) (fun hc => ?_)
  · subst hc
    have hn0 := hr.nilN hsat
    subst hn0
    obtain rfl : cs = [] := List.eq_nil_of_length_eq_zero (by omega)
    repeat (first | exact endA | refine wkG ?_ | refine opB (fun b => ?_) | refine opA (fun a' c' hc1 hc2 => ?_) | (show GJ _ _ _ _ _ _ _; first | (apply GJ.and; exact rfl; intro hg) | (apply GJ.or; exact rfl; intro hg) | refine GJ.t omAuto ?_ | refine GJ.f omAuto ?_ | refine GJ.ft omAuto ?_ | refine GJ.ff omAuto ?_))
    exact Wk.outS (Sup.nilc (Sup.all _)) (.refl _) (hk none 0 (Nat.le_refl _) (Nat.zero_le _))
  · repeat (first | exact endA | refine wkG ?_ | refine opB (fun b => ?_) | refine opA (fun a' c' hc1 hc2 => ?_) | (show GJ _ _ _ _ _ _ _; first | (apply GJ.and; exact rfl; intro hg) | (apply GJ.or; exact rfl; intro hg) | refine GJ.t omAuto ?_ | refine GJ.f omAuto ?_ | refine GJ.ft omAuto ?_ | refine GJ.ff omAuto ?_))
    exact Wk.id (hk _ _ (by omega) (by omega))
theorem cloneB_ok {a : Option Addr} {n c : Nat} {cs : List Value} (hr : Rs ro a n c 1 cs) (h1 : ∀ u ∈ cs, u.oneCell' = true) (hn : n ≤ 100000000) (hk : ∀ a' c', n ≤ c' → c' ≤ maxLen → K (.slice a' n c') ro (.sl a' n c' 4 1 cs :: own)) :
    CallOk Tryz.prog 80 #[.slice a n c] ro own K := by
  have hln := hr.len
  have hle := hr.le
  refine CallOk.given (fun hsat => ?_)
  refine CallOk.intro (args := [_]) (rs := [_]) T_ok Tryz.func80 Tryz.call80 rfl rfl (by kernel_rfl) rfl rfl ?_
  repeat (first | exact endA | refine wkG ?_ | refine opB (fun b => ?_) | refine opA (fun a' c' hc1 hc2 => ?_) | (show GJ _ _ _ _ _ _ _; first | (apply GJ.and; exact rfl; intro hg) | (apply GJ.or; exact rfl; intro hg) | refine GJ.t omAuto ?_ | refine GJ.f omAuto ?_ | refine GJ.ft omAuto ?_ | refine GJ.ff omAuto ?_))
  refine Br.cases (fun hc => ?_) (fun hc => ?_)
  · subst hc
    have hn0 := hr.nilN hsat
    subst hn0
    obtain rfl : cs = [] := List.eq_nil_of_length_eq_zero (by omega)
    repeat (first | exact endA | refine wkG ?_ | refine opB (fun b => ?_) | refine opA (fun a' c' hc1 hc2 => ?_) | (show GJ _ _ _ _ _ _ _; first | (apply GJ.and; exact rfl; intro hg) | (apply GJ.or; exact rfl; intro hg) | refine GJ.t omAuto ?_ | refine GJ.f omAuto ?_ | refine GJ.ft omAuto ?_ | refine GJ.ff omAuto ?_))
    exact Wk.outS (Sup.nilc (Sup.all _)) (.refl _) (hk none 0 (Nat.le_refl _) (Nat.zero_le _))
  · repeat (first | exact endA | refine wkG ?_ | refine opB (fun b => ?_) | refine opA (fun a' c' hc1 hc2 => ?_) | (show GJ _ _ _ _ _ _ _; first | (apply GJ.and; exact rfl; intro hg) | (apply GJ.or; exact rfl; intro hg) | refine GJ.t omAuto ?_ | refine GJ.f omAuto ?_ | refine GJ.ft omAuto ?_ | refine GJ.ff omAuto ?_))
    exact Wk.id (hk _ _ (by omega) (by omega))
theorem cloneF_ok {a : Option Addr} {n c : Nat} {cs : List Value} (hr : Rs ro a n c 5 cs) (h1 : ∀ u ∈ cs, u.oneCell' = true) (hn : n ≤ 100000000) (hk : ∀ a' c', n ≤ c' → c' ≤ maxLen → K (.slice a' n c') ro (.sl a' n c' 66 5 cs :: own)) :
    CallOk Tryz.prog 82 #[.slice a n c] ro own K := by
  have hln := hr.len
  have hle := hr.le
  refine CallOk.given (fun hsat => ?_)
  refine CallOk.intro (args := [_]) (rs := [_]) T_ok Tryz.func82 Tryz.call82 rfl rfl (by kernel_rfl) rfl rfl ?_
  repeat (first | exact endA | refine wkG ?_ | refine opB (fun b => ?_) | refine opA (fun a' c' hc1 hc2 => ?_) | (show GJ _ _ _ _ _ _ _; first | (apply GJ.and; exact rfl; intro hg) | (apply GJ.or; exact rfl; intro hg) | refine GJ.t omAuto ?_ | refine GJ.f omAuto ?_ | refine GJ.ft omAuto ?_ | refine GJ.ff omAuto ?_))
  refine Br.cases (fun hc => ?_) (fun hc => ?_)
  · subst hc
    have hn0 := hr.nilN hsat
    subst hn0
    obtain rfl : cs = [] := List.eq_nil_of_length_eq_zero (by omega)
    repeat (first | exact endA | refine wkG ?_ | refine opB (fun b => ?_) | refine opA (fun a' c' hc1 hc2 => ?_) | (show GJ _ _ _ _ _ _ _; first | (apply GJ.and; exact rfl; intro hg) | (apply GJ.or; exact rfl; intro hg) | refine GJ.t omAuto ?_ | refine GJ.f omAuto ?_ | refine GJ.ft omAuto ?_ | refine GJ.ff omAuto ?_))
    exact Wk.outS (Sup.nilc (Sup.all _)) (.refl _) (hk none 0 (Nat.le_refl _) (Nat.zero_le _))
  · repeat (first | exact endA | refine wkG ?_ | refine opB (fun b => ?_) | refine opA (fun a' c' hc1 hc2 => ?_) | (show GJ _ _ _ _ _ _ _; first | (apply GJ.and; exact rfl; intro hg) | (apply GJ.or; exact rfl; intro hg) | refine GJ.t omAuto ?_ | refine GJ.f omAuto ?_ | refine GJ.ft omAuto ?_ | refine GJ.ff omAuto ?_))
    exact Wk.id (hk _ _ (by omega) (by omega))
theorem cloneC_ok {a : Option Addr} {n c : Nat} {cs : List Value} (hr : Rs ro a n c 2 cs) (h1 : ∀ u ∈ cs, u.oneCell' = true) (hn : n ≤ 100000000) (hk : ∀ a' c', n ≤ c' → c' ≤ maxLen → K (.slice a' n c') ro (.sl a' n c' 97 2 cs :: own)) :
    CallOk Tryz.prog 84 #[.slice a n c] ro own K := by
  have hln := hr.len
  have hle := hr.le
  refine CallOk.given (fun hsat => ?_)
  refine CallOk.intro (args := [_]) (rs := [_]) T_ok Tryz.func84 Tryz.call84 rfl rfl (by kernel_rfl) rfl rfl ?_
  repeat (first | exact endA | refine wkG ?_ | refine opB (fun b => ?_) | refine opA (fun a' c' hc1 hc2 => ?_) | (show GJ _ _ _ _ _ _ _; first | (apply GJ.and; exact rfl; intro hg) | (apply GJ.or; exact rfl; intro hg) | refine GJ.t omAuto ?_ | refine GJ.f omAuto ?_ | refine GJ.ft omAuto ?_ | refine GJ.ff omAuto ?_))
  refine Br.cases (fun hc => ?_) (fun hc => ?_)
  · subst hc
    have hn0 := hr.nilN hsat
    subst hn0
    obtain rfl : cs = [] := List.eq_nil_of_length_eq_zero (by omega)
    repeat (first | exact endA | refine wkG ?_ | refine opB (fun b => ?_) | refine opA (fun a' c' hc1 hc2 => ?_) | (show GJ _ _ _ _ _ _ _; first | (apply GJ.and; exact rfl; intro hg) | (apply GJ.or; exact rfl; intro hg) | refine GJ.t omAuto ?_ | refine GJ.f omAuto ?_ | refine GJ.ft omAuto ?_ | refine GJ.ff omAuto ?_))
    exact Wk.outS (Sup.nilc (Sup.all _)) (.refl _) (hk none 0 (Nat.le_refl _) (Nat.zero_le _))
  · repeat (first | exact endA | refine wkG ?_ | refine opB (fun b => ?_) | refine opA (fun a' c' hc1 hc2 => ?_) | (show GJ _ _ _ _ _ _ _; first | (apply GJ.and; exact rfl; intro hg) | (apply GJ.or; exact rfl; intro hg) | refine GJ.t omAuto ?_ | refine GJ.f omAuto ?_ | refine GJ.ft omAuto ?_ | refine GJ.ff omAuto ?_))
    exact Wk.id (hk _ _ (by omega) (by omega))
theorem cloneD_ok {a : Option Addr} {n c : Nat} {cs : List Value} (hr : Rs ro a n c 2 cs) (h1 : ∀ u ∈ cs, u.oneCell' = true) (hn : n ≤ 100000000) (hk : ∀ a' c', n ≤ c' → c' ≤ maxLen → K (.slice a' n c') ro (.sl a' n c' 36 2 cs :: own)) :
    CallOk Tryz.prog 60 #[.slice a n c] ro own K := by
  have hln := hr.len
  have hle := hr.le
  refine CallOk.given (fun hsat => ?_)
  refine CallOk.intro (args := [_]) (rs := [_]) T_ok Tryz.func60 Tryz.call60 rfl rfl (by kernel_rfl) rfl rfl ?_
  repeat (first | exact endA | refine wkG ?_ | refine opB (fun b => ?_) | refine opA (fun a' c' hc1 hc2 => ?_) | (show GJ _ _ _ _ _ _ _; first | (apply GJ.and; exact rfl; intro hg) | (apply GJ.or; exact rfl; intro hg) | refine GJ.t omAuto ?_ | refine GJ.f omAuto ?_ | refine GJ.ft omAuto ?_ | refine GJ.ff omAuto ?_))
  refine Br.cases (fun hc => ?_) (fun hc => ?_)
  · subst hc
    have hn0 := hr.nilN hsat
    subst hn0
    obtain rfl : cs = [] := List.eq_nil_of_length_eq_zero (by omega)
    repeat (first | exact endA | refine wkG ?_ | refine opB (fun b => ?_) | refine opA (fun a' c' hc1 hc2 => ?_) | (show GJ _ _ _ _ _ _ _; first | (apply GJ.and; exact rfl; intro hg) | (apply GJ.or; exact rfl; intro hg) | refine GJ.t omAuto ?_ | refine GJ.f omAuto ?_ | refine GJ.ft omAuto ?_ | refine GJ.ff omAuto ?_))
    exact Wk.outS (Sup.nilc (Sup.all _)) (.refl _) (hk none 0 (Nat.le_refl _) (Nat.zero_le _))
  · repeat (first | exact endA | refine wkG ?_ | refine opB (fun b => ?_) | refine opA (fun a' c' hc1 hc2 => ?_) | (show GJ _ _ _ _ _ _ _; first | (apply GJ.and; exact rfl; intro hg) | (apply GJ.or; exact rfl; intro hg) | refine GJ.t omAuto ?_ | refine GJ.f omAuto ?_ | refine GJ.ft omAuto ?_ | refine GJ.ff omAuto ?_))
    exact Wk.id (hk _ _ (by omega) (by omega))
end
end Go.Proofs.YtepdapdekaiioaaGreatDoor
end
section
/- Specifications as data, and how they lie in memory. Contracts of Kids, Number, Most. -/
namespace Go.Proofs.YtepdapdekaiioaaGreatDoor
open Go Go.E
set_option linter.unusedVariables false
set_option maxRecDepth 10000
structure FieldD where
  name : List UInt8
  type : Int
  derive : Int
  of : List UInt8
  to : List UInt8
deriving DecidableEq
structure CaseD where
  value : Nat
  type : Int
deriving DecidableEq
structure NodeD where
  kind : Int
  width : Int
  little : Bool
  zig : Bool
  lenient : Bool
  min : Nat
  max : Nat
  text : List UInt8
  ereg : List UInt8
  emul : Nat
  eadd : Nat
  kids : List Int
  last : List Bool
  fields : List FieldD
  reg : List UInt8
  mod : Nat
  cases : List CaseD
  els : Int
deriving DecidableEq
structure DefD where
  name : List UInt8
  type : Int
deriving DecidableEq
structure SpecD where
  nodes : List NodeD
  defs : List DefD
deriving DecidableEq
def fieldV (f : FieldD) : List Value := [str f.name, .int .i64 f.type, .int .i64 f.derive, str f.of, str f.to]
def caseV (c : CaseD) : List Value := [.int .u64 (c.value : Nat), .int .i64 c.type]
def defV (d : DefD) : List Value := [str d.name, .int .i64 d.type]
/-- Where a node's slices lie. -/
structure NodeA where
  ka : Option Addr
  kc : Nat
  la : Option Addr
  lc : Nat
  fa : Option Addr
  fc : Nat
  ca : Option Addr
  cc : Nat
def nodeV (d : NodeD) (a : NodeA) : List Value :=
  [.int .i64 d.kind, .int .i64 d.width, .bool d.little, .bool d.zig, .bool d.lenient, .int .u64 (d.min : Nat), .int .u64 (d.max : Nat), str d.text, str d.ereg, .int .u64 (d.emul : Nat), .int .u64 (d.eadd : Nat),
   .slice a.ka d.kids.length a.kc, .slice a.la d.last.length a.lc, .slice a.fa d.fields.length a.fc, str d.reg, .int .u64 (d.mod : Nat), .slice a.ca d.cases.length a.cc, .int .i64 d.els]
def kidsV (l : List Int) : List Value := l.map (Value.int .i64)
def lastV (l : List Bool) : List Value := l.map Value.bool
def fieldsV (l : List FieldD) : List Value := l.flatMap fieldV
def casesV (l : List CaseD) : List Value := l.flatMap caseV
def defsV (l : List DefD) : List Value := l.flatMap defV
/-- A node's slices lie there, and last. -/
structure NodeOk (ro : Ro) (d : NodeD) (a : NodeA) : Prop where
  kids : Rs ro a.ka d.kids.length a.kc 1 (kidsV d.kids)
  last : Rs ro a.la d.last.length a.lc 1 (lastV d.last)
  fields : Rs ro a.fa d.fields.length a.fc 5 (fieldsV d.fields)
  cases : Rs ro a.ca d.cases.length a.cc 2 (casesV d.cases)
theorem fieldsV_len (l : List FieldD) : (fieldsV l).length = l.length * 5 := by induction l with
  | nil => rfl
  | cons f l ih => simp [fieldsV, fieldV] at ih ⊢; omega
theorem fieldsV_drop (l : List FieldD) : ∀ {i : Nat} (h : i < l.length), ((fieldsV l).drop (i * 5)).take 5 = fieldV l[i] := by
  induction l with
  | nil => intro i h; simp at h
  | cons f l ih =>
    intro i h
    cases i with
    | zero => rfl
    | succ i =>
      have := ih (i := i) (by simpa using h)
      rw [show (i + 1) * 5 = i * 5 + 5 by omega, Nat.add_comm]
      show List.take 5 (List.drop (5 + i * 5) (fieldV f ++ fieldsV l)) = _
      rw [← List.drop_drop, List.drop_left' (by rfl)]
      simpa using this
theorem casesV_drop (l : List CaseD) : ∀ {i : Nat} (h : i < l.length), ((casesV l).drop (i * 2)).take 2 = caseV l[i] := by
  induction l with
  | nil => intro i h; simp at h
  | cons f l ih =>
    intro i h
    cases i with
    | zero => rfl
    | succ i =>
      have := ih (i := i) (by simpa using h)
      rw [show (i + 1) * 2 = i * 2 + 2 by omega, Nat.add_comm]
      show List.take 2 (List.drop (2 + i * 2) (caseV f ++ casesV l)) = _
      rw [← List.drop_drop, List.drop_left' (by rfl)]
      simpa using this
theorem defsV_len (l : List DefD) : (defsV l).length = l.length * 2 := by induction l with
  | nil => rfl
  | cons f l ih => simp [defsV, defV] at ih ⊢; omega
theorem defsV_drop (l : List DefD) : ∀ {i : Nat} (h : i < l.length), ((defsV l).drop (i * 2)).take 2 = defV l[i] := by
  induction l with
  | nil => intro i h; simp at h
  | cons f l ih =>
    intro i h
    cases i with
    | zero => rfl
    | succ i =>
      have := ih (i := i) (by simpa using h)
      rw [show (i + 1) * 2 = i * 2 + 2 by omega, Nat.add_comm]
      show List.take 2 (List.drop (2 + i * 2) (defV f ++ defsV l)) = _
      rw [← List.drop_drop, List.drop_left' (by rfl)]
      simpa using this
theorem kidsV_one (l : List Int) : ∀ u ∈ kidsV l, u.oneCell' = true := one_int .i64 l
theorem lastV_one (l : List Bool) : ∀ u ∈ lastV l, u.oneCell' = true := fun u hu => by obtain ⟨b, _, rfl⟩ := List.mem_map.1 hu; rfl
theorem fieldsV_one (l : List FieldD) : ∀ u ∈ fieldsV l, u.oneCell' = true := fun u hu => by
  obtain ⟨f, _, hf⟩ := List.mem_flatMap.1 hu
  simp [fieldV] at hf
  rcases hf with rfl | rfl | rfl | rfl | rfl <;> rfl
theorem casesV_one (l : List CaseD) : ∀ u ∈ casesV l, u.oneCell' = true := fun u hu => by
  obtain ⟨f, _, hf⟩ := List.mem_flatMap.1 hu
  simp [caseV] at hf
  rcases hf with rfl | rfl <;> rfl
theorem defsV_one (l : List DefD) : ∀ u ∈ defsV l, u.oneCell' = true := fun u hu => by
  obtain ⟨f, _, hf⟩ := List.mem_flatMap.1 hu
  simp [defV] at hf
  rcases hf with rfl | rfl <;> rfl
/-- The types of which a type is made. -/
def kidsD (d : NodeD) : List Int := d.kids ++ d.fields.map (·.type) ++ d.cases.map (·.type) ++ (if d.kind = 9 ∧ 0 ≤ d.els then [d.els] else [])
section
variable {ro : Ro} {own r : Chs} {K : Value → Ro → Chs → Prop} {g : Chunk → Chs}
theorem kids_ok {d : NodeD} {a : NodeA} (ho : NodeOk ro d a) (hn : d.kids.length ≤ 1000000 ∧ d.fields.length ≤ 1000000 ∧ d.cases.length ≤ 1000000) (hk : ∀ a' n' c', n' = (kidsD d).length → n' ≤ c' → c' ≤ maxLen → K (.slice a' n' c') ro (.sl a' n' c' 3 1 (kidsV (kidsD d)) :: own)) :
    CallOk Tryz.prog 28 #[.agg (nodeV d a).toArray] ro own K := by
  have hr1 := ho.kids
  have hr3 := ho.fields
  have hr4 := ho.cases
  refine CallOk.intro (args := [_]) (rs := [_]) T_ok Tryz.func28 Tryz.call28 rfl rfl (by kernel_rfl) rfl rfl ?_
  repeat (first | exact endA | refine wkG ?_ | refine opB (fun b => ?_) | refine opA (fun a' c' hc1 hc2 => ?_) | (show GJ _ _ _ _ _ _ _; first | (apply GJ.and; exact rfl; intro hg) | (apply GJ.or; exact rfl; intro hg) | refine GJ.t omAuto ?_ | refine GJ.f omAuto ?_ | refine GJ.ft omAuto ?_ | refine GJ.ff omAuto ?_))
  refine cloneI_ok hr1 (kidsV_one _) (by omega) (fun a1 c1 h1 h2 => ?_)
  repeat (first | exact endA | refine wkG ?_ | refine opB (fun b => ?_) | refine opA (fun a' c' hc1 hc2 => ?_) | (show GJ _ _ _ _ _ _ _; first | (apply GJ.and; exact rfl; intro hg) | (apply GJ.or; exact rfl; intro hg) | refine GJ.t omAuto ?_ | refine GJ.f omAuto ?_ | refine GJ.ft omAuto ?_ | refine GJ.ff omAuto ?_))
  refine LoopOk.at (ι := Nat × List Value × Option Addr × Nat × Nat) Keep.auto (fun (i, cs, a1, n1, c1) => [(14, .int .i64 (i : Int)), (3, .slice a1 n1 c1)]) (fun (i, cs, a1, n1, c1) => .sl a1 n1 c1 3 1 cs :: .blk b 56 (nodeV d a) :: own) (fun (i, cs, a1, n1, c1) => i ≤ d.fields.length ∧ cs = kidsV (d.kids ++ (d.fields.take i).map (·.type)) ∧ n1 = d.kids.length + i ∧ n1 ≤ c1 ∧ c1 ≤ maxLen) (fun (i, cs, a1, n1, c1) => d.fields.length - i) (0, _, _, _, _) ?_ Sub.auto Sup.auto ?_
  · exact ⟨by omega, by simp, by omega, by omega, by omega⟩
  rintro ⟨i, cs, a1, n1, c1⟩ ⟨i1, rfl, rfl, i4, i5⟩
  dsimp only [List.cons_append, List.nil_append]
  repeat (first | exact endA | refine wkG ?_ | refine opB (fun b => ?_) | refine opA (fun a' c' hc1 hc2 => ?_) | (show GJ _ _ _ _ _ _ _; first | (apply GJ.and; exact rfl; intro hg) | (apply GJ.or; exact rfl; intro hg) | refine GJ.t omAuto ?_ | refine GJ.f omAuto ?_ | refine GJ.ft omAuto ?_ | refine GJ.ff omAuto ?_))
  refine Br.cases (fun hc => ?_) (fun hc => ?_)
  · have hd := fieldsV_drop d.fields (i := i) (by omega)
    have htk : d.fields.take (i + 1) = d.fields.take i ++ [d.fields[i]'(by omega)] := by rw [List.take_add_one, List.getElem?_eq_getElem (by omega)]; rfl
    generalize hf : d.fields[i]'(by omega) = f at hd htk
    repeat (first | exact endA | refine wkG ?_ | refine opB (fun b => ?_) | refine opA (fun a' c' hc1 hc2 => ?_) | (show GJ _ _ _ _ _ _ _; first | (apply GJ.and; exact rfl; intro hg) | (apply GJ.or; exact rfl; intro hg) | refine GJ.t omAuto ?_ | refine GJ.f omAuto ?_ | refine GJ.ft omAuto ?_ | refine GJ.ff omAuto ?_))
    rw [Int.toNat_natCast]
    refine OpOk.loadRow rfl rfl (LdN.at hr3 hd) rfl ?_
    repeat (first | exact endA | refine wkG ?_ | refine opB (fun b => ?_) | refine opA (fun a' c' hc1 hc2 => ?_) | (show GJ _ _ _ _ _ _ _; first | (apply GJ.and; exact rfl; intro hg) | (apply GJ.or; exact rfl; intro hg) | refine GJ.t omAuto ?_ | refine GJ.f omAuto ?_ | refine GJ.ft omAuto ?_ | refine GJ.ff omAuto ?_))
    refine Wk.id ⟨(i + 1, _, _, _, _), ⟨rfl, ?_⟩, ?_, Sub.auto, Sup.auto⟩
    all_goals try dsimp only
    · exact ⟨by omega, by rw [htk]; simp [kidsV], by omega, by omega, by omega⟩
    · omega
  · obtain rfl : i = d.fields.length := by omega
    rw [List.take_length]
    repeat (first | exact endA | refine wkG ?_ | refine opB (fun b => ?_) | refine opA (fun a' c' hc1 hc2 => ?_) | (show GJ _ _ _ _ _ _ _; first | (apply GJ.and; exact rfl; intro hg) | (apply GJ.or; exact rfl; intro hg) | refine GJ.t omAuto ?_ | refine GJ.f omAuto ?_ | refine GJ.ft omAuto ?_ | refine GJ.ff omAuto ?_))
    refine LoopOk.at (ι := Nat × List Value × Option Addr × Nat × Nat) Keep.auto (fun (i, cs, a1, n1, c1) => [(27, .int .i64 (i : Int)), (3, .slice a1 n1 c1)]) (fun (i, cs, a1, n1, c1) => .sl a1 n1 c1 3 1 cs :: .blk b 56 (nodeV d a) :: own) (fun (i, cs, a1, n1, c1) => i ≤ d.cases.length ∧ cs = kidsV (d.kids ++ d.fields.map (·.type) ++ (d.cases.take i).map (·.type)) ∧ n1 = d.kids.length + d.fields.length + i ∧ n1 ≤ c1 ∧ c1 ≤ maxLen) (fun (i, cs, a1, n1, c1) => d.cases.length - i) (0, _, _, _, _) ?_ Sub.auto Sup.auto ?_
    · exact ⟨by omega, by simp, by omega, by omega, by omega⟩
    rintro ⟨i, cs, a1, n1, c1⟩ ⟨i1, rfl, rfl, i4, i5⟩
    dsimp only [List.cons_append, List.nil_append]
    repeat (first | exact endA | refine wkG ?_ | refine opB (fun b => ?_) | refine opA (fun a' c' hc1 hc2 => ?_) | (show GJ _ _ _ _ _ _ _; first | (apply GJ.and; exact rfl; intro hg) | (apply GJ.or; exact rfl; intro hg) | refine GJ.t omAuto ?_ | refine GJ.f omAuto ?_ | refine GJ.ft omAuto ?_ | refine GJ.ff omAuto ?_))
    refine Br.cases (fun hc => ?_) (fun hc => ?_)
    · have hd := casesV_drop d.cases (i := i) (by omega)
      have htk : d.cases.take (i + 1) = d.cases.take i ++ [d.cases[i]'(by omega)] := by rw [List.take_add_one, List.getElem?_eq_getElem (by omega)]; rfl
      generalize hf : d.cases[i]'(by omega) = f at hd htk
      repeat (first | exact endA | refine wkG ?_ | refine opB (fun b => ?_) | refine opA (fun a' c' hc1 hc2 => ?_) | (show GJ _ _ _ _ _ _ _; first | (apply GJ.and; exact rfl; intro hg) | (apply GJ.or; exact rfl; intro hg) | refine GJ.t omAuto ?_ | refine GJ.f omAuto ?_ | refine GJ.ft omAuto ?_ | refine GJ.ff omAuto ?_))
      rw [Int.toNat_natCast]
      refine OpOk.loadRow rfl rfl (LdN.at hr4 hd) rfl ?_
      repeat (first | exact endA | refine wkG ?_ | refine opB (fun b => ?_) | refine opA (fun a' c' hc1 hc2 => ?_) | (show GJ _ _ _ _ _ _ _; first | (apply GJ.and; exact rfl; intro hg) | (apply GJ.or; exact rfl; intro hg) | refine GJ.t omAuto ?_ | refine GJ.f omAuto ?_ | refine GJ.ft omAuto ?_ | refine GJ.ff omAuto ?_))
      refine Wk.id ⟨(i + 1, _, _, _, _), ⟨rfl, ?_⟩, ?_, Sub.auto, Sup.auto⟩
      all_goals try dsimp only
      · exact ⟨by omega, by rw [htk]; simp [kidsV], by omega, by omega, by omega⟩
      · omega
    · obtain rfl : i = d.cases.length := by omega
      rw [List.take_length]
      repeat (first | exact endA | refine wkG ?_ | refine opB (fun b => ?_) | refine opA (fun a' c' hc1 hc2 => ?_) | (show GJ _ _ _ _ _ _ _; first | (apply GJ.and; exact rfl; intro hg) | (apply GJ.or; exact rfl; intro hg) | refine GJ.t omAuto ?_ | refine GJ.f omAuto ?_ | refine GJ.ft omAuto ?_ | refine GJ.ff omAuto ?_))
      have hkl : (kidsD d).length = d.kids.length + d.fields.length + d.cases.length + (if d.kind = 9 ∧ 0 ≤ d.els then 1 else 0) := by
        unfold kidsD
        split <;> simp <;> omega
      refine SeqOk.pass ?_
      repeat (first | exact endA | refine wkG ?_ | refine opB (fun b => ?_) | refine opA (fun a' c' hc1 hc2 => ?_) | (show GJ _ _ _ _ _ _ _; first | (apply GJ.and; exact rfl; intro hg) | (apply GJ.or; exact rfl; intro hg) | refine GJ.t omAuto ?_ | refine GJ.f omAuto ?_ | refine GJ.ft omAuto ?_ | refine GJ.ff omAuto ?_))
      refine Br.cases (fun he => ?_) (fun he => ?_)
      · rw [if_pos (by omega)] at hkl
        have hks : kidsV (d.kids ++ d.fields.map (·.type) ++ d.cases.map (·.type)) ++ [.int .i64 d.els] = kidsV (kidsD d) := by rw [kidsD, if_pos (by omega)]; simp [kidsV]
        repeat (first | exact endA | refine wkG ?_ | refine opB (fun b => ?_) | refine opA (fun a' c' hc1 hc2 => ?_) | (show GJ _ _ _ _ _ _ _; first | (apply GJ.and; exact rfl; intro hg) | (apply GJ.or; exact rfl; intro hg) | refine GJ.t omAuto ?_ | refine GJ.f omAuto ?_ | refine GJ.ft omAuto ?_ | refine GJ.ff omAuto ?_))
        rw [hks]
        exact Wk.outS Sup.auto (.refl _) (hk _ _ _ (by omega) (by omega) (by omega))
      · rw [if_neg (by omega)] at hkl
        have hks : kidsV (d.kids ++ d.fields.map (·.type) ++ d.cases.map (·.type)) = kidsV (kidsD d) := by rw [kidsD, if_neg (by omega)]; simp [kidsV]
        rw [hks]
        repeat (first | exact endA | refine wkG ?_ | refine opB (fun b => ?_) | refine opA (fun a' c' hc1 hc2 => ?_) | (show GJ _ _ _ _ _ _ _; first | (apply GJ.and; exact rfl; intro hg) | (apply GJ.or; exact rfl; intro hg) | refine GJ.t omAuto ?_ | refine GJ.f omAuto ?_ | refine GJ.ft omAuto ?_ | refine GJ.ff omAuto ?_))
        exact Wk.outS Sup.auto (.refl _) (hk _ _ _ (by omega) (by omega) (by omega))
theorem number_ok {d : NodeD} {a : NodeA} (hk : K (.bool (decide (d.kind = 1 ∨ d.kind = 2))) ro own) : CallOk Tryz.prog 74 #[.agg (nodeV d a).toArray] ro own K := by
  refine CallOk.intro (args := [_]) (rs := [_]) T_ok Tryz.func74 Tryz.call74 rfl rfl (by kernel_rfl) rfl rfl ?_
  repeat (first | exact endA | refine wkG ?_ | refine opB (fun b => ?_) | refine opA (fun a' c' hc1 hc2 => ?_) | (show GJ _ _ _ _ _ _ _; first | (apply GJ.and; exact rfl; intro hg) | (apply GJ.or; exact rfl; intro hg) | refine GJ.t omAuto ?_ | refine GJ.f omAuto ?_ | refine GJ.ft omAuto ?_ | refine GJ.ff omAuto ?_))
  have e : (decide (d.kind = 1) || decide (d.kind = 2)) = decide (d.kind = 1 ∨ d.kind = 2) := by rw [Bool.eq_iff_iff]; simp
  rw [← e] at hk
  exact Wk.outS Sup.auto (.refl _) hk
def mostD (d : NodeD) : Nat := if d.kind = 1 then mostN d.width else 18446744073709551615
theorem smost_ok {d : NodeD} {a : NodeA} (hk : K (.int .u64 (mostD d : Nat)) ro own) : CallOk Tryz.prog 75 #[.agg (nodeV d a).toArray] ro own K := by
  refine CallOk.intro (args := [_]) (rs := [_]) T_ok Tryz.func75 Tryz.call75 rfl rfl (by kernel_rfl) rfl rfl ?_
  repeat (first | exact endA | refine wkG ?_ | refine opB (fun b => ?_) | refine opA (fun a' c' hc1 hc2 => ?_) | (show GJ _ _ _ _ _ _ _; first | (apply GJ.and; exact rfl; intro hg) | (apply GJ.or; exact rfl; intro hg) | refine GJ.t omAuto ?_ | refine GJ.f omAuto ?_ | refine GJ.ft omAuto ?_ | refine GJ.ff omAuto ?_))
  refine Br.cases (fun he => ?_) (fun he => ?_)
  · rw [mostD, if_pos he] at hk
    repeat (first | exact endA | refine wkG ?_ | refine opB (fun b => ?_) | refine opA (fun a' c' hc1 hc2 => ?_) | (show GJ _ _ _ _ _ _ _; first | (apply GJ.and; exact rfl; intro hg) | (apply GJ.or; exact rfl; intro hg) | refine GJ.t omAuto ?_ | refine GJ.f omAuto ?_ | refine GJ.ft omAuto ?_ | refine GJ.ff omAuto ?_))
    refine most_ok ?_
    repeat (first | exact endA | refine wkG ?_ | refine opB (fun b => ?_) | refine opA (fun a' c' hc1 hc2 => ?_) | (show GJ _ _ _ _ _ _ _; first | (apply GJ.and; exact rfl; intro hg) | (apply GJ.or; exact rfl; intro hg) | refine GJ.t omAuto ?_ | refine GJ.f omAuto ?_ | refine GJ.ft omAuto ?_ | refine GJ.ff omAuto ?_))
    exact Wk.outS Sup.auto (.refl _) hk
  · rw [mostD, if_neg he] at hk
    repeat (first | exact endA | refine wkG ?_ | refine opB (fun b => ?_) | refine opA (fun a' c' hc1 hc2 => ?_) | (show GJ _ _ _ _ _ _ _; first | (apply GJ.and; exact rfl; intro hg) | (apply GJ.or; exact rfl; intro hg) | refine GJ.t omAuto ?_ | refine GJ.f omAuto ?_ | refine GJ.ft omAuto ?_ | refine GJ.ff omAuto ?_))
    exact Wk.outS Sup.auto (.refl _) hk
end
end Go.Proofs.YtepdapdekaiioaaGreatDoor
end
section
/- Contracts of spec: form. -/
namespace Go.Proofs.YtepdapdekaiioaaGreatDoor
open Go Go.E
set_option linter.unusedVariables false
set_option maxRecDepth 10000
def plainD (d : NodeD) : Int :=
  if d.kind = 1 ∧ ¬ (1 ≤ d.width ∧ d.width ≤ 8) then 1
  else if (d.kind ≠ 1 ∧ (d.width ≠ 0 ∨ d.little = true)) ∨ (d.width = 1 ∧ d.little = true) ∨ (d.kind ≠ 2 ∧ (d.zig = true ∨ d.lenient = true)) then 5
  else if (d.kind = 1 ∨ d.kind = 2) ∧ (d.max < d.min ∨ mostD d < d.max) then 1
  else if ¬ (d.kind = 1 ∨ d.kind = 2) ∧ (d.min ≠ 0 ∨ d.max ≠ 0) then 5
  else if ¬ ((d.kind = 3 ∨ d.kind = 13) ↔ d.text ≠ []) then 5
  else if (¬ (d.kind = 4 ∨ d.kind = 6 ∨ d.kind = 8) ∧ (d.ereg ≠ [] ∨ d.emul ≠ 0 ∨ d.eadd ≠ 0)) ∨ (d.ereg = [] ∧ d.emul ≠ 0) ∨ (d.ereg ≠ [] ∧ d.emul = 0) then 5
  else 0
def formD (d : NodeD) : Int :=
  if d.kind < 1 ∨ 13 < d.kind then 5
  else if ((d.kind = 6 ∨ d.kind = 7 ∨ d.kind = 8) ∧ d.kids.length ≠ 1) ∨ ((d.kind = 10 ∨ d.kind = 11) ∧ d.kids.length < 1) ∨ (¬ (d.kind = 6 ∨ d.kind = 7 ∨ d.kind = 8) ∧ ¬ (d.kind = 10 ∨ d.kind = 11) ∧ 0 < d.kids.length) then 5
  else if (d.kind = 11 ∧ d.last.length ≠ d.kids.length) ∨ (d.kind ≠ 11 ∧ 0 < d.last.length) then 5
  else if ¬ (d.kind = 5 ↔ 0 < d.fields.length) ∨ (d.kind ≠ 9 ∧ 0 < d.cases.length) then 5
  else if (d.kind = 9 ∧ (d.reg = [] ∨ d.cases.length = 0)) ∨ (d.kind ≠ 9 ∧ (d.reg ≠ [] ∨ d.mod ≠ 0 ∨ d.els ≠ 0)) then 5
  else if d.kind = 9 ∧ d.els < -1 then 5
  else if 64 < d.kids.length ∨ 64 < d.fields.length ∨ 64 < d.cases.length then 2
  else plainD d
section
variable {ro : Ro} {own r : Chs} {K : Value → Ro → Chs → Prop} {g : Chunk → Chs}
theorem plain_ok {d : NodeD} {a : NodeA} (hk : K (.int .i64 (plainD d)) ro own) : CallOk Tryz.prog 49 #[.agg (nodeV d a).toArray] ro own K := by
  refine CallOk.intro (args := [_]) (rs := [_]) T_ok Tryz.func49 Tryz.call49 rfl rfl (by kernel_rfl) rfl rfl ?_
  repeat' (first | exact endA | refine wkT ?_ | refine opB (fun b => ?_) | refine opA (fun a' c' hc1 hc2 => ?_) | (apply GJ.and; exact rfl; intro hg) | (apply GJ.or; exact rfl; intro hg) | refine SeqOk.pass ?_ | refine Br.cases (fun h => ?_) (fun h => ?_) | (show GJ _ _ _ _ _ _ _; first | refine GJ.casesT (fun h => ?_) (fun h => ?_) | refine GJ.casesF (fun h => ?_) (fun h => ?_)) | refine Bs.all ?_ | (show QOk _ _ _ _ _ _ _; refine QOk.build rfl rfl Nf.auto ?_) | (show OpOk _ _ _ _ _ _ _; refine OpOk.neqStruct rfl rfl rfl rfl (by kernel_rfl) (by kernel_rfl) (by kernel_rfl) ?_) | (show CallOk _ _ _ _ _ _; first | refine width_ok ?_ | refine number_ok ?_ | refine smost_ok ?_))
  all_goals refine Wk.outV Sup.auto hk (congrArg (Value.int .i64) ?_)
  all_goals (unfold plainD; grind (splits := 50))
theorem form_ok {d : NodeD} {a : NodeA} (hk : K (.int .i64 (formD d)) ro own) : CallOk Tryz.prog 27 #[.agg (nodeV d a).toArray] ro own K := by
  refine CallOk.intro (args := [_]) (rs := [_]) T_ok Tryz.func27 Tryz.call27 rfl rfl (by kernel_rfl) rfl rfl ?_
  repeat' (first | exact endA | refine wkT ?_ | refine opB (fun b => ?_) | refine opA (fun a' c' hc1 hc2 => ?_) | (apply GJ.and; exact rfl; intro hg) | (apply GJ.or; exact rfl; intro hg) | refine SeqOk.pass ?_ | refine Br.cases (fun h => ?_) (fun h => ?_) | (show GJ _ _ _ _ _ _ _; first | refine GJ.casesT (fun h => ?_) (fun h => ?_) | refine GJ.casesF (fun h => ?_) (fun h => ?_)) | refine Bs.all ?_ | (show QOk _ _ _ _ _ _ _; refine QOk.build rfl rfl Nf.auto ?_) | (show OpOk _ _ _ _ _ _ _; refine OpOk.neqStruct rfl rfl rfl rfl (by kernel_rfl) (by kernel_rfl) (by kernel_rfl) ?_) | (show CallOk _ _ _ _ _ _; first | refine plain_ok ?_))
  all_goals refine Wk.outV Sup.auto hk (congrArg (Value.int .i64) ?_)
  all_goals (unfold formD; grind (splits := 50))
end
end Go.Proofs.YtepdapdekaiioaaGreatDoor
end
section
/- Contracts of spec: Check, Def, Root. -/
namespace Go.Proofs.YtepdapdekaiioaaGreatDoor
open Go Go.E
set_option linter.unusedVariables false
set_option maxRecDepth 10000
/-- Where a specification's slices lie. -/
structure SpecA where
  na : Option Addr
  nc : Nat
  da : Option Addr
  dc : Nat
  xs : List NodeA
def specV (s : SpecD) (a : SpecA) : List Value := [.slice a.na s.nodes.length a.nc, .slice a.da s.defs.length a.dc]
def nodesV : List NodeD → List NodeA → List Value
  | d :: ds, a :: xs => nodeV d a ++ nodesV ds xs
  | _, _ => []
structure SpecOk (ro : Ro) (s : SpecD) (a : SpecA) : Prop where
  len : a.xs.length = s.nodes.length
  nodes : Rs ro a.na s.nodes.length a.nc 18 (nodesV s.nodes a.xs)
  each : ∀ (i : Nat) (d : NodeD) (x : NodeA), s.nodes[i]? = some d → a.xs[i]? = some x → NodeOk ro d x
  defs : Rs ro a.da s.defs.length a.dc 2 (defsV s.defs)
theorem nodesV_drop : ∀ (ds : List NodeD) (xs : List NodeA) (i : Nat) (d : NodeD) (a : NodeA), ds[i]? = some d → xs[i]? = some a → ((nodesV ds xs).drop (i * 18)).take 18 = nodeV d a := by
  intro ds
  induction ds with
  | nil => intro xs i d a h; simp at h
  | cons x ds ih =>
    intro xs i d a h1 h2
    cases xs with
    | nil => simp at h2
    | cons y xs =>
      cases i with
      | zero => simp at h1 h2; subst h1; subst h2; rfl
      | succ i =>
        rw [show (i + 1) * 18 = i * 18 + 18 by omega, Nat.add_comm]
        show List.take 18 (List.drop (18 + i * 18) (nodeV x y ++ nodesV ds xs)) = _
        rw [← List.drop_drop, List.drop_left' (by rfl)]
        exact ih xs i d a (by simpa using h1) (by simpa using h2)
/-! ### what Check answers -/
def ownAll (lim : Nat) : List Int → List Bool → Except Int (List Bool)
  | [], o => .ok o
  | k :: ks, o => if k < 0 ∨ (lim : Int) ≤ k then .error 3 else if o[k.toNat]! = true then .error 4 else ownAll lim ks (o.set k.toNat true)
def nodesAll : Nat → List NodeD → List Bool → Except Int (List Bool)
  | _, [], o => .ok o
  | i, d :: ds, o => if formD d ≠ 0 then .error (formD d) else match ownAll i (kidsD d) o with
    | .error e => .error e
    | .ok o => nodesAll (i + 1) ds o
def checkE (s : SpecD) : Except Int (List Bool) := match nodesAll 0 s.nodes (List.replicate s.nodes.length false) with
  | .error e => .error e
  | .ok o => ownAll s.nodes.length (s.defs.map (·.type)) o
def checkD (s : SpecD) : Int := if 2048 < s.nodes.length ∨ 64 < s.defs.length ∨ s.defs.length = 0 then 2 else match checkE s with
  | .error e => e
  | .ok o => if false ∈ o then 3 else 0
theorem ownAll_len {lim : Nat} : ∀ {ks : List Int} {o o' : List Bool}, ownAll lim ks o = .ok o' → o'.length = o.length
  | [], o, o', h => by simp [ownAll] at h; subst h; rfl
  | k :: ks, o, o', h => by
    unfold ownAll at h
    split at h
    · cases h
    · split at h
      · cases h
      · have := ownAll_len h
        simpa using this
theorem form_small {d : NodeD} (h : formD d = 0) : d.kids.length ≤ 64 ∧ d.fields.length ≤ 64 ∧ d.cases.length ≤ 64 := by
  unfold formD at h
  grind
section
variable {ro : Ro} {own r : Chs} {K : Value → Ro → Chs → Prop} {g : Chunk → Chs}
theorem drop_bang {α : Type} [Inhabited α] {l : List α} {j : Nat} (h : j < l.length) : l.drop j = l[j]! :: l.drop (j + 1) := by
  rw [List.drop_eq_getElem_cons h, List.getElem!_eq_getElem?_getD, List.getElem?_eq_getElem h]; rfl
theorem lastV_get {o : List Bool} {k : Nat} (h : k < o.length) : (lastV o)[k]? = some (.bool o[k]!) := getMap h
theorem lastV_set (o : List Bool) (k : Nat) (b : Bool) : (lastV o).set k (.bool b) = lastV (o.set k b) := by simp [lastV, List.map_set]
theorem containsB_ok {a : Option Addr} {n c : Nat} {o : List Bool} (hr : Rds ro own a n c 1 (lastV o)) (hk : K (.bool (decide (false ∈ o))) ro own) : CallOk Tryz.prog 29 #[.slice a n c, .bool false] ro own K := by
  have hn : o.length = n := by have := hr.n1; simpa [lastV] using this
  have hm := hr.max
  have hidx : ∀ K' : Value → Ro → Chs → Prop, (∀ i : Int, -1 ≤ i → i ≤ maxLen → (0 ≤ i ↔ false ∈ o) → K' (.int .i64 i) ro own) → CallOk Tryz.prog 51 #[.slice a n c, .bool false] ro own K' := by
    intro K' hk'
    have hle := hr.le
    unfold maxLen at hm hk'
    refine CallOk.intro (args := [_, _]) (rs := [_]) T_ok Tryz.func51 Tryz.call51 rfl rfl (by kernel_rfl) rfl rfl ?_
    repeat (first | exact endA | refine wkG ?_ | refine opB (fun b => ?_) | refine opA (fun a' c' hc1 hc2 => ?_) | (show GJ _ _ _ _ _ _ _; first | (apply GJ.and; exact rfl; intro hg) | (apply GJ.or; exact rfl; intro hg) | refine GJ.t omAuto ?_ | refine GJ.f omAuto ?_ | refine GJ.ft omAuto ?_ | refine GJ.ff omAuto ?_))
    refine LoopOk.at (ι := Nat) Keep.auto (fun i => [(8, .int .i64 (i : Int))]) (fun i => own) (fun i => i ≤ n ∧ ¬ false ∈ o.take i) (fun i => n - i) 0 ?_ Sub.auto Sup.auto ?_
    · exact ⟨by omega, by simp⟩
    rintro i ⟨i1, i2⟩
    dsimp only [List.cons_append, List.nil_append]
    repeat (first | exact endA | refine wkG ?_ | refine opB (fun b => ?_) | refine opA (fun a' c' hc1 hc2 => ?_) | (show GJ _ _ _ _ _ _ _; first | (apply GJ.and; exact rfl; intro hg) | (apply GJ.or; exact rfl; intro hg) | refine GJ.t omAuto ?_ | refine GJ.f omAuto ?_ | refine GJ.ft omAuto ?_ | refine GJ.ff omAuto ?_))
    refine Br.cases (fun hc => ?_) (fun hc => ?_)
    · have hget := lastV_get (o := o) (k := i) (by omega)
      have htk : o.take (i + 1) = o.take i ++ [o[i]!] := by rw [List.take_add_one, List.getElem?_eq_getElem (by omega), List.getElem!_eq_getElem?_getD, List.getElem?_eq_getElem (by omega)]; rfl
      have hmem : o[i]! ∈ o := by rw [List.getElem!_eq_getElem?_getD, List.getElem?_eq_getElem (by omega)]; exact List.getElem_mem _
      repeat (first | exact endA | refine wkG ?_ | refine opB (fun b => ?_) | refine opA (fun a' c' hc1 hc2 => ?_) | (show GJ _ _ _ _ _ _ _; first | (apply GJ.and; exact rfl; intro hg) | (apply GJ.or; exact rfl; intro hg) | refine GJ.t omAuto ?_ | refine GJ.f omAuto ?_ | refine GJ.ft omAuto ?_ | refine GJ.ff omAuto ?_))
      rw [Int.toNat_natCast]
      refine Br.cases (fun hd => ?_) (fun hd => ?_)
      · repeat (first | exact endA | refine wkG ?_ | refine opB (fun b => ?_) | refine opA (fun a' c' hc1 hc2 => ?_) | (show GJ _ _ _ _ _ _ _; first | (apply GJ.and; exact rfl; intro hg) | (apply GJ.or; exact rfl; intro hg) | refine GJ.t omAuto ?_ | refine GJ.f omAuto ?_ | refine GJ.ft omAuto ?_ | refine GJ.ff omAuto ?_))
        exact Wk.outS Sup.auto (.refl _) (hk' i (by omega) (by omega) ⟨fun _ => hd ▸ hmem, fun _ => by omega⟩)
      · repeat (first | exact endA | refine wkG ?_ | refine opB (fun b => ?_) | refine opA (fun a' c' hc1 hc2 => ?_) | (show GJ _ _ _ _ _ _ _; first | (apply GJ.and; exact rfl; intro hg) | (apply GJ.or; exact rfl; intro hg) | refine GJ.t omAuto ?_ | refine GJ.f omAuto ?_ | refine GJ.ft omAuto ?_ | refine GJ.ff omAuto ?_))
        refine Wk.id ⟨i + 1, ⟨rfl, ?_⟩, ?_, Sub.auto, Sup.auto⟩
        all_goals try dsimp only
        · refine ⟨by omega, fun hm2 => ?_⟩
          rw [htk, List.mem_append] at hm2
          rcases hm2 with hm2 | hm2
          · exact i2 hm2
          · exact hd (List.mem_singleton.1 hm2)
        · omega
    · obtain rfl : i = n := by omega
      rw [List.take_of_length_le (by omega)] at i2
      repeat (first | exact endA | refine wkG ?_ | refine opB (fun b => ?_) | refine opA (fun a' c' hc1 hc2 => ?_) | (show GJ _ _ _ _ _ _ _; first | (apply GJ.and; exact rfl; intro hg) | (apply GJ.or; exact rfl; intro hg) | refine GJ.t omAuto ?_ | refine GJ.f omAuto ?_ | refine GJ.ft omAuto ?_ | refine GJ.ff omAuto ?_))
      exact Wk.outS Sup.auto (.refl _) (hk' (-1) (by omega) (by omega) ⟨fun h => by omega, fun h => absurd h i2⟩)
  refine CallOk.intro (args := [_, _]) (rs := [_]) T_ok Tryz.func29 Tryz.call29 rfl rfl (by kernel_rfl) rfl rfl ?_
  repeat (first | exact endA | refine wkG ?_ | refine opB (fun b => ?_) | refine opA (fun a' c' hc1 hc2 => ?_) | (show GJ _ _ _ _ _ _ _; first | (apply GJ.and; exact rfl; intro hg) | (apply GJ.or; exact rfl; intro hg) | refine GJ.t omAuto ?_ | refine GJ.f omAuto ?_ | refine GJ.ft omAuto ?_ | refine GJ.ff omAuto ?_))
  refine hidx _ (fun i h1 h2 h3 => ?_)
  repeat (first | exact endA | refine wkG ?_ | refine opB (fun b => ?_) | refine opA (fun a' c' hc1 hc2 => ?_) | (show GJ _ _ _ _ _ _ _; first | (apply GJ.and; exact rfl; intro hg) | (apply GJ.or; exact rfl; intro hg) | refine GJ.t omAuto ?_ | refine GJ.f omAuto ?_ | refine GJ.ft omAuto ?_ | refine GJ.ff omAuto ?_))
  refine Wk.outV Sup.auto hk (congrArg Value.bool ?_)
  exact decide_eq_decide.2 h3.symm
set_option maxHeartbeats 1000000 in
theorem check_ok {s : SpecD} {a : SpecA} (ho : SpecOk ro s a) (hk : K (.int .i64 (checkD s)) ro own) : CallOk Tryz.prog 11 #[.agg (specV s a).toArray] ro own K := by
  have hr1 := ho.nodes
  have hr2 := ho.defs
  have hlen := ho.len
  have hm1 := hr1.max
  have hm2 := hr2.max
  have hle1 := hr1.le
  have hle2 := hr2.le
  unfold maxLen at hm1 hm2
  refine CallOk.intro (args := [_]) (rs := [_]) T_ok Tryz.func11 Tryz.call11 rfl rfl (by kernel_rfl) rfl rfl ?_
  repeat (first | exact endA | refine wkG ?_ | refine opB (fun b => ?_) | refine opA (fun a' c' hc1 hc2 => ?_) | (show GJ _ _ _ _ _ _ _; first | (apply GJ.and; exact rfl; intro hg) | (apply GJ.or; exact rfl; intro hg) | refine GJ.t omAuto ?_ | refine GJ.f omAuto ?_ | refine GJ.ft omAuto ?_ | refine GJ.ff omAuto ?_))
  refine Br.cases (fun hc => ?_) (fun hc => ?_)
  · have e : checkD s = 2 := by unfold checkD; rw [if_pos (by omega)]
    rw [e] at hk
    repeat (first | exact endA | refine wkG ?_ | refine opB (fun b => ?_) | refine opA (fun a' c' hc1 hc2 => ?_) | (show GJ _ _ _ _ _ _ _; first | (apply GJ.and; exact rfl; intro hg) | (apply GJ.or; exact rfl; intro hg) | refine GJ.t omAuto ?_ | refine GJ.f omAuto ?_ | refine GJ.ft omAuto ?_ | refine GJ.ff omAuto ?_))
    exact Wk.outS Sup.auto (.refl _) hk
  have e : checkD s = match checkE s with
    | .error e => e
    | .ok o => if false ∈ o then 3 else 0 := by unfold checkD; rw [if_neg (by omega)]
  repeat (first | exact endA | refine wkG ?_ | refine opB (fun b => ?_) | refine opA (fun a' c' hc1 hc2 => ?_) | (show GJ _ _ _ _ _ _ _; first | (apply GJ.and; exact rfl; intro hg) | (apply GJ.or; exact rfl; intro hg) | refine GJ.t omAuto ?_ | refine GJ.f omAuto ?_ | refine GJ.ft omAuto ?_ | refine GJ.ff omAuto ?_))
  rename_i b0
  refine LoopOk.at (ι := Nat × List Value × List Bool) Keep.auto (fun (i, cs, o) => [(34, .int .i64 (i : Int))]) (fun (i, cs, o) => .sl (some ⟨b, 0, none⟩) s.nodes.length s.nodes.length 4 1 cs :: .blk b0 26 (specV s a) :: own) (fun (i, cs, o) => i ≤ s.nodes.length ∧ o.length = s.nodes.length ∧ cs = lastV o ∧ nodesAll i (s.nodes.drop i) o = nodesAll 0 s.nodes (List.replicate s.nodes.length false)) (fun (i, cs, o) => s.nodes.length - i) (0, _, List.replicate s.nodes.length false) ?_ Sub.auto Sup.auto ?_
  · exact ⟨by omega, by simp, by simp [lastV], rfl⟩
  rintro ⟨i, cs, o⟩ ⟨i1, i2, rfl, i3⟩
  dsimp only [List.cons_append, List.nil_append]
  repeat (first | exact endA | refine wkG ?_ | refine opB (fun b => ?_) | refine opA (fun a' c' hc1 hc2 => ?_) | (show GJ _ _ _ _ _ _ _; first | (apply GJ.and; exact rfl; intro hg) | (apply GJ.or; exact rfl; intro hg) | refine GJ.t omAuto ?_ | refine GJ.f omAuto ?_ | refine GJ.ft omAuto ?_ | refine GJ.ff omAuto ?_))
  refine Br.cases (fun hd => ?_) (fun hd => ?_)
  · obtain ⟨d, hd1⟩ : ∃ d, s.nodes[i]? = some d := ⟨_, List.getElem?_eq_getElem (by omega)⟩
    obtain ⟨x, hx1⟩ : ∃ x, a.xs[i]? = some x := ⟨_, List.getElem?_eq_getElem (by omega)⟩
    have hno := ho.each i d x hd1 hx1
    have hdrop := nodesV_drop _ _ _ _ _ hd1 hx1
    rw [List.drop_eq_getElem_cons (by omega), (List.getElem?_eq_some_iff.1 hd1).2, nodesAll] at i3
    repeat (first | exact endA | refine wkG ?_ | refine opB (fun b => ?_) | refine opA (fun a' c' hc1 hc2 => ?_) | (show GJ _ _ _ _ _ _ _; first | (apply GJ.and; exact rfl; intro hg) | (apply GJ.or; exact rfl; intro hg) | refine GJ.t omAuto ?_ | refine GJ.f omAuto ?_ | refine GJ.ft omAuto ?_ | refine GJ.ff omAuto ?_))
    rw [Int.toNat_natCast]
    refine OpOk.loadRow rfl rfl (LdN.at hr1 hdrop) rfl ?_
    repeat (first | exact endA | refine wkG ?_ | refine opB (fun b => ?_) | refine opA (fun a' c' hc1 hc2 => ?_) | (show GJ _ _ _ _ _ _ _; first | (apply GJ.and; exact rfl; intro hg) | (apply GJ.or; exact rfl; intro hg) | refine GJ.t omAuto ?_ | refine GJ.f omAuto ?_ | refine GJ.ft omAuto ?_ | refine GJ.ff omAuto ?_))
    refine form_ok ?_
    repeat (first | exact endA | refine wkG ?_ | refine opB (fun b => ?_) | refine opA (fun a' c' hc1 hc2 => ?_) | (show GJ _ _ _ _ _ _ _; first | (apply GJ.and; exact rfl; intro hg) | (apply GJ.or; exact rfl; intro hg) | refine GJ.t omAuto ?_ | refine GJ.f omAuto ?_ | refine GJ.ft omAuto ?_ | refine GJ.ff omAuto ?_))
    refine Br.cases (fun hf => ?_) (fun hf => ?_)
    · rw [if_pos hf] at i3
      have e2 : checkD s = formD d := by rw [e, checkE, ← i3]
      rw [e2] at hk
      repeat (first | exact endA | refine wkG ?_ | refine opB (fun b => ?_) | refine opA (fun a' c' hc1 hc2 => ?_) | (show GJ _ _ _ _ _ _ _; first | (apply GJ.and; exact rfl; intro hg) | (apply GJ.or; exact rfl; intro hg) | refine GJ.t omAuto ?_ | refine GJ.f omAuto ?_ | refine GJ.ft omAuto ?_ | refine GJ.ff omAuto ?_))
      exact Wk.outS Sup.auto (.refl _) hk
    · rw [if_neg hf] at i3
      have hsm := form_small (d := d) (by omega)
      repeat (first | exact endA | refine wkG ?_ | refine opB (fun b => ?_) | refine opA (fun a' c' hc1 hc2 => ?_) | (show GJ _ _ _ _ _ _ _; first | (apply GJ.and; exact rfl; intro hg) | (apply GJ.or; exact rfl; intro hg) | refine GJ.t omAuto ?_ | refine GJ.f omAuto ?_ | refine GJ.ft omAuto ?_ | refine GJ.ff omAuto ?_))
      refine kids_ok hno (by omega) (fun a' n' c' h1 h2 h3 => ?_)
      generalize hks : kidsD d = ks at *
      repeat (first | exact endA | refine wkG ?_ | refine opB (fun b => ?_) | refine opA (fun a' c' hc1 hc2 => ?_) | (show GJ _ _ _ _ _ _ _; first | (apply GJ.and; exact rfl; intro hg) | (apply GJ.or; exact rfl; intro hg) | refine GJ.t omAuto ?_ | refine GJ.f omAuto ?_ | refine GJ.ft omAuto ?_ | refine GJ.ff omAuto ?_))
      rename_i b1
      refine LoopOk.at (ι := Nat × List Bool) Keep.auto (fun (j, o2) => [(47, .int .i64 (j : Int))]) (fun (j, o2) => .sl a' n' c' 3 1 (kidsV ks) :: .blk b 56 (nodeV d x) :: .sl (some ⟨b1, 0, none⟩) s.nodes.length s.nodes.length 4 1 (lastV o2) :: .blk b0 26 (specV s a) :: own) (fun (j, o2) => j ≤ n' ∧ o2.length = s.nodes.length ∧ ownAll i (ks.drop j) o2 = ownAll i ks o) (fun (j, o2) => n' - j) (0, o) ?_ Sub.auto Sup.auto ?_
      · exact ⟨by omega, i2, rfl⟩
      rintro ⟨j, o2⟩ ⟨j1, j2, j3⟩
      dsimp only [List.cons_append, List.nil_append]
      repeat (first | exact endA | refine wkG ?_ | refine opB (fun b => ?_) | refine opA (fun a' c' hc1 hc2 => ?_) | (show GJ _ _ _ _ _ _ _; first | (apply GJ.and; exact rfl; intro hg) | (apply GJ.or; exact rfl; intro hg) | refine GJ.t omAuto ?_ | refine GJ.f omAuto ?_ | refine GJ.ft omAuto ?_ | refine GJ.ff omAuto ?_))
      refine Br.cases (fun hg => ?_) (fun hg => ?_)
      · rw [drop_bang (by omega), ownAll] at j3
        repeat (first | exact endA | refine wkG ?_ | refine opB (fun b => ?_) | refine opA (fun a' c' hc1 hc2 => ?_) | (show GJ _ _ _ _ _ _ _; first | (apply GJ.and; exact rfl; intro hg) | (apply GJ.or; exact rfl; intro hg) | refine GJ.t omAuto ?_ | refine GJ.f omAuto ?_ | refine GJ.ft omAuto ?_ | refine GJ.ff omAuto ?_))
        rw [Int.toNat_natCast]
        generalize ks[j]! = k at j3
        refine Br.cases (fun hh => ?_) (fun hh => ?_)
        · rw [if_pos (by omega)] at j3
          rw [← j3] at i3
          have e2 : checkD s = 3 := by rw [e, checkE, ← i3]
          rw [e2] at hk
          repeat (first | exact endA | refine wkG ?_ | refine opB (fun b => ?_) | refine opA (fun a' c' hc1 hc2 => ?_) | (show GJ _ _ _ _ _ _ _; first | (apply GJ.and; exact rfl; intro hg) | (apply GJ.or; exact rfl; intro hg) | refine GJ.t omAuto ?_ | refine GJ.f omAuto ?_ | refine GJ.ft omAuto ?_ | refine GJ.ff omAuto ?_))
          exact Wk.outS Sup.auto (.refl _) hk
        · rw [if_neg (by omega)] at j3
          repeat (first | exact endA | refine wkG ?_ | refine opB (fun b => ?_) | refine opA (fun a' c' hc1 hc2 => ?_) | (show GJ _ _ _ _ _ _ _; first | (apply GJ.and; exact rfl; intro hg) | (apply GJ.or; exact rfl; intro hg) | refine GJ.t omAuto ?_ | refine GJ.f omAuto ?_ | refine GJ.ft omAuto ?_ | refine GJ.ff omAuto ?_))
          refine Br.cases (fun hi => ?_) (fun hi => ?_)
          · rw [if_pos hi] at j3
            rw [← j3] at i3
            have e2 : checkD s = 4 := by rw [e, checkE, ← i3]
            rw [e2] at hk
            repeat (first | exact endA | refine wkG ?_ | refine opB (fun b => ?_) | refine opA (fun a' c' hc1 hc2 => ?_) | (show GJ _ _ _ _ _ _ _; first | (apply GJ.and; exact rfl; intro hg) | (apply GJ.or; exact rfl; intro hg) | refine GJ.t omAuto ?_ | refine GJ.f omAuto ?_ | refine GJ.ft omAuto ?_ | refine GJ.ff omAuto ?_))
            exact Wk.outS Sup.auto (.refl _) hk
          · rw [if_neg hi] at j3
            repeat (first | exact endA | refine wkG ?_ | refine opB (fun b => ?_) | refine opA (fun a' c' hc1 hc2 => ?_) | (show GJ _ _ _ _ _ _ _; first | (apply GJ.and; exact rfl; intro hg) | (apply GJ.or; exact rfl; intro hg) | refine GJ.t omAuto ?_ | refine GJ.f omAuto ?_ | refine GJ.ft omAuto ?_ | refine GJ.ff omAuto ?_))
            refine OpOk.storeSl rfl rfl rfl rfl (by simp [lastV]; omega) ?_
            rw [lastV_set]
            have h3' := h3
            unfold maxLen at h3'
            repeat (first | exact endA | refine wkG ?_ | refine opB (fun b => ?_) | refine opA (fun a' c' hc1 hc2 => ?_) | (show GJ _ _ _ _ _ _ _; first | (apply GJ.and; exact rfl; intro hg) | (apply GJ.or; exact rfl; intro hg) | refine GJ.t omAuto ?_ | refine GJ.f omAuto ?_ | refine GJ.ft omAuto ?_ | refine GJ.ff omAuto ?_))
            refine Wk.id ⟨(j + 1, _), ⟨rfl, ?_⟩, ?_, Sub.auto, Sup.auto⟩
            all_goals try dsimp only
            · exact ⟨by omega, by simp [j2], j3⟩
            · omega
      · obtain rfl : j = n' := by omega
        rw [List.drop_of_length_le (by omega), ownAll] at j3
        rw [← j3] at i3
        repeat (first | exact endA | refine wkG ?_ | refine opB (fun b => ?_) | refine opA (fun a' c' hc1 hc2 => ?_) | (show GJ _ _ _ _ _ _ _; first | (apply GJ.and; exact rfl; intro hg) | (apply GJ.or; exact rfl; intro hg) | refine GJ.t omAuto ?_ | refine GJ.f omAuto ?_ | refine GJ.ft omAuto ?_ | refine GJ.ff omAuto ?_))
        refine Wk.id ⟨(i + 1, _, o2), ⟨rfl, ?_⟩, ?_, Sub.auto, Sup.auto⟩
        all_goals try dsimp only
        · exact ⟨by omega, j2, rfl, i3⟩
        · omega
  · obtain rfl : i = s.nodes.length := by omega
    rw [List.drop_length, nodesAll] at i3
    have e3 : checkD s = match ownAll s.nodes.length (s.defs.map (·.type)) o with
      | .error e => e
      | .ok o => if false ∈ o then 3 else 0 := by rw [e, checkE, ← i3]
    generalize hts : s.defs.map (·.type) = ts at e3
    repeat (first | exact endA | refine wkG ?_ | refine opB (fun b => ?_) | refine opA (fun a' c' hc1 hc2 => ?_) | (show GJ _ _ _ _ _ _ _; first | (apply GJ.and; exact rfl; intro hg) | (apply GJ.or; exact rfl; intro hg) | refine GJ.t omAuto ?_ | refine GJ.f omAuto ?_ | refine GJ.ft omAuto ?_ | refine GJ.ff omAuto ?_))
    refine LoopOk.at (ι := Nat × List Bool) Keep.auto (fun (j, o2) => [(70, .int .i64 (j : Int))]) (fun (j, o2) => .sl (some ⟨b, 0, none⟩) s.nodes.length s.nodes.length 4 1 (lastV o2) :: .blk b0 26 (specV s a) :: own) (fun (j, o2) => j ≤ s.defs.length ∧ o2.length = s.nodes.length ∧ ownAll s.nodes.length (ts.drop j) o2 = ownAll s.nodes.length ts o) (fun (j, o2) => s.defs.length - j) (0, o) ?_ Sub.auto Sup.auto ?_
    · exact ⟨by omega, i2, rfl⟩
    rintro ⟨j, o2⟩ ⟨j1, j2, j3⟩
    dsimp only [List.cons_append, List.nil_append]
    have htl : ts.length = s.defs.length := by rw [← hts]; simp
    repeat (first | exact endA | refine wkG ?_ | refine opB (fun b => ?_) | refine opA (fun a' c' hc1 hc2 => ?_) | (show GJ _ _ _ _ _ _ _; first | (apply GJ.and; exact rfl; intro hg) | (apply GJ.or; exact rfl; intro hg) | refine GJ.t omAuto ?_ | refine GJ.f omAuto ?_ | refine GJ.ft omAuto ?_ | refine GJ.ff omAuto ?_))
    refine Br.cases (fun hg => ?_) (fun hg => ?_)
    · have hd := defsV_drop s.defs (i := j) (by omega)
      have hty : ts[j]! = (s.defs[j]'(by omega)).type := by
        subst hts
        rw [List.getElem!_eq_getElem?_getD, List.getElem?_map, List.getElem?_eq_getElem (show j < s.defs.length by omega)]; rfl
      rw [drop_bang (by omega), ownAll, hty] at j3
      generalize s.defs[j]'(by omega) = df at hd j3
      repeat (first | exact endA | refine wkG ?_ | refine opB (fun b => ?_) | refine opA (fun a' c' hc1 hc2 => ?_) | (show GJ _ _ _ _ _ _ _; first | (apply GJ.and; exact rfl; intro hg) | (apply GJ.or; exact rfl; intro hg) | refine GJ.t omAuto ?_ | refine GJ.f omAuto ?_ | refine GJ.ft omAuto ?_ | refine GJ.ff omAuto ?_))
      rw [Int.toNat_natCast]
      refine OpOk.loadRow rfl rfl (LdN.at hr2 hd) rfl ?_
      repeat (first | exact endA | refine wkG ?_ | refine opB (fun b => ?_) | refine opA (fun a' c' hc1 hc2 => ?_) | (show GJ _ _ _ _ _ _ _; first | (apply GJ.and; exact rfl; intro hg) | (apply GJ.or; exact rfl; intro hg) | refine GJ.t omAuto ?_ | refine GJ.f omAuto ?_ | refine GJ.ft omAuto ?_ | refine GJ.ff omAuto ?_))
      refine Br.cases (fun hh => ?_) (fun hh => ?_)
      · rw [if_pos (by omega)] at j3
        have e2 : checkD s = 3 := by rw [e3, ← j3]
        rw [e2] at hk
        repeat (first | exact endA | refine wkG ?_ | refine opB (fun b => ?_) | refine opA (fun a' c' hc1 hc2 => ?_) | (show GJ _ _ _ _ _ _ _; first | (apply GJ.and; exact rfl; intro hg) | (apply GJ.or; exact rfl; intro hg) | refine GJ.t omAuto ?_ | refine GJ.f omAuto ?_ | refine GJ.ft omAuto ?_ | refine GJ.ff omAuto ?_))
        exact Wk.outS Sup.auto (.refl _) hk
      · rw [if_neg (by omega)] at j3
        repeat (first | exact endA | refine wkG ?_ | refine opB (fun b => ?_) | refine opA (fun a' c' hc1 hc2 => ?_) | (show GJ _ _ _ _ _ _ _; first | (apply GJ.and; exact rfl; intro hg) | (apply GJ.or; exact rfl; intro hg) | refine GJ.t omAuto ?_ | refine GJ.f omAuto ?_ | refine GJ.ft omAuto ?_ | refine GJ.ff omAuto ?_))
        refine Br.cases (fun hi => ?_) (fun hi => ?_)
        · rw [if_pos hi] at j3
          have e2 : checkD s = 4 := by rw [e3, ← j3]
          rw [e2] at hk
          repeat (first | exact endA | refine wkG ?_ | refine opB (fun b => ?_) | refine opA (fun a' c' hc1 hc2 => ?_) | (show GJ _ _ _ _ _ _ _; first | (apply GJ.and; exact rfl; intro hg) | (apply GJ.or; exact rfl; intro hg) | refine GJ.t omAuto ?_ | refine GJ.f omAuto ?_ | refine GJ.ft omAuto ?_ | refine GJ.ff omAuto ?_))
          exact Wk.outS Sup.auto (.refl _) hk
        · rw [if_neg hi] at j3
          repeat (first | exact endA | refine wkG ?_ | refine opB (fun b => ?_) | refine opA (fun a' c' hc1 hc2 => ?_) | (show GJ _ _ _ _ _ _ _; first | (apply GJ.and; exact rfl; intro hg) | (apply GJ.or; exact rfl; intro hg) | refine GJ.t omAuto ?_ | refine GJ.f omAuto ?_ | refine GJ.ft omAuto ?_ | refine GJ.ff omAuto ?_))
          refine OpOk.storeSl rfl rfl rfl rfl (by simp [lastV]; omega) ?_
          rw [lastV_set]
          repeat (first | exact endA | refine wkG ?_ | refine opB (fun b => ?_) | refine opA (fun a' c' hc1 hc2 => ?_) | (show GJ _ _ _ _ _ _ _; first | (apply GJ.and; exact rfl; intro hg) | (apply GJ.or; exact rfl; intro hg) | refine GJ.t omAuto ?_ | refine GJ.f omAuto ?_ | refine GJ.ft omAuto ?_ | refine GJ.ff omAuto ?_))
          refine Wk.id ⟨(j + 1, _), ⟨rfl, ?_⟩, ?_, Sub.auto, Sup.auto⟩
          all_goals try dsimp only
          · exact ⟨by omega, by simp [j2], j3⟩
          · omega
    · obtain rfl : j = s.defs.length := by omega
      rw [List.drop_of_length_le (by omega), ownAll] at j3
      rw [← j3] at e3
      have e4 : checkD s = if false ∈ o2 then 3 else 0 := e3
      repeat (first | exact endA | refine wkG ?_ | refine opB (fun b => ?_) | refine opA (fun a' c' hc1 hc2 => ?_) | (show GJ _ _ _ _ _ _ _; first | (apply GJ.and; exact rfl; intro hg) | (apply GJ.or; exact rfl; intro hg) | refine GJ.t omAuto ?_ | refine GJ.f omAuto ?_ | refine GJ.ft omAuto ?_ | refine GJ.ff omAuto ?_))
      refine containsB_ok (o := o2) (Rds.hasSl (by omega) (by unfold maxLen; omega) (by simp [lastV, j2])) ?_
      repeat (first | exact endA | refine wkG ?_ | refine opB (fun b => ?_) | refine opA (fun a' c' hc1 hc2 => ?_) | (show GJ _ _ _ _ _ _ _; first | (apply GJ.and; exact rfl; intro hg) | (apply GJ.or; exact rfl; intro hg) | refine GJ.t omAuto ?_ | refine GJ.f omAuto ?_ | refine GJ.ft omAuto ?_ | refine GJ.ff omAuto ?_))
      refine Br.cases (fun hi => ?_) (fun hi => ?_)
      · rw [e4, if_pos hi] at hk
        repeat (first | exact endA | refine wkG ?_ | refine opB (fun b => ?_) | refine opA (fun a' c' hc1 hc2 => ?_) | (show GJ _ _ _ _ _ _ _; first | (apply GJ.and; exact rfl; intro hg) | (apply GJ.or; exact rfl; intro hg) | refine GJ.t omAuto ?_ | refine GJ.f omAuto ?_ | refine GJ.ft omAuto ?_ | refine GJ.ff omAuto ?_))
        exact Wk.outS Sup.auto (.refl _) hk
      · rw [e4, if_neg hi] at hk
        repeat (first | exact endA | refine wkG ?_ | refine opB (fun b => ?_) | refine opA (fun a' c' hc1 hc2 => ?_) | (show GJ _ _ _ _ _ _ _; first | (apply GJ.and; exact rfl; intro hg) | (apply GJ.or; exact rfl; intro hg) | refine GJ.t omAuto ?_ | refine GJ.f omAuto ?_ | refine GJ.ft omAuto ?_ | refine GJ.ff omAuto ?_))
        exact Wk.outS Sup.auto (.refl _) hk
def rootD (s : SpecD) : Int := (s.defs.getLast?.map (·.type)).getD (-1)
theorem root_ok {s : SpecD} {a : SpecA} (ho : SpecOk ro s a) (hk : K (.int .i64 (rootD s)) ro own) : CallOk Tryz.prog 19 #[.agg (specV s a).toArray] ro own K := by
  have hr2 := ho.defs
  have hm2 := hr2.max
  have hle2 := hr2.le
  unfold maxLen at hm2
  refine CallOk.intro (args := [_]) (rs := [_]) T_ok Tryz.func19 Tryz.call19 rfl rfl (by kernel_rfl) rfl rfl ?_
  repeat (first | exact endA | refine wkG ?_ | refine opB (fun b => ?_) | refine opA (fun a' c' hc1 hc2 => ?_) | (show GJ _ _ _ _ _ _ _; first | (apply GJ.and; exact rfl; intro hg) | (apply GJ.or; exact rfl; intro hg) | refine GJ.t omAuto ?_ | refine GJ.f omAuto ?_ | refine GJ.ft omAuto ?_ | refine GJ.ff omAuto ?_))
  refine Br.cases (fun hg => ?_) (fun hg => ?_)
  · have e : s.defs = [] := List.eq_nil_of_length_eq_zero (by omega)
    rw [rootD, e] at hk
    repeat (first | exact endA | refine wkG ?_ | refine opB (fun b => ?_) | refine opA (fun a' c' hc1 hc2 => ?_) | (show GJ _ _ _ _ _ _ _; first | (apply GJ.and; exact rfl; intro hg) | (apply GJ.or; exact rfl; intro hg) | refine GJ.t omAuto ?_ | refine GJ.f omAuto ?_ | refine GJ.ft omAuto ?_ | refine GJ.ff omAuto ?_))
    exact Wk.outS Sup.auto (.refl _) hk
  · obtain ⟨n, hn⟩ : ∃ n, s.defs.length = n + 1 := ⟨s.defs.length - 1, by omega⟩
    have hd := defsV_drop s.defs (i := n) (by omega)
    have hl : rootD s = (s.defs[n]'(by omega)).type := by
      unfold rootD
      rw [List.getLast?_eq_getElem?, show s.defs.length - 1 = n by omega, List.getElem?_eq_getElem (show n < s.defs.length by omega)]
      rfl
    rw [hl] at hk
    generalize s.defs[n]'(by omega) = df at hd hk
    have hcell : (defsV s.defs)[n * 2 + 1]? = some (.int .i64 df.type) := by
      have := congrArg (·[1]?) hd
      simpa [defV, List.getElem?_take, List.getElem?_drop] using this
    repeat (first | exact endA | refine wkG ?_ | refine opB (fun b => ?_) | refine opA (fun a' c' hc1 hc2 => ?_) | (show GJ _ _ _ _ _ _ _; first | (apply GJ.and; exact rfl; intro hg) | (apply GJ.or; exact rfl; intro hg) | refine GJ.t omAuto ?_ | refine GJ.f omAuto ?_ | refine GJ.ft omAuto ?_ | refine GJ.ff omAuto ?_))
    rw [show ((s.defs.length : Int) - 1).toNat * 2 = n * 2 by omega, Nat.add_assoc]
    refine OpOk.load rfl rfl (Ld.rs hr2 hcell) ?_
    repeat (first | exact endA | refine wkG ?_ | refine opB (fun b => ?_) | refine opA (fun a' c' hc1 hc2 => ?_) | (show GJ _ _ _ _ _ _ _; first | (apply GJ.and; exact rfl; intro hg) | (apply GJ.or; exact rfl; intro hg) | refine GJ.t omAuto ?_ | refine GJ.f omAuto ?_ | refine GJ.ft omAuto ?_ | refine GJ.ff omAuto ?_))
    exact Wk.outS Sup.auto (.refl _) hk
end
end Go.Proofs.YtepdapdekaiioaaGreatDoor
end
section
/- The reader of specifications as functions: tokens to a specification, or to what is wrong and at which token. No program in sight. -/
namespace Go.Proofs.YtepdapdekaiioaaGreatDoor
open Go Go.E
set_option linter.unusedVariables false
set_option linter.unusedSectionVars false
set_option linter.unusedSimpArgs false
set_option maxRecDepth 10000
def wordsB : List UInt8 := [32, 118, 97, 114, 105, 110, 116, 32, 122, 105, 103, 122, 97, 103, 32, 108, 101, 110, 105, 101, 110, 116, 32, 98, 121, 116, 101, 115, 32, 116, 105, 109, 101, 115, 32, 109, 97, 110, 121, 32, 119, 105, 116, 104, 105, 110, 32, 115, 119, 105, 116, 99, 104, 32, 101, 108, 115, 101, 32, 111, 110, 101, 111, 102, 32, 99, 104, 97, 105, 110, 32, 108, 97, 115, 116, 32, 101, 109, 112, 116, 121, 32, 115, 105, 122, 101, 32, 99, 111, 117, 110, 116, 32, 99, 114, 99, 32]
/-- The names of numbers of so many bytes. -/
def fixedL : List (List UInt8 × Nat × Bool) := [([117, 56], 1, false), ([117, 49, 54, 98, 101], 2, false), ([117, 49, 54, 108, 101], 2, true), ([117, 50, 52, 98, 101], 3, false), ([117, 50, 52, 108, 101], 3, true), ([117, 51, 50, 98, 101], 4, false), ([117, 51, 50, 108, 101], 4, true), ([117, 52, 48, 98, 101], 5, false), ([117, 52, 48, 108, 101], 5, true), ([117, 52, 56, 98, 101], 6, false), ([117, 52, 56, 108, 101], 6, true), ([117, 53, 54, 98, 101], 7, false), ([117, 53, 54, 108, 101], 7, true), ([117, 54, 52, 98, 101], 8, false), ([117, 54, 52, 108, 101], 8, true)]
def fixedD (t : List UInt8) : Option (Nat × Bool) := (fixedL.find? fun x => decide (x.1 = t)).map (·.2)
def wordD (t : List UInt8) : Bool := Lib.contains wordsB (32 :: (t ++ [32])) || (fixedD t).isSome
def node0 : NodeD := ⟨0, 0, false, false, false, 0, 0, [], [], 0, 0, [], [], [], [], 0, [], 0⟩
structure PS where
  at' : Nat
  nodes : List NodeD
  defs : List DefD
  code : Nat
  fat : Nat
def endT : TokD := ⟨5, 0, []⟩
/-- What is read: the tokens by their places, the last one, and how many types and names there may be. -/
structure PE where
  tok : Nat → TokD
  last : TokD
  lim : Nat
  limD : Nat
def listE (l : List TokD) : PE := ⟨fun i => l[i]?.getD endT, l.getLast?.getD endT, 2048, 64⟩
section
variable (wideP : List UInt8 → Nat × Nat) (E : PE)
def peekP (s : PS) : TokD := if s.code = 0 then E.tok s.at' else E.last
def wrongP (e : Nat) (s : PS) : PS := if s.code = 0 then { s with code := e, fat := s.at' } else s
def isP (k : Nat) (t : List UInt8) (s : PS) : Bool := decide ((peekP E s).kind = k) && decide ((peekP E s).text = t)
def stepP (s : PS) : PS := { s with at' := s.at' + 1 }
def backP (s : PS) : PS := { s with at' := s.at' - 1 }
def eatP (k : Nat) (t : List UInt8) (s : PS) : Bool × PS := if isP E k t s then (true, stepP s) else (false, s)
def signP (t : List UInt8) (s : PS) : Bool × PS := eatP E 4 t s
def kwP (t : List UInt8) (s : PS) : Bool × PS := eatP E 1 t s
def mustP (t : List UInt8) (s : PS) : PS := if (signP E t s).1 then (signP E t s).2 else wrongP 5 s
def nameP (s : PS) : List UInt8 × PS := if (peekP E s).kind ≠ 1 ∨ wordD (peekP E s).text = true then ([], wrongP 5 s) else ((peekP E s).text, stepP s)
def numP (s : PS) : Nat × PS := if (peekP E s).kind ≠ 2 then (0, wrongP 5 s) else if (wideP (peekP E s).text).2 ≠ 0 then (0, wrongP (wideP (peekP E s).text).2 s) else ((wideP (peekP E s).text).1, stepP s)
def addP (n : NodeD) (s : PS) : Nat × PS := if s.nodes.length = E.lim then (0, wrongP 2 s) else (s.nodes.length, { s with nodes := s.nodes ++ [n] })
def rangedP (n : NodeD) (s : PS) : Nat × PS :=
  if (peekP E s).kind = 2 then
    let r1 := numP wideP E s
    let r2 := numP wideP E (mustP E [46, 46] r1.2)
    let s3 := if r2.2.code = 0 ∧ (r2.1 < r1.1 ∨ mostD n < r2.1) then wrongP 1 (backP r2.2) else r2.2
    addP E { n with min := r1.1, max := r2.1 } s3
  else addP E { n with max := mostD n } s
def exprP (s : PS) : (List UInt8 × Nat × Nat) × PS :=
  let s1 := mustP E [91] s
  if (peekP E s1).kind = 2 then
    let r := numP wideP E s1
    let m := signP E [42] r.2
    if m.1 = false then (([], 0, r.1), mustP E [93] m.2) else
    let s2 := if r.1 = 0 then wrongP 1 m.2 else m.2
    let x := nameP E s2
    let p := signP E [43] x.2
    if p.1 then let a := numP wideP E p.2; ((x.1, r.1, a.1), mustP E [93] a.2) else ((x.1, r.1, 0), mustP E [93] p.2)
  else
    let x := nameP E s1
    let p := signP E [43] x.2
    if p.1 then let a := numP wideP E p.2; ((x.1, 1, a.1), mustP E [93] a.2) else ((x.1, 1, 0), mustP E [93] p.2)
variable (K : PS → Nat × PS)
def countedP (kind : Int) (s : PS) : Nat × PS :=
  let x := exprP wideP E s
  let k := K x.2
  addP E { node0 with kind := kind, ereg := x.1.1, emul := x.1.2.1, eadd := x.1.2.2, kids := [(k.1 : Int)] } k.2
def deriveP (s : PS) : Int × PS :=
  if (kwP E [115, 105, 122, 101] s).1 then (1, (kwP E [115, 105, 122, 101] s).2) else if (kwP E [99, 111, 117, 110, 116] s).1 then (2, (kwP E [99, 111, 117, 110, 116] s).2) else if (kwP E [99, 114, 99] s).1 then (3, (kwP E [99, 114, 99] s).2) else (0, wrongP 5 s)
def fieldP (s : PS) : FieldD × PS :=
  let n := nameP E s
  let k := K (mustP E [58] n.2)
  let e := signP E [61] k.2
  if e.1 then
    let d := deriveP E e.2
    let o := nameP E (mustP E [40] d.2)
    if d.1 = 3 then
      let t := nameP E (mustP E [46, 46] o.2)
      (⟨n.1, k.1, d.1, o.1, t.1⟩, mustP E [59] (mustP E [41] t.2))
    else (⟨n.1, k.1, d.1, o.1, []⟩, mustP E [59] (mustP E [41] o.2))
  else (⟨n.1, k.1, 0, [], []⟩, mustP E [59] e.2)
def fieldsP : Nat → List FieldD → PS → List FieldD × PS
  | 0, fs, s => (fs, s)
  | f + 1, fs, s =>
    if s.code ≠ 0 then (fs, s) else
    let e := signP E [125] s
    if e.1 then (fs, e.2) else
    let s1 := if fs.length = 64 then wrongP 2 e.2 else e.2
    let x := fieldP E K s1
    fieldsP f (fs ++ [x.1]) x.2
def recordP (s : PS) : Nat × PS :=
  let r := fieldsP E K 70 [] (mustP E [123] s)
  let s1 := if r.2.code = 0 ∧ r.1.length = 0 then wrongP 5 (backP r.2) else r.2
  addP E { node0 with kind := 5, fields := r.1 } s1
def casesP : Nat → List CaseD → PS → List CaseD × PS
  | 0, cs, s => (cs, s)
  | f + 1, cs, s =>
    if s.code ≠ 0 ∨ (peekP E s).kind ≠ 2 then (cs, s) else
    let s1 := if cs.length = 64 then wrongP 2 s else s
    let v := numP wideP E s1
    let k := K (mustP E [58] v.2)
    casesP f (cs ++ [⟨v.1, k.1⟩]) (mustP E [59] k.2)
def switchP (s : PS) : Nat × PS :=
  let n := nameP E s
  let m := signP E [37] n.2
  let v := if m.1 then numP wideP E m.2 else (0, m.2)
  let s1 := if m.1 ∧ v.2.code = 0 ∧ v.1 = 0 then wrongP 1 (backP v.2) else v.2
  let c := casesP wideP E K 70 [] (mustP E [123] s1)
  let s2 := if c.1.length = 0 then wrongP 5 c.2 else c.2
  let e := kwP E [101, 108, 115, 101] s2
  let k := if e.1 then K (mustP E [58] e.2) else (0, e.2)
  let s3 := if e.1 then mustP E [59] k.2 else k.2
  addP E { node0 with kind := 9, reg := n.1, mod := v.1, cases := c.1, els := if e.1 then (k.1 : Int) else -1 } (mustP E [125] s3)
def overP (n : Nat) (s : PS) : PS := if n = 64 then wrongP 2 s else s
def lastP (kind : Int) (s : PS) : Bool × PS := if kind = 11 then kwP E [108, 97, 115, 116] s else (false, s)
def lastsP (kind : Int) (ls : List Bool) (w : Bool) : List Bool := if kind = 11 then ls ++ [w] else ls
def choicesP (kind : Int) : Nat → List Int → List Bool → PS → List Int × List Bool × PS
  | 0, ks, ls, s => (ks, ls, s)
  | f + 1, ks, ls, s =>
    if (signP E [124] (K (lastP E kind (overP ks.length s)).2).2).1 = true ∧ (signP E [124] (K (lastP E kind (overP ks.length s)).2).2).2.code = 0 then
      choicesP kind f (ks ++ [((K (lastP E kind (overP ks.length s)).2).1 : Int)]) (lastsP kind ls (lastP E kind (overP ks.length s)).1) (signP E [124] (K (lastP E kind (overP ks.length s)).2).2).2
    else (ks ++ [((K (lastP E kind (overP ks.length s)).2).1 : Int)], lastsP kind ls (lastP E kind (overP ks.length s)).1, (signP E [124] (K (lastP E kind (overP ks.length s)).2).2).2)
def pickP (kind : Int) (s : PS) : List Int × List Bool × PS := if s.code = 0 then choicesP E K kind 70 [] [] s else ([], [], s)
def choiceP (kind : Int) (s : PS) : Nat × PS :=
  addP E { node0 with kind := kind, kids := (pickP E K kind (mustP E [123] s)).1, last := (pickP E K kind (mustP E [123] s)).2.1 } (mustP E [125] (pickP E K kind (mustP E [123] s)).2.2)
def lenP (n : NodeD) (s : PS) : Nat × PS := rangedP wideP E { n with lenient := (kwP E [108, 101, 110, 105, 101, 110, 116] s).1 } (kwP E [108, 101, 110, 105, 101, 110, 116] s).2
def blobP (s : PS) : Nat × PS := addP E { node0 with kind := 4, ereg := (exprP wideP E s).1.1, emul := (exprP wideP E s).1.2.1, eadd := (exprP wideP E s).1.2.2 } (exprP wideP E s).2
def manyP (s : PS) : Nat × PS := addP E { node0 with kind := 7, kids := [((K s).1 : Int)] } (K s).2
def useP (s : PS) : Nat × PS := addP E { node0 with kind := 13, text := (nameP E s).1 } (nameP E s).2
def namedP (s : PS) : Nat × PS :=
  if (kwP E [118, 97, 114, 105, 110, 116] s).1 then lenP wideP E { node0 with kind := 2 } (kwP E [118, 97, 114, 105, 110, 116] s).2
  else if (kwP E [122, 105, 103, 122, 97, 103] s).1 then lenP wideP E { node0 with kind := 2, zig := true } (kwP E [122, 105, 103, 122, 97, 103] s).2
  else if (kwP E [98, 121, 116, 101, 115] s).1 then blobP wideP E (kwP E [98, 121, 116, 101, 115] s).2
  else if (kwP E [116, 105, 109, 101, 115] s).1 then countedP wideP E K 6 (kwP E [116, 105, 109, 101, 115] s).2
  else if (kwP E [119, 105, 116, 104, 105, 110] s).1 then countedP wideP E K 8 (kwP E [119, 105, 116, 104, 105, 110] s).2
  else if (kwP E [109, 97, 110, 121] s).1 then manyP E K (kwP E [109, 97, 110, 121] s).2
  else if (kwP E [115, 119, 105, 116, 99, 104] s).1 then switchP wideP E K (kwP E [115, 119, 105, 116, 99, 104] s).2
  else if (kwP E [111, 110, 101, 111, 102] s).1 then choiceP E K 10 (kwP E [111, 110, 101, 111, 102] s).2
  else if (kwP E [99, 104, 97, 105, 110] s).1 then choiceP E K 11 (kwP E [99, 104, 97, 105, 110] s).2
  else if (kwP E [101, 109, 112, 116, 121] s).1 then addP E { node0 with kind := 12 } (kwP E [101, 109, 112, 116, 121] s).2
  else useP E s
end
/-- A type; so much deeper it may be. -/
def kindP (wideP : List UInt8 → Nat × Nat) (E : PE) : Nat → PS → Nat × PS
  | 0, s => (0, wrongP 6 s)
  | d + 1, s =>
    if s.code ≠ 0 then (0, s) else
    if (peekP E s).kind = 3 then addP E { node0 with kind := 3, text := (peekP E s).text } (stepP (if (peekP E s).text = [] then wrongP 5 s else s)) else
    if isP E 4 [123] s then recordP E (kindP wideP E d) s else
    if (peekP E s).kind ≠ 1 then (0, wrongP 5 s) else
    match fixedD (peekP E s).text with
    | some x => rangedP wideP E { node0 with kind := 1, width := (x.1 : Int), little := x.2 } (stepP s)
    | none => namedP wideP E (kindP wideP E d) s
def defP (wideP : List UInt8 → Nat × Nat) (E : PE) (s : PS) : PS :=
  let n := nameP E s
  let k := kindP wideP E 25 (mustP E [61] n.2)
  let s1 := mustP E [59] k.2
  if s1.code ≠ 0 then s1 else if s1.defs.length = E.limD then wrongP 2 s1 else { s1 with defs := s1.defs ++ [⟨n.1, k.1⟩] }
def defsP (wideP : List UInt8 → Nat × Nat) (E : PE) : Nat → PS → PS
  | 0, s => s
  | f + 1, s =>
    let s1 := defP wideP E s
    if s1.code = 0 ∧ (peekP E s1).kind ≠ 5 then defsP wideP E f s1 else s1
def startP : PS := ⟨0, [], [], 0, 0⟩
/-- What a text's tokens are read as: the specification and no fault, or a fault and at which token (none: at the text's end). -/
def readP (wideP : List UInt8 → Nat × Nat) (l : List TokD) : SpecD × Int × Option Nat :=
  let s := defsP wideP (listE l) 70 startP
  if s.code ≠ 0 then (⟨[], []⟩, (s.code : Int), some s.fat) else
  if checkD ⟨s.nodes, s.defs⟩ ≠ 0 then (⟨[], []⟩, checkD ⟨s.nodes, s.defs⟩, none) else (⟨s.nodes, s.defs⟩, 0, some 0)
end Go.Proofs.YtepdapdekaiioaaGreatDoor
end
section
/- The reader of specifications: where it stands, and what names it takes. No program in sight. -/
namespace Go.Proofs.YtepdapdekaiioaaGreatDoor
open Go Go.E
set_option linter.unusedVariables false
set_option linter.unusedSectionVars false
set_option linter.unusedSimpArgs false
set_option maxRecDepth 10000
/-- Tokens, the last one of which, and no other one, is the end. -/
structure EndL (l : List TokD) : Prop where
  pos : 0 < l.length
  last : ∀ (i : Nat) (t : TokD), l[i]? = some t → (t.kind = 5 ↔ i + 1 = l.length)
/-- What each step of the reader keeps. -/
class Clo (E : PE) (I : PS → Prop) : Prop where
  wrong : ∀ (s : PS) (e : Nat), e ≠ 0 → I s → I (wrongP e s)
  step : ∀ s : PS, I s → (peekP E s).kind ≠ 5 ∨ s.code ≠ 0 → I (stepP s)
  backW : ∀ (s : PS) (e : Nat), e ≠ 0 → I s → I (wrongP e (backP s))
  add : ∀ (s : PS) (n : NodeD), I s → I { s with nodes := s.nodes ++ [n] }
structure InP (I : PS → Prop) (E : PE) (s : PS) : Prop where
  get : I s
section
variable {wideP : List UInt8 → Nat × Nat} {E : PE} {s : PS} {I : PS → Prop} [C : Clo E I]
theorem InP.wrong (h : InP I E s) (e : Nat) (he : e ≠ 0) : InP I E (wrongP e s) := ⟨C.wrong s e he h.get⟩
theorem InP.step (h : InP I E s) (hk : (peekP E s).kind ≠ 5) : InP I E (stepP s) := ⟨C.step s h.get (.inl hk)⟩
theorem InP.backW (h : InP I E s) (e : Nat) (he : e ≠ 0) : InP I E (wrongP e (backP s)) := ⟨C.backW s e he h.get⟩
theorem InP.stepF (hc : s.code ≠ 0) (h : InP I E s) : InP I E (stepP s) := ⟨C.step s h.get (.inr hc)⟩
theorem InP.eat (h : InP I E s) {k : Nat} (hk : k ≠ 5) (t : List UInt8) : InP I E (eatP E k t s).2 := by
  unfold eatP
  split
  · rename_i hi
    unfold isP at hi
    rw [Bool.and_eq_true, decide_eq_true_eq] at hi
    exact h.step  (by rw [hi.1]; exact hk)
  · exact h
theorem InP.sign (h : InP I E s) (t : List UInt8) : InP I E (signP E t s).2 := h.eat  (by decide) t
theorem InP.kw (h : InP I E s) (t : List UInt8) : InP I E (kwP E t s).2 := h.eat  (by decide) t
theorem InP.must (h : InP I E s) (t : List UInt8) : InP I E (mustP E t s) := by
  unfold mustP
  split
  · exact h.sign  t
  · exact h.wrong 5 (by decide)
theorem InP.name (h : InP I E s) : InP I E (nameP E s).2 := by
  unfold nameP
  split
  · exact h.wrong 5 (by decide)
  · rename_i hk
    exact h.step  (fun e => hk (.inl (by rw [e]; decide)))
theorem InP.num (h : InP I E s) : InP I E (numP wideP E s).2 := by
  unfold numP
  split
  · exact h.wrong 5 (by decide)
  · rename_i hk
    split
    · rename_i he; exact h.wrong _ he
    · exact h.step  (fun e => hk (by rw [e]; decide))
theorem InP.add (h : InP I E s) (n : NodeD) : InP I E (addP E n s).2 := by
  unfold addP
  split
  · exact h.wrong 2 (by decide)
  · exact ⟨C.add s n h.get⟩
theorem InP.ranged (h : InP I E s) (n : NodeD) : InP I E (rangedP wideP E n s).2 := by
  unfold rangedP
  split
  · dsimp only
    refine InP.add ?_ _
    have h2 : InP I E (numP wideP E (mustP E [46, 46] (numP wideP E s).2)).2 := ((h.num ).must  _).num 
    split
    · exact h2.backW 1 (by decide)
    · exact h2
  · exact h.add _
theorem InP.expr (h : InP I E s) : InP I E (exprP wideP E s).2 := by
  have h1 := h.must  [91]
  unfold exprP
  dsimp only
  generalize mustP E [91] s = s1 at *
  split
  · have h2 := h1.num (wideP := wideP) 
    generalize numP wideP E s1 = r at *
    have h3 := h2.sign  [42]
    generalize signP E [42] r.2 = m at *
    split
    · exact h3.must  _
    · have h4 : InP I E (if r.1 = 0 then wrongP 1 m.2 else m.2) := by
        split
        · exact h3.wrong 1 (by decide)
        · exact h3
      generalize (if r.1 = 0 then wrongP 1 m.2 else m.2) = s2 at *
      have h5 := (h4.name ).sign  [43]
      generalize nameP E s2 = x at *
      generalize signP E [43] x.2 = p at *
      split
      · exact (h5.num ).must  _
      · exact h5.must  _
  · have h5 := (h1.name ).sign  [43]
    generalize nameP E s1 = x at *
    generalize signP E [43] x.2 = p at *
    split
    · exact (h5.num ).must  _
    · exact h5.must  _
variable {K : PS → Nat × PS}
theorem InP.counted (hK : ∀ s, InP I E s → InP I E (K s).2) (h : InP I E s) (k : Int) : InP I E (countedP wideP E K k s).2 := by
  unfold countedP
  exact (hK _ (h.expr )).add _
theorem InP.derive (h : InP I E s) : InP I E (deriveP E s).2 := by
  unfold deriveP
  split
  · exact h.kw  _
  split
  · exact h.kw  _
  split
  · exact h.kw  _
  · exact h.wrong 5 (by decide)
theorem InP.field (hK : ∀ s, InP I E s → InP I E (K s).2) (h : InP I E s) : InP I E (fieldP E K s).2 := by
  unfold fieldP
  dsimp only
  have h1 := (hK _ ((h.name ).must  [58])).sign  [61]
  generalize signP E [61] (K (mustP E [58] (nameP E s).2)).2 = e at *
  split
  · have h3 := ((h1.derive ).must  [40]).name 
    generalize deriveP E e.2 = d at *
    generalize nameP E (mustP E [40] d.2) = o at *
    split <;> dsimp only
    · exact (((h3.must  _).name ).must  _).must  _
    · exact (h3.must  _).must  _
  · exact h1.must  _
theorem InP.fields (hK : ∀ s, InP I E s → InP I E (K s).2) : ∀ (f : Nat) (fs : List FieldD) (s : PS), InP I E s → InP I E (fieldsP E K f fs s).2
  | 0, fs, s, h => h
  | f + 1, fs, s, h => by
    rw [fieldsP]
    split
    · exact h
    · dsimp only
      have h1 := h.sign  [125]
      split
      · exact h1
      · refine InP.fields  hK f _ _ (InP.field  hK ?_)
        split
        · exact h1.wrong 2 (by decide)
        · exact h1
theorem InP.record (hK : ∀ s, InP I E s → InP I E (K s).2) (h : InP I E s) : InP I E (recordP E K s).2 := by
  unfold recordP
  dsimp only
  have h1 := InP.fields  hK 70 [] _ (h.must  [123])
  refine InP.add ?_ _
  split
  · exact h1.backW 5 (by decide)
  · exact h1
theorem InP.cases (hK : ∀ s, InP I E s → InP I E (K s).2) : ∀ (f : Nat) (cs : List CaseD) (s : PS), InP I E s → InP I E (casesP wideP E K f cs s).2
  | 0, cs, s, h => h
  | f + 1, cs, s, h => by
    rw [casesP]
    split
    · exact h
    · dsimp only
      refine InP.cases  hK f _ _ (InP.must  (hK _ (InP.must  (InP.num  ?_) _)) _)
      split
      · exact h.wrong 2 (by decide)
      · exact h
theorem InP.switch (hK : ∀ s, InP I E s → InP I E (K s).2) (h : InP I E s) : InP I E (switchP wideP E K s).2 := by
  unfold switchP
  dsimp only
  have h1 := (h.name ).sign  [37]
  generalize signP E [37] (nameP E s).2 = m at *
  have h2 : InP I E (if m.1 = true then numP wideP E m.2 else (0, m.2)).2 := by
    split
    · exact h1.num 
    · exact h1
  generalize (if m.1 = true then numP wideP E m.2 else (0, m.2)) = v at *
  have h3 : InP I E (if m.1 = true ∧ v.2.code = 0 ∧ v.1 = 0 then wrongP 1 (backP v.2) else v.2) := by
    split
    · exact h2.backW 1 (by decide)
    · exact h2
  have h4 := InP.cases (wideP := wideP)  hK 70 [] _ (h3.must  [123])
  generalize casesP wideP E K 70 [] (mustP E [123] (if m.1 = true ∧ v.2.code = 0 ∧ v.1 = 0 then wrongP 1 (backP v.2) else v.2)) = c at *
  have h5 : InP I E (if c.1.length = 0 then wrongP 5 c.2 else c.2) := by
    split
    · exact h4.wrong 5 (by decide)
    · exact h4
  have h6 := h5.kw  [101, 108, 115, 101]
  generalize kwP E [101, 108, 115, 101] (if c.1.length = 0 then wrongP 5 c.2 else c.2) = e at *
  refine InP.add (InP.must  ?_ _) _
  by_cases he : e.1 = true
  · rw [if_pos he, if_pos he]
    exact (hK _ (h6.must  _)).must  _
  · rw [if_neg he, if_neg he]
    exact h6
theorem InP.over (h : InP I E s) (n : Nat) : InP I E (overP n s) := by
  unfold overP
  split
  · exact h.wrong 2 (by decide)
  · exact h
theorem InP.last (h : InP I E s) (kind : Int) : InP I E (lastP E kind s).2 := by
  unfold lastP
  split
  · exact h.kw  _
  · exact h
theorem InP.choices (hK : ∀ s, InP I E s → InP I E (K s).2) (kind : Int) : ∀ (f : Nat) (ks : List Int) (ls : List Bool) (s : PS), InP I E s → InP I E (choicesP E K kind f ks ls s).2.2
  | 0, ks, ls, s, h => h
  | f + 1, ks, ls, s, h => by
    rw [choicesP]
    have h3 := (hK _ ((h.over ks.length).last  kind)).sign  [124]
    split
    · exact InP.choices  hK kind f _ _ _ h3
    · exact h3
theorem InP.choice (hK : ∀ s, InP I E s → InP I E (K s).2) (h : InP I E s) (kind : Int) : InP I E (choiceP E K kind s).2 := by
  have h1 := h.must  [123]
  refine InP.add (InP.must  ?_ _) _
  unfold pickP
  split
  · exact InP.choices  hK kind _ _ _ _ h1
  · exact h1
theorem InP.ite {c : Prop} [Decidable c] {a b : Nat × PS} (h1 : InP I E a.2) (h2 : InP I E b.2) : InP I E (if c then a else b).2 := by
  split
  · exact h1
  · exact h2
theorem InP.named (hK : ∀ s, InP I E s → InP I E (K s).2) (h : InP I E s) : InP I E (namedP wideP E K s).2 := by
  unfold namedP
  refine InP.ite (InP.ranged  ((h.kw  _).kw  _) _) ?_
  refine InP.ite (InP.ranged  ((h.kw  _).kw  _) _) ?_
  refine InP.ite (InP.add ((h.kw  _).expr ) _) ?_
  refine InP.ite (InP.counted  hK (h.kw  _) 6) ?_
  refine InP.ite (InP.counted  hK (h.kw  _) 8) ?_
  refine InP.ite (InP.add (hK _ (h.kw  _)) _) ?_
  refine InP.ite (InP.switch  hK (h.kw  _)) ?_
  refine InP.ite (InP.choice  hK (h.kw  _) 10) ?_
  refine InP.ite (InP.choice  hK (h.kw  _) 11) ?_
  refine InP.ite (InP.add (h.kw  _) _) ?_
  exact InP.add (h.name ) _
theorem InP.kind : ∀ (d : Nat) (s : PS), InP I E s → InP I E (kindP wideP E d s).2
  | 0, s, h => h.wrong 6 (by decide)
  | d + 1, s, h => by
    rw [kindP]
    split
    · exact h
    rename_i hc
    split
    · rename_i hk
      refine InP.add ?_ _
      split
      · exact InP.stepF (by unfold wrongP; rw [if_pos (Decidable.of_not_not hc)]; exact (by decide : (5 : Nat) ≠ 0)) (h.wrong 5 (by decide))
      · exact h.step  (by rw [hk]; decide)
    split
    · exact h.record  (InP.kind  d)
    split
    · exact h.wrong 5 (by decide)
    rename_i hk
    split
    · exact InP.ranged  (h.step  (fun e => hk (by rw [e]; decide))) _
    · exact h.named  (InP.kind  d)
end
/-- Where the reader stands, and what names it has taken. -/
structure BaseP (l : List TokD) (s : PS) : Prop where
  at' : s.code = 0 → s.at' < l.length
  fat : s.fat < l.length
  def' : ∀ d ∈ s.defs, wordD d.name = false
theorem BaseP.clo {l : List TokD} (hl : EndL l) : Clo (listE l) (BaseP l) where
  wrong s e he h := by
    unfold wrongP
    split
    · rename_i hc
      exact ⟨fun h0 => absurd h0 he, h.at' hc, h.def'⟩
    · exact h
  step s h hk := by
    refine ⟨fun hc => ?_, h.fat, h.def'⟩
    have hc0 : s.code = 0 := hc
    have h1 := h.at' hc0
    have hk := hk.resolve_right (fun h => h hc0)
    unfold peekP at hk
    rw [if_pos hc0] at hk
    have hk : (l[s.at']?.getD endT).kind ≠ 5 := hk
    have h3 := List.getElem?_eq_getElem h1
    rw [h3, Option.getD_some] at hk
    have h4 := mt (hl.last _ _ h3).2 hk
    show s.at' + 1 < l.length
    omega
  backW s e he h := by
    unfold wrongP
    split
    · rename_i hc
      have hc0 : s.code = 0 := hc
      have := h.at' hc0
      exact ⟨fun h0 => absurd h0 he, (by show s.at' - 1 < l.length; omega), h.def'⟩
    · rename_i hc
      exact ⟨fun h0 => absurd h0 hc, h.fat, h.def'⟩
  add s n h := ⟨h.at', h.fat, h.def'⟩
/-- What is wrong stays wrong. -/
theorem sticky_clo (l : List TokD) : Clo (listE l) (fun s => s.code ≠ 0) where
  wrong s e he h := by unfold wrongP; rw [if_neg h]; exact h
  step s h hk := h
  backW s e he h := by unfold wrongP; rw [if_neg (show ¬ (backP s).code = 0 from h)]; exact h
  add s n h := h
section
variable {wideP : List UInt8 → Nat × Nat} {l : List TokD} {s : PS}
theorem sticky_must (hl : EndL l) {t : List UInt8} (h : (mustP (listE l) t s).code = 0) : s.code = 0 := Classical.byContradiction fun hn =>
  (InP.must (C := sticky_clo l) ⟨hn⟩ t).get h
theorem sticky_kind (hl : EndL l) {d : Nat} (h : (kindP wideP (listE l) d s).2.code = 0) : s.code = 0 := Classical.byContradiction fun hn =>
  (InP.kind (wideP := wideP) (C := sticky_clo l) d s ⟨hn⟩).get h
theorem sticky_name (hl : EndL l) (h : (nameP (listE l) s).2.code = 0) : s.code = 0 := Classical.byContradiction fun hn =>
  (InP.name (C := sticky_clo l) ⟨hn⟩).get h
theorem name_word (h : s.code = 0) (h2 : (nameP (listE l) s).2.code = 0) : wordD (nameP (listE l) s).1 = false := by
  unfold nameP at h2 ⊢
  split
  · rename_i hk
    rw [if_pos hk] at h2
    unfold wrongP at h2
    rw [if_pos h] at h2
    cases h2
  · rename_i hk
    exact Bool.eq_false_iff.2 (fun e => hk (.inr e))
theorem BaseP.defs (hl : EndL l) (h : BaseP l s) : BaseP l (defP wideP (listE l) s) := by
  have C := BaseP.clo hl
  have h1 : BaseP l (mustP (listE l) [59] (kindP wideP (listE l) 25 (mustP (listE l) [61] (nameP (listE l) s).2)).2) :=
    (InP.must  (InP.kind (wideP := wideP) 25 _ (InP.must  (InP.name  ⟨h⟩) [61])) [59]).get
  unfold defP
  dsimp only
  split
  · exact h1
  · rename_i hc
    have hc0 : (mustP (listE l) [59] (kindP wideP (listE l) 25 (mustP (listE l) [61] (nameP (listE l) s).2)).2).code = 0 := Decidable.of_not_not hc
    split
    · exact C.wrong _ 2 (by decide) h1
    · refine ⟨h1.at', h1.fat, fun d hd => ?_⟩
      rcases List.mem_append.1 hd with hd | hd
      · exact h1.def' d hd
      · rw [List.mem_singleton] at hd
        subst hd
        have h2 := sticky_must hl (sticky_kind hl (sticky_must hl hc0))
        exact name_word (sticky_name hl h2) h2
theorem BaseP.all (hl : EndL l) : ∀ (f : Nat) (s : PS), BaseP l s → BaseP l (defsP wideP (listE l) f s)
  | 0, s, h => h
  | f + 1, s, h => by
    rw [defsP]
    split
    · exact BaseP.all hl f _ (h.defs hl)
    · exact h.defs hl
/-- What a text is read as: a specification that may be by its form, whose names can be names; or it is told at which token it is wrong. -/
theorem read_ok (hl : EndL l) : ((readP wideP l).2.1 = 0 → checkD (readP wideP l).1 = 0 ∧ (readP wideP l).2.2 = some 0 ∧ ∀ d ∈ (readP wideP l).1.defs, wordD d.name = false) ∧
    ((readP wideP l).2.1 ≠ 0 → (readP wideP l).1 = ⟨[], []⟩ ∧ ∀ i, (readP wideP l).2.2 = some i → i < l.length) := by
  have h := BaseP.all (wideP := wideP) hl 70 startP ⟨fun _ => hl.pos, hl.pos, fun d hd => by cases hd⟩
  unfold readP
  dsimp only
  generalize defsP wideP (listE l) 70 startP = s at *
  by_cases hc : s.code ≠ 0
  · rw [if_pos hc]
    exact ⟨fun h0 => absurd (Int.ofNat.inj h0) hc, fun _ => ⟨rfl, fun i hi => by cases hi; exact h.fat⟩⟩
  · rw [if_neg hc]
    by_cases hk : checkD ⟨s.nodes, s.defs⟩ ≠ 0
    · rw [if_pos hk]
      exact ⟨fun h0 => absurd h0 hk, fun _ => ⟨rfl, fun i hi => by cases hi⟩⟩
    · rw [if_neg hk]
      exact ⟨fun _ => ⟨Decidable.of_not_not hk, rfl, h.def'⟩, fun h0 => absurd rfl h0⟩
end
end Go.Proofs.YtepdapdekaiioaaGreatDoor
end
section
/- The reader of specifications: it is the tokens' kinds and texts alone that count. No program in sight. -/
namespace Go.Proofs.YtepdapdekaiioaaGreatDoor
open Go Go.E
set_option linter.unusedVariables false
set_option linter.unusedSectionVars false
set_option linter.unusedSimpArgs false
set_option maxRecDepth 10000
/-- Tokens of which each is of one kind and text. -/
structure Ali (E F : PE) : Prop where
  lim : E.lim = F.lim
  limD : E.limD = F.limD
  kind : ∀ s, (peekP E s).kind = (peekP F s).kind
  text : ∀ s, (peekP E s).text = (peekP F s).text
theorem Ali.of {l m : List TokD} (h : l.map (fun t => (t.kind, t.text)) = m.map (fun t => (t.kind, t.text))) : Ali (listE l) (listE m) := by
  have hlen : l.length = m.length := by have := congrArg List.length h; simpa using this
  have hget : ∀ i : Nat, ((l[i]?).getD endT).kind = ((m[i]?).getD endT).kind ∧ ((l[i]?).getD endT).text = ((m[i]?).getD endT).text := fun i => by
    have := congrArg (fun x => x[i]?) h
    simp only [List.getElem?_map] at this
    cases hl : l[i]? with
    | none =>
      rw [hl] at this
      cases hm : m[i]? with
      | none => exact ⟨rfl, rfl⟩
      | some y => rw [hm] at this; cases this
    | some x =>
      rw [hl] at this
      cases hm : m[i]? with
      | none => rw [hm] at this; cases this
      | some y => rw [hm] at this; simp at this; exact this
  have hlast : ∀ x : List TokD, x.getLast? = x[x.length - 1]? := fun x => List.getLast?_eq_getElem?
  refine ⟨rfl, rfl, fun s => ?_, fun s => ?_⟩
  · unfold peekP
    split
    · exact (hget _).1
    · show ((l.getLast?).getD endT).kind = ((m.getLast?).getD endT).kind
      rw [hlast, hlast, hlen]; exact (hget _).1
  · unfold peekP
    split
    · exact (hget _).2
    · show ((l.getLast?).getD endT).text = ((m.getLast?).getD endT).text
      rw [hlast, hlast, hlen]; exact (hget _).2
section
variable {wideP : List UInt8 → Nat × Nat} {E F : PE}
theorem Ali.eat (h : Ali E F) : eatP E = eatP F := by funext k t s; unfold eatP isP; rw [h.kind, h.text]
theorem Ali.sign (h : Ali E F) : signP E = signP F := by funext t s; unfold signP; rw [h.eat]
theorem Ali.kw (h : Ali E F) : kwP E = kwP F := by funext t s; unfold kwP; rw [h.eat]
theorem Ali.must (h : Ali E F) : mustP E = mustP F := by funext t s; unfold mustP; rw [h.sign]
theorem Ali.name (h : Ali E F) : nameP E = nameP F := by funext s; unfold nameP; rw [h.kind, h.text]
theorem Ali.num (h : Ali E F) : numP wideP E = numP wideP F := by funext s; unfold numP; rw [h.kind, h.text]
theorem Ali.add (h : Ali E F) : addP E = addP F := by funext n s; unfold addP; rw [h.lim]
theorem Ali.ranged (h : Ali E F) : rangedP wideP E = rangedP wideP F := by funext n s; unfold rangedP; rw [h.kind, h.num, h.must, h.add]
theorem Ali.expr (h : Ali E F) : exprP wideP E = exprP wideP F := by funext s; unfold exprP; rw [h.num, h.must, h.sign, h.name]; simp only [h.kind]
theorem Ali.derive (h : Ali E F) : deriveP E = deriveP F := by funext s; unfold deriveP; rw [h.kw]
theorem Ali.field (h : Ali E F) (K : PS → Nat × PS) : fieldP E K = fieldP F K := by funext s; unfold fieldP; rw [h.name, h.must, h.sign, h.derive]
theorem Ali.fields (h : Ali E F) (K : PS → Nat × PS) : ∀ f, fieldsP E K f = fieldsP F K f
  | 0 => by funext fs s; rfl
  | f + 1 => by funext fs s; rw [fieldsP, fieldsP, h.sign, h.field K, Ali.fields h K f]
theorem Ali.record (h : Ali E F) (K : PS → Nat × PS) : recordP E K = recordP F K := by funext s; unfold recordP; rw [h.fields K, h.must, h.add]
theorem Ali.counted (h : Ali E F) (K : PS → Nat × PS) : countedP wideP E K = countedP wideP F K := by funext k s; unfold countedP; rw [h.expr, h.add]
theorem Ali.cases (h : Ali E F) (K : PS → Nat × PS) : ∀ f, casesP wideP E K f = casesP wideP F K f
  | 0 => by funext fs s; rfl
  | f + 1 => by funext cs s; rw [casesP, casesP, h.num, h.must, Ali.cases h K f, h.kind]
theorem Ali.switch (h : Ali E F) (K : PS → Nat × PS) : switchP wideP E K = switchP wideP F K := by funext s; unfold switchP; rw [h.name, h.sign, h.num, h.must, h.kw, h.cases K, h.add]
theorem Ali.last (h : Ali E F) : lastP E = lastP F := by funext k s; unfold lastP; rw [h.kw]
theorem Ali.choices (h : Ali E F) (K : PS → Nat × PS) (kind : Int) : ∀ f, choicesP E K kind f = choicesP F K kind f
  | 0 => by funext ks ls s; rfl
  | f + 1 => by funext ks ls s; rw [choicesP, choicesP, h.sign, h.last, Ali.choices h K kind f]
theorem Ali.pick (h : Ali E F) (K : PS → Nat × PS) : pickP E K = pickP F K := by funext k s; unfold pickP; rw [h.choices K]
theorem Ali.choice (h : Ali E F) (K : PS → Nat × PS) : choiceP E K = choiceP F K := by funext k s; unfold choiceP; rw [h.pick K, h.must, h.add]
theorem Ali.lenient (h : Ali E F) : lenP wideP E = lenP wideP F := by funext n s; unfold lenP; rw [h.ranged, h.kw]
theorem Ali.blob (h : Ali E F) : blobP wideP E = blobP wideP F := by funext s; unfold blobP; rw [h.expr, h.add]
theorem Ali.use (h : Ali E F) : useP E = useP F := by funext s; unfold useP; rw [h.name, h.add]
theorem Ali.many (h : Ali E F) (K : PS → Nat × PS) : manyP E K = manyP F K := by funext s; unfold manyP; rw [h.add]
theorem Ali.named (h : Ali E F) (K : PS → Nat × PS) : namedP wideP E K = namedP wideP F K := by funext s; unfold namedP; rw [h.kw, h.lenient, h.blob, h.counted K, h.switch K, h.choice K, h.use, h.many K, h.add]
theorem Ali.type (h : Ali E F) : ∀ d, kindP wideP E d = kindP wideP F d
  | 0 => by funext s; rfl
  | d + 1 => by
    funext s
    have e1 : isP E = isP F := by funext k t s; unfold isP; rw [h.kind, h.text]
    rw [kindP, kindP, Ali.type h d, h.kind, h.text, e1, h.record, h.named, h.ranged, h.add]
theorem Ali.def' (h : Ali E F) : defP wideP E = defP wideP F := by funext s; unfold defP; rw [h.name, h.must, h.type, h.limD]
theorem Ali.defs (h : Ali E F) : ∀ f, defsP wideP E f = defsP wideP F f
  | 0 => by funext s; rfl
  | f + 1 => by funext s; rw [defsP, defsP, h.def', Ali.defs h f, h.kind]
theorem Ali.read {l m : List TokD} (h : Ali (listE l) (listE m)) : readP wideP l = readP wideP m := by unfold readP; rw [h.defs]
end
end Go.Proofs.YtepdapdekaiioaaGreatDoor
end
section
/- The reader run on another list: as far as the lists agree it does the same, its types' numbers moved. No program in sight. -/
namespace Go.Proofs.YtepdapdekaiioaaGreatDoor
open Go Go.E
set_option linter.unusedVariables false
set_option linter.unusedSimpArgs false
set_option linter.unusedSectionVars false
set_option maxRecDepth 10000
/-- A field, a case, a type, a name, whose types' numbers are moved. -/
def mvF (N : Nat) (f : FieldD) : FieldD := { f with type := f.type + N }
def mvC (N : Nat) (c : CaseD) : CaseD := { c with type := c.type + N }
def mvD (N : Nat) (d : NodeD) : NodeD := { d with kids := d.kids.map (fun k => k + (N : Int)), fields := d.fields.map (mvF N), cases := d.cases.map (mvC N), els := if d.kind = 9 ∧ 0 ≤ d.els then d.els + N else d.els }
def mvN (N : Nat) (d : DefD) : DefD := { d with type := d.type + N }
theorem mvD_plain {N : Nat} {d : NodeD} (h1 : d.kids = []) (h2 : d.fields = []) (h3 : d.cases = []) (h4 : d.kind ≠ 9) : mvD N d = d := by
  unfold mvD
  rw [h1, h2, h3, if_neg (fun h => h4 h.1)]
  obtain ⟨_, _, _, _, _, _, _, _, _, _, _, _, _, _, _, _, _, _⟩ := d
  simp at h1 h2 h3
  subst h1 h2 h3
  rfl
theorem mvP {N : Nat} {d : NodeD} (h1 : d.kids = []) (h2 : d.fields = []) (h3 : d.cases = []) (h4 : d.kind ≠ 9) : d = mvD N d := (mvD_plain h1 h2 h3 h4).symm
/-- Tokens that agree, so many further on. -/
structure Agr (E F : PE) (n m : Nat) : Prop where
  kind : ∀ i, i < m → (F.tok (i + n)).kind = (E.tok i).kind
  text : ∀ i, i < m → (F.tok (i + n)).text = (E.tok i).text
  lim : E.lim = F.lim
  limD : E.limD = F.limD
/-- Two states that stand alike. -/
structure Sh (n : Nat) (B : List NodeD) (D : List DefD) (s t : PS) : Prop where
  cs : s.code = 0
  ct : t.code = 0
  at' : t.at' = s.at' + n
  nodes : t.nodes = B ++ s.nodes.map (mvD B.length)
  defs : t.defs = D ++ s.defs.map (mvN B.length)
/-- Where no fault is, and not too far. -/
structure Fin' (m : Nat) (s : PS) : Prop where
  code : s.code = 0
  lt : s.at' < m
/-- What a state without fault tells of one before. -/
structure Bak (s t : PS) : Prop where
  get : t.code = 0 → s.code = 0 ∧ s.at' ≤ t.at' ∧ s.nodes.length ≤ t.nodes.length ∧ s.defs = t.defs
theorem Bak.refl (s : PS) : Bak s s := ⟨fun h => ⟨h, Nat.le_refl _, Nat.le_refl _, rfl⟩⟩
theorem Bak.fin {s t : PS} {m : Nat} (h : Bak s t) (k : Fin' m t) : Fin' m s := ⟨(h.get k.code).1, by have := (h.get k.code).2.1; have := k.lt; omega⟩
instance Bak.clo (E : PE) (s : PS) : Clo E (Bak s) where
  wrong t e he h := by
    unfold wrongP
    split
    · exact ⟨fun h0 => absurd h0 he⟩
    · exact h
  step t h _ := ⟨fun h0 => by obtain ⟨a1, a2, a3, a4⟩ := h.get h0; exact ⟨a1, Nat.le_succ_of_le a2, a3, a4⟩⟩
  backW t e he h := by
    unfold wrongP
    split
    · exact ⟨fun h0 => absurd h0 he⟩
    · rename_i hc
      exact ⟨fun h0 => absurd h0 hc⟩
  add t n h := ⟨fun h0 => by
    obtain ⟨a1, a2, a3, a4⟩ := h.get h0
    refine ⟨a1, a2, ?_, a4⟩
    show s.nodes.length ≤ (t.nodes ++ [n]).length
    rw [List.length_append]; omega⟩
/-- A list too long stays so. -/
instance two_clo (E : PE) : Clo E (fun s => s.code = 2) where
  wrong s e he h := by unfold wrongP; rw [if_neg (by rw [h]; decide)]; exact h
  step s h hk := h
  backW s e he h := by unfold wrongP; rw [if_neg (show ¬ (backP s).code = 0 by show ¬ s.code = 0; rw [h]; decide)]; exact h
  add s n h := h
theorem bkI (E : PE) (s : PS) : InP (Bak s) E s := ⟨Bak.refl s⟩
abbrev Tw (E : PE) (s : PS) : Prop := InP (fun s => s.code = 2) E s
section
variable {wideP : List UInt8 → Nat × Nat} {E F : PE} {n m : Nat} {B : List NodeD} {D : List DefD} {s t : PS}
/-- What a list tells of the other one: alike, or the other one is too long. -/
def OutP (E F : PE) (n : Nat) (B : List NodeD) (D : List DefD) {α : Type} (ρ : α → α → Prop) (r r' : α × PS) : Prop :=
  (r'.2.code = 2 ∧ F.lim < B.length + r.2.nodes.length) ∨ (ρ r.1 r'.1 ∧ Sh n B D r.2 r'.2)
abbrev idxR (N : Nat) (i j : Nat) : Prop := j = i + N
variable (A : Agr E F n m)
include A
theorem Sh.kind (h : Sh n B D s t) (k : Fin' m s) : (peekP F t).kind = (peekP E s).kind := by
  unfold peekP; rw [if_pos h.cs, if_pos h.ct, h.at']; exact A.kind _ k.lt
theorem Sh.text (h : Sh n B D s t) (k : Fin' m s) : (peekP F t).text = (peekP E s).text := by
  unfold peekP; rw [if_pos h.cs, if_pos h.ct, h.at']; exact A.text _ k.lt
omit A in
theorem Sh.step (h : Sh n B D s t) : Sh n B D (stepP s) (stepP t) := ⟨h.cs, h.ct, (by show t.at' + 1 = s.at' + 1 + n; rw [h.at']; omega), h.nodes, h.defs⟩
theorem Sh.is (h : Sh n B D s t) (k : Fin' m s) (c : Nat) (x : List UInt8) : isP F c x t = isP E c x s := by
  unfold isP; rw [h.kind A k, h.text A k]
theorem Sh.eat (h : Sh n B D s t) (k : Fin' m s) (c : Nat) (x : List UInt8) : (eatP F c x t).1 = (eatP E c x s).1 ∧ Sh n B D (eatP E c x s).2 (eatP F c x t).2 := by
  unfold eatP
  rw [h.is A k]
  split
  · exact ⟨rfl, h.step⟩
  · exact ⟨rfl, h⟩
theorem Sh.sign (h : Sh n B D s t) (k : Fin' m s) (x : List UInt8) : (signP F x t).1 = (signP E x s).1 ∧ Sh n B D (signP E x s).2 (signP F x t).2 := h.eat A k 4 x
theorem Sh.kw (h : Sh n B D s t) (k : Fin' m s) (x : List UInt8) : (kwP F x t).1 = (kwP E x s).1 ∧ Sh n B D (kwP E x s).2 (kwP F x t).2 := h.eat A k 1 x
omit A in
theorem wrong_code {e : Nat} (he : e ≠ 0) (h : s.code = 0) : (wrongP e s).code ≠ 0 := by unfold wrongP; rw [if_pos h]; exact he
theorem Sh.must (h : Sh n B D s t) (k : Fin' m s) {x : List UInt8} (hf : (mustP E x s).code = 0) : Sh n B D (mustP E x s) (mustP F x t) := by
  obtain ⟨h1, h2⟩ := h.sign A k x
  unfold mustP at hf ⊢
  rw [h1]
  split
  · exact h2
  · rename_i hn
    rw [if_neg hn] at hf
    exact absurd hf (wrong_code (by decide) h.cs)
theorem Sh.name (h : Sh n B D s t) (k : Fin' m s) (hf : (nameP E s).2.code = 0) : (nameP F t).1 = (nameP E s).1 ∧ Sh n B D (nameP E s).2 (nameP F t).2 := by
  unfold nameP at hf ⊢
  rw [h.kind A k, h.text A k]
  split
  · rename_i hn
    rw [if_pos hn] at hf
    exact absurd hf (wrong_code (by decide) h.cs)
  · exact ⟨rfl, h.step⟩
theorem Sh.num (h : Sh n B D s t) (k : Fin' m s) (hf : (numP wideP E s).2.code = 0) : (numP wideP F t).1 = (numP wideP E s).1 ∧ Sh n B D (numP wideP E s).2 (numP wideP F t).2 := by
  unfold numP at hf ⊢
  rw [h.kind A k, h.text A k]
  split
  · rename_i hn
    rw [if_pos hn] at hf
    exact absurd hf (wrong_code (by decide) h.cs)
  · rename_i hn
    rw [if_neg hn] at hf
    split
    · rename_i h2
      rw [if_pos h2] at hf
      exact absurd hf (wrong_code h2 h.cs)
    · exact ⟨rfl, h.step⟩
theorem Sh.add (h : Sh n B D s t) {x y : NodeD} (hxy : y = mvD B.length x) (hf : (addP E x s).2.code = 0) : OutP E F n B D (idxR B.length) (addP E x s) (addP F y t) := by
  subst hxy
  unfold addP at hf ⊢
  split
  · rename_i hn
    rw [if_pos hn] at hf
    exact absurd hf (wrong_code (by decide) h.cs)
  · rename_i hn
    have hl : t.nodes.length = B.length + s.nodes.length := by rw [h.nodes, List.length_append, List.length_map]
    split
    · rename_i h2
      refine .inl ⟨?_, ?_⟩
      · unfold wrongP; rw [if_pos h.ct]
      · show F.lim < B.length + (s.nodes ++ [x]).length
        rw [List.length_append, List.length_singleton]
        omega
    · refine .inr ⟨?_, h.cs, h.ct, h.at', ?_, h.defs⟩
      · show t.nodes.length = s.nodes.length + B.length
        omega
      · show t.nodes ++ [mvD B.length x] = B ++ (s.nodes ++ [x]).map (mvD B.length)
        rw [h.nodes, List.map_append, List.append_assoc]; rfl
omit A in
theorem fin_of {m : Nat} {s f : PS} (h : InP (Bak s) E f) (k : Fin' m f) : Fin' m s := h.get.fin k
theorem Sh.ranged (h : Sh n B D s t) (x : NodeD) (h1 : x.kids = []) (h2 : x.fields = []) (h3 : x.cases = []) (h4 : x.kind ≠ 9) (hf : Fin' m (rangedP wideP E x s).2) :
    OutP E F n B D (idxR B.length) (rangedP wideP E x s) (rangedP wideP F x t) := by
  have k0 : Fin' m s := fin_of ((bkI E s).ranged (wideP := wideP) x) hf
  unfold rangedP at hf ⊢
  rw [h.kind A k0]
  split
  · rename_i hk
    rw [if_pos hk] at hf
    dsimp only at hf ⊢
    have hb1 := fin_of ((bkI E _).add _) hf
    have hcond : ¬ ((numP wideP E (mustP E [46, 46] (numP wideP E s).2)).2.code = 0 ∧ ((numP wideP E (mustP E [46, 46] (numP wideP E s).2)).1 < (numP wideP E s).1 ∨ mostD x < (numP wideP E (mustP E [46, 46] (numP wideP E s).2)).1)) := fun hc => by
      rw [if_pos hc] at hb1
      exact absurd hb1.code (wrong_code (by decide) hc.1)
    rw [if_neg hcond] at hf hb1 ⊢
    have b2 := fin_of ((bkI E _).num (wideP := wideP)) hb1
    have b3 := fin_of ((bkI E _).must [46, 46]) b2
    obtain ⟨e1, g1⟩ := h.num A k0 b3.code
    have g2 := g1.must A b3 b2.code
    obtain ⟨e3, g3⟩ := g2.num A b2 hb1.code
    rw [e1, e3]
    rw [if_neg (fun hc => hcond ⟨hb1.code, hc.2⟩)]
    exact g3.add A (mvP h1 h2 h3 h4) hf.code
  · rename_i hk
    rw [if_neg hk] at hf
    exact h.add A (mvP h1 h2 h3 h4) hf.code
theorem Sh.plus (h : Sh n B D s t) (hf : Fin' m (if (signP E [43] s).1 = true then mustP E [93] (numP wideP E (signP E [43] s).2).2 else mustP E [93] (signP E [43] s).2)) :
    (signP F [43] t).1 = (signP E [43] s).1 ∧ ((signP E [43] s).1 = true → (numP wideP F (signP F [43] t).2).1 = (numP wideP E (signP E [43] s).2).1 ∧ Sh n B D (mustP E [93] (numP wideP E (signP E [43] s).2).2) (mustP F [93] (numP wideP F (signP F [43] t).2).2)) ∧
      ((signP E [43] s).1 = false → Sh n B D (mustP E [93] (signP E [43] s).2) (mustP F [93] (signP F [43] t).2)) := by
  cases hb : (signP E [43] s).1 with
  | true =>
    rw [hb, if_pos rfl] at hf
    have b1 := fin_of ((bkI E _).must [93]) hf
    have b2 := fin_of ((bkI E _).num (wideP := wideP)) b1
    have b3 := fin_of ((bkI E _).sign [43]) b2
    obtain ⟨e1, g1⟩ := h.sign A b3 [43]
    obtain ⟨e2, g2⟩ := g1.num A b2 b1.code
    refine ⟨by rw [e1, hb], fun _ => ⟨e2, g2.must A b1 hf.code⟩, fun h => by cases h⟩
  | false =>
    rw [hb, if_neg (by decide)] at hf
    have b1 := fin_of ((bkI E _).must [93]) hf
    have b3 := fin_of ((bkI E _).sign [43]) b1
    obtain ⟨e1, g1⟩ := h.sign A b3 [43]
    exact ⟨by rw [e1, hb], (fun h => by cases h), fun _ => g1.must A b1 hf.code⟩
/-- How many: behind what is to be multiplied. -/
def tailP (wideP : List UInt8 → Nat × Nat) (E : PE) (mul : Nat) (s : PS) : (List UInt8 × Nat × Nat) × PS :=
  if (signP E [43] (nameP E s).2).1 = true then (((nameP E s).1, mul, (numP wideP E (signP E [43] (nameP E s).2).2).1), mustP E [93] (numP wideP E (signP E [43] (nameP E s).2).2).2)
  else (((nameP E s).1, mul, 0), mustP E [93] (signP E [43] (nameP E s).2).2)
omit A in
theorem InP.tail {I : PS → Prop} [C : Clo E I] (h : InP I E s) (mul : Nat) : InP I E (tailP wideP E mul s).2 := by
  have h1 := h.name.sign [43]
  unfold tailP
  generalize signP E [43] (nameP E s).2 = p at *
  split
  · exact (h1.num (wideP := wideP)).must [93]
  · exact h1.must [93]
/-- How many, behind the bracket. -/
def exprR (wideP : List UInt8 → Nat × Nat) (E : PE) (s : PS) : (List UInt8 × Nat × Nat) × PS :=
  if (peekP E s).kind = 2 then
    (if (signP E [42] (numP wideP E s).2).1 = false then (([], 0, (numP wideP E s).1), mustP E [93] (signP E [42] (numP wideP E s).2).2)
     else tailP wideP E (numP wideP E s).1 (if (numP wideP E s).1 = 0 then wrongP 1 (signP E [42] (numP wideP E s).2).2 else (signP E [42] (numP wideP E s).2).2))
  else tailP wideP E 1 s
omit A in
theorem exprP_eq (s : PS) : exprP wideP E s = exprR wideP E (mustP E [91] s) := rfl
omit A in
theorem InP.exprR {I : PS → Prop} [C : Clo E I] (h : InP I E s) : InP I E (exprR wideP E s).2 := by
  have h1 := (h.num (wideP := wideP)).sign [42]
  unfold Go.Proofs.YtepdapdekaiioaaGreatDoor.exprR
  generalize signP E [42] (numP wideP E s).2 = p at *
  split
  · split
    · exact h1.must [93]
    · have h2 : InP I E (if (numP wideP E s).1 = 0 then wrongP 1 p.2 else p.2) := by
        split
        · exact h1.wrong 1 (by decide)
        · exact h1
      exact h2.tail (wideP := wideP) (numP wideP E s).1
  · exact h.tail (wideP := wideP) 1
theorem Sh.tail (h : Sh n B D s t) (mul : Nat) (hf : Fin' m (tailP wideP E mul s).2) : (tailP wideP F mul t).1 = (tailP wideP E mul s).1 ∧ Sh n B D (tailP wideP E mul s).2 (tailP wideP F mul t).2 := by
  have k0 : Fin' m s := fin_of ((bkI E s).tail (wideP := wideP) mul) hf
  have hf2 : Fin' m (if (signP E [43] (nameP E s).2).1 = true then mustP E [93] (numP wideP E (signP E [43] (nameP E s).2).2).2 else mustP E [93] (signP E [43] (nameP E s).2).2) := by
    unfold tailP at hf
    split
    · rename_i hc; rw [if_pos hc] at hf; dsimp only at hf; exact hf
    · rename_i hc; rw [if_neg hc] at hf; dsimp only at hf; exact hf
  have b1 : Fin' m (nameP E s).2 := by
    have h1 := (bkI E (nameP E s).2).sign [43]
    refine fin_of (E := E) ?_ hf2
    generalize signP E [43] (nameP E s).2 = p at *
    split
    · exact (h1.num (wideP := wideP)).must [93]
    · exact h1.must [93]
  obtain ⟨e1, g1⟩ := h.name A k0 b1.code
  obtain ⟨e2, e3, e4⟩ := g1.plus A hf2
  unfold tailP
  rw [e1, e2]
  cases hb : (signP E [43] (nameP E s).2).1 with
  | true =>
    obtain ⟨e5, e6⟩ := e3 hb
    simp only [if_true, e5]
    exact ⟨trivial, e6⟩
  | false =>
    have e6 := e4 hb
    simp only [Bool.false_eq_true, if_false]
    exact ⟨trivial, e6⟩
theorem Sh.expr (h : Sh n B D s t) (hf : Fin' m (exprP wideP E s).2) : (exprP wideP F t).1 = (exprP wideP E s).1 ∧ Sh n B D (exprP wideP E s).2 (exprP wideP F t).2 := by
  have k0 : Fin' m s := fin_of ((bkI E s).expr (wideP := wideP)) hf
  have b0 : Fin' m (mustP E [91] s) := fin_of ((bkI E (mustP E [91] s)).exprR (wideP := wideP)) hf
  have g0 := h.must A k0 b0.code
  rw [exprP_eq] at hf
  rw [exprP_eq (E := E), exprP_eq (E := F)]
  unfold Go.Proofs.YtepdapdekaiioaaGreatDoor.exprR at hf ⊢
  rw [g0.kind A b0]
  generalize mustP E [91] s = s1 at *
  generalize mustP F [91] t = t1 at *
  split
  · rename_i hk
    rw [if_pos hk] at hf
    by_cases hs : (signP E [42] (numP wideP E s1).2).1 = false
    · rw [if_pos hs] at hf ⊢
      have b1 := fin_of ((bkI E _).must [93]) hf
      have b2 := fin_of ((bkI E _).sign [42]) b1
      obtain ⟨e1, g1⟩ := g0.num A b0 b2.code
      obtain ⟨e2, g2⟩ := g1.sign A b2 [42]
      rw [if_pos (e2.trans hs), e1]
      exact ⟨rfl, g2.must A b1 hf.code⟩
    · rw [if_neg hs] at hf ⊢
      have b1 := fin_of ((bkI E _).tail (wideP := wideP) _) hf
      have hz : ¬ (numP wideP E s1).1 = 0 := fun hz => by
        rw [if_pos hz] at b1
        have hc : (wrongP 1 (signP E [42] (numP wideP E s1).2).2).code ≠ 0 := by
          by_cases hc : (signP E [42] (numP wideP E s1).2).2.code = 0
          · exact wrong_code (by decide) hc
          · unfold wrongP; rw [if_neg hc]; exact hc
        exact hc b1.code
      rw [if_neg hz] at hf b1 ⊢
      have b2 := fin_of ((bkI E _).sign [42]) b1
      obtain ⟨e1, g1⟩ := g0.num A b0 b2.code
      obtain ⟨e2, g2⟩ := g1.sign A b2 [42]
      rw [if_neg (by rw [e2]; exact hs), e1, if_neg hz]
      exact g2.tail A _ hf
  · rename_i hk
    rw [if_neg hk] at hf
    exact g0.tail A 1 hf
theorem Sh.derive (h : Sh n B D s t) (k0 : Fin' m s) (hf : (deriveP E s).2.code = 0) : (deriveP F t).1 = (deriveP E s).1 ∧ Sh n B D (deriveP E s).2 (deriveP F t).2 := by
  obtain ⟨e1, g1⟩ := h.kw A k0 [115, 105, 122, 101]
  obtain ⟨e2, g2⟩ := h.kw A k0 [99, 111, 117, 110, 116]
  obtain ⟨e3, g3⟩ := h.kw A k0 [99, 114, 99]
  unfold deriveP at hf ⊢
  rw [e1, e2, e3]
  split
  · exact ⟨rfl, g1⟩
  split
  · exact ⟨rfl, g2⟩
  split
  · exact ⟨rfl, g3⟩
  · rename_i h1 h2 h3
    rw [if_neg h1, if_neg h2, if_neg h3] at hf
    exact absurd hf (wrong_code (by decide) h.cs)
end
end Go.Proofs.YtepdapdekaiioaaGreatDoor
end
section
/- The reader run on another list: types, names. No program in sight. -/
namespace Go.Proofs.YtepdapdekaiioaaGreatDoor
open Go Go.E
set_option linter.unusedVariables false
set_option linter.unusedSimpArgs false
set_option linter.unusedSectionVars false
set_option maxRecDepth 10000
section
variable {wideP : List UInt8 → Nat × Nat} {E F : PE} {n m : Nat} {B : List NodeD} {D : List DefD} {s t : PS}
theorem Bak.len {s t : PS} (h : Bak s t) (k : t.code = 0) : s.nodes.length ≤ t.nodes.length := (h.get k).2.2.1
theorem len_of {s f : PS} {k : Nat} (h : InP (Bak s) E f) (hf : f.code = 0) (hk : k < B.length + s.nodes.length) : k < B.length + f.nodes.length := by
  have := h.get.len hf; omega
/-- A field, behind its type. -/
def fieldR (E : PE) (nm : List UInt8) (k : Nat × PS) : FieldD × PS :=
  if (signP E [61] k.2).1 = true then
    if (deriveP E (signP E [61] k.2).2).1 = 3 then
      (⟨nm, k.1, (deriveP E (signP E [61] k.2).2).1, (nameP E (mustP E [40] (deriveP E (signP E [61] k.2).2).2)).1, (nameP E (mustP E [46, 46] (nameP E (mustP E [40] (deriveP E (signP E [61] k.2).2).2)).2)).1⟩,
        mustP E [59] (mustP E [41] (nameP E (mustP E [46, 46] (nameP E (mustP E [40] (deriveP E (signP E [61] k.2).2).2)).2)).2))
    else (⟨nm, k.1, (deriveP E (signP E [61] k.2).2).1, (nameP E (mustP E [40] (deriveP E (signP E [61] k.2).2).2)).1, []⟩, mustP E [59] (mustP E [41] (nameP E (mustP E [40] (deriveP E (signP E [61] k.2).2).2)).2))
  else (⟨nm, k.1, 0, [], []⟩, mustP E [59] (signP E [61] k.2).2)
theorem fieldP_eq (K : PS → Nat × PS) (s : PS) : fieldP E K s = fieldR E (nameP E s).1 (K (mustP E [58] (nameP E s).2)) := rfl
theorem InP.fieldR {I : PS → Prop} [C : Clo E I] {k : Nat × PS} (h : InP I E k.2) (nm : List UInt8) : InP I E (fieldR E nm k).2 := by
  have h1 := h.sign [61]
  unfold Go.Proofs.YtepdapdekaiioaaGreatDoor.fieldR
  generalize signP E [61] k.2 = e at *
  split
  · have h3 := (h1.derive.must [40]).name
    generalize deriveP E e.2 = d at *
    generalize nameP E (mustP E [40] d.2) = o at *
    split <;> dsimp only
    · exact (((h3.must [46, 46]).name).must [41]).must [59]
    · exact (h3.must [41]).must [59]
  · dsimp only
    exact h1.must [59]
set_option maxHeartbeats 600000 in
theorem Sh.fieldR (A : Agr E F n m) {k k' : Nat × PS} (h : Sh n B D k.2 k'.2) (hk : k'.1 = k.1 + B.length) (nm : List UInt8) (hf : Fin' m (fieldR E nm k).2) :
    (fieldR F nm k').1 = mvF B.length (fieldR E nm k).1 ∧ Sh n B D (fieldR E nm k).2 (fieldR F nm k').2 := by
  have k0 : Fin' m k.2 := fin_of ((bkI E k.2).fieldR nm) hf
  obtain ⟨e1, g1⟩ := h.sign A k0 [61]
  have hi : ((k'.1 : Nat) : Int) = (k.1 : Int) + (B.length : Int) := by omega
  unfold Go.Proofs.YtepdapdekaiioaaGreatDoor.fieldR at hf ⊢
  rw [e1]
  generalize signP E [61] k.2 = a at *
  generalize signP F [61] k'.2 = a' at *
  split
  · rename_i ha
    rw [if_pos ha] at hf
    by_cases hd : (deriveP E a.2).1 = 3
    · rw [if_pos hd] at hf ⊢
      dsimp only at hf ⊢
      have b1 := fin_of ((bkI E _).must [59]) hf
      have b2 := fin_of ((bkI E _).must [41]) b1
      have b3 := fin_of ((bkI E _).name) b2
      have b4 := fin_of ((bkI E _).must [46, 46]) b3
      have b5 := fin_of ((bkI E _).name) b4
      have b6 := fin_of ((bkI E _).must [40]) b5
      have b7 := fin_of ((bkI E _).derive) b6
      obtain ⟨e2, g2⟩ := g1.derive A b7 b6.code
      have g3 := g2.must A b6 b5.code
      obtain ⟨e4, g4⟩ := g3.name A b5 b4.code
      have g5 := g4.must A b4 b3.code
      obtain ⟨e6, g6⟩ := g5.name A b3 b2.code
      rw [e2, e4, e6, if_pos hd]
      dsimp only
      exact ⟨by simp only [mvF, hi], (g6.must A b2 b1.code).must A b1 hf.code⟩
    · rw [if_neg hd] at hf ⊢
      dsimp only at hf ⊢
      have b1 := fin_of ((bkI E _).must [59]) hf
      have b2 := fin_of ((bkI E _).must [41]) b1
      have b3 := fin_of ((bkI E _).name) b2
      have b4 := fin_of ((bkI E _).must [40]) b3
      have b5 := fin_of ((bkI E _).derive) b4
      obtain ⟨e2, g2⟩ := g1.derive A b5 b4.code
      have g3 := g2.must A b4 b3.code
      obtain ⟨e4, g4⟩ := g3.name A b3 b2.code
      rw [e2, e4, if_neg hd]
      dsimp only
      exact ⟨by simp only [mvF, hi], (g4.must A b2 b1.code).must A b1 hf.code⟩
  · rename_i ha
    rw [if_neg ha] at hf
    dsimp only at hf ⊢
    have b1 := fin_of ((bkI E _).must [59]) hf
    exact ⟨by simp only [mvF, hi], g1.must A b1 hf.code⟩
/-- The reader of types, so deep: what it keeps, and what it tells of another list. -/
structure Rd (E F : PE) (n m : Nat) (B : List NodeD) (D : List DefD) (K K' : PS → Nat × PS) : Prop where
  inE : ∀ (s x : PS), InP (Bak x) E s → InP (Bak x) E (K s).2
  inF : ∀ t : PS, Tw F t → Tw F (K' t).2
  sim : ∀ s t : PS, Sh n B D s t → Fin' m (K s).2 → OutP E F n B D (idxR B.length) (K s) (K' t)
variable {K K' : PS → Nat × PS}
theorem Sh.field (A : Agr E F n m) (R : Rd E F n m B D K K') (h : Sh n B D s t) (hf : Fin' m (fieldP E K s).2) : OutP E F n B D (fun a b => b = mvF B.length a) (fieldP E K s) (fieldP F K' t) := by
  rw [fieldP_eq] at hf ⊢
  rw [fieldP_eq]
  have b1 := fin_of ((bkI E _).fieldR _) hf
  have b2 := fin_of (R.inE _ _ (bkI E _)) b1
  have b3 := fin_of ((bkI E _).must [58]) b2
  have b4 := fin_of ((bkI E _).name) b3
  obtain ⟨e1, g1⟩ := h.name A b4 b3.code
  have g2 := g1.must A b3 b2.code
  rw [e1]
  rcases R.sim _ _ g2 b1 with ⟨h1, h2⟩ | ⟨h1, h2⟩
  · exact .inl ⟨(InP.fieldR (I := fun s => s.code = 2) ⟨h1⟩ _).get, len_of ((bkI E _).fieldR _) hf.code h2⟩
  · exact .inr (h2.fieldR A h1 _ hf)
theorem code_zero {s : PS} {α : Type} {a b : α} (h : s.code = 0) : (if s.code ≠ 0 then a else b) = b := if_neg (fun h0 => h0 h)
theorem Sh.fields (A : Agr E F n m) (R : Rd E F n m B D K K') : ∀ (f : Nat) (fs : List FieldD) (s t : PS), Sh n B D s t → Fin' m (fieldsP E K f fs s).2 →
    OutP E F n B D (fun a b => b = a.map (mvF B.length)) (fieldsP E K f fs s) (fieldsP F K' f (fs.map (mvF B.length)) t)
  | 0, fs, s, t, h, hf => .inr ⟨rfl, h⟩
  | f + 1, fs, s, t, h, hf => by
    have k0 : Fin' m s := fin_of (InP.fields (fun s' => R.inE s' _) (f + 1) fs s (bkI E s)) hf
    rw [fieldsP, code_zero h.cs] at hf ⊢
    rw [fieldsP, code_zero h.ct]
    dsimp only at hf ⊢
    obtain ⟨e1, g1⟩ := h.sign A k0 [125]
    rw [e1]
    generalize signP E [125] s = a at *
    generalize signP F [125] t = a' at *
    split
    · exact .inr ⟨rfl, g1⟩
    · rename_i ha
      rw [if_neg ha] at hf
      have b1 := fin_of (InP.fields (fun s' => R.inE s' _) f _ _ (bkI E _)) hf
      have b2 := fin_of (InP.field (fun s' => R.inE s' _) (bkI E _)) b1
      have hl : ¬ fs.length = 64 := fun hl => by
        rw [if_pos hl] at b2
        exact absurd b2.code (wrong_code (by decide) g1.cs)
      rw [if_neg hl] at hf b1 b2 ⊢
      rw [if_neg (by rw [List.length_map]; exact hl)]
      rcases g1.field A R b1 with ⟨h1, h2⟩ | ⟨h1, h2⟩
      · exact .inl ⟨(InP.fields (I := fun s => s.code = 2) (fun t' ht' => R.inF t' ht') f _ _ ⟨h1⟩).get, len_of (InP.fields (fun s' => R.inE s' _) f _ _ (bkI E _)) hf.code h2⟩
      · have := Sh.fields A R f (fs ++ [(fieldP E K a.2).1]) _ _ h2 hf
        rw [List.map_append, List.map_singleton] at this
        rw [h1]
        exact this
theorem back_code {s : PS} {e : Nat} (he : e ≠ 0) : (wrongP e (backP s)).code ≠ 0 := by
  unfold wrongP
  split
  · exact he
  · rename_i h; exact h
theorem wrong_any {s : PS} {e : Nat} (he : e ≠ 0) : (wrongP e s).code ≠ 0 := by
  unfold wrongP
  split
  · exact he
  · rename_i h; exact h
theorem Sh.record (A : Agr E F n m) (R : Rd E F n m B D K K') (h : Sh n B D s t) (hf : Fin' m (recordP E K s).2) : OutP E F n B D (idxR B.length) (recordP E K s) (recordP F K' t) := by
  have k0 : Fin' m s := fin_of (InP.record (fun s' => R.inE s' _) (bkI E s)) hf
  unfold recordP at hf ⊢
  dsimp only at hf ⊢
  have b1 := fin_of ((bkI E _).add _) hf
  have hl : ¬ ((fieldsP E K 70 [] (mustP E [123] s)).2.code = 0 ∧ (fieldsP E K 70 [] (mustP E [123] s)).1.length = 0) := fun hc => by
    rw [if_pos hc] at b1
    exact absurd b1.code (back_code (by decide))
  rw [if_neg hl] at hf b1 ⊢
  have b2 := fin_of (InP.fields (fun s' => R.inE s' _) 70 _ _ (bkI E _)) b1
  have g1 := h.must A k0 b2.code
  rcases g1.fields A R 70 [] _ _ b1 with ⟨h1, h2⟩ | ⟨h1, h2⟩
  · refine .inl ⟨?_, len_of ((bkI E _).add _) hf.code h2⟩
    rw [List.map_nil] at h1
    rw [if_neg (fun h => by rw [h1] at h; cases h.1)]
    exact (InP.add (I := fun s => s.code = 2) ⟨h1⟩ _).get
  · rw [List.map_nil] at h1 h2
    have h1 : (fieldsP F K' 70 [] (mustP F [123] t)).1 = (fieldsP E K 70 [] (mustP E [123] s)).1.map (mvF B.length) := h1
    rw [h1, if_neg (fun hc => hl ⟨h2.cs, by simpa using hc.2⟩)]
    exact h2.add A (by simp [mvD, node0]) hf.code
set_option maxHeartbeats 600000 in
theorem Sh.cases (A : Agr E F n m) (R : Rd E F n m B D K K') : ∀ (f : Nat) (cs : List CaseD) (s t : PS), Sh n B D s t → Fin' m (casesP wideP E K f cs s).2 →
    OutP E F n B D (fun a b => b = a.map (mvC B.length)) (casesP wideP E K f cs s) (casesP wideP F K' f (cs.map (mvC B.length)) t)
  | 0, cs, s, t, h, hf => .inr ⟨rfl, h⟩
  | f + 1, cs, s, t, h, hf => by
    have k0 : Fin' m s := fin_of (InP.cases (wideP := wideP) (fun s' => R.inE s' _) (f + 1) cs s (bkI E s)) hf
    rw [casesP] at hf ⊢
    rw [casesP]
    dsimp only at hf ⊢
    have hc : (t.code ≠ 0 ∨ (peekP F t).kind ≠ 2) ↔ (s.code ≠ 0 ∨ (peekP E s).kind ≠ 2) := by rw [h.cs, h.ct, h.kind A k0]
    by_cases hp : s.code ≠ 0 ∨ (peekP E s).kind ≠ 2
    · rw [if_pos hp, if_pos (hc.2 hp)]
      exact .inr ⟨rfl, h⟩
    · rw [if_neg hp] at hf
      rw [if_neg hp, if_neg (fun h => hp (hc.1 h))]
      have b1 := fin_of (InP.cases (wideP := wideP) (fun s' => R.inE s' _) f _ _ (bkI E _)) hf
      have b2 := fin_of ((bkI E _).must [59]) b1
      have b3 := fin_of (R.inE _ _ (bkI E _)) b2
      have b4 := fin_of ((bkI E _).must [58]) b3
      have b5 := fin_of ((bkI E _).num (wideP := wideP)) b4
      have hl : ¬ cs.length = 64 := fun hl => by
        rw [if_pos hl] at b5
        exact absurd b5.code (wrong_code (by decide) h.cs)
      rw [if_neg hl] at hf b1 b2 b3 b4 b5 ⊢
      rw [if_neg (by rw [List.length_map]; exact hl)]
      obtain ⟨e1, g1⟩ := h.num A b5 b4.code
      have g2 := g1.must A b4 b3.code
      rw [e1]
      rcases R.sim _ _ g2 b2 with ⟨h1, h2⟩ | ⟨h1, h2⟩
      · exact .inl ⟨(InP.cases (I := fun s => s.code = 2) (wideP := wideP) (fun t' ht' => R.inF t' ht') f _ _ (InP.must ⟨h1⟩ _)).get, len_of (InP.cases (wideP := wideP) (fun s' => R.inE s' _) f _ _ ((bkI E _).must _)) hf.code h2⟩
      · have := Sh.cases A R f (cs ++ [⟨(numP wideP E s).1, (K (mustP E [58] (numP wideP E s).2)).1⟩]) _ _ (h2.must A b2 b1.code) hf
        rw [List.map_append, List.map_singleton] at this
        have h1 : (K' (mustP F [58] (numP wideP F t).2)).1 = (K (mustP E [58] (numP wideP E s).2)).1 + B.length := h1
        rw [h1]
        have e : mvC B.length ⟨(numP wideP E s).1, ((K (mustP E [58] (numP wideP E s).2)).1 : Int)⟩ = ⟨(numP wideP E s).1, (((K (mustP E [58] (numP wideP E s).2)).1 + B.length : Nat) : Int)⟩ := by
          unfold mvC; simp
        rw [e] at this
        exact this
/-- A switch's modulus, its other type. -/
def modP (wideP : List UInt8 → Nat × Nat) (E : PE) (s : PS) : Nat × PS :=
  ((if (signP E [37] s).1 = true then numP wideP E (signP E [37] s).2 else (0, (signP E [37] s).2)).1,
    if (signP E [37] s).1 = true ∧ (if (signP E [37] s).1 = true then numP wideP E (signP E [37] s).2 else (0, (signP E [37] s).2)).2.code = 0 ∧ (if (signP E [37] s).1 = true then numP wideP E (signP E [37] s).2 else (0, (signP E [37] s).2)).1 = 0
    then wrongP 1 (backP (if (signP E [37] s).1 = true then numP wideP E (signP E [37] s).2 else (0, (signP E [37] s).2)).2) else (if (signP E [37] s).1 = true then numP wideP E (signP E [37] s).2 else (0, (signP E [37] s).2)).2)
def elseP (E : PE) (K : PS → Nat × PS) (s : PS) : Int × PS :=
  if (kwP E [101, 108, 115, 101] s).1 = true then (((K (mustP E [58] (kwP E [101, 108, 115, 101] s).2)).1 : Int), mustP E [59] (K (mustP E [58] (kwP E [101, 108, 115, 101] s).2)).2) else (-1, (kwP E [101, 108, 115, 101] s).2)
def someP (c : List CaseD × PS) : PS := if c.1.length = 0 then wrongP 5 c.2 else c.2
def switchR (E : PE) (K : PS → Nat × PS) (nm : List UInt8) (v : Nat) (c : List CaseD × PS) : Nat × PS :=
  addP E { node0 with kind := 9, reg := nm, mod := v, cases := c.1, els := (elseP E K (someP c)).1 } (mustP E [125] (elseP E K (someP c)).2)
theorem switchP_eq (K : PS → Nat × PS) (s : PS) : switchP wideP E K s = switchR E K (nameP E s).1 (modP wideP E (nameP E s).2).1 (casesP wideP E K 70 [] (mustP E [123] (modP wideP E (nameP E s).2).2)) := by
  unfold switchP switchR elseP modP someP
  dsimp only
  generalize casesP wideP E K 70 [] _ = c
  generalize (if c.1.length = 0 then wrongP 5 c.2 else c.2) = s2
  generalize kwP E [101, 108, 115, 101] s2 = e
  cases e.1 <;> rfl
theorem InP.mod {I : PS → Prop} [C : Clo E I] (h : InP I E s) : InP I E (modP wideP E s).2 := by
  unfold modP
  have h1 := h.sign [37]
  generalize signP E [37] s = a at *
  have h2 : InP I E (if a.1 = true then numP wideP E a.2 else (0, a.2)).2 := by
    split
    · exact h1.num
    · exact h1
  generalize (if a.1 = true then numP wideP E a.2 else (0, a.2)) = v at *
  dsimp only
  split
  · exact h2.backW 1 (by decide)
  · exact h2
theorem InP.else' {I : PS → Prop} [C : Clo E I] (hK : ∀ s, InP I E s → InP I E (K s).2) (h : InP I E s) : InP I E (elseP E K s).2 := by
  have h1 := h.kw [101, 108, 115, 101]
  unfold elseP
  generalize kwP E [101, 108, 115, 101] s = e at *
  split <;> dsimp only
  · exact (hK _ (h1.must [58])).must [59]
  · exact h1
theorem InP.some' {I : PS → Prop} [C : Clo E I] {c : List CaseD × PS} (h : InP I E c.2) : InP I E (someP c) := by
  unfold someP
  split
  · exact h.wrong 5 (by decide)
  · exact h
theorem InP.switchR {I : PS → Prop} [C : Clo E I] (hK : ∀ s, InP I E s → InP I E (K s).2) {c : List CaseD × PS} (h : InP I E c.2) (nm : List UInt8) (v : Nat) : InP I E (switchR E K nm v c).2 :=
  InP.add (InP.must (InP.else' hK (InP.some' h)) _) _
theorem Sh.mod (A : Agr E F n m) (h : Sh n B D s t) (hf : Fin' m (modP wideP E s).2) : (modP wideP F t).1 = (modP wideP E s).1 ∧ Sh n B D (modP wideP E s).2 (modP wideP F t).2 := by
  have k0 : Fin' m s := fin_of ((bkI E s).mod (wideP := wideP)) hf
  obtain ⟨e1, g1⟩ := h.sign A k0 [37]
  unfold modP at hf ⊢
  rw [e1]
  generalize signP E [37] s = a at *
  generalize signP F [37] t = a' at *
  dsimp only at hf ⊢
  cases ha : a.1 with
  | false =>
    rw [ha] at hf
    simp only [Bool.false_eq_true, if_false, false_and] at hf ⊢
    exact ⟨trivial, g1⟩
  | true =>
    rw [ha] at hf
    simp only [if_true, true_and] at hf ⊢
    have hl : ¬ ((numP wideP E a.2).2.code = 0 ∧ (numP wideP E a.2).1 = 0) := fun hc => by
      rw [if_pos hc] at hf
      exact absurd hf.code (back_code (by decide))
    rw [if_neg hl] at hf ⊢
    have b1 := fin_of ((bkI E _).num (wideP := wideP)) hf
    obtain ⟨e2, g2⟩ := g1.num A b1 hf.code
    rw [e2, if_neg (fun hc => hl ⟨hf.code, hc.2⟩)]
    exact ⟨rfl, g2⟩
theorem Sh.else' (A : Agr E F n m) (R : Rd E F n m B D K K') (h : Sh n B D s t) (hf : Fin' m (elseP E K s).2) : OutP E F n B D (fun (i j : Int) => (i = -1 ∧ j = -1) ∨ (0 ≤ i ∧ j = i + B.length)) (elseP E K s) (elseP F K' t) := by
  have k0 : Fin' m s := fin_of (InP.else' (fun s' => R.inE s' _) (bkI E s)) hf
  obtain ⟨e1, g1⟩ := h.kw A k0 [101, 108, 115, 101]
  unfold elseP at hf ⊢
  rw [e1]
  generalize kwP E [101, 108, 115, 101] s = a at *
  generalize kwP F [101, 108, 115, 101] t = a' at *
  split
  · rename_i ha
    rw [if_pos ha] at hf
    dsimp only at hf
    have b1 := fin_of ((bkI E _).must [59]) hf
    have b2 := fin_of (R.inE _ _ (bkI E _)) b1
    have b3 := fin_of ((bkI E _).must [58]) b2
    have g2 := g1.must A b3 b2.code
    rcases R.sim _ _ g2 b1 with ⟨h1, h2⟩ | ⟨h1, h2⟩
    · exact .inl ⟨(InP.must (I := fun s => s.code = 2) ⟨h1⟩ _).get, len_of ((bkI E _).must _) hf.code h2⟩
    · refine .inr ⟨.inr ⟨Int.natCast_nonneg _, ?_⟩, h2.must A b1 hf.code⟩
      have h1 : (K' (mustP F [58] a'.2)).1 = (K (mustP E [58] a.2)).1 + B.length := h1
      dsimp only
      rw [h1]; simp
  · exact .inr ⟨.inl ⟨rfl, rfl⟩, g1⟩
set_option maxHeartbeats 600000 in
theorem Sh.switch (A : Agr E F n m) (R : Rd E F n m B D K K') (h : Sh n B D s t) (hf : Fin' m (switchP wideP E K s).2) : OutP E F n B D (idxR B.length) (switchP wideP E K s) (switchP wideP F K' t) := by
  have k0 : Fin' m s := fin_of (InP.switch (wideP := wideP) (fun s' => R.inE s' _) (bkI E s)) hf
  rw [switchP_eq] at hf ⊢
  rw [switchP_eq]
  have b1 := fin_of (InP.switchR (fun s' => R.inE s' _) (bkI E _) _ _) hf
  have b2 := fin_of (InP.cases (wideP := wideP) (fun s' => R.inE s' _) 70 _ _ (bkI E _)) b1
  have b3 := fin_of ((bkI E _).must [123]) b2
  have b4 := fin_of ((bkI E _).mod (wideP := wideP)) b3
  obtain ⟨e1, g1⟩ := h.name A k0 b4.code
  obtain ⟨e2, g2⟩ := g1.mod A b3
  have g3 := g2.must A b3 b2.code
  rw [e1, e2]
  have hc := g3.cases A R 70 [] _ _ b1
  rw [List.map_nil] at hc
  clear g3 b2 b3 b4 g1 g2
  generalize casesP wideP E K 70 [] (mustP E [123] (modP wideP E (nameP E s).2).2) = c at *
  generalize casesP wideP F K' 70 [] (mustP F [123] (modP wideP F (nameP F t).2).2) = c' at *
  generalize (nameP E s).1 = nm at *
  generalize (modP wideP E (nameP E s).2).1 = v at *
  rcases hc with ⟨h1, h2⟩ | ⟨h1, h2⟩
  · have hT : Tw F (switchR F K' nm v c').2 := InP.switchR (fun t' ht' => R.inF t' ht') ⟨h1⟩ nm v
    have hE : InP (Bak c.2) E (switchR E K nm v c).2 := InP.switchR (fun s' => R.inE s' _) (bkI E c.2) nm v
    exact .inl ⟨hT.get, len_of hE hf.code h2⟩
  · unfold switchR at hf ⊢
    have c1 := fin_of ((bkI E _).add _) hf
    have c2 := fin_of ((bkI E _).must [125]) c1
    have c3 := fin_of (InP.else' (fun s' => R.inE s' _) (bkI E _)) c2
    have hl : ¬ c.1.length = 0 := fun hl => by
      unfold someP at c3
      rw [if_pos hl] at c3
      exact absurd c3.code (wrong_any (by decide))
    have h1 : c'.1 = c.1.map (mvC B.length) := h1
    have hs : someP c = c.2 := by unfold someP; rw [if_neg hl]
    have hs' : someP c' = c'.2 := by unfold someP; rw [h1, if_neg (by rw [List.length_map]; exact hl)]
    rw [hs] at hf c1 c2 c3 ⊢
    rw [hs']
    rcases h2.else' A R c2 with ⟨i1, i2⟩ | ⟨i1, i2⟩
    · exact .inl ⟨(InP.add (I := fun s => s.code = 2) (InP.must ⟨i1⟩ _) _).get, len_of (((bkI E _).must _).add _) hf.code i2⟩
    · refine (i2.must A c2 c1.code).add A ?_ hf.code
      rw [h1]
      unfold mvD
      rcases i1 with ⟨j1, j2⟩ | ⟨j1, j2⟩
      · rw [j1, j2, if_neg (fun h => absurd h.2 (show ¬ (0 : Int) ≤ -1 by decide))]; rfl
      · rw [j2, if_pos ⟨rfl, j1⟩]; rfl
/-- What a list of types tells. -/
def OutC (E F : PE) (n : Nat) (B : List NodeD) (D : List DefD) (r r' : List Int × List Bool × PS) : Prop :=
  (r'.2.2.code = 2 ∧ F.lim < B.length + r.2.2.nodes.length) ∨ (r'.1 = r.1.map (fun k => k + (B.length : Int)) ∧ r'.2.1 = r.2.1 ∧ Sh n B D r.2.2 r'.2.2)
theorem Sh.last (A : Agr E F n m) (h : Sh n B D s t) (k0 : Fin' m s) (kind : Int) : (lastP F kind t).1 = (lastP E kind s).1 ∧ Sh n B D (lastP E kind s).2 (lastP F kind t).2 := by
  unfold lastP
  split
  · exact h.kw A k0 _
  · exact ⟨rfl, h⟩
set_option maxHeartbeats 600000 in
theorem Sh.choices (A : Agr E F n m) (R : Rd E F n m B D K K') (kind : Int) : ∀ (f : Nat) (ks : List Int) (ls : List Bool) (s t : PS), Sh n B D s t → Fin' m (choicesP E K kind f ks ls s).2.2 →
    OutC E F n B D (choicesP E K kind f ks ls s) (choicesP F K' kind f (ks.map (fun k => k + (B.length : Int))) ls t)
  | 0, ks, ls, s, t, h, hf => .inr ⟨rfl, rfl, h⟩
  | f + 1, ks, ls, s, t, h, hf => by
    have k0 : Fin' m s := fin_of (InP.choices (fun s' => R.inE s' _) kind (f + 1) ks ls s (bkI E s)) hf
    rw [choicesP] at hf ⊢
    rw [choicesP]
    have hInP : ∀ {I : PS → Prop} [C : Clo E I] (hK : ∀ s, InP I E s → InP I E (K s).2) {u : PS}, InP I E (K (lastP E kind (overP ks.length s)).2).2 → InP I E (if (signP E [124] (K (lastP E kind (overP ks.length s)).2).2).1 = true ∧ (signP E [124] (K (lastP E kind (overP ks.length s)).2).2).2.code = 0 then
      choicesP E K kind f (ks ++ [((K (lastP E kind (overP ks.length s)).2).1 : Int)]) (lastsP kind ls (lastP E kind (overP ks.length s)).1) (signP E [124] (K (lastP E kind (overP ks.length s)).2).2).2
      else (ks ++ [((K (lastP E kind (overP ks.length s)).2).1 : Int)], lastsP kind ls (lastP E kind (overP ks.length s)).1, (signP E [124] (K (lastP E kind (overP ks.length s)).2).2).2)).2.2 := by
      intro I C hK u hu
      split
      · exact InP.choices hK kind f _ _ _ (hu.sign _)
      · exact hu.sign _
    have b1 := fin_of (hInP (fun s' => R.inE s' _) (u := s) (bkI E _)) hf
    have b2 := fin_of (R.inE _ _ (bkI E _)) b1
    have b3 := fin_of ((bkI E _).last kind) b2
    have hl : ¬ ks.length = 64 := fun hl => by
      unfold overP at b3
      rw [if_pos hl] at b3
      exact absurd b3.code (wrong_code (by decide) h.cs)
    have ho : overP ks.length s = s := by unfold overP; rw [if_neg hl]
    have ho' : overP (ks.map (fun k => k + (B.length : Int))).length t = t := by unfold overP; rw [List.length_map, if_neg hl]
    rw [ho] at hf b1 b2 b3 hInP ⊢
    rw [ho']
    obtain ⟨e1, g1⟩ := h.last A k0 kind
    rw [e1]
    rcases R.sim _ _ g1 b1 with ⟨h1, h2⟩ | ⟨h1, h2⟩
    · refine .inl ⟨?_, len_of (hInP (fun s' => R.inE s' _) (u := s) (bkI E _)) hf.code h2⟩
      have hu : Tw F (K' (lastP F kind t).2).2 := ⟨h1⟩
      split
      · exact (InP.choices (fun t' ht' => R.inF t' ht') kind f _ _ _ (hu.sign _)).get
      · exact (hu.sign _).get
    · have h1 : (K' (lastP F kind t).2).1 = (K (lastP E kind s).2).1 + B.length := h1
      obtain ⟨e2, g2⟩ := h2.sign A b1 [124]
      rw [h1, e2]
      have ek : ks.map (fun k => k + (B.length : Int)) ++ [(((K (lastP E kind s).2).1 + B.length : Nat) : Int)] = (ks ++ [((K (lastP E kind s).2).1 : Int)]).map (fun k => k + (B.length : Int)) := by simp
      rw [ek]
      by_cases hc : (signP E [124] (K (lastP E kind s).2).2).1 = true
      · rw [if_pos ⟨hc, g2.cs⟩] at hf ⊢
        rw [if_pos ⟨hc, g2.ct⟩]
        exact Sh.choices A R kind f _ _ _ _ g2 hf
      · rw [if_neg (fun h => hc h.1)] at hf ⊢
        rw [if_neg (fun h => hc h.1)]
        exact .inr ⟨rfl, rfl, g2⟩
theorem Sh.choice (A : Agr E F n m) (R : Rd E F n m B D K K') (h : Sh n B D s t) (kind : Int) (h9 : kind ≠ 9) (hf : Fin' m (choiceP E K kind s).2) : OutP E F n B D (idxR B.length) (choiceP E K kind s) (choiceP F K' kind t) := by
  have k0 : Fin' m s := fin_of (InP.choice (fun s' => R.inE s' _) (bkI E s) kind) hf
  unfold choiceP at hf ⊢
  have b1 := fin_of ((bkI E _).add _) hf
  have b2 := fin_of ((bkI E _).must [125]) b1
  have b3 : Fin' m (mustP E [123] s) := by
    refine fin_of (E := E) ?_ b2
    unfold pickP
    split
    · exact InP.choices (fun s' => R.inE s' _) kind _ _ _ _ (bkI E _)
    · exact bkI E _
  have g1 := h.must A k0 b3.code
  have p1 : pickP E K kind (mustP E [123] s) = choicesP E K kind 70 [] [] (mustP E [123] s) := by unfold pickP; rw [if_pos g1.cs]
  have p2 : pickP F K' kind (mustP F [123] t) = choicesP F K' kind 70 [] [] (mustP F [123] t) := by unfold pickP; rw [if_pos g1.ct]
  rw [p1] at hf b1 b2 ⊢
  rw [p2]
  rcases g1.choices A R kind 70 [] [] _ _ b2 with ⟨h1, h2⟩ | ⟨h1, h2, h3⟩
  · exact .inl ⟨(InP.add (I := fun s => s.code = 2) (InP.must ⟨h1⟩ _) _).get, len_of (((bkI E _).must _).add _) hf.code h2⟩
  · rw [List.map_nil] at h1 h2 h3
    refine (h3.must A b2 b1.code).add A ?_ hf.code
    rw [h1, h2]
    unfold mvD
    rw [if_neg (fun h => h9 h.1)]; rfl
theorem Sh.counted (A : Agr E F n m) (R : Rd E F n m B D K K') (h : Sh n B D s t) (kind : Int) (h9 : kind ≠ 9) (hf : Fin' m (countedP wideP E K kind s).2) : OutP E F n B D (idxR B.length) (countedP wideP E K kind s) (countedP wideP F K' kind t) := by
  unfold countedP at hf ⊢
  dsimp only at hf ⊢
  have b1 := fin_of ((bkI E _).add _) hf
  have b2 := fin_of (R.inE _ _ (bkI E _)) b1
  obtain ⟨e1, g1⟩ := h.expr A b2
  rw [e1]
  rcases R.sim _ _ g1 b1 with ⟨h1, h2⟩ | ⟨h1, h2⟩
  · exact .inl ⟨(InP.add (I := fun s => s.code = 2) ⟨h1⟩ _).get, len_of ((bkI E _).add _) hf.code h2⟩
  · refine h2.add A ?_ hf.code
    have h1 : (K' (exprP wideP F t).2).1 = (K (exprP wideP E s).2).1 + B.length := h1
    rw [h1]
    unfold mvD
    rw [if_neg (fun h => h9 h.1)]
    simp [node0]
theorem Sh.many (A : Agr E F n m) (R : Rd E F n m B D K K') (h : Sh n B D s t) (hf : Fin' m (manyP E K s).2) : OutP E F n B D (idxR B.length) (manyP E K s) (manyP F K' t) := by
  unfold manyP at hf ⊢
  have b1 := fin_of ((bkI E _).add _) hf
  rcases R.sim _ _ h b1 with ⟨h1, h2⟩ | ⟨h1, h2⟩
  · exact .inl ⟨(InP.add (I := fun s => s.code = 2) ⟨h1⟩ _).get, len_of ((bkI E _).add _) hf.code h2⟩
  · refine h2.add A ?_ hf.code
    have h1 : (K' t).1 = (K s).1 + B.length := h1
    rw [h1]
    simp [mvD, node0]
theorem Sh.len (A : Agr E F n m) (h : Sh n B D s t) (x : NodeD) (h1 : x.kids = []) (h2 : x.fields = []) (h3 : x.cases = []) (h4 : x.kind ≠ 9) (hf : Fin' m (lenP wideP E x s).2) : OutP E F n B D (idxR B.length) (lenP wideP E x s) (lenP wideP F x t) := by
  unfold lenP at hf ⊢
  have b1 := fin_of ((bkI E _).ranged (wideP := wideP) _) hf
  have b2 := fin_of ((bkI E _).kw [108, 101, 110, 105, 101, 110, 116]) b1
  obtain ⟨e1, g1⟩ := h.kw A b2 [108, 101, 110, 105, 101, 110, 116]
  rw [e1]
  exact g1.ranged A _ h1 h2 h3 h4 hf
theorem Sh.blob (A : Agr E F n m) (h : Sh n B D s t) (hf : Fin' m (blobP wideP E s).2) : OutP E F n B D (idxR B.length) (blobP wideP E s) (blobP wideP F t) := by
  unfold blobP at hf ⊢
  have b1 := fin_of ((bkI E _).add _) hf
  obtain ⟨e1, g1⟩ := h.expr A b1
  rw [e1]
  exact g1.add A (mvP rfl rfl rfl (by decide : (4 : Int) ≠ 9)) hf.code
theorem Sh.use (A : Agr E F n m) (h : Sh n B D s t) (hf : Fin' m (useP E s).2) : OutP E F n B D (idxR B.length) (useP E s) (useP F t) := by
  unfold useP at hf ⊢
  have b1 := fin_of ((bkI E _).add _) hf
  have b2 := fin_of ((bkI E _).name) b1
  obtain ⟨e1, g1⟩ := h.name A b2 b1.code
  rw [e1]
  exact g1.add A (mvP rfl rfl rfl (by decide : (13 : Int) ≠ 9)) hf.code
theorem OutP.ite {c c' : Bool} (e : c' = c) {a b a' b' : Nat × PS} (hf : Fin' m (if c = true then a else b).2) (h1 : Fin' m a.2 → OutP E F n B D (idxR B.length) a a') (h2 : Fin' m b.2 → OutP E F n B D (idxR B.length) b b') :
    OutP E F n B D (idxR B.length) (if c = true then a else b) (if c' = true then a' else b') := by
  subst e
  cases c' with
  | true => exact h1 hf
  | false => exact h2 hf
set_option maxHeartbeats 600000 in
theorem Sh.named (A : Agr E F n m) (R : Rd E F n m B D K K') (h : Sh n B D s t) (hf : Fin' m (namedP wideP E K s).2) : OutP E F n B D (idxR B.length) (namedP wideP E K s) (namedP wideP F K' t) := by
  have k0 : Fin' m s := fin_of (InP.named (wideP := wideP) (fun s' => R.inE s' _) (bkI E s)) hf
  have w := fun x => (h.kw A k0 x).1
  have g := fun x => (h.kw A k0 x).2
  unfold namedP at hf ⊢
  refine OutP.ite (w _) hf (fun hf => (g _).len A _ rfl rfl rfl (by decide : (2 : Int) ≠ 9) hf) (fun hf => ?_)
  refine OutP.ite (w _) hf (fun hf => (g _).len A _ rfl rfl rfl (by decide : (2 : Int) ≠ 9) hf) (fun hf => ?_)
  refine OutP.ite (w _) hf (fun hf => (g _).blob A hf) (fun hf => ?_)
  refine OutP.ite (w _) hf (fun hf => (g _).counted A R 6 (by decide) hf) (fun hf => ?_)
  refine OutP.ite (w _) hf (fun hf => (g _).counted A R 8 (by decide) hf) (fun hf => ?_)
  refine OutP.ite (w _) hf (fun hf => (g _).many A R hf) (fun hf => ?_)
  refine OutP.ite (w _) hf (fun hf => (g _).switch A R hf) (fun hf => ?_)
  refine OutP.ite (w _) hf (fun hf => (g _).choice A R 10 (by decide) hf) (fun hf => ?_)
  refine OutP.ite (w _) hf (fun hf => (g _).choice A R 11 (by decide) hf) (fun hf => ?_)
  refine OutP.ite (w _) hf (fun hf => (g _).add A (mvP rfl rfl rfl (by decide : (12 : Int) ≠ 9)) hf.code) (fun hf => ?_)
  exact h.use A hf
set_option maxHeartbeats 600000 in
theorem Rd.kind (A : Agr E F n m) : ∀ d : Nat, Rd E F n m B D (kindP wideP E d) (kindP wideP F d)
  | 0 => ⟨fun s x hs => hs.wrong 6 (by decide), fun t ht => ht.wrong 6 (by decide), fun s t h hf => absurd hf.code (wrong_any (by decide))⟩
  | d + 1 => by
    have R := Rd.kind A d
    refine ⟨fun s x hs => InP.kind (d + 1) s hs, fun t ht => InP.kind (d + 1) t ht, fun s t h hf => ?_⟩
    have k0 : Fin' m s := fin_of (InP.kind (wideP := wideP) (d + 1) s (bkI E s)) hf
    rw [kindP, code_zero h.cs] at hf ⊢
    rw [kindP, code_zero h.ct, h.kind A k0, h.text A k0, h.is A k0]
    split
    · rename_i hk
      rw [if_pos hk] at hf
      have b1 := fin_of ((bkI E _).add _) hf
      have hn : ¬ (peekP E s).text = [] := fun hn => by
        rw [if_pos hn] at b1
        exact absurd b1.code (wrong_any (by decide))
      rw [if_neg hn] at hf ⊢
      rw [if_neg hn]
      exact h.step.add A (mvP rfl rfl rfl (by decide : (3 : Int) ≠ 9)) hf.code
    rename_i hk
    rw [if_neg hk] at hf
    split
    · rename_i hi
      rw [if_pos hi] at hf
      exact h.record A R hf
    rename_i hi
    rw [if_neg hi] at hf
    split
    · rename_i h1
      rw [if_pos h1] at hf
      exact absurd hf.code (wrong_any (by decide))
    rename_i h1
    rw [if_neg h1] at hf
    cases hx : fixedD (peekP E s).text with
    | some x =>
      rw [hx] at hf
      exact h.step.ranged A _ rfl rfl rfl (by decide : (1 : Int) ≠ 9) hf
    | none =>
      rw [hx] at hf
      exact h.named A R hf
end
end Go.Proofs.YtepdapdekaiioaaGreatDoor
end
