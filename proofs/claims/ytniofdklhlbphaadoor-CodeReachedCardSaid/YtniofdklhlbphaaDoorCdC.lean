/- Contracts of code: Reached. -/
import Derived.Test.YtniofdklhlbphaaDoorCdB
import Derived.Test.YtniofdklhlbphaaDoorEn3
namespace Go.Proofs.YtniofdklhlbphaaDoor
open Go Go.E
set_option linter.unusedVariables false
set_option linter.unusedSimpArgs false
set_option maxRecDepth 10000
inductive Reach (p : ProgD) : Nat → Prop where
  | first : Reach p 0
  | next {i k : Nat} {s : StepD} (h : Reach p i) (hs : p.steps[i]? = some s) (hk : (k : Int) ∈ followD s i) (hn : k < p.steps.length) : Reach p k
def boolsV (l : List Bool) : List Value := l.map fun z => .bool z
theorem follow_in {p : ProgD} {s : StepD} {i : Nat} (h : rightD p s = true) : ∀ z ∈ followD s i, 0 ≤ z := by
  intro z hz
  unfold followD at hz
  split at hz
  · rename_i hk
    simp only [List.mem_singleton] at hz; subst hz
    simp [rightD, hk, toB] at h; omega
  · split at hz
    · simp at hz
    · split at hz
      · rename_i hk
        simp only [List.mem_cons, List.not_mem_nil, or_false] at hz
        rcases hz with rfl | rfl
        · rcases hk with hk | hk | hk <;> (simp [rightD, hk, toB] at h; omega)
        · omega
      · split at hz
        · rename_i hk
          have hw : waysB p s = true := by rcases hk with hk | hk <;> (simp [rightD, hk] at h; simp [h])
          rw [List.mem_append] at hz
          rcases hz with hz | hz
          · obtain ⟨w, hw1, rfl⟩ := List.mem_map.1 hz
            simp [waysB, toB] at hw
            exact (hw.1 w hw1).1
          · split at hz
            · rename_i hb
              simp only [List.mem_singleton] at hz; omega
            · simp at hz
        · simp only [List.mem_singleton] at hz; omega
theorem badD_none {p : ProgD} : ∀ (l : List StepD) (i : Nat), badD p l i = none → ∀ s ∈ l, rightD p s = true
  | [], _, _, s, h => by simp at h
  | t :: l, i, hb, s, h => by
    unfold badD at hb
    split at hb
    · rename_i ht
      rcases List.mem_cons.1 h with rfl | h
      · exact ht
      · exact badD_none l _ hb s h
    · cases hb
theorem checkF_right {p : ProgD} (h : checkF p = (0, 0)) : 0 < p.steps.length ∧ ∀ s ∈ p.steps, rightD p s = true := by
  unfold checkF at h
  split at h
  · exact absurd (congrArg Prod.fst h) (by decide)
  · rename_i hh
    split at h
    · exact absurd (congrArg Prod.fst h) (by show ¬(190 : Int) = 0; decide)
    · rename_i hb
      refine ⟨?_, badD_none _ _ hb⟩
      simp only [headB, Bool.or_eq_true, decide_eq_true_iff] at hh
      omega
/-- What has been found so far: marks that are right, and work that is marked. -/
structure Found (p : ProgD) (o : List Bool) (w : List Nat) : Prop where
  len : o.length = p.steps.length
  ok : ∀ i : Nat, o[i]? = some true → Reach p i
  zero : o[0]? = some true
  work : ∀ i ∈ w, o[i]? = some true
/-- Of all that is marked, but for some, what can come behind is marked. -/
def Shut (p : ProgD) (o : List Bool) (ex : Nat → Prop) : Prop := ∀ (i : Nat), o[i]? = some true → ¬ ex i → ∀ s, p.steps[i]? = some s → ∀ k : Nat, (k : Int) ∈ followD s i → k < p.steps.length → o[k]? = some true
theorem count_set : ∀ (o : List Bool) (k : Nat), o[k]? = some false → (o.set k true).count false + 1 = o.count false
  | [], k, h => by simp at h
  | x :: o, 0, h => by simp at h; subst h; simp
  | x :: o, k + 1, h => by
    have := count_set o k (by simpa using h)
    rw [List.set_cons_succ, List.count_cons, List.count_cons]; omega
theorem mark_get {o : List Bool} {k : Nat} (hk : k < o.length) (i : Nat) : (o.set k true)[i]? = some true ↔ i = k ∨ o[i]? = some true := by
  by_cases e : k = i
  · subst e; simp [hk]
  · rw [List.getElem?_set_ne e]
    exact ⟨.inr, fun h => h.resolve_left (fun e2 => e e2.symm)⟩
theorem Found.push {p : ProgD} {o : List Bool} {w : List Nat} {k : Nat} (h : Found p o w) (hk : k < p.steps.length) (hr : Reach p k) : Found p (o.set k true) (w ++ [k]) where
  len := by simp [h.len]
  ok i hi := by
    rcases (mark_get (by rw [h.len]; exact hk) i).1 hi with rfl | hi
    · exact hr
    · exact h.ok i hi
  zero := (mark_get (by rw [h.len]; exact hk) 0).2 (.inr h.zero)
  work i hi := by
    rw [List.mem_append, List.mem_singleton] at hi
    exact (mark_get (by rw [h.len]; exact hk) i).2 (hi.symm.imp id (h.work i))
theorem Shut.push {p : ProgD} {o : List Bool} {w : List Nat} {k i : Nat} (h : Shut p o (fun z => z ∈ w ∨ z = i)) (hk : k < o.length) : Shut p (o.set k true) (fun z => z ∈ w ++ [k] ∨ z = i) := by
  intro z hz hne s hs y hy hyn
  have hne : ¬ ((z ∈ w ∨ z = k) ∨ z = i) := by
    have := hne
    dsimp only at this
    rwa [List.mem_append, List.mem_singleton] at this
  refine (mark_get hk y).2 (.inr ?_)
  rcases (mark_get hk z).1 hz with rfl | hz
  · exact absurd (.inl (.inr rfl)) hne
  · exact h z hz (fun e => hne (e.imp .inl id)) s hs y hy hyn
theorem Found.all {p : ProgD} {o : List Bool} (h : Found p o []) (hs : Shut p o (fun z => z ∈ ([] : List Nat))) (i : Nat) : o[i]? = some true ↔ Reach p i := by
  refine ⟨h.ok i, fun hr => ?_⟩
  induction hr with
  | first => exact h.zero
  | next h1 h2 h3 h4 ih => exact hs _ ih (by simp) _ h2 _ h3 h4
theorem Found.init {p : ProgD} (hn : 0 < p.steps.length) : Found p ((List.replicate p.steps.length false).set 0 true) [0] where
  len := by simp
  ok i hi := by
    rcases (mark_get (by simpa using hn) i).1 hi with rfl | hi
    · exact .first
    · simp [List.getElem?_replicate] at hi
  zero := (mark_get (by simpa using hn) 0).2 (.inl rfl)
  work i hi := by
    simp only [List.mem_singleton] at hi; subst hi
    exact (mark_get (by simpa using hn) 0).2 (.inl rfl)
theorem Shut.init {p : ProgD} (hn : 0 < p.steps.length) : Shut p ((List.replicate p.steps.length false).set 0 true) (fun z => z ∈ [0]) := by
  intro i hi hne
  rcases (mark_get (by simpa using hn) i).1 hi with rfl | hi
  · exact absurd (by simp) hne
  · simp [List.getElem?_replicate] at hi
theorem boolsV_set (o : List Bool) (k : Nat) (b : Bool) : (boolsV o).set k (.bool b) = boolsV (o.set k b) := by simp [boolsV, List.map_set]
def natsV (l : List Nat) : List Value := l.map fun (z : Nat) => .int .i64 (z : Int)
theorem StepOk.le {ro ro' : Ro} {s : StepD} {x : StepA} (h : StepOk ro s x) (hl : Le ro ro') : StepOk ro' s x := ⟨h.inn, h.ways.up⟩
theorem ProgOk.le {ro ro' : Ro} {p : ProgD} {a : ProgA} (h : ProgOk ro p a) (hl : Le ro ro') : ProgOk ro' p a := ⟨h.len, h.steps.up, fun i s x h1 h2 => (h.each i s x h1 h2).le hl⟩
section
variable {ro : Ro} {own r : Chs} {K : Value → Ro → Chs → Prop} {g : Chunk → Chs}
set_option maxHeartbeats 4000000 in
theorem reached_ok {p : ProgD} {a : ProgA} (hp : ProgOk ro p a) (hn : p.steps.length ≤ 65536) (hwn : ∀ s ∈ p.steps, s.ways.length ≤ 300)
    (hk : ∀ ro' a' c' (o : List Bool), Le ro ro' → (o : List Bool).length = p.steps.length → (checkF p = (0, 0) → ∀ i : Nat, o[i]? = some true ↔ Reach p i) → (checkF p ≠ (0, 0) → ∀ i : Nat, o[i]? ≠ some true) → Rs ro' a' p.steps.length c' 1 (boolsV o) → K (.slice a' p.steps.length c') ro' own) :
    CallOk Tryd.prog 16 #[.agg (progV p a).toArray] ro own K := by
  have hr := hp.steps
  have hle := hr.le
  have hm := hr.max
  unfold maxLen at hm
  refine CallOk.intro (args := [_]) (rs := [_]) T_ok Tryd.func16 Tryd.call16 rfl rfl (by kernel_rfl) rfl rfl ?_
  repeat (first
    | refine SeqOk.pass ?_
    | (show _ ∧ _; exact ⟨rfl, rfl, rfl⟩)
    | refine wkT ?_
    | refine Bs.all ?_
    | (show RetOk _ _ _ _ _ _; refine RetOk.of (T := T) (RL.row rfl rfl LdN.hasBlk (by rfl) (RL.tmp rfl (RL.tmp rfl RL.nil))) ?_)
    | (show QOk _ _ _ _ _ _ _; refine QOk.build rfl rfl Nf.auto ?_)
    | (show OpOk _ _ _ _ _ _ _; first | refine opB (fun b => ?_) | refine opA (fun a' c' hc1 hc2 => ?_))
    | (show GJ _ _ _ _ _ _ _; first | refine GJ.t (by decide) ?_ | refine GJ.f (by decide) ?_ | refine GJ.ft (by decide) ?_ | refine GJ.ff (by decide) ?_)
    | (show Br _ _ _; first | refine Br.t (by decide) ?_ | refine Br.f (by decide) ?_)
    | (show GJ _ _ _ _ _ _ _; first | (apply GJ.and; exact rfl; intro hg) | (apply GJ.or; exact rfl; intro hg)))
  rename_i b1
  obtain ⟨bO, hbO⟩ : ∃ z : Nat, z = b := ⟨_, rfl⟩
  subst hbO
  rw [Int.toNat_natCast]
  refine ccheck_ok hp ?_
  by_cases hc : ¬ checkF p = (0, 0)
  · have hne : (checkF p).1 ≠ 0 := fun h => hc (checkF_zero h)
    repeat (first
      | refine SeqOk.pass ?_
      | (show _ ∧ _; exact ⟨rfl, rfl, rfl⟩)
      | refine wkT ?_
      | refine Bs.all ?_
      | (show RetOk _ _ _ _ _ _; refine RetOk.of (T := T) (RL.row rfl rfl LdN.hasBlk (by rfl) (RL.tmp rfl (RL.tmp rfl RL.nil))) ?_)
      | (show QOk _ _ _ _ _ _ _; refine QOk.build rfl rfl Nf.auto ?_)
      | (show OpOk _ _ _ _ _ _ _; first | refine opB (fun b => ?_) | refine opA (fun a' c' hc1 hc2 => ?_))
      | (show GJ _ _ _ _ _ _ _; first | refine GJ.t (by decide) ?_ | refine GJ.f (by decide) ?_ | refine GJ.ft (by decide) ?_ | refine GJ.ff (by decide) ?_)
      | (show Br _ _ _; first | refine Br.t (by decide) ?_ | refine Br.f (by decide) ?_)
      | (show GJ _ _ _ _ _ _ _; first | (apply GJ.and; exact rfl; intro hg) | (apply GJ.or; exact rfl; intro hg)))
    refine Wk.freeze (c := .sl (some ⟨bO, 0, none⟩) _ _ _ _ _) Take.auto (fun ro2 hl2 hc2 => ?_)
    exact Wk.outS Sup.auto (.refl _) (hk ro2 _ _ (List.replicate p.steps.length false) hl2 (by simp) (fun h => absurd h hc) (fun _ i h => by simp [List.getElem?_replicate] at h) (by simpa [boolsV] using Rs.last hc2))
  have hc := Decidable.of_not_not hc
  obtain ⟨hpos, hrt⟩ := checkF_right hc
  rw [hc]
  repeat (first
    | refine SeqOk.pass ?_
    | (show _ ∧ _; exact ⟨rfl, rfl, rfl⟩)
    | refine wkT ?_
    | refine Bs.all ?_
    | (show RetOk _ _ _ _ _ _; refine RetOk.of (T := T) (RL.row rfl rfl LdN.hasBlk (by rfl) (RL.tmp rfl (RL.tmp rfl RL.nil))) ?_)
    | (show QOk _ _ _ _ _ _ _; refine QOk.build rfl rfl Nf.auto ?_)
    | (show OpOk _ _ _ _ _ _ _; first | refine opB (fun b => ?_) | refine opA (fun a' c' hc1 hc2 => ?_))
    | (show GJ _ _ _ _ _ _ _; first | refine GJ.t (by decide) ?_ | refine GJ.f (by decide) ?_ | refine GJ.ft (by decide) ?_ | refine GJ.ff (by decide) ?_)
    | (show Br _ _ _; first | refine Br.t (by decide) ?_ | refine Br.f (by decide) ?_)
    | (show GJ _ _ _ _ _ _ _; first | (apply GJ.and; exact rfl; intro hg) | (apply GJ.or; exact rfl; intro hg)))
  obtain ⟨bW, hbW⟩ : ∃ z : Nat, z = b := ⟨_, rfl⟩
  subst hbW
  have hini : (List.replicate p.steps.length (Value.bool false)).set 0 (.bool true) = boolsV ((List.replicate p.steps.length false).set 0 true) := by
    rw [← boolsV_set, boolsV, List.map_replicate]
  refine OpOk.storeSlAt' (k := 0) rfl rfl rfl rfl rfl (by rw [List.length_replicate]; exact hpos) ?_
  rw [hini]
  have hcnt : ((List.replicate p.steps.length false).set 0 true).count false + 1 = p.steps.length := by
    rw [count_set _ 0 (by simp [List.getElem?_replicate, hpos]), List.count_replicate_self]
  repeat (first
    | refine SeqOk.pass ?_
    | (show _ ∧ _; exact ⟨rfl, rfl, rfl⟩)
    | refine wkT ?_
    | refine Bs.all ?_
    | (show RetOk _ _ _ _ _ _; refine RetOk.of (T := T) (RL.row rfl rfl LdN.hasBlk (by rfl) (RL.tmp rfl (RL.tmp rfl RL.nil))) ?_)
    | (show QOk _ _ _ _ _ _ _; refine QOk.build rfl rfl Nf.auto ?_)
    | (show OpOk _ _ _ _ _ _ _; first | refine opB (fun b => ?_) | refine opA (fun a' c' hc1 hc2 => ?_))
    | (show GJ _ _ _ _ _ _ _; first | refine GJ.t (by decide) ?_ | refine GJ.f (by decide) ?_ | refine GJ.ft (by decide) ?_ | refine GJ.ff (by decide) ?_)
    | (show Br _ _ _; first | refine Br.t (by decide) ?_ | refine Br.f (by decide) ?_)
    | (show GJ _ _ _ _ _ _ _; first | (apply GJ.and; exact rfl; intro hg) | (apply GJ.or; exact rfl; intro hg)))
  refine LoopOk.auto (ι := List Nat × List Bool × Option Addr × Nat) Keep.auto (fun (w, o, ad, cp) => [(4, .slice ad w.length cp)]) (fun (w, o, ad, cp) => .sl ad w.length cp 3 1 (natsV w) :: .sl (some ⟨bO, 0, none⟩) p.steps.length p.steps.length 4 1 (boolsV o) :: .blk b1 33 (progV p a) :: own) (fun (w, o, ad, cp) _ => Found p o w ∧ Shut p o (fun z => z ∈ w) ∧ w.length + o.count false ≤ p.steps.length ∧ w.length ≤ cp ∧ cp ≤ maxLen) (fun (w, o, ad, cp) => w.length + o.count false) ([0], (List.replicate p.steps.length false).set 0 true, some ⟨bW, 0, none⟩, 1) ?_ Sub.auto Sup.auto ?_
  · exact ⟨Found.init hpos, Shut.init hpos, by simp only [List.length_singleton]; omega, Nat.le_refl _, by decide⟩
  rintro ⟨w, o, ad, cp⟩ ro1 hl1 ⟨i1, i2, i3, i4, i5⟩
  dsimp only [List.cons_append, List.nil_append] at i1 i2 i3 i4 i5 ⊢
  repeat (first
    | refine SeqOk.pass ?_
    | (show _ ∧ _; exact ⟨rfl, rfl, rfl⟩)
    | refine wkT ?_
    | refine Bs.all ?_
    | (show RetOk _ _ _ _ _ _; refine RetOk.of (T := T) (RL.row rfl rfl LdN.hasBlk (by rfl) (RL.tmp rfl (RL.tmp rfl RL.nil))) ?_)
    | (show QOk _ _ _ _ _ _ _; refine QOk.build rfl rfl Nf.auto ?_)
    | (show OpOk _ _ _ _ _ _ _; first | refine opB (fun b => ?_) | refine opA (fun a' c' hc1 hc2 => ?_))
    | (show GJ _ _ _ _ _ _ _; first | refine GJ.t (by decide) ?_ | refine GJ.f (by decide) ?_ | refine GJ.ft (by decide) ?_ | refine GJ.ff (by decide) ?_)
    | (show Br _ _ _; first | refine Br.t (by decide) ?_ | refine Br.f (by decide) ?_)
    | (show GJ _ _ _ _ _ _ _; first | (apply GJ.and; exact rfl; intro hg) | (apply GJ.or; exact rfl; intro hg)))
  refine Br.cases (fun hg => ?_) (fun hg => ?_)
  · obtain ⟨w, i, rfl⟩ : ∃ w' i, w = w' ++ [i] := ⟨w.dropLast, w.getLast (by intro e; subst e; simp at hg), (List.dropLast_concat_getLast _).symm⟩
    rw [List.length_append, List.length_singleton] at i3 i4 hg ⊢
    have hL : (natsV (w ++ [i])).length = (w.length + 1) * 1 := by simp [natsV]
    have hgi : (natsV (w ++ [i]))[w.length]? = some (.int .i64 (i : Int)) := by simp [natsV]
    have hsh : (natsV (w ++ [i])).take (w.length * 1) = natsV w := by
      rw [Nat.mul_one]
      simp only [natsV, List.map_append]
      rw [List.take_left' (List.length_map _)]
    repeat (first
      | refine SeqOk.pass ?_
      | (show _ ∧ _; exact ⟨rfl, rfl, rfl⟩)
      | refine wkT ?_
      | refine Bs.all ?_
      | (show RetOk _ _ _ _ _ _; refine RetOk.of (T := T) (RL.row rfl rfl LdN.hasBlk (by rfl) (RL.tmp rfl (RL.tmp rfl RL.nil))) ?_)
      | (show QOk _ _ _ _ _ _ _; refine QOk.build rfl rfl Nf.auto ?_)
      | (show OpOk _ _ _ _ _ _ _; first | refine opB (fun b => ?_) | refine opA (fun a' c' hc1 hc2 => ?_))
      | (show GJ _ _ _ _ _ _ _; first | refine GJ.t (by decide) ?_ | refine GJ.f (by decide) ?_ | refine GJ.ft (by decide) ?_ | refine GJ.ff (by decide) ?_)
      | (show Br _ _ _; first | refine Br.t (by decide) ?_ | refine Br.f (by decide) ?_)
      | (show GJ _ _ _ _ _ _ _; first | (apply GJ.and; exact rfl; intro hg) | (apply GJ.or; exact rfl; intro hg)))
    refine OpOk.load rfl rfl (Ld.slAt' (k := w.length) (by congr 1; omega) hgi) ?_
    repeat (first
      | refine SeqOk.pass ?_
      | (show _ ∧ _; exact ⟨rfl, rfl, rfl⟩)
      | refine wkT ?_
      | refine Bs.all ?_
      | (show RetOk _ _ _ _ _ _; refine RetOk.of (T := T) (RL.row rfl rfl LdN.hasBlk (by rfl) (RL.tmp rfl (RL.tmp rfl RL.nil))) ?_)
      | (show QOk _ _ _ _ _ _ _; refine QOk.build rfl rfl Nf.auto ?_)
      | (show OpOk _ _ _ _ _ _ _; first | refine opB (fun b => ?_) | refine opA (fun a' c' hc1 hc2 => ?_))
      | (show GJ _ _ _ _ _ _ _; first | refine GJ.t (by decide) ?_ | refine GJ.f (by decide) ?_ | refine GJ.ft (by decide) ?_ | refine GJ.ff (by decide) ?_)
      | (show Br _ _ _; first | refine Br.t (by decide) ?_ | refine Br.f (by decide) ?_)
      | (show GJ _ _ _ _ _ _ _; first | (apply GJ.and; exact rfl; intro hg) | (apply GJ.or; exact rfl; intro hg)))
    refine CallOk.shrink (a := ad) (m := w.length) (Nat.le_succ _) ?_
    rw [hsh]
    obtain ⟨s, hsi⟩ : ∃ s, p.steps[i]? = some s := by
      have := i1.work i (by simp)
      exact ⟨_, List.getElem?_eq_getElem (by rw [← i1.len]; exact (List.getElem?_eq_some_iff.1 this).1)⟩
    have hsm := List.mem_of_getElem? hsi
    refine follow_ok (hp.le hl1) hsi (Nat.le_trans (hwn s hsm) (by decide)) (by omega) (fun ro2 af cf hl2 hf => ?_)
    repeat (first
      | refine SeqOk.pass ?_
      | (show _ ∧ _; exact ⟨rfl, rfl, rfl⟩)
      | refine wkT ?_
      | refine Bs.all ?_
      | (show RetOk _ _ _ _ _ _; refine RetOk.of (T := T) (RL.row rfl rfl LdN.hasBlk (by rfl) (RL.tmp rfl (RL.tmp rfl RL.nil))) ?_)
      | (show QOk _ _ _ _ _ _ _; refine QOk.build rfl rfl Nf.auto ?_)
      | (show OpOk _ _ _ _ _ _ _; first | refine opB (fun b => ?_) | refine opA (fun a' c' hc1 hc2 => ?_))
      | (show GJ _ _ _ _ _ _ _; first | refine GJ.t (by decide) ?_ | refine GJ.f (by decide) ?_ | refine GJ.ft (by decide) ?_ | refine GJ.ff (by decide) ?_)
      | (show Br _ _ _; first | refine Br.t (by decide) ?_ | refine Br.f (by decide) ?_)
      | (show GJ _ _ _ _ _ _ _; first | (apply GJ.and; exact rfl; intro hg) | (apply GJ.or; exact rfl; intro hg)))
    have hc0 : ∀ s, cutA ad (Int.toNat 0) cp s = ad := fun s => cutA_zero ad cp s
    rw [hc0, show (((w.length + 1 : Nat) : Int) - 1).toNat - Int.toNat 0 = w.length by omega, show cp - Int.toNat 0 = cp from rfl]
    obtain ⟨M, hM⟩ : ∃ M, M = w.length + o.count false := ⟨_, rfl⟩
    have hnn := follow_in (i := i) (hrt s hsm)
    obtain ⟨fs, hfs⟩ : ∃ fs, fs = followD s i := ⟨_, rfl⟩
    have hri := i1.ok i (i1.work i (by simp))
    have hfr : ∀ k : Nat, (k : Int) ∈ fs → k < p.steps.length → Reach p k := fun k h1 h2 => .next hri hsi (hfs ▸ h1) h2
    rw [← hfs] at hf hnn ⊢
    have hfm := hf.max
    have hfl := hf.le
    unfold maxLen at hfm
    refine LoopOk.at (ι := Nat × List Nat × List Bool × Option Addr × Nat) Keep.auto (fun (j, w, o, ad, cp) => [(38, .int .i64 (j : Int)), (4, .slice ad w.length cp)]) (fun (j, w, o, ad, cp) => .sl ad w.length cp 3 1 (natsV w) :: .sl (some ⟨bO, 0, none⟩) p.steps.length p.steps.length 4 1 (boolsV o) :: .blk b1 33 (progV p a) :: own) (fun (j, w, o, ad, cp) => j ≤ fs.length ∧ Found p o w ∧ Shut p o (fun z => z ∈ w ∨ z = i) ∧ w.length + o.count false ≤ M ∧ (∀ k : Nat, (k : Int) ∈ fs.take j → k < p.steps.length → o[k]? = some true) ∧ o[i]? = some true ∧ w.length ≤ cp ∧ cp ≤ maxLen) (fun (j, w, o, ad, cp) => fs.length - j) (0, w, o, ad, cp) ?_ Sub.auto Sup.auto ?_
    · refine ⟨Nat.zero_le _, ⟨i1.len, i1.ok, i1.zero, fun z hz => i1.work z (by simp [hz])⟩, fun z h1 h2 => i2 z h1 (fun h3 => h2 (by simpa using h3)), by omega, by simp, i1.work i (by simp), by omega, i5⟩
    rintro ⟨j, w', o', ad', cp'⟩ ⟨j1, j2, j3, j4, j5, j6, j7, j8⟩
    dsimp only [List.cons_append, List.nil_append] at j1 j2 j3 j4 j5 j6 j7 j8 ⊢
    have hL' : (natsV w').length = w'.length * 1 := by simp [natsV]
    have hO' : (boolsV o').length = p.steps.length := by simp [boolsV, j2.len]
    have hwp' : w'.length ≤ p.steps.length := by omega
    repeat (first
      | refine SeqOk.pass ?_
      | (show _ ∧ _; exact ⟨rfl, rfl, rfl⟩)
      | refine wkT ?_
      | refine Bs.all ?_
      | (show RetOk _ _ _ _ _ _; refine RetOk.of (T := T) (RL.row rfl rfl LdN.hasBlk (by rfl) (RL.tmp rfl (RL.tmp rfl RL.nil))) ?_)
      | (show QOk _ _ _ _ _ _ _; refine QOk.build rfl rfl Nf.auto ?_)
      | (show OpOk _ _ _ _ _ _ _; first | refine opB (fun b => ?_) | refine opA (fun a' c' hc1 hc2 => ?_))
      | (show GJ _ _ _ _ _ _ _; first | refine GJ.t (by decide) ?_ | refine GJ.f (by decide) ?_ | refine GJ.ft (by decide) ?_ | refine GJ.ff (by decide) ?_)
      | (show Br _ _ _; first | refine Br.t (by decide) ?_ | refine Br.f (by decide) ?_)
      | (show GJ _ _ _ _ _ _ _; first | (apply GJ.and; exact rfl; intro hg) | (apply GJ.or; exact rfl; intro hg)))
    refine Br.cases (fun hg2 => ?_) (fun hg2 => ?_)
    · have hj : j < fs.length := by omega
      obtain ⟨z, hzi⟩ : ∃ z, fs[j]? = some z := ⟨_, List.getElem?_eq_getElem hj⟩
      obtain ⟨k, rfl⟩ : ∃ k : Nat, z = (k : Int) := ⟨z.toNat, by have := hnn z (List.mem_of_getElem? hzi); omega⟩
      have htk : fs.take (j + 1) = fs.take j ++ [(k : Int)] := by rw [List.take_add_one, hzi]; rfl
      have hy : fs[((j : Nat) : Int).toNat]! = (k : Int) := by
        rw [Int.toNat_natCast, List.getElem!_eq_getElem?_getD, hzi]; rfl
      have hgz : (intsV fs)[j]? = some (.int .i64 (k : Int)) := by simp [intsV, hzi]
      have hnx : ∀ w2 o2, Found p o2 w2 → Shut p o2 (fun z => z ∈ w2 ∨ z = i) → (∀ y : Nat, o'[y]? = some true → o2[y]? = some true) → (k < p.steps.length → o2[k]? = some true) → (∀ y : Nat, (y : Int) ∈ fs.take (j + 1) → y < p.steps.length → o2[y]? = some true) := fun w2 o2 h1 h2 h3 h4 y hy hyn => by
        rw [htk, List.mem_append, List.mem_singleton] at hy
        rcases hy with hy | hy
        · exact h3 y (j5 y hy hyn)
        · obtain rfl : y = k := by omega
          exact h4 hyn
      by_cases hkn : ¬ k < p.steps.length
      · repeat (first
          | (show _ ∧ _; exact ⟨rfl, rfl, rfl⟩)
          | refine wkT ?_
          | (show OpOk _ _ _ _ _ _ _; first | refine opB (fun b => ?_) | refine opA (fun a' c' hc1 hc2 => ?_))
          | (show GJ _ _ _ _ _ _ _; first | (apply GJ.and; exact rfl; intro hg) | (apply GJ.or; exact rfl; intro hg)))
        refine SeqOk.pass ?_
        repeat (first
          | (show _ ∧ _; exact ⟨rfl, rfl, rfl⟩)
          | refine wkT ?_
          | (show OpOk _ _ _ _ _ _ _; first | refine opB (fun b => ?_) | refine opA (fun a' c' hc1 hc2 => ?_))
          | (show GJ _ _ _ _ _ _ _; first | (apply GJ.and; exact rfl; intro hg) | (apply GJ.or; exact rfl; intro hg)))
        refine Wk.id ⟨(j + 1, w', o', ad', cp'), ⟨rfl, ?_⟩, ?_, Sub.auto, Sup.auto⟩
        all_goals try dsimp only
        · exact ⟨by omega, j2, j3, j4, hnx w' o' j2 j3 (fun _ h => h) (fun h => absurd h hkn), j6, j7, j8⟩
        · omega
      have hkn := Decidable.of_not_not hkn
      obtain ⟨q, hq⟩ : ∃ q, o'[k]? = some q := ⟨_, List.getElem?_eq_getElem (by rw [j2.len]; exact hkn)⟩
      have hgq : (boolsV o')[k]? = some (.bool q) := by simp [boolsV, hq]
      cases q with
      | true =>
        repeat (first
          | (show _ ∧ _; exact ⟨rfl, rfl, rfl⟩)
          | refine wkT ?_
          | (show OpOk _ _ _ _ _ _ _; first | refine opB (fun b => ?_) | refine opA (fun a' c' hc1 hc2 => ?_))
          | (show GJ _ _ _ _ _ _ _; first | (apply GJ.and; exact rfl; intro hg) | (apply GJ.or; exact rfl; intro hg)))
        refine SeqOk.pass ?_
        repeat (first
          | (show _ ∧ _; exact ⟨rfl, rfl, rfl⟩)
          | refine wkT ?_
          | (show OpOk _ _ _ _ _ _ _; first | refine opB (fun b => ?_) | refine opA (fun a' c' hc1 hc2 => ?_))
          | (show GJ _ _ _ _ _ _ _; first | (apply GJ.and; exact rfl; intro hg) | (apply GJ.or; exact rfl; intro hg)))
        refine OpOk.load rfl rfl (Ld.slAt' (k := k) (by rw [hy]; rfl) hgq) ?_
        repeat (first
          | (show _ ∧ _; exact ⟨rfl, rfl, rfl⟩)
          | refine wkT ?_
          | (show OpOk _ _ _ _ _ _ _; first | refine opB (fun b => ?_) | refine opA (fun a' c' hc1 hc2 => ?_))
          | (show GJ _ _ _ _ _ _ _; first | (apply GJ.and; exact rfl; intro hg) | (apply GJ.or; exact rfl; intro hg)))
        refine Wk.id ⟨(j + 1, w', o', ad', cp'), ⟨rfl, ?_⟩, ?_, Sub.auto, Sup.auto⟩
        all_goals try dsimp only
        · exact ⟨by omega, j2, j3, j4, hnx w' o' j2 j3 (fun _ h => h) (fun _ => hq), j6, j7, j8⟩
        · omega
      | false =>
        have hkl : k < o'.length := by rw [j2.len]; exact hkn
        have hsn : natsV w' ++ [.int .i64 (fs[((j : Nat) : Int).toNat]!)] = natsV (w' ++ [k]) := by rw [hy]; simp [natsV]
        have hcs := count_set o' k hq
        repeat (first
          | (show _ ∧ _; exact ⟨rfl, rfl, rfl⟩)
          | refine wkT ?_
          | (show OpOk _ _ _ _ _ _ _; first | refine opB (fun b => ?_) | refine opA (fun a' c' hc1 hc2 => ?_))
          | (show GJ _ _ _ _ _ _ _; first | (apply GJ.and; exact rfl; intro hg) | (apply GJ.or; exact rfl; intro hg)))
        refine SeqOk.pass ?_
        repeat (first
          | (show _ ∧ _; exact ⟨rfl, rfl, rfl⟩)
          | refine wkT ?_
          | (show OpOk _ _ _ _ _ _ _; first | refine opB (fun b => ?_) | refine opA (fun a' c' hc1 hc2 => ?_))
          | (show GJ _ _ _ _ _ _ _; first | (apply GJ.and; exact rfl; intro hg) | (apply GJ.or; exact rfl; intro hg)))
        have ho2 : o'[fs[((j : Nat) : Int).toNat]!.toNat]! = false := by rw [hy, Int.toNat_natCast, List.getElem!_eq_getElem?_getD, hq]; rfl
        rw [ho2]
        repeat (first
          | (show _ ∧ _; exact ⟨rfl, rfl, rfl⟩)
          | refine wkT ?_
          | (show OpOk _ _ _ _ _ _ _; first | refine opB (fun b => ?_) | refine opA (fun a' c' hc1 hc2 => ?_))
          | (show GJ _ _ _ _ _ _ _; first | (apply GJ.and; exact rfl; intro hg) | (apply GJ.or; exact rfl; intro hg)))
        refine OpOk.storeSlAt' (k := k) rfl rfl rfl rfl (by rw [hy]; rfl) (by rw [hO']; exact hkn) ?_
        rw [boolsV_set]
        repeat (first
          | (show _ ∧ _; exact ⟨rfl, rfl, rfl⟩)
          | refine wkT ?_
          | (show OpOk _ _ _ _ _ _ _; first | refine opB (fun b => ?_) | refine opA (fun a' c' hc1 hc2 => ?_))
          | (show GJ _ _ _ _ _ _ _; first | (apply GJ.and; exact rfl; intro hg) | (apply GJ.or; exact rfl; intro hg)))
        rw [hsn]
        rw [show w'.length + 1 = (w' ++ [k]).length by simp] at hc1 ⊢
        repeat (first
          | (show _ ∧ _; exact ⟨rfl, rfl, rfl⟩)
          | refine wkT ?_
          | (show OpOk _ _ _ _ _ _ _; first | refine opB (fun b => ?_) | refine opA (fun a' c' hc1 hc2 => ?_))
          | (show GJ _ _ _ _ _ _ _; first | (apply GJ.and; exact rfl; intro hg) | (apply GJ.or; exact rfl; intro hg)))
        refine Wk.id ⟨(j + 1, w' ++ [k], o'.set k true, a', c'), ⟨rfl, ?_⟩, ?_, Sub.auto, Sup.auto⟩
        all_goals try dsimp only
        · refine ⟨by omega, j2.push hkn (hfr k (List.mem_of_getElem? hzi) hkn), j3.push hkl, by rw [List.length_append, List.length_singleton]; omega, hnx _ _ (j2.push hkn (hfr k (List.mem_of_getElem? hzi) hkn)) (j3.push hkl) (fun y h => (mark_get hkl y).2 (.inr h)) (fun _ => (mark_get hkl k).2 (.inl rfl)), (mark_get hkl i).2 (.inr j6), hc1, hc2⟩
        · omega
    · obtain rfl : j = fs.length := by omega
      rw [List.take_length] at j5
      repeat (first
        | refine SeqOk.pass ?_
        | (show _ ∧ _; exact ⟨rfl, rfl, rfl⟩)
        | refine wkT ?_
        | refine Bs.all ?_
        | (show RetOk _ _ _ _ _ _; refine RetOk.of (T := T) (RL.row rfl rfl LdN.hasBlk (by rfl) (RL.tmp rfl (RL.tmp rfl RL.nil))) ?_)
        | (show QOk _ _ _ _ _ _ _; refine QOk.build rfl rfl Nf.auto ?_)
        | (show OpOk _ _ _ _ _ _ _; first | refine opB (fun b => ?_) | refine opA (fun a' c' hc1 hc2 => ?_))
        | (show GJ _ _ _ _ _ _ _; first | refine GJ.t (by decide) ?_ | refine GJ.f (by decide) ?_ | refine GJ.ft (by decide) ?_ | refine GJ.ff (by decide) ?_)
        | (show Br _ _ _; first | refine Br.t (by decide) ?_ | refine Br.f (by decide) ?_)
        | (show GJ _ _ _ _ _ _ _; first | (apply GJ.and; exact rfl; intro hg) | (apply GJ.or; exact rfl; intro hg)))
      refine Wk.id ⟨(w', o', ad', cp'), ?_, ?_, Sub.auto, Sup.auto⟩
      all_goals try dsimp only
      · refine ⟨j2, fun z h1 h2 s2 h3 y h4 h5 => ?_, by omega, j7, j8⟩
        by_cases hz : z = i
        · subst hz
          obtain rfl : s = s2 := Option.some.inj (hsi.symm.trans h3)
          exact j5 y (hfs ▸ h4) h5
        · exact j3 z h1 (fun e => e.elim h2 hz) s2 h3 y h4 h5
      · omega
  · obtain rfl : w = [] := List.eq_nil_of_length_eq_zero (by omega)
    repeat (first
      | refine SeqOk.pass ?_
      | (show _ ∧ _; exact ⟨rfl, rfl, rfl⟩)
      | refine wkT ?_
      | refine Bs.all ?_
      | (show RetOk _ _ _ _ _ _; refine RetOk.of (T := T) (RL.row rfl rfl LdN.hasBlk (by rfl) (RL.tmp rfl (RL.tmp rfl RL.nil))) ?_)
      | (show QOk _ _ _ _ _ _ _; refine QOk.build rfl rfl Nf.auto ?_)
      | (show OpOk _ _ _ _ _ _ _; first | refine opB (fun b => ?_) | refine opA (fun a' c' hc1 hc2 => ?_))
      | (show GJ _ _ _ _ _ _ _; first | refine GJ.t (by decide) ?_ | refine GJ.f (by decide) ?_ | refine GJ.ft (by decide) ?_ | refine GJ.ff (by decide) ?_)
      | (show Br _ _ _; first | refine Br.t (by decide) ?_ | refine Br.f (by decide) ?_)
      | (show GJ _ _ _ _ _ _ _; first | (apply GJ.and; exact rfl; intro hg) | (apply GJ.or; exact rfl; intro hg)))
    refine Wk.freeze (c := .sl (some ⟨bO, 0, none⟩) _ _ _ _ _) Take.auto (fun ro2 hl2 hc2 => ?_)
    exact Wk.outS Sup.auto (.refl _) (hk ro2 _ _ o (hl1.trans hl2) i1.len (fun _ => i1.all i2) (fun h => absurd hc h) (Rs.last hc2))
end
end Go.Proofs.YtniofdklhlbphaaDoor
