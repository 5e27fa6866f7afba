/- A round's body, walked as any code, in a round's frame. No program in sight. -/
import Derived.Test.YtknfebfdehdapaaDoorV21
namespace Go.E
open Go Go.RowKit
set_option linter.unusedVariables false
set_option linter.unusedSimpArgs false
def noDef (o : Oper) : Bool := match o.op with
  | .defer _ => false
  | _ => true
theorem noDef_spec {o : Oper} (h : noDef o = true) : ∀ c, o.op ≠ .defer c := fun c e => by unfold noDef at h; rw [e] at h; cases h
section
variable {P : Program} {Q : Exit → Act → World → Prop}
theorem LetsOut_no (hQ : ∀ a w, ¬ Q .outgrown a w) : ¬ LetsOut Q := fun ⟨a, w, h⟩ => hQ a w h
theorem upon_inRound (l n : Nat) (hQ : ∀ a w, ¬ Q .outgrown a w) {o : Oper} {a : Act} {next next' : Act → World → Prop} (hn : ∀ a w, next a w → next' a w) : ∀ {r : Result Next}, o.upon P a next Q r → o.uponIn (Fence.wide.inRound l) n P a next' Q r := by
  intro r h
  cases r with
  | ok x w =>
    cases x <;> simp only [Oper.upon] at h <;> try exact h.elim
    all_goals simp only [Oper.uponIn]
    all_goals first
      | exact hn _ _ h
      | exact ⟨fun e => by simp [Fence.wide] at e, CallsIn.inRound l (callsIn_wide.2 (h.mono fun e w' he => by cases e <;> first | exact hn _ _ he | exact he))⟩
      | exact ⟨fun e => by simp [Fence.wide] at e, fun c cs _ => by
          obtain ⟨v, w', r, s⟩ := h c cs
          exact ⟨v, w', hn _ _ r, stepsIn_wide.2 s⟩⟩
  | halt x w => cases x <;> simp only [Oper.upon, Oper.uponIn] at h ⊢ <;> exact h
theorem wpList_inRound (l n : Nat) {all : Array Oper} (hQ : ∀ a w, ¬ Q .outgrown a w) : ∀ {ops : List Oper}, ops.all noDef = true → ∀ {a : Act} {w : World}, wpList P all Q ops a w → wpListIn (Fence.wide.inRound l) n P all Q ops a w
  | [], _, a, w, h => h
  | o :: ops, hd, a, w, h => by
    simp only [List.all_cons, Bool.and_eq_true] at hd
    unfold wpList at h
    unfold wpListIn
    split
    · rename_i hw
      rw [if_pos hw] at h
      rcases h with h | ⟨_, h⟩
      · refine ⟨fun f _ => trivial, ?_⟩
        rw [Oper.semAt_eq _ _ _ (noDef_spec hd.1)]
        exact upon_inRound l n hQ (fun a w h => wpList_inRound l n hQ hd.2 h) h
      · exact absurd h (LetsOut_no hQ)
    · rename_i hw
      rw [if_neg hw] at h
      exact ⟨fun f _ => trivial, wpList_inRound l n hQ hd.2 h⟩
/-- What may stand in a round's body here. -/
def okR : Code → Bool
  | .skip => true
  | .region _ ops draw => ops.toList.all noDef && !draw
  | .seq a b => okR a && okR b
  | .cond _ a b => okR a && okR b
  | .block _ a => okR a
  | .exit _ => true
  | .ret => true
  | _ => false
theorem okR_rf : ∀ {c : Code}, okR c = true → rf c = false
  | .skip, _ => rfl
  | .region .., _ => rfl
  | .seq a b, h => by simp only [okR, Bool.and_eq_true] at h; simp only [rf, okR_rf h.1, okR_rf h.2]; rfl
  | .cond _ a b, h => by simp only [okR, Bool.and_eq_true] at h; simp only [rf, okR_rf h.1, okR_rf h.2]; rfl
  | .block _ a, h => by simp only [okR] at h; simp only [rf, okR_rf h]
  | .exit _, _ => rfl
  | .ret, _ => rfl
/-- The same as CodeOk, in a round's frame. -/
structure CodeR (P : Program) (c : Code) (k : Exit → Kt) (env : Env) (ro : Ro) (own : Chs) : Prop where
  run : ∀ l m n σ Q, (∀ a w, ¬ Q .outgrown a w) → okS n.size c = true → okR c = true → (∀ e env' ro' own' h, Le ro ro' → k e env' ro' own' → Sat ro' own' h → N n σ (Q e) env' h) → ∀ h, Sat ro own h → ∀ a w, Fits n env a → Hp h σ w → c.wpIn (Fence.wide.inRound l) m P Q a w
theorem V_soundR {T : TT} (hT : TOk P T) : ∀ {c : Code} {k : Exit → Kt} {env : Env} {ro : Ro} {own : Chs}, V P T c k env ro own → CodeR P c k env ro own
  | .skip, k, env, ro, own, hv => ⟨fun l m n σ Q hQ hok hR hk h hs a w hf hw => wpIn_skip (hk .normal env ro own h (Le.refl _) hv hs a w hf hw)⟩
  | .region id ops draw, k, env, ro, own, hv => by
    refine ⟨fun l m n σ Q hQ hok hR hk h hs a w hf hw => ?_⟩
    simp only [okR, Bool.and_eq_true, Bool.not_eq_true'] at hR
    obtain ⟨hR, rfl⟩ := hR
    obtain ⟨ol⟩ := ops
    exact wpIn_region_lit (wpList_inRound l m hQ hR (vOps_sound hT hok hv (fun env' ro' own' h' _ hl hk' hs' => hk .normal env' ro' own' h' hl hk' hs') hs a w hf hw))
  | .seq a b, k, env, ro, own, hv => by
    refine ⟨fun l m n σ Q hQ hok hR hk h hs ac w hf hw => ?_⟩
    simp only [okS, okR, Bool.and_eq_true] at hok hR
    have hb : ∀ env' ro' own' h', Le ro ro' → V P T b k env' ro' own' → Sat ro' own' h' → N n σ (b.wpIn (Fence.wide.inRound l) m P Q) env' h' := fun env' ro' own' h' hl hv' hs' a2 w2 hf2 hw2 =>
      (V_soundR hT hv').run l m n σ Q hQ hok.2 hR.2 (fun e env2 ro2 own2 h2 hl2 hk2 hs2 => hk e env2 ro2 own2 h2 (hl.trans hl2) hk2 hs2) h' hs' a2 w2 hf2 hw2
    have ha : ∀ J : Kt, V P T a (fun e => match e with | .normal => J | e => k e) env ro own → (∀ env' ro' own' h', Le ro ro' → J env' ro' own' → Sat ro' own' h' → N n σ (b.wpIn (Fence.wide.inRound l) m P Q) env' h') → (Code.seq a b).wpIn (Fence.wide.inRound l) m P Q ac w := fun J hv' hJ =>
      wpIn_seq ((V_soundR hT hv').run l m n σ (Exit.then (b.wpIn (Fence.wide.inRound l) m P Q) Q) (fun a w h => hQ a w h) hok.1 hR.1 (fun e env2 ro2 own2 h2 hl2 hk2 hs2 => by
        cases e <;> first | exact hJ env2 ro2 own2 h2 hl2 hk2 hs2 | exact hk _ env2 ro2 own2 h2 hl2 hk2 hs2) h hs ac w hf hw)
    replace hv : vSeq a (V P T a) (V P T b) k env ro own := hv
    unfold vSeq at hv
    cases hj : joins a <;> simp only [hj] at hv
    rotate_left
    · rcases hv.run with h1 | ⟨E, O, I, h1, h2⟩
      · exact ha _ h1 hb
      · exact ha _ h1 (fun env' ro' own' h' hl hw' hs' => hw'.sound hl (fun env2 ro2 own2 h2' hl2 hl3 ⟨i, hI, hsub, hsup⟩ hs2 => N.sub2 hsub.to2 (hb _ ro2 _ h2' hl2 (h2 i ro2 hl2 hI) (hs2.sup hsup))) hs')
    · exact ha _ hv hb
  | .cond c a b, k, env, ro, own, hv => by
    refine ⟨fun l m n σ Q hQ hok hR hk h hs ac w hf hw => ?_⟩
    simp only [okS, okR, Bool.and_eq_true] at hok hR
    replace hv : vCond c (V P T a) (V P T b) k env ro own := hv
    unfold vCond at hv
    split at hv
    · rename_i v hx
      obtain ⟨h1, h2⟩ := hv.run
      have hev : ac.eval c = .bool v := hf.agree _ _ hx
      cases v with
      | true => exact wpIn_cond_true hev ((V_soundR hT (h1 rfl)).run l m n σ Q hQ hok.1 hR.1 hk h hs ac w hf hw)
      | false => exact wpIn_cond_false hev ((V_soundR hT (h2 rfl)).run l m n σ Q hQ hok.2 hR.2 hk h hs ac w hf hw)
    · exact hv.elim
  | .block id a, k, env, ro, own, hv => by
    refine ⟨fun l m n σ Q hQ hok hR hk h hs ac w hf hw => ?_⟩
    replace hv : vBlock id (V P T a) k env ro own := hv
    unfold vBlock at hv
    refine wpIn_block ((V_soundR hT hv).run l m n σ (Exit.inBlock id Q) (fun a w h => hQ a w h) hok hR (fun e env2 ro2 own2 h2 hl2 hk2 hs2 => ?_) h hs ac w hf hw)
    cases e with
    | exit j =>
      cases hj : Nat.beq j id with
      | true =>
        have := Nat.eq_of_beq_eq_true hj
        subst this
        simp only [hj, cond_true] at hk2
        exact N.block_same (hk _ env2 ro2 own2 h2 hl2 hk2 hs2)
      | false =>
        simp only [hj, cond_false] at hk2
        exact N.block_other hj (hk _ env2 ro2 own2 h2 hl2 hk2 hs2)
    | _ => exact hk _ env2 ro2 own2 h2 hl2 hk2 hs2
  | .exit id, k, env, ro, own, hv => ⟨fun l m n σ Q hQ hok hR hk h hs a w hf hw => wpIn_exit (hk _ env ro own h (Le.refl _) hv hs a w hf hw)⟩
  | .ret, k, env, ro, own, hv => ⟨fun l m n σ Q hQ hok hR hk h hs a w hf hw => wpIn_ret (hk _ env ro own h (Le.refl _) hv hs a w hf hw)⟩
  | .loop _, _, _, _, _, _ => ⟨fun l m n σ Q hQ hok hR => by cases hR⟩
  | .label _, _, _, _, _, _ => ⟨fun l m n σ Q hQ hok hR => by cases hR⟩
  | .rangeFunc .., _, _, _, _, _ => ⟨fun l m n σ Q hQ hok hR => by cases hR⟩
  | .scope _, _, _, _, _, _ => ⟨fun l m n σ Q hQ hok hR => by cases hR⟩
  | .goto _, _, _, _, _, _ => ⟨fun l m n σ Q hQ hok hR => by cases hR⟩
  | .refuse _, _, _, _, _, _ => ⟨fun l m n σ Q hQ hok hR => by cases hR⟩
end
end Go.E
