/- From a contract to what a law's row asks. No program in sight. -/
import Derived.Test.YtknfebfdehdapaaDoorV10
import Derived.Test.YtknfebfdehdapaaDoorFrm
namespace Go.E
open Go
set_option linter.unusedVariables false
theorem sat_all (h : Heap) : Sat (hm h) [] h := ⟨fun b o hb => hb, by simp, by simp, by simp⟩
theorem Ext.ofSat {h h' : Heap} {ro : Ro} {own : Chs} (hl : Le (hm h) ro) (hs : Sat ro own h') : Ext h h' := by
  have key : ∀ k, k < h.size → h'[k]? = h[k]? := fun k hk => by
    have h1 : hm h k = some h[k] := Array.getElem?_eq_getElem hk
    have h2 := hs.last _ _ (hl.le _ _ h1)
    rw [h2]; exact h1.symm
  refine ⟨?_, key⟩
  rcases Nat.eq_zero_or_pos h.size with h0 | h0
  · omega
  · have := key (h.size - 1) (by omega)
    rw [Array.getElem?_eq_getElem (by omega : h.size - 1 < h.size)] at this
    have := (Array.getElem?_eq_some_iff.1 this).1
    omega
theorem CallOk.law {P : Program} {f : FuncId} {args : Array Value} {h : Heap} (he : ∀ args w, (callFunc f args).run P w = .ok (.enter f args) w) (hc : CallOk P f args (hm h) [] (fun v _ _ => v = .bool true)) : Meets P f args h (fun u h' => u = .bool true ∧ Ext h h') := fun w hw => by
  subst hw
  rcases hc.run w (sat_all _) with ⟨_, hcalls⟩ | ⟨v, w', h1, _⟩
  · exact hcalls.mono fun e w' ⟨v, hev, hh, ro', own', hl, hs, hv⟩ => ⟨v, hev, hh, hv, Ext.ofSat hl hs⟩
  · rw [he] at h1; cases h1
theorem Rs.ofRd {h : Heap} {a : Option Addr} {n c s : Nat} {cs : List Value} (hr : Rd h (.slice a n c) n cs) (hl : cs.length = n * s) : Rs (hm h) a n c s cs := by
  obtain ⟨a', c', hv, h1, h2⟩ := hr.slice
  cases hv
  exact ⟨fun h' own hs => hr.ext (Ext.ofSat (Le.refl _) hs), hl, h1, h2⟩
theorem Bys.ofRd {h : Heap} {a : Option Addr} {n c : Nat} {l : List UInt8} (hr : Rd h (.slice a n c) l.length (l.map u8)) : Bys (hm h) a n c l := by
  obtain ⟨a', c', hv, h1, h2⟩ := hr.slice
  cases hv
  exact Rs.ofRd hr (by simp)
end Go.E
