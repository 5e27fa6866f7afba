/- What a program's parts read as. -/
import Derived.Test.YtniofdklhlbphaaDoorCdE
import Derived.Test.YtniofdklhlbphaaDoorEn2
namespace Go.Proofs.YtniofdklhlbphaaDoor
open Go Go.E
set_option linter.unusedVariables false
set_option maxRecDepth 10000
theorem bytes_read : ∀ (rest : List Value), (∀ (i : Nat) (v : Value), rest[i]? = some v → ∃ m : Nat, m < 256 ∧ v = .int .u8 (m : Int)) → ∃ l : List Nat, rest = bytesV l ∧ ∀ c ∈ l, c < 256
  | [], _ => ⟨[], rfl, by simp⟩
  | v :: rest, h => by
    obtain ⟨m, hm, rfl⟩ := h 0 v rfl
    obtain ⟨l, rfl, hl⟩ := bytes_read rest (fun i w hw => h (i + 1) w (by simpa using hw))
    exact ⟨m :: l, rfl, fun c hc => (List.mem_cons.1 hc).elim (fun e => e ▸ hm) (hl c)⟩
theorem steps_flat (l : List (StepD × StepA)) : (l.map fun p => stepV p.1 p.2).flatten = stepsV (l.map (·.1)) (l.map (·.2)) := by
  induction l with
  | nil => rfl
  | cons p l ih => simp only [List.map_cons, List.flatten_cons, ih]; rfl
section
variable {ro : Ro} {cs : List Value}
theorem read_way (h : Wf Tryd.prog ro 45 cs) : ∃ f : WayD, cs = wayV f ∧ True := by
  have hu := Tryd.underlying45
  have hl : cs.length = 2 := (Wf.struct_inv hu h).1.trans (by kernel_rfl)
  match cs, hl, h with
  | [v0, v1], _, h =>
    obtain ⟨n0, rfl, w0⟩ := Wf.int_inv Tryd.underlying38 (Wf.fld (i := 0) (off := 0) (k := 1) hu h rfl rfl rfl (by kernel_rfl))
    obtain ⟨n1, rfl, w1⟩ := Wf.int_inv Tryd.underlying3 (Wf.fld (i := 1) (off := 1) (k := 1) hu h rfl rfl rfl (by kernel_rfl))
    obtain ⟨m0, rfl, b0⟩ := wf_u64 w0
    exact ⟨⟨m0, n1⟩, rfl, trivial⟩
theorem read_bytes {rest : List Value} (h : Wf Tryd.prog ro 40 rest) : ∃ l : List Nat, rest = bytesV l ∧ ∀ c ∈ l, c < 256 := by
  have hl : rest.length = 256 := (Wf.array_inv Tryd.underlying40 h).1.trans (by kernel_rfl)
  have ha := (Wf.array_inv Tryd.underlying40 h).2
  rw [show Tryd.prog.cellsOf 5 = 1 by kernel_rfl] at ha
  refine bytes_read rest (fun i v hv => ?_)
  have hi := (List.getElem?_eq_some_iff.1 hv).1
  have h1 := ha i (by omega)
  rw [Nat.mul_one, List.drop_eq_getElem_cons hi, List.take_succ_cons, List.take_zero, (List.getElem?_eq_some_iff.1 hv).2] at h1
  obtain ⟨n, rfl, w⟩ := Wf.int_inv Tryd.underlying5 h1
  have := wf_u8 w
  exact ⟨n.toNat, by omega, by congr 1; omega⟩
theorem read_step (h : Wf Tryd.prog ro 42 cs) : ∃ (s : StepD) (x : StepA), cs = stepV s x ∧ StepOk ro s x := by
  have hu := Tryd.underlying42
  have hl : cs.length = 265 := (Wf.struct_inv hu h).1.trans (by kernel_rfl)
  obtain ⟨v0, v1, v2, v3, v4, v5, v6, v7, v8, rest, rfl⟩ : ∃ v0 v1 v2 v3 v4 v5 v6 v7 v8 rest, cs = v0 :: v1 :: v2 :: v3 :: v4 :: v5 :: v6 :: v7 :: v8 :: rest := by
    match cs, hl with
    | v0 :: v1 :: v2 :: v3 :: v4 :: v5 :: v6 :: v7 :: v8 :: rest, _ => exact ⟨_, _, _, _, _, _, _, _, _, _, rfl⟩
  have hrl : rest.length = 256 := by simpa using hl
  obtain ⟨n0, rfl, w0⟩ := Wf.int_inv Tryd.underlying3 (Wf.fld (i := 0) (off := 0) (k := 1) hu h rfl rfl rfl (by kernel_rfl))
  obtain ⟨n1, rfl, w1⟩ := Wf.int_inv Tryd.underlying3 (Wf.fld (i := 1) (off := 1) (k := 1) hu h rfl rfl rfl (by kernel_rfl))
  obtain ⟨n2, rfl, w2⟩ := Wf.int_inv Tryd.underlying3 (Wf.fld (i := 2) (off := 2) (k := 1) hu h rfl rfl rfl (by kernel_rfl))
  obtain ⟨b3, rfl⟩ := Wf.bool_inv Tryd.underlying4 (Wf.fld (i := 3) (off := 3) (k := 1) hu h rfl rfl rfl (by kernel_rfl))
  obtain ⟨n4, rfl, w4⟩ := Wf.int_inv Tryd.underlying38 (Wf.fld (i := 4) (off := 4) (k := 1) hu h rfl rfl rfl (by kernel_rfl))
  obtain ⟨n5, rfl, w5⟩ := Wf.int_inv Tryd.underlying38 (Wf.fld (i := 5) (off := 5) (k := 1) hu h rfl rfl rfl (by kernel_rfl))
  obtain ⟨n6, rfl, w6⟩ := Wf.int_inv Tryd.underlying38 (Wf.fld (i := 6) (off := 6) (k := 1) hu h rfl rfl rfl (by kernel_rfl))
  obtain ⟨n7, rfl, w7⟩ := Wf.int_inv Tryd.underlying38 (Wf.fld (i := 7) (off := 7) (k := 1) hu h rfl rfl rfl (by kernel_rfl))
  obtain ⟨wa, wn, wc, wcs, rfl, wr, wl, ww⟩ := Wf.slice_inv (s := 2) Tryd.underlying39 (by kernel_rfl) (by omega) (Wf.fld (i := 8) (off := 8) (k := 1) hu h rfl rfl rfl (by kernel_rfl))
  have hx : Wf Tryd.prog ro 40 (rest.take 256) := Wf.fld (i := 9) (off := 9) (k := 256) hu h rfl rfl rfl (by kernel_rfl)
  rw [List.take_of_length_le (by omega)] at hx
  obtain ⟨bl, rfl, hb⟩ := read_bytes hx
  obtain ⟨m4, rfl, b4⟩ := wf_u64 w4
  obtain ⟨m5, rfl, b5⟩ := wf_u64 w5
  obtain ⟨m6, rfl, b6⟩ := wf_u64 w6
  obtain ⟨m7, rfl, b7⟩ := wf_u64 w7
  obtain ⟨ws, rfl, _⟩ := all_read (V := wayV) (fun i x hx => read_way (ww i x hx))
  rw [List.length_map] at wl
  subst wl
  exact ⟨⟨n0, n1, n2, b3, m4, m5, m6, m7, ws, bl⟩, (wa, wc), rfl, ⟨by simpa [bytesV] using hrl, hb, b4, b5⟩, by rw [waysV, List.flatMap_def]; exact wr⟩
theorem read_prog (h : Wf Tryd.prog ro 33 cs) : ∃ (p : ProgD) (a : ProgA), cs = progV p a ∧ ProgOk ro p a := by
  have hu := Tryd.underlying33
  have hl : cs.length = 4 := (Wf.struct_inv hu h).1.trans (by kernel_rfl)
  match cs, hl, h with
  | [v0, v1, v2, v3], _, h =>
    obtain ⟨sa, sn, sc, scs, rfl, sr, sl, sw⟩ := Wf.slice_inv (s := 265) Tryd.underlying31 (by kernel_rfl) (by omega) (Wf.fld (i := 0) (off := 0) (k := 1) hu h rfl rfl rfl (by kernel_rfl))
    obtain ⟨n1, rfl, w1⟩ := Wf.int_inv Tryd.underlying3 (Wf.fld (i := 1) (off := 1) (k := 1) hu h rfl rfl rfl (by kernel_rfl))
    obtain ⟨n2, rfl, w2⟩ := Wf.int_inv Tryd.underlying3 (Wf.fld (i := 2) (off := 2) (k := 1) hu h rfl rfl rfl (by kernel_rfl))
    obtain ⟨n3, rfl, w3⟩ := Wf.int_inv Tryd.underlying3 (Wf.fld (i := 3) (off := 3) (k := 1) hu h rfl rfl rfl (by kernel_rfl))
    obtain ⟨ss, rfl, hs⟩ := all_read (V := fun p : StepD × StepA => stepV p.1 p.2) (G := fun p => StepOk ro p.1 p.2) (fun i x hx => by obtain ⟨d, x', e, g⟩ := read_step (sw i x hx); exact ⟨(d, x'), e, g⟩)
    rw [List.length_map] at sl
    subst sl
    rw [steps_flat] at sr
    refine ⟨⟨ss.map (·.1), n1, n2, n3⟩, ⟨sa, sc, ss.map (·.2)⟩, by simp [progV], ⟨by simp, by simpa using sr, fun i d x g1 g2 => ?_⟩⟩
    rw [List.getElem?_map] at g1 g2
    cases hp : ss[i]? with
    | none => rw [hp] at g1; cases g1
    | some q =>
      rw [hp] at g1 g2
      cases g1; cases g2
      exact hs q (List.mem_of_getElem? hp)
end
end Go.Proofs.YtniofdklhlbphaaDoor
