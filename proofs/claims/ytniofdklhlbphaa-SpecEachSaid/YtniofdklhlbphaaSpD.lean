/- What a specification's parts read as. -/
import Derived.Test.YtniofdklhlbphaaSpC
import Derived.Test.YtniofdklhlbphaaEn2
namespace Go.Proofs.Ytniofdklhlbphaa
open Go Go.E
set_option linter.unusedVariables false
set_option maxRecDepth 10000
section
variable {ro : Ro} {cs : List Value}
theorem flat_one {α : Type} (f : α → Value) (l : List α) : (l.map fun n => [f n]).flatten = l.map f := by
  induction l with
  | nil => rfl
  | cons a l ih => simp only [List.map_cons, List.flatten_cons, ih]; rfl
theorem read_field (h : Wf Try.prog ro 51 cs) : ∃ f : FieldD, cs = fieldV f ∧ (In64 f.type ∧ In64 f.derive) ∧ f.name.length ≤ reachBytes := by
  have hu := Try.underlying51
  have hl : cs.length = 5 := (Wf.struct_inv hu h).1.trans (by kernel_rfl)
  match cs, hl, h with
  | [v0, v1, v2, v3, v4], _, h =>
    obtain ⟨l0, rfl, hl0⟩ := Wf.str_inv Try.underlying9 (Wf.fld (i := 0) (off := 0) (k := 1) hu h rfl rfl rfl (by kernel_rfl))
    obtain ⟨n1, rfl, w1⟩ := Wf.int_inv Try.underlying3 (Wf.fld (i := 1) (off := 1) (k := 1) hu h rfl rfl rfl (by kernel_rfl))
    obtain ⟨n2, rfl, w2⟩ := Wf.int_inv Try.underlying3 (Wf.fld (i := 2) (off := 2) (k := 1) hu h rfl rfl rfl (by kernel_rfl))
    obtain ⟨l3, rfl, hl3⟩ := Wf.str_inv Try.underlying9 (Wf.fld (i := 3) (off := 3) (k := 1) hu h rfl rfl rfl (by kernel_rfl))
    obtain ⟨l4, rfl, hl4⟩ := Wf.str_inv Try.underlying9 (Wf.fld (i := 4) (off := 4) (k := 1) hu h rfl rfl rfl (by kernel_rfl))
    exact ⟨⟨l0, n1, n2, l3, l4⟩, rfl, ⟨wf_i64 w1, wf_i64 w2⟩, hl0⟩
theorem read_case (h : Wf Try.prog ro 73 cs) : ∃ f : CaseD, cs = caseV f ∧ In64 f.type ∧ f.value < 18446744073709551616 := by
  have hu := Try.underlying73
  have hl : cs.length = 2 := (Wf.struct_inv hu h).1.trans (by kernel_rfl)
  match cs, hl, h with
  | [v0, v1], _, h =>
    obtain ⟨n0, rfl, w0⟩ := Wf.int_inv Try.underlying42 (Wf.fld (i := 0) (off := 0) (k := 1) hu h rfl rfl rfl (by kernel_rfl))
    obtain ⟨n1, rfl, w1⟩ := Wf.int_inv Try.underlying3 (Wf.fld (i := 1) (off := 1) (k := 1) hu h rfl rfl rfl (by kernel_rfl))
    obtain ⟨m0, rfl, b0⟩ := wf_u64 w0
    exact ⟨⟨m0, n1⟩, rfl, wf_i64 w1, b0⟩
theorem read_int (h : Wf Try.prog ro 3 cs) : ∃ n : Int, cs = [.int .i64 n] ∧ In64 n := by
  cases h with
  | int h hw => rw [Try.underlying3] at h; cases h; exact ⟨_, rfl, wf_i64 hw⟩
  | bool h => rw [Try.underlying3] at h; cases h
  | str h => rw [Try.underlying3] at h; cases h
  | slice h => rw [Try.underlying3] at h; cases h
  | struct h hl hw => rw [Try.underlying3] at h; cases h
  | array h => rw [Try.underlying3] at h; cases h
  | nought h => rw [Try.underlying3] at h; cases h
  | other h => exact absurd rfl ((h _ Try.underlying3).1 .i64)
theorem read_bool (h : Wf Try.prog ro 4 cs) : ∃ b : Bool, cs = [.bool b] ∧ True := by
  cases h with
  | bool h => exact ⟨_, rfl, trivial⟩
  | int h hw => rw [Try.underlying4] at h; cases h
  | str h => rw [Try.underlying4] at h; cases h
  | slice h => rw [Try.underlying4] at h; cases h
  | struct h hl hw => rw [Try.underlying4] at h; cases h
  | array h => rw [Try.underlying4] at h; cases h
  | nought h => rw [Try.underlying4] at h; cases h
  | other h => exact absurd rfl (h _ Try.underlying4).2.1
theorem read_node (h : Wf Try.prog ro 49 cs) : ∃ (d : NodeD) (x : NodeA), cs = nodeV d x ∧ NodeIn d ∧ NodeOk ro d x ∧ ∀ f ∈ d.fields, f.name.length ≤ reachBytes := by
  have hu := Try.underlying49
  have he := Try.underlying44
  have hl : cs.length = 18 := (Wf.struct_inv hu h).1.trans (by kernel_rfl)
  match cs, hl, h with
  | [v0, v1, v2, v3, v4, v5, v6, v7, v8, v9, v10, v11, v12, v13, v14, v15, v16, v17], _, h =>
    obtain ⟨n0, rfl, w0⟩ := Wf.int_inv Try.underlying3 (Wf.fld (i := 0) (off := 0) (k := 1) hu h rfl rfl rfl (by kernel_rfl))
    obtain ⟨n1, rfl, w1⟩ := Wf.int_inv Try.underlying3 (Wf.fld (i := 1) (off := 1) (k := 1) hu h rfl rfl rfl (by kernel_rfl))
    obtain ⟨b2, rfl⟩ := Wf.bool_inv Try.underlying4 (Wf.fld (i := 2) (off := 2) (k := 1) hu h rfl rfl rfl (by kernel_rfl))
    obtain ⟨b3, rfl⟩ := Wf.bool_inv Try.underlying4 (Wf.fld (i := 3) (off := 3) (k := 1) hu h rfl rfl rfl (by kernel_rfl))
    obtain ⟨b4, rfl⟩ := Wf.bool_inv Try.underlying4 (Wf.fld (i := 4) (off := 4) (k := 1) hu h rfl rfl rfl (by kernel_rfl))
    obtain ⟨n5, rfl, w5⟩ := Wf.int_inv Try.underlying42 (Wf.fld (i := 5) (off := 5) (k := 1) hu h rfl rfl rfl (by kernel_rfl))
    obtain ⟨n6, rfl, w6⟩ := Wf.int_inv Try.underlying42 (Wf.fld (i := 6) (off := 6) (k := 1) hu h rfl rfl rfl (by kernel_rfl))
    obtain ⟨l7, rfl, hl7⟩ := Wf.str_inv Try.underlying9 (Wf.fld (i := 7) (off := 7) (k := 1) hu h rfl rfl rfl (by kernel_rfl))
    have hx : Wf Try.prog ro 44 [v8, v9, v10] := Wf.fld (i := 8) (off := 8) (k := 3) hu h rfl rfl rfl (by kernel_rfl)
    obtain ⟨l8, rfl, hl8⟩ := Wf.str_inv Try.underlying9 (Wf.fld (i := 0) (off := 0) (k := 1) he hx rfl rfl rfl (by kernel_rfl))
    obtain ⟨n9, rfl, w9⟩ := Wf.int_inv Try.underlying42 (Wf.fld (i := 1) (off := 1) (k := 1) he hx rfl rfl rfl (by kernel_rfl))
    obtain ⟨n10, rfl, w10⟩ := Wf.int_inv Try.underlying42 (Wf.fld (i := 2) (off := 2) (k := 1) he hx rfl rfl rfl (by kernel_rfl))
    obtain ⟨ka, kn, kc, kcs, rfl, kr, kl, kw⟩ := Wf.slice_inv (s := 1) Try.underlying30 (by kernel_rfl) (by omega) (Wf.fld (i := 9) (off := 11) (k := 1) hu h rfl rfl rfl (by kernel_rfl))
    obtain ⟨la, ln, lc, lcs, rfl, lr, ll, lw⟩ := Wf.slice_inv (s := 1) Try.underlying45 (by kernel_rfl) (by omega) (Wf.fld (i := 10) (off := 12) (k := 1) hu h rfl rfl rfl (by kernel_rfl))
    obtain ⟨fa, fn, fc, fcs, rfl, fr, fl, fw⟩ := Wf.slice_inv (s := 5) Try.underlying46 (by kernel_rfl) (by omega) (Wf.fld (i := 11) (off := 13) (k := 1) hu h rfl rfl rfl (by kernel_rfl))
    obtain ⟨l14, rfl, hl14⟩ := Wf.str_inv Try.underlying9 (Wf.fld (i := 12) (off := 14) (k := 1) hu h rfl rfl rfl (by kernel_rfl))
    obtain ⟨n15, rfl, w15⟩ := Wf.int_inv Try.underlying42 (Wf.fld (i := 13) (off := 15) (k := 1) hu h rfl rfl rfl (by kernel_rfl))
    obtain ⟨ca, cn, cc, ccs, rfl, cr, cl, cw⟩ := Wf.slice_inv (s := 2) Try.underlying47 (by kernel_rfl) (by omega) (Wf.fld (i := 14) (off := 16) (k := 1) hu h rfl rfl rfl (by kernel_rfl))
    obtain ⟨n17, rfl, w17⟩ := Wf.int_inv Try.underlying3 (Wf.fld (i := 15) (off := 17) (k := 1) hu h rfl rfl rfl (by kernel_rfl))
    obtain ⟨m5, rfl, b5⟩ := wf_u64 w5
    obtain ⟨m6, rfl, b6⟩ := wf_u64 w6
    obtain ⟨m9, rfl, b9⟩ := wf_u64 w9
    obtain ⟨m10, rfl, b10⟩ := wf_u64 w10
    obtain ⟨m15, rfl, b15⟩ := wf_u64 w15
    obtain ⟨ks, rfl, hk⟩ := all_read (V := fun n : Int => [Value.int .i64 n]) (fun i x hx => read_int (kw i x hx))
    obtain ⟨ls, rfl, _⟩ := all_read (V := fun b : Bool => [Value.bool b]) (fun i x hx => read_bool (lw i x hx))
    obtain ⟨fs, rfl, hf⟩ := all_read (V := fieldV) (fun i x hx => read_field (fw i x hx))
    obtain ⟨cases, rfl, hc⟩ := all_read (V := caseV) (fun i x hx => read_case (cw i x hx))
    rw [List.length_map] at kl ll fl cl
    subst kl; subst ll; subst fl; subst cl
    have e1 : (ks.map fun n : Int => [Value.int .i64 n]).flatten = kidsV ks := flat_one _ _
    have e2 : (ls.map fun b : Bool => [Value.bool b]).flatten = lastV ls := flat_one _ _
    rw [e1] at kr
    rw [e2] at lr
    exact ⟨⟨n0, n1, b2, b3, b4, m5, m6, l7, l8, m9, m10, ks, ls, fs, l14, m15, cases, n17⟩, ⟨ka, kc, la, lc, fa, fc, ca, cc⟩, rfl,
      ⟨wf_i64 w0, wf_i64 w1, b5, b6, b9, b10, b15, wf_i64 w17, hk, fun f h => (hf f h).1, hc⟩, ⟨kr, lr, by rw [fieldsV, List.flatMap_def]; exact fr, by rw [casesV, List.flatMap_def]; exact cr⟩, fun f h => (hf f h).2⟩
end
end Go.Proofs.Ytniofdklhlbphaa
