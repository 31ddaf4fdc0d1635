/- Any rig is put together, or refused, as the document says. -/
import Derived.Test.YtknkkaimbhojpaaOL
import Derived.Test.YtknkkaimbhojpaaRows
set_option linter.all false
set_option linter.unusedVariables false
set_option linter.unusedSimpArgs false
open Go Go.Abs Go.Proofs
set_option linter.unusedVariables false
namespace Go.Proofs.Ytknkkaimbhojpaa
theorem bytes_int : Nat.blt 0 (Try.prog.bytesOf 3) = true := by kernel_rfl
theorem bytes_part : Nat.blt 0 (Try.prog.bytesOf 43) = true := by kernel_rfl
theorem bytes_mo : Nat.blt 0 (Try.prog.bytesOf 77) = true := by kernel_rfl
theorem bytes_lead : Nat.blt 0 (Try.prog.bytesOf 47) = true := by kernel_rfl
theorem bytes_cell : Nat.blt 0 (Try.prog.bytesOf 54) = true := by kernel_rfl
theorem wf_rig {y : Rig} (h : wfT Try.prog lAsm_K y) : rigOk y = true := by
  obtain ⟨ps, ls⟩ := y
  obtain ⟨h1, h2⟩ := h
  simp only [rigOk, Bool.and_eq_true, decide_eq_true_eq, List.all_eq_true]
  refine ⟨⟨wf_len h1 bytes_part, wf_len h2 bytes_lead⟩, fun p hp => ?_, fun l hl => ?_⟩
  · obtain ⟨_, _, _, w1, w2, _⟩ := wf_mem h1 hp
    exact decide_eq_true ⟨wf_len w1 bytes_int, wf_len w2 bytes_mo⟩
  · obtain ⟨_, _, _, _, w1⟩ := wf_mem h2 hl
    exact wf_len w1 bytes_cell
theorem eq_self (o : Organ) : sameOM (o.1, o.2.1, o.2.2.1, o.2.2.2.1, o.2.2.2.2, o.1, o.2.1, o.2.2.1, o.2.2.2.1, o.2.2.2.2) = true := by
  simp only [sameOM, eqL_self, eqMos_self, decide_true, Bool.and_self]
theorem asm_len (z : Rig) (h : rigOk z = true) : (asmM z).2.2.2.1.length < 9223372036854775807 ∧ (asmM z).2.2.2.2.1.length < 9223372036854775807 := by
  obtain ⟨ps, ls⟩ := z
  have he : ∀ e, (asmErr e).2.2.2.1.length < 9223372036854775807 ∧ (asmErr e).2.2.2.2.1.length < 9223372036854775807 := fun e => ⟨by show 0 < _; omega, by show 0 < _; omega⟩
  simp only [asmM]
  cases hp : partsB ps with
  | false => exact he _
  | true =>
    cases hb : leadsB ps [] ls with
    | false => exact he _
    | true =>
      have hfull := full_of hp hb
      have hlen := allTi_len hfull
      have hbl := builtO_len (ls := ls) (l := allTi ps ls) hp (frame_ok hlen.1 (tiny_all hfull))
      simp only [Bool.not_true, cond_false]
      cases closedR ps ls (allTi ps ls) (frameOf (allTi ps ls)) with
      | true => exact he _
      | false =>
        cases organM (rigO ps ls) != 0 with
        | true => exact he _
        | false => exact hbl
theorem lAsm_plain (z : Rig) (h : rigOk z = true) : lAsm_run 0 z = ⟨true, .bool true, []⟩ := by
  have hl := asm_len z h
  obtain ⟨ps, ls⟩ := z
  refine (lAsm_arg ..).trans ((lAsm_eq ..).trans ?_)
  have o1 : rAsmOk (ps, ls) = true := h
  have o2 : oAsmOk (ps, ls) = true := h
  have e1 : oAsmM (ps, ls) = asmM (ps, ls) := rfl
  have e2 : rAsmM (ps, ls) = asmM (ps, ls) := rfl
  rw [o1, o2, e1, e2]
  generalize asmM (ps, ls) = a at *
  obtain ⟨k, w, hh, cs, ms, e⟩ := a
  have o3 : sameOOk (k, w, hh, cs, ms, k, w, hh, cs, ms) = true := decide_eq_true ⟨hl.1, hl.1, hl.2⟩
  have o4 := eq_self (k, w, hh, cs, ms)
  simp only at o4
  simp only [o3, o4, decide_true, cond_true]
theorem lAsm_fin (y : CT lAsm_K) (h : wfT Try.prog lAsm_K y) : ∃ F, runF (cx_lAsm F) Try.f3 (groupA lAsm_sh (enc lAsm_K y)) [] = ⟨true, .bool true, []⟩ :=
  ⟨0, lAsm_plain y (wf_rig h)⟩
end Go.Proofs.Ytknkkaimbhojpaa

open Go Go.Abs Go.Proofs
open Go.ChangeShapes Go.WideShapes Go.ChangeAt Go.RowKit
namespace Go.Proofs.Ytknkkaimbhojpaa
theorem own : ownKnob Try.prog.godebug = none := by kernel_rfl
theorem laidOut : laidOutB Try.prog = true := by kernel_rfl
set_option maxRecDepth 100000 in
theorem lifted (os : Os) (started : os.Started) (H : Type) (enc : TypeId × Value → H) :
    ReturnsInHanded {} Try.checked os 3 .any (Ytknkkaimbhojpaa.Rows.organAssembleSpec.pre6 enc Try.prog Try.f3 Ytknkkaimbhojpaa.Rows.organAssembleRow.domain false) (Ytknkkaimbhojpaa.Rows.organAssembleSpec.post enc Try.prog Try.f3 false true false false) := by
  refine returnsInHanded_of_change_sized (C := Try.checked) own started (by kernel_rfl) Try.func3
    (ChangeSpec.witness6 (enc := enc) (C := Try.checked) false ⟨#[], #[.agg #[.slice none 0 0, .slice none 0 0]], []⟩ 8 (by kernel_rfl) (by kernel_rfl) (by kernel_rfl) (by kernel_rfl)) ?_
  intro W base args ds gs before hval0 hW hcnd hsz0 _
  have hW' := hW
  obtain ⟨p, q, hA, hV, rfl, hfz, hnd⟩ := hW
  obtain ⟨rfl, rfl⟩ := trodVars_none hV
  have hsz : (DataW.weightsEach Try.prog (Try.f3.params.toList ++ []) (ds ++ [])).all (· ≤ reachBytes) = true := hsz0
  rw [List.append_nil, List.append_nil] at hsz
  have hts : Try.f3.params.toList.length = 1 := by kernel_rfl
  have hlen := trodAll_len hA
  rw [hts] at hlen
  refine (lawCalls tabOL (f := 3) (fn := Try.f3) (ts := Try.f3.params.toList) (KK := lAsm_K) (sh := lAsm_sh) Try.func3 (by kernel_rfl) (by kernel_rfl) (by kernel_rfl) (by kernel_rfl) (by kernel_rfl) laidOut lAsm_fin (fun j t v h1 h2 => hval0 j t v (by simpa using h1) h2) hA hsz).mono fun e W' ⟨he, bel, back⟩ => ?_
  subst he
  match ds, hlen with
  | [d0], _ => exact ⟨_, rfl, _, _, _, [], _, [], hW', trodAll_mk1 (shut_bool (t := 4) (by kernel_rfl) _), back, rfl, bel.frame _, fun h => by cases h⟩
theorem over : Ytknkkaimbhojpaa.Rows.organAssembleRow.holds Ytknkkaimbhojpaa.Try.pinned (OpenSpec.ofChange Ytknkkaimbhojpaa.Rows.organAssembleSpec) :=
  OpenClaim.holds_of_wide 3 Try.f3 rfl rfl rfl rfl rfl rfl rfl ⟨rfl, rfl, rfl, rfl, rfl⟩ rfl rfl rfl rfl rfl (by kernel_rfl) Try.func3 (by kernel_rfl)
    (of_decide_eq_true (by kernel_rfl)) (by unfold Func.isWrapper; first | (rw [if_pos (by decide +kernel)]; kernel_rfl) | (rw [if_neg (by decide +kernel)]; exact ⟨rfl, rfl⟩))
    (fun os started H enc _ => lifted os started H enc)
theorem proved : Ytknkkaimbhojpaa.Rows.OrganAssembleSaid := over
end Go.Proofs.Ytknkkaimbhojpaa
