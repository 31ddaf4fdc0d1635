/- TrackPutExact: the statement of the program, for every input; no conditions. -/
import Derived.Test.YtmiddecfdfbocaaTPL
import Derived.Test.YtmiddecfdfbocaaRows
set_option linter.all false
set_option linter.unusedVariables false
set_option linter.unusedSimpArgs false
open Go Go.Abs Go.Proofs
open Go.ChangeShapes Go.WideShapes Go.ChangeAt Go.RowKit
namespace Go.Proofs.Ytmiddecfdfbocaa
theorem own : ownKnob Try.prog.godebug = none := by kernel_rfl
theorem laidOut : laidOutB Try.prog = true := by kernel_rfl
set_option maxRecDepth 100000 in
theorem lifted (os : Os) (started : os.Started) (H : Type) (enc : TypeId × Value → H) :
    ReturnsInHanded {} Try.checked os 5 .any (Ytmiddecfdfbocaa.Rows.trackPutExactSpec.pre6 enc Try.prog Try.f5 Ytmiddecfdfbocaa.Rows.trackPutExactRow.domain false) (Ytmiddecfdfbocaa.Rows.trackPutExactSpec.post enc Try.prog Try.f5 false true false false) := by
  refine returnsInHanded_of_change_sized (C := Try.checked) own started (by kernel_rfl) Try.func5
    (ChangeSpec.witness6 (enc := enc) (C := Try.checked) false ⟨#[], #[.agg #[.int .i64 0, .slice none 0 0, .slice none 0 0, .slice none 0 0], .int .i64 0, .int .i64 0, .slice none 0 0], []⟩ 8 (by kernel_rfl) (by kernel_rfl) (by kernel_rfl) (by kernel_rfl)) ?_
  intro W base args ds gs before hval0 hW hcnd hsz0 _
  have hW' := hW
  obtain ⟨p, q, hA, hV, rfl, hfz, hnd⟩ := hW
  obtain ⟨rfl, rfl⟩ := trodVars_none hV
  have hsz : (DataW.weightsEach Try.prog (Try.f5.params.toList ++ []) (ds ++ [])).all (· ≤ reachBytes) = true := hsz0
  rw [List.append_nil, List.append_nil] at hsz
  have hts : Try.f5.params.toList.length = 4 := by kernel_rfl
  have hlen := trodAll_len hA
  rw [hts] at hlen
  refine (lawCalls tabTP (f := 5) (fn := Try.f5) (ts := Try.f5.params.toList) (KK := lPut_K) (sh := lPut_sh) Try.func5 (by kernel_rfl) (by kernel_rfl) (by kernel_rfl) (by kernel_rfl) (by kernel_rfl) laidOut lPut_fin (fun j t v h1 h2 => hval0 j t v (by simpa using h1) h2) hA hsz).mono fun e W' ⟨he, bel, back⟩ => ?_
  subst he
  match ds, hlen with
  | [d0, d1, d2, d3], _ => exact ⟨_, rfl, _, _, _, [], _, [], hW', trodAll_mk1 (shut_bool (t := 4) (by kernel_rfl) _), back, rfl, bel.frame _, fun h => by cases h⟩
theorem over : Ytmiddecfdfbocaa.Rows.trackPutExactRow.holds Ytmiddecfdfbocaa.Try.pinned (OpenSpec.ofChange Ytmiddecfdfbocaa.Rows.trackPutExactSpec) :=
  OpenClaim.holds_of_wide 5 Try.f5 rfl rfl rfl rfl rfl rfl rfl ⟨rfl, rfl, rfl, rfl, rfl⟩ rfl rfl rfl rfl rfl (by kernel_rfl) Try.func5 (by kernel_rfl)
    (of_decide_eq_true (by kernel_rfl)) (by unfold Func.isWrapper; first | (rw [if_pos (by decide +kernel)]; kernel_rfl) | (rw [if_neg (by decide +kernel)]; exact ⟨rfl, rfl⟩))
    (fun os started H enc _ => lifted os started H enc)
theorem proved : Ytmiddecfdfbocaa.Rows.TrackPutExactSaid := over
end Go.Proofs.Ytmiddecfdfbocaa
