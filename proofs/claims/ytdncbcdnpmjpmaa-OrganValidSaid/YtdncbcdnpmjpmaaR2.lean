/- For every organ and every contract the program and the reference tell the same, so the law answers true; its arguments read behind the call as they read before. Conditions: none beyond the statement. -/
import Derived.Test.YtdncbcdnpmjpmaaV4
import Derived.Test.YtdncbcdnpmjpmaaA21
import Derived.Test.YtdncbcdnpmjpmaaRows
set_option linter.all false
set_option linter.unusedVariables false
set_option linter.unusedSimpArgs false
open Go Go.Abs Go.Proofs
open Go.ChangeShapes Go.WideShapes Go.ChangeAt Go.RowKit
namespace Go.Proofs.Ytdncbcdnpmjpmaa
theorem len_of {n b : Nat} (h : n * b ≤ 140737488351232) (hb : Nat.blt 0 b = true) : n < 9223372036854775807 := by
  have := Nat.le_mul_of_pos_right n (show 0 < b by simpa [Nat.blt_eq] using hb)
  omega
theorem law (y : CT lV_K) (hy : wfT Try.prog lV_K y) : ∃ F, runF (cxLV F) Try.f3 (groupA lV_sh (enc lV_K y)) [] = ⟨true, .bool true, []⟩ := by
  obtain ⟨kind, w, h, cells, ms, ins, outs, delay, next, put, lets⟩ := y
  refine ⟨0, (lV_eq 0 kind w h cells ms ins outs delay next put lets).trans ?_⟩
  obtain ⟨_, _, _, h1, h2, _, _, _, h3, h4, h5⟩ := hy
  have k1 : List.length (α := Int) cells < 9223372036854775807 := len_of h1.1 (by kernel_rfl)
  have k2 : List.length (α := Int × Int × Int × Bool) ms < 9223372036854775807 := len_of h2.1 (by kernel_rfl)
  have k3 : List.length (α := List Int) next < 9223372036854775807 := len_of h3.1 (by kernel_rfl)
  have k4 : List.length (α := List Int) put < 9223372036854775807 := len_of h4.1 (by kernel_rfl)
  have k5 : List.length (α := List Bool) lets < 9223372036854775807 := len_of h5.1 (by kernel_rfl)
  have ho : organOk (kind, w, h, cells, ms) = true := by simp only [organOk, decide_eq_true_eq]; exact ⟨k1, k2⟩
  have hv : validOk (ins, outs, delay, next, put, lets) = true := by simp only [validOk, decide_eq_true_eq]; exact ⟨k3, k4, k5⟩
  simp only [ho, hv, cond_true, decide_true]
theorem own : ownKnob Try.prog.godebug = none := by kernel_rfl
theorem laidOut : laidOutB Try.prog = true := by kernel_rfl
set_option maxRecDepth 100000 in
theorem lifted (os : Os) (started : os.Started) (H : Type) (enc : TypeId × Value → H) :
    ReturnsInHanded {} Try.checked os 3 .any (Ytdncbcdnpmjpmaa.Rows.organValidSpec.pre6 enc Try.prog Try.f3 Ytdncbcdnpmjpmaa.Rows.organValidRow.domain false) (Ytdncbcdnpmjpmaa.Rows.organValidSpec.post enc Try.prog Try.f3 false true false false) := by
  refine returnsInHanded_of_change_sized (C := Try.checked) own started (by kernel_rfl) Try.func3
    (ChangeSpec.witness6 (enc := enc) (C := Try.checked) false ⟨#[], #[.agg #[.int .i64 0, .int .i64 0, .int .i64 0, .slice none 0 0, .slice none 0 0], .agg #[.int .i64 0, .int .i64 0, .int .i64 0, .slice none 0 0, .slice none 0 0, .slice none 0 0]], []⟩ 8 (by kernel_rfl) (by kernel_rfl) (by kernel_rfl) (by kernel_rfl)) ?_
  intro W base args ds gs before hval0 hW hcnd hsz0 _
  have hW' := hW
  obtain ⟨p, q, hA, hV, rfl, hfz, hnd⟩ := hW
  obtain ⟨rfl, rfl⟩ := trodVars_none hV
  have hsz : (DataW.weightsEach Try.prog (Try.f3.params.toList ++ []) (ds ++ [])).all (· ≤ reachBytes) = true := hsz0
  rw [List.append_nil, List.append_nil] at hsz
  have hts : Try.f3.params.toList.length = 2 := by kernel_rfl
  have hlen := trodAll_len hA
  rw [hts] at hlen
  refine (lawCalls tab5 (f := 3) (fn := Try.f3) (ts := Try.f3.params.toList) (KK := lV_K) (sh := lV_sh) Try.func3 (by kernel_rfl) (by kernel_rfl) (by kernel_rfl) (by kernel_rfl) (by kernel_rfl) laidOut law (fun j t v h1 h2 => hval0 j t v (by simpa using h1) h2) hA hsz).mono fun e W' ⟨he, bel, back⟩ => ?_
  subst he
  match ds, hlen with
  | [d0, d1], _ => exact ⟨_, rfl, _, _, _, [], _, [], hW', trodAll_mk1 (shut_bool (t := 4) (by kernel_rfl) _), back, rfl, bel.frame _, fun h => by cases h⟩
theorem over : Ytdncbcdnpmjpmaa.Rows.organValidRow.holds Ytdncbcdnpmjpmaa.Try.pinned (OpenSpec.ofChange Ytdncbcdnpmjpmaa.Rows.organValidSpec) :=
  OpenClaim.holds_of_wide 3 Try.f3 rfl rfl rfl rfl rfl rfl rfl ⟨rfl, rfl, rfl, rfl, rfl⟩ rfl rfl rfl rfl rfl (by kernel_rfl) Try.func3 (by kernel_rfl)
    (of_decide_eq_true (by kernel_rfl)) (by unfold Func.isWrapper; first | (rw [if_pos (by decide +kernel)]; kernel_rfl) | (rw [if_neg (by decide +kernel)]; exact ⟨rfl, rfl⟩))
    (fun os started H enc _ => lifted os started H enc)
theorem proved : Ytdncbcdnpmjpmaa.Rows.OrganValidSaid := over
end Go.Proofs.Ytdncbcdnpmjpmaa
