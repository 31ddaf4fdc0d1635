/- For every contract and every stream the program and the reference tell the same, so the law answers true; its arguments read behind the call as they read before. Conditions: none beyond the statement. -/
import Derived.Test.YtjmgcpohgpjpiaaO3
import Derived.Test.YtjmgcpohgpjpiaaA21
import Derived.Test.YtjmgcpohgpjpiaaRows
set_option linter.all false
set_option linter.unusedVariables false
set_option linter.unusedSimpArgs false
open Go Go.Abs Go.Proofs
open Go.ChangeShapes Go.WideShapes Go.ChangeAt Go.RowKit
namespace Go.Proofs.Ytjmgcpohgpjpiaa
theorem tell_len {ins outs delay : Int} {next put : List (List Int)} {lets : List (List Bool)} {stream : List Int} : (tellM (ins, outs, delay, next, put, lets, stream)).1.length ≤ 4096 := by
  simp only [tellM]
  cases contractOk ins outs delay next put lets with
  | false => simp
  | true =>
    cases hs : streamOk stream ins with
    | false => simp
    | true =>
      have := (streamOk_spec hs).1
      simp only [cond_true, List.length_take]
      omega
theorem len_of {n b : Nat} (h : n * b ≤ 140737488351232) (hb : Nat.blt 0 b = true) : n < 9223372036854775807 := by
  have := Nat.le_mul_of_pos_right n (show 0 < b by simpa [Nat.blt_eq] using hb)
  omega
theorem tell_law (y : CT lTell_K) (hy : wfT Try.prog lTell_K y) : ∃ F, runF (cxLTell F) Try.f3 (groupA lTell_sh (enc lTell_K y)) [] = ⟨true, .bool true, []⟩ := by
  obtain ⟨ins, outs, delay, next, put, lets, stream⟩ := y
  refine ⟨0, (lTell_eq 0 ins outs delay next put lets stream).trans ?_⟩
  obtain ⟨_, _, _, h1, h2, h3, h4⟩ := hy
  have ml : maxLen = 9223372036854775807 := rfl
  have k1 : List.length (α := List Int) next < 9223372036854775807 := len_of h1.1 (by kernel_rfl)
  have k2 : List.length (α := List Int) put < 9223372036854775807 := len_of h2.1 (by kernel_rfl)
  have k3 : List.length (α := List Bool) lets < 9223372036854775807 := len_of h3.1 (by kernel_rfl)
  have k4 : List.length (α := Int) stream < 9223372036854775807 := len_of h4.1 (by kernel_rfl)
  have ho : tellOk (ins, outs, delay, next, put, lets, stream) = true := by simp only [tellOk, decide_eq_true_eq]; exact ⟨k1, k2, k3, k4⟩
  have hl := tell_len (ins := ins) (outs := outs) (delay := delay) (next := next) (put := put) (lets := lets) (stream := stream)
  have hs : sameIntsOk ((tellM (ins, outs, delay, next, put, lets, stream)).1, (tellM (ins, outs, delay, next, put, lets, stream)).1) = true := by simp only [sameIntsOk, decide_eq_true_eq]; omega
  simp only [ho, hs, cond_true, decide_true, sameIntsM]
theorem own : ownKnob Try.prog.godebug = none := by kernel_rfl
theorem laidOut : laidOutB Try.prog = true := by kernel_rfl
set_option maxRecDepth 100000 in
theorem lifted (os : Os) (started : os.Started) (H : Type) (enc : TypeId × Value → H) :
    ReturnsInHanded {} Try.checked os 3 .any (Ytjmgcpohgpjpiaa.Rows.organContractTellSpec.pre6 enc Try.prog Try.f3 Ytjmgcpohgpjpiaa.Rows.organContractTellRow.domain false) (Ytjmgcpohgpjpiaa.Rows.organContractTellSpec.post enc Try.prog Try.f3 false true false false) := by
  refine returnsInHanded_of_change_sized (C := Try.checked) own started (by kernel_rfl) Try.func3
    (ChangeSpec.witness6 (enc := enc) (C := Try.checked) false ⟨#[], #[.agg #[.int .i64 0, .int .i64 0, .int .i64 0, .slice none 0 0, .slice none 0 0, .slice none 0 0], .slice none 0 0], []⟩ 8 (by kernel_rfl) (by kernel_rfl) (by kernel_rfl) (by kernel_rfl)) ?_
  intro W base args ds gs before hval0 hW hcnd hsz0 _
  have hW' := hW
  obtain ⟨p, q, hA, hV, rfl, hfz, hnd⟩ := hW
  obtain ⟨rfl, rfl⟩ := trodVars_none hV
  have hsz : (DataW.weightsEach Try.prog (Try.f3.params.toList ++ []) (ds ++ [])).all (· ≤ reachBytes) = true := hsz0
  rw [List.append_nil, List.append_nil] at hsz
  have hts : Try.f3.params.toList = [25, 26] := by kernel_rfl
  have hlen := trodAll_len hA
  rw [hts] at hlen
  refine (lawCalls tab3b (f := 3) (fn := Try.f3) (ts := Try.f3.params.toList) (KK := lTell_K) (sh := lTell_sh) Try.func3 (by kernel_rfl) (by kernel_rfl) (by kernel_rfl) (by kernel_rfl) (by kernel_rfl) laidOut tell_law (fun j t v h1 h2 => hval0 j t v (by simpa using h1) h2) hA hsz).mono fun e W' ⟨he, bel, back⟩ => ?_
  subst he
  match ds, hlen with
  | [d0, d1], _ => exact ⟨_, rfl, _, _, _, [], _, [], hW', trodAll_mk1 (shut_bool (t := 4) (by kernel_rfl) _), back, rfl, bel.frame _, fun h => by cases h⟩
theorem over : Ytjmgcpohgpjpiaa.Rows.organContractTellRow.holds Ytjmgcpohgpjpiaa.Try.pinned (OpenSpec.ofChange Ytjmgcpohgpjpiaa.Rows.organContractTellSpec) :=
  OpenClaim.holds_of_wide 3 Try.f3 rfl rfl rfl rfl rfl rfl rfl ⟨rfl, rfl, rfl, rfl, rfl⟩ rfl rfl rfl rfl rfl (by kernel_rfl) Try.func3 (by kernel_rfl)
    (of_decide_eq_true (by kernel_rfl)) (by unfold Func.isWrapper; first | (rw [if_pos (by decide +kernel)]; kernel_rfl) | (rw [if_neg (by decide +kernel)]; exact ⟨rfl, rfl⟩))
    (fun os started H enc _ => lifted os started H enc)
theorem proved : Ytjmgcpohgpjpiaa.Rows.OrganContractTellSaid := over
end Go.Proofs.Ytjmgcpohgpjpiaa
