/- Valid tells of any journal what the document says. -/
import Derived.Test.YtmiddecfdfbocaaTH
import Derived.Test.YtmiddecfdfbocaaA23
set_option linter.all false
set_option linter.unusedVariables false
set_option linter.unusedSimpArgs false
open Go Go.Abs Go.Proofs
set_option linter.unusedVariables false
namespace Go.Proofs.Ytmiddecfdfbocaa
theorem bytes_cell : Nat.blt 0 (Try.prog.bytesOf 58) = true := by kernel_rfl
theorem bytes_edit : Nat.blt 0 (Try.prog.bytesOf 47) = true := by kernel_rfl
theorem bytes_branch : Nat.blt 0 (Try.prog.bytesOf 45) = true := by kernel_rfl
theorem wf_journal {y : Journal} (h : wfT Try.prog lValid_K y) : journalOk y = true ∧ journalIn y := by
  obtain ⟨kind, cases, first, bs⟩ := y
  obtain ⟨_, _, h1, h2⟩ := h
  have cellsIn : ∀ l : List Cell, wfT Try.prog (.slice 58 (.pair (.int .i64) (.pair (.int .i64) (.int .i64)))) l → ∀ c ∈ l, inR c.2.2 = true := fun l hl c hc => by
    have := (wf_mem hl hc).2.2
    simp only [inR, Bool.and_eq_true, decide_eq_true_eq]
    exact this
  have hb : ∀ b ∈ bs, branchOk b = true ∧ ∀ x ∈ b.2.2, ∀ c ∈ x.2, inR c.2.2 = true := fun b hb => by
    have hw := (wf_mem h2 hb).2.2
    have he : ∀ x ∈ b.2.2, editOk x = true ∧ ∀ c ∈ x.2, inR c.2.2 = true := fun x hx => by
      have hw2 := (wf_mem hw hx).2
      exact ⟨by simp only [editOk, decide_eq_true_eq]; exact wf_len hw2 bytes_cell, cellsIn _ hw2⟩
    refine ⟨?_, fun x hx => (he x hx).2⟩
    simp only [branchOk, Bool.and_eq_true, decide_eq_true_eq, List.all_eq_true]
    exact ⟨wf_len hw bytes_edit, fun x hx => (he x hx).1⟩
  refine ⟨?_, cellsIn _ h1, fun b hb' => (hb b hb').2⟩
  simp only [journalOk, Bool.and_eq_true, decide_eq_true_eq, List.all_eq_true]
  exact ⟨wf_len h1 bytes_cell, fun b hb' => (hb b hb').1⟩
theorem lValid_plain (j : Journal) (h1 : journalOk j = true) (h2 : journalIn j) : lValid_run 0 j = ⟨true, .bool true, []⟩ := by
  obtain ⟨kind, cases, first, bs⟩ := j
  refine (lValid_arg ..).trans ((lValid_eq ..).trans ?_)
  rw [show rValidOk (kind, cases, first, bs) = true from h1, show validOk (kind, cases, first, bs) = true from h1, valid_same h2]
  simp
theorem lValid_fin (y : CT lValid_K) (h : wfT Try.prog lValid_K y) : ∃ F, runF (cx_lValid F) Try.f3 (groupA lValid_sh (enc lValid_K y)) [] = ⟨true, .bool true, []⟩ :=
  ⟨0, lValid_plain y (wf_journal h).1 (wf_journal h).2⟩
end Go.Proofs.Ytmiddecfdfbocaa
