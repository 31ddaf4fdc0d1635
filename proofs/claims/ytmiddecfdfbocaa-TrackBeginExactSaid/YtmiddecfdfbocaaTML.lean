/- Begin makes the journal of a rule and a pattern, or tells what is wrong with them. -/
import Derived.Test.YtmiddecfdfbocaaTM
import Derived.Test.YtmiddecfdfbocaaA22
set_option linter.all false
set_option linter.unusedVariables false
set_option linter.unusedSimpArgs false
open Go Go.Abs Go.Proofs
set_option linter.unusedVariables false
set_option linter.unusedSimpArgs false
namespace Go.Proofs.Ytmiddecfdfbocaa
theorem bytes_cell : Try.prog.bytesOf 58 = 24 := by kernel_rfl
theorem bytes_case : Try.prog.bytesOf 71 = 48 := by kernel_rfl
theorem wf_start {y : Start} (h : wfT Try.prog lBegin_K y) : y.2.1.length * 48 ≤ 140737488351232 ∧ y.2.2.length * 24 ≤ 140737488351232 ∧ ∀ c ∈ y.2.2, inR c.2.2 = true := by
  obtain ⟨kind, cases, first⟩ := y
  obtain ⟨_, h1, h2⟩ := h
  have e1 := h1.1
  have e2 := h2.1
  rw [bytes_case] at e1
  rw [bytes_cell] at e2
  refine ⟨e1, e2, fun c hc => ?_⟩
  have := (wf_mem h2 hc).2.2
  simp only [inR, Bool.and_eq_true, decide_eq_true_eq]
  exact this
theorem lBegin_plain (y : Start) (h1 : y.2.1.length * 48 ≤ 140737488351232) (h2 : y.2.2.length * 24 ≤ 140737488351232) (h3 : ∀ c ∈ y.2.2, inR c.2.2 = true) : lBegin_run 0 y = ⟨true, .bool true, []⟩ := by
  obtain ⟨k, cs, p⟩ := y
  simp only at h1 h2 h3
  refine (lBegin_arg ..).trans ((lBegin_eq ..).trans ?_)
  have ho : validOk (k, cs, p, oneBranch) = true := by
    simp [validOk, journalOk, branchOk, oneBranch, big]
    omega
  have hb : beginOk (k, cs, p) = true := by
    simp only [beginOk, Bool.and_eq_true, ho, and_true]
    simp [copiedOk, branchFit, oneBranch]
    omega
  have hv : validM (k, cs, p, oneBranch) = rValidM (k, cs, p, oneBranch) := valid_same ⟨h3, fun b hb x hx => by simp [oneBranch] at hb; subst hb; simp at hx⟩
  have hs : ∀ y, sameOk (k, cs, p, oneBranch, y) = true := fun y => by
    simp [sameOk, branchOk, oneBranch, big]
    omega
  have h0 : ∀ y, sameOk (0, [], [], [], y) = true := fun y => rfl
  rw [show rValidOk (k, cs, p, [(-1, 0, [])]) = true from ho, hb, cond_true, cond_true, cond_true, beq_ne]
  by_cases he : rValidM (k, cs, p, oneBranch) = 0
  · have e : beginM (k, cs, p) = (k, cs, p, oneBranch, 0) := by simp only [beginM, begunF, hv, he, decide_true, Bool.not_true, cond_false]
    refine (cNT he).trans ?_
    rw [e]
    rw [hs, cond_true, show sameM (k, cs, p, oneBranch, k, cs, p, [(-1, 0, [])]) = true from same_refl (k, cs, p, oneBranch)]
    rfl
  · have e : beginM (k, cs, p) = (0, [], [], [], rValidM (k, cs, p, oneBranch)) := by simp only [beginM, begunF, hv, he, decide_false, Bool.not_false, cond_true]
    refine (cNF he).trans ?_
    rw [e]
    rw [h0, cond_true, show sameM (0, [], [], [], 0, [], [], []) = true from same_refl (0, [], [], [])]
    exact cT rfl
theorem lBegin_fin (y : CT lBegin_K) (h : wfT Try.prog lBegin_K y) : ∃ F, runF (cx_lBegin F) Try.f4 (groupA lBegin_sh (enc lBegin_K y)) [] = ⟨true, .bool true, []⟩ :=
  ⟨0, lBegin_plain y (wf_start h).1 (wf_start h).2.1 (wf_start h).2.2⟩
end Go.Proofs.Ytmiddecfdfbocaa
