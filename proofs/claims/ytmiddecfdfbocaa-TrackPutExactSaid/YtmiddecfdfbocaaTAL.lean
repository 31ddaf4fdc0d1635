/- The laws of what fields a state of the yard may have. -/
import Derived.Test.YtmiddecfdfbocaaTA
import Derived.Test.YtmiddecfdfbocaaA18
set_option linter.all false
set_option linter.unusedVariables false
set_option linter.unusedSimpArgs false
open Go Go.Abs Go.Proofs
set_option linter.unusedSimpArgs false
set_option linter.unusedVariables false
namespace Go.Proofs.Ytmiddecfdfbocaa
def properP (k d side sym sym2 phase ask sent root count : Int) : Prop :=
  sym ≤ 96 ∧ sym2 ≤ 96 ∧ ask ≤ 2 ∧ (k = 0 ∨ k = 14 → d = 0) ∧ (k = 3 → sent ≠ 3 ∧ (sym ≠ 0 ∨ sent = 0)) ∧
  (k = 8 → phase ≤ 6 ∧ sent ≠ 3 ∧ (sym ≠ 0 ∨ sent = 0) ∧ (phase ≠ 4 ∨ sym = 1 ∧ sent = 2)) ∧
  (k = 10 → (phase = 0 ∨ phase = 1) ∧ sym = 0 ∨ phase = 2 ∧ (sym = 5 ∨ sym ≥ 24) ∧ count ≥ 1) ∧
  (k = 11 → count ≥ 1) ∧ (k = 12 → count ≥ 1 ∧ sym ≥ 24) ∧ (k = 13 → phase = 1 ∨ sym = 0)
instance (k d side sym sym2 phase ask sent root count : Int) : Decidable (properP k d side sym sym2 phase ask sent root count) := by unfold properP; infer_instance
theorem proper_law (F : Nat) (k d side sym sym2 phase ask sent root count : Int) : proper_run F (k, d, side, sym, sym2, phase, ask, sent, root, count) = ⟨true, .bool (decide (properP k d side sym sym2 phase ask sent root count)), []⟩ := by
  rw [proper_arg, proper_eq]
  simp only [proper_S1]
  by_cases c1 : sym > 96
  · simp [c1, properP, show ¬ sym ≤ 96 by omega]
  by_cases c2 : sym2 > 96
  · simp [c1, c2, properP, show ¬ sym2 ≤ 96 by omega]
  by_cases c3 : ask > 2
  · simp [c1, c2, c3, properP, show ¬ ask ≤ 2 by omega]
  have d1 : sym ≤ 96 := by omega
  have d2 : sym2 ≤ 96 := by omega
  have d3 : ask ≤ 2 := by omega
  by_cases k0 : k = 0
  · subst k0; simp [c1, c2, c3, d1, d2, d3, properP]
  by_cases k14 : k = 14
  · subst k14; simp [c1, c2, c3, d1, d2, d3, properP]
  by_cases k3 : k = 3
  · subst k3
    by_cases s3 : sent = 3
    · simp [c1, c2, c3, d1, d2, d3, properP, s3]
    · by_cases s0 : sym = 0 <;> simp [c1, c2, c3, d1, d2, d3, properP, s3, s0, beq_ne]
  by_cases k8 : k = 8
  · subst k8
    by_cases p6 : phase > 6
    · simp [c1, c2, c3, d1, d2, d3, properP, p6, show ¬ phase ≤ 6 by omega]
    · have p6' : phase ≤ 6 := by omega
      by_cases s3 : sent = 3
      · simp [c1, c2, c3, d1, d2, d3, properP, p6, p6', s3]
      · by_cases s0 : sym = 0 <;> by_cases p4 : phase = 4 <;> by_cases t0 : sent = 0 <;> by_cases s1 : sym = 1 <;> simp [c1, c2, c3, d1, d2, d3, properP, p6, p6', s3, s0, p4, t0, s1, beq_ne] <;> omega
  by_cases k10 : k = 10
  · subst k10
    by_cases p0 : phase = 0
    · simp [c1, c2, c3, d1, d2, d3, properP, p0]
    · by_cases p1 : phase = 1
      · simp [c1, c2, c3, d1, d2, d3, properP, p0, p1]
      · by_cases p2 : phase = 2
        · by_cases s5 : sym = 5 <;> by_cases s24 : sym ≥ 24 <;> simp [c1, c2, c3, d1, d2, d3, properP, p0, p1, p2, s5, s24]
        · simp [c1, c2, c3, d1, d2, d3, properP, p0, p1, p2]
  by_cases k11 : k = 11
  · subst k11; simp [c1, c2, c3, d1, d2, d3, properP]
  by_cases k12 : k = 12
  · subst k12
    by_cases n1 : count ≥ 1 <;> simp [c1, c2, c3, d1, d2, d3, properP, n1]
  by_cases k13 : k = 13
  · subst k13
    by_cases p1 : phase = 1 <;> simp [c1, c2, c3, d1, d2, d3, properP, p1]
  simp [c1, c2, c3, d1, d2, d3, properP, k0, k14, k3, k8, k10, k11, k12, k13]
def rightP (k d side sym sym2 phase ask sent root count : Int) : Prop :=
  (k ≠ 5 → k ≠ 6 → sym < 97 ∧ sym2 < 97) ∧ sent ≠ 3 ∧ (sent ≠ 0 → sym ≠ 0) ∧ ask ≠ 3 ∧ (k = 8 → phase ≤ 6 ∧ (phase ≠ 4 ∨ sym = 1 ∧ sent = 2)) ∧
  (k = 10 → phase ≠ 3 ∧ (phase ≠ 2 → sym = 0) ∧ (phase = 2 → (sym = 5 ∨ sym ≥ 24) ∧ count ≥ 1)) ∧ (k = 13 → phase = 1 ∨ sym = 0) ∧ (k = 11 → count ≥ 1) ∧ (k = 12 → count ≥ 1 ∧ sym ≥ 24)
instance (k d side sym sym2 phase ask sent root count : Int) : Decidable (rightP k d side sym sym2 phase ask sent root count) := by unfold rightP; infer_instance
theorem right_law (F : Nat) (k d side sym sym2 phase ask sent root count : Int) : right_run F (k, d, side, sym, sym2, phase, ask, sent, root, count) = ⟨true, .bool (decide (rightP k d side sym sym2 phase ask sent root count)), []⟩ := by
  rw [right_arg, right_eq]
  simp only [right_S2, right_S1]
  by_cases hy : k ≠ 5 ∧ k ≠ 6 ∧ (sym ≥ 97 ∨ sym2 ≥ 97)
  · obtain ⟨h5, h6, h⟩ := hy
    have e : decide (rightP k d side sym sym2 phase ask sent root count) = false := by
      exact decide_eq_false fun h' => by have := h'.1 h5 h6; omega
    rw [e]
    by_cases h97 : sym ≥ 97
    · simp [h5, h6, h97, beq_ne]
    · have : sym2 ≥ 97 := by omega
      simp [h5, h6, h97, this, beq_ne]
  · have hy' : k ≠ 5 → k ≠ 6 → sym < 97 ∧ sym2 < 97 := fun h5 h6 => by omega
    by_cases s3 : sent = 3
    · have e : decide (rightP k d side sym sym2 phase ask sent root count) = false := by simp [rightP, s3]
      rw [e]
      by_cases h5 : k = 5
      · simp [h5, s3]
      by_cases h6 : k = 6
      · simp [h6, s3]
      have := hy' h5 h6
      simp [h5, h6, s3, beq_ne, show ¬ sym ≥ 97 by omega, show ¬ sym2 ≥ 97 by omega]
    by_cases s0 : sent ≠ 0 ∧ sym = 0
    · have e : decide (rightP k d side sym sym2 phase ask sent root count) = false := by simp [rightP, s0]
      rw [e]
      by_cases h5 : k = 5
      · simp [h5, s3, s0, beq_ne]
      by_cases h6 : k = 6
      · simp [h6, s3, s0, beq_ne]
      have := hy' h5 h6
      simp [h5, h6, s3, s0, beq_ne, show ¬ sym2 ≥ 97 by omega]
    have s0' : sent ≠ 0 → sym ≠ 0 := by omega
    by_cases a3 : ask = 3
    · have e : decide (rightP k d side sym sym2 phase ask sent root count) = false := by simp [rightP, a3]
      rw [e]
      by_cases h0 : sent = 0
      · by_cases h5 : k = 5
        · simp [h5, h0, a3, beq_ne]
        by_cases h6 : k = 6
        · simp [h6, h0, a3, beq_ne]
        have := hy' h5 h6
        simp [h5, h6, h0, a3, beq_ne, show ¬ sym ≥ 97 by omega, show ¬ sym2 ≥ 97 by omega]
      · have h1 := s0' h0
        by_cases h5 : k = 5
        · simp [h5, h0, h1, s3, a3, beq_ne]
        by_cases h6 : k = 6
        · simp [h6, h0, h1, s3, a3, beq_ne]
        have := hy' h5 h6
        simp [h5, h6, h0, h1, s3, a3, beq_ne, show ¬ sym ≥ 97 by omega, show ¬ sym2 ≥ 97 by omega]
    have fin : decide (rightP k d side sym sym2 phase ask sent root count) = decide ((k = 8 → phase ≤ 6 ∧ (phase ≠ 4 ∨ sym = 1 ∧ sent = 2)) ∧
        (k = 10 → phase ≠ 3 ∧ (phase ≠ 2 → sym = 0) ∧ (phase = 2 → (sym = 5 ∨ sym ≥ 24) ∧ count ≥ 1)) ∧ (k = 13 → phase = 1 ∨ sym = 0) ∧ (k = 11 → count ≥ 1) ∧ (k = 12 → count ≥ 1 ∧ sym ≥ 24)) := by
      simp only [rightP, s3, a3, ne_eq, not_false_eq_true, true_and, hy', s0', decide_eq_decide]
      exact ⟨fun h => h.2.2, fun h => ⟨fun h5 h6 => hy' h5 h6, fun h => s0' h, h⟩⟩
    rw [fin]
    by_cases h5 : k = 5
    · by_cases h0 : sent = 0
      · simp [h5, h0, a3]
      · simp [h5, h0, s0' h0, s3, a3, beq_ne]
    by_cases h6 : k = 6
    · by_cases h0 : sent = 0
      · simp [h6, h0, a3]
      · simp [h6, h0, s0' h0, s3, a3, beq_ne]
    have hb := hy' h5 h6
    have n1 : ¬ sym ≥ 97 := by omega
    have n2 : ¬ sym2 ≥ 97 := by omega
    by_cases k8 : k = 8
    · subst k8
      by_cases p6 : phase ≤ 6
      · by_cases p4 : phase = 4
        · by_cases h0 : sent = 0
          · by_cases y1 : sym = 1 <;> simp [h0, a3, n1, n2, p6, p4, y1]
          · by_cases y1 : sym = 1 <;> simp [h0, s0' h0, s3, a3, n1, n2, p6, p4, y1, beq_ne]
        · by_cases h0 : sent = 0
          · simp [h0, a3, n1, n2, p6, p4, beq_ne]
          · simp [h0, s0' h0, s3, a3, n1, n2, p6, p4, beq_ne]
      · by_cases h0 : sent = 0
        · simp [h0, a3, n1, n2, p6, beq_ne]
        · simp [h0, s0' h0, s3, a3, n1, n2, p6, beq_ne]
    by_cases k10 : k = 10
    · subst k10
      by_cases p3 : phase = 3
      · by_cases h0 : sent = 0
        · simp [h0, a3, n1, n2, p3]
        · simp [h0, s0' h0, s3, a3, n1, n2, p3, beq_ne]
      by_cases p2 : phase = 2
      · by_cases y5 : sym = 5
        · by_cases h0 : sent = 0
          · simp [h0, a3, n1, n2, p3, p2, y5]
          · simp [h0, s0' h0, s3, a3, n1, n2, p3, p2, y5, beq_ne]
        · by_cases y24 : sym ≥ 24
          · by_cases h0 : sent = 0
            · simp [h0, a3, n1, n2, p3, p2, y5, y24]
            · simp [h0, s0' h0, s3, a3, n1, n2, p3, p2, y5, y24, beq_ne]
          · by_cases h0 : sent = 0
            · simp [h0, a3, n1, n2, p3, p2, y5, y24]
            · simp [h0, s0' h0, s3, a3, n1, n2, p3, p2, y5, y24, beq_ne]
      · by_cases h0 : sent = 0
        · simp [h0, a3, n1, n2, p3, p2, beq_ne]
        · simp [h0, s0' h0, s3, a3, n1, n2, p3, p2, beq_ne]
    by_cases k13 : k = 13
    · subst k13
      by_cases p1 : phase = 1
      · by_cases h0 : sent = 0
        · simp [h0, a3, n1, n2, p1]
        · simp [h0, s0' h0, s3, a3, n1, n2, p1, beq_ne]
      · by_cases h0 : sent = 0
        · simp [h0, a3, n1, n2, p1]
        · simp [h0, s0' h0, s3, a3, n1, n2, p1, beq_ne]
    by_cases k11 : k = 11
    · subst k11
      by_cases h0 : sent = 0
      · simp [h0, a3, n1, n2]
      · simp [h0, s0' h0, s3, a3, n1, n2, beq_ne]
    by_cases k12 : k = 12
    · subst k12
      by_cases h0 : sent = 0
      · by_cases c1 : count ≥ 1 <;> simp [h0, a3, n1, n2, c1]
      · by_cases c1 : count ≥ 1 <;> simp [h0, s0' h0, s3, a3, n1, n2, c1, beq_ne]
    by_cases h0 : sent = 0
    · simp [h0, a3, n1, n2, h5, h6, k8, k10, k13, k11, k12, beq_ne]
    · simp [h0, s0' h0, s3, a3, n1, n2, h5, h6, k8, k10, k13, k11, k12, beq_ne]
abbrev Ten := Int × Int × Int × Int × Int × Int × Int × Int × Int × Int
def properM : Ten → Bool := fun (k, d, side, sym, sym2, phase, ask, sent, root, count) => decide (properP k d side sym sym2 phase ask sent root count)
def properOk : Ten → Bool := fun _ => true
def properFu : Ten → Nat := fun _ => 1
def rightM : Ten → Bool := fun (k, d, side, sym, sym2, phase, ask, sent, root, count) => decide (rightP k d side sym sym2 phase ask sent root count)
def rightOk : Ten → Bool := fun _ => true
def rightFu : Ten → Nat := fun _ => 1
theorem proper_ret (x : Ten) (_ : true = true) : Ret proper_re proper_R (proper_run (properFu x) x) (properM x) := by
  obtain ⟨k, d, side, sym, sym2, phase, ask, sent, root, count⟩ := x
  exact Ret.of (proper_law ..) (Ret.bool _)
theorem right_ret (x : Ten) (_ : true = true) : Ret right_re right_R (right_run (rightFu x) x) (rightM x) := by
  obtain ⟨k, d, side, sym, sym2, phase, ask, sent, root, count⟩ := x
  exact Ret.of (right_law ..) (Ret.bool _)

def withF (y : Ten) (f v : Int) : Ten :=
  match y with
  | (k, d, side, sym, sym2, phase, ask, sent, root, count) =>
    bif decide (f = 0) then (k, d, v, sym, sym2, phase, ask, sent, root, count) else bif decide (f = 1) then (k, d, side, v, sym2, phase, ask, sent, root, count) else bif decide (f = 2) then (k, d, side, sym, v, phase, ask, sent, root, count) else
    bif decide (f = 3) then (k, d, side, sym, sym2, v, ask, sent, root, count) else bif decide (f = 4) then (k, d, side, sym, sym2, phase, v, sent, root, count) else bif decide (f = 5) then (k, d, side, sym, sym2, phase, ask, v, root, count) else
    bif decide (f = 6) then (k, d, side, sym, sym2, phase, ask, sent, v, count) else (k, d, side, sym, sym2, phase, ask, sent, root, v)
abbrev Twelve := Int × Int × Int × Int × Int × Int × Int × Int × Int × Int × Int × Int
def yWithM : Twelve → Ten := fun (k, d, side, sym, sym2, phase, ask, sent, root, count, f, v) => withF (k, d, side, sym, sym2, phase, ask, sent, root, count) f v
abbrev yWithFu : Twelve → Nat := fun _ => 1
def tenR (x : Ten) : Res := ⟨true, .agg [.int .i64 x.1, .int .i64 x.2.1, .int .i64 x.2.2.1, .int .i64 x.2.2.2.1, .int .i64 x.2.2.2.2.1, .int .i64 x.2.2.2.2.2.1, .int .i64 x.2.2.2.2.2.2.1, .int .i64 x.2.2.2.2.2.2.2.1, .int .i64 x.2.2.2.2.2.2.2.2.1, .int .i64 x.2.2.2.2.2.2.2.2.2], []⟩
theorem tenR_cond (c : Bool) (a b : Ten) : tenR (bif c then a else b) = bif c then tenR a else tenR b := by cases c <;> rfl
theorem tenR_ret (x : Ten) : Ret yWith_re yWith_R (tenR x) x := ⟨rfl, rfl, rfl, rfl, by simp [roVs, valsOf, tenR, view, view1, flatA, cellsA, decOk, nth, isInt, yWith_R, width, dropL], rfl, fun ws h => by cases h⟩
theorem yWith_ret (x : Twelve) (_ : true = true) : Ret yWith_re yWith_R (yWith_run (yWithFu x) x) (yWithM x) := by
  obtain ⟨k, d, side, sym, sym2, phase, ask, sent, root, count, f, v⟩ := x
  refine Ret.of ((yWith_arg ..).trans ((yWith_eq ..).trans ?_)) (tenR_ret _)
  simp only [yWithM, withF, tenR_cond]
  rfl
end Go.Proofs.Ytmiddecfdfbocaa

open Go Go.Abs Go.Proofs
set_option linter.unusedVariables false
namespace Go.Proofs.Ytmiddecfdfbocaa
noncomputable def tbTAL_1 : FuncId → List AV → List Blk → Res := addC 75 (tspec proper_sh proper_K proper_re proper_R (fun _ => true) properM) tbTA
theorem tabTAL_1 : Tab Try.prog tbTAL_1 cxMd tbKTA := Tab.addTy (os := []) tabTA tabTA (KK := proper_K) (R := proper_R) (fn := Try.f75) (by kernel_rfl) (by kernel_rfl) (by kernel_rfl) (by kernel_rfl) _ properFu proper_ret
noncomputable def tbTAL_2 : FuncId → List AV → List Blk → Res := addC 72 (tspec right_sh right_K right_re right_R (fun _ => true) rightM) tbTAL_1
theorem tabTAL_2 : Tab Try.prog tbTAL_2 cxMd tbKTA := Tab.addTy (os := []) tabTAL_1 tabTA (KK := right_K) (R := right_R) (fn := Try.f72) (by kernel_rfl) (by kernel_rfl) (by kernel_rfl) (by kernel_rfl) _ rightFu right_ret
noncomputable def tbTAL_3 : FuncId → List AV → List Blk → Res := addC 71 (tspec yWith_sh yWith_K yWith_re yWith_R (fun _ => true) yWithM) tbTAL_2
theorem tabTAL_3 : Tab Try.prog tbTAL_3 cxMd tbKTA := Tab.addTy (os := []) tabTAL_2 tabTA (KK := yWith_K) (R := yWith_R) (fn := Try.f71) (by kernel_rfl) (by kernel_rfl) (by kernel_rfl) (by kernel_rfl) _ yWithFu yWith_ret
noncomputable def tbTAB : FuncId → List AV → List Blk → Res := tbTAL_3
noncomputable def tbKTAB : KT := tbKTA
theorem tabTAB : Tab Try.prog tbTAB cxMd tbKTAB := tabTAL_3
end Go.Proofs.Ytmiddecfdfbocaa
