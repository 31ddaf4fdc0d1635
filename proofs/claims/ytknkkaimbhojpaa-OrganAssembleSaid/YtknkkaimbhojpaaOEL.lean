/- The laws of the places before mouths. -/
import Derived.Test.YtknkkaimbhojpaaOE
set_option linter.all false
set_option linter.unusedVariables false
set_option linter.unusedSimpArgs false
open Go Go.Abs Go.Proofs
set_option linter.unusedSimpArgs false
set_option linter.unusedVariables false
namespace Go.Proofs.Ytknkkaimbhojpaa
theorem Ret.agg2 (k l : IntKind) (a b : Int) : Ret [some 2] (.pair (.int k) (.int l)) ⟨true, .agg [.int k a, .int l b], []⟩ (a, b) :=
  ⟨rfl, rfl, rfl, rfl, by simp [roVs, valsOf, view, view1, flatA, cellsA, decOk, nth, isInt, dropL, width], rfl, fun ws h => by cases h⟩
def dX (d : Int) : Int := nth 0 [1, 0, -1, 0] d.toNat
def dY (d : Int) : Int := nth 0 [0, -1, 0, 1] d.toNat
theorem dXY_small (d : Int) : -1 ≤ dX d ∧ dX d ≤ 1 ∧ -1 ≤ dY d ∧ dY d ≤ 1 := by
  simp only [dX, dY]
  match d.toNat with
  | 0 => decide
  | 1 => decide
  | 2 => decide
  | 3 => decide
  | n + 4 => simp [nth]
/-- The place before a mouth. -/
def outXY (px py mx my d : Int) : Int × Int := (px + mx + dX d, py + my + dY d)
def tiny (x : Int) : Bool := decide (0 ≤ x ∧ x < 100)
def tinies (px py mx my d : Int) : Bool := tiny px && (tiny py && (tiny mx && (tiny my && decide (0 ≤ d ∧ d < 4))))
abbrev PartMo := Int × Int × Int × List Int × List Mo × Int × Int × Int × Int × Int × Bool
def outerOfOk : PartMo → Bool := fun (_, _, _, _, _, px, py, mx, my, d, _) => tinies px py mx my d
def outerOfM : PartMo → Int × Int := fun (_, _, _, _, _, px, py, mx, my, d, _) => outXY px py mx my d
def outerOfFu : PartMo → Nat := fun _ => 1
theorem beside_tiny {x y d : Int} (hx : 0 ≤ x ∧ x < 1000) (hy : 0 ≤ y ∧ y < 1000) : besideM (x, y, d) = (x + dX d, y + dY d) := by
  have := dXY_small d
  simp only [besideM]
  rw [show nth 0 [1, 0, -1, 0] d.toNat = dX d from rfl, show nth 0 [0, -1, 0, 1] d.toNat = dY d from rfl, wrap_id (n := x + dX d) (by omega) (by omega), wrap_id (n := y + dY d) (by omega) (by omega)]
theorem outerOf_ret (z : PartMo) (h : outerOfOk z = true) : Ret outerOf_re outerOf_R (outerOf_run (outerOfFu z) z) (outerOfM z) := by
  obtain ⟨kind, w, hh, cells, ms, px, py, mx, my, d, o⟩ := z
  simp only [outerOfOk, tinies, tiny, Bool.and_eq_true, decide_eq_true_eq] at h
  refine Ret.of ((outerOf_arg ..).trans ((outerOf_eq ..).trans ?_)) (Ret.agg2 _ _ _ _)
  rw [wrap_id (n := px + mx) (by omega) (by omega), wrap_id (n := py + my) (by omega) (by omega), beside_tiny (by omega) (by omega)]
  simp only [besideOk, h, and_self, decide_true, cond_true, outerOfM, outXY]
abbrev RigK := List Part × List Lead × Int × Int
/-- The part and the mouth are there, and of small numbers. -/
def goodMo (ps : List Part) (i k : Int) : Bool := hasMo ps i k && tinies (partAt ps i).2.2.2.2.2.1 (partAt ps i).2.2.2.2.2.2 (moAt ps i k).1 (moAt ps i k).2.1 (moAt ps i k).2.2.1
def outM (ps : List Part) (i k : Int) : Int × Int := outXY (partAt ps i).2.2.2.2.2.1 (partAt ps i).2.2.2.2.2.2 (moAt ps i k).1 (moAt ps i k).2.1 (moAt ps i k).2.2.1
def mOuterOk : RigK → Bool := fun (ps, _, i, k) => goodMo ps i k
def mOuterM : RigK → Int × Int := fun (ps, _, i, k) => outM ps i k
def mOuterFu : RigK → Nat := fun _ => 1
theorem mOuter_ret (z : RigK) (h : mOuterOk z = true) : Ret mOuter_re mOuter_R (mOuter_run (mOuterFu z) z) (mOuterM z) := by
  obtain ⟨ps, ls, i, k⟩ := z
  simp only [mOuterOk, goodMo, Bool.and_eq_true] at h
  obtain ⟨hm, ht⟩ := h
  obtain ⟨h1, h2, h3, h4⟩ := of_decide_eq_true hm
  simp only [mos] at h4
  refine Ret.of (r' := ⟨true, .tup [.int .i64 (outM ps i k).1, .int .i64 (outM ps i k).2], []⟩) ((mOuter_arg ..).trans ((mOuter_eq ..).trans ?_)) (Ret.int2 _ _ _ _)
  simp only [outM]
  have e1 : nth (0, 0, 0, [], [], 0, 0) ps i.toNat = partAt ps i := rfl
  have e2 : nth (0, 0, 0, false) (partAt ps i).2.2.2.2.1 k.toNat = moAt ps i k := rfl
  simp only [e1, e2]
  simp only [h1, h2, h3, h4, decide_true, Bool.and_self, cond_true]
  generalize moAt ps i k = m at *
  generalize partAt ps i = p at *
  obtain ⟨kind, w, hh, cells, ms, px, py⟩ := p
  obtain ⟨mx, my, d, o⟩ := m
  simp only [tinies, tiny, Bool.and_eq_true, decide_eq_true_eq] at ht
  have := dXY_small d
  simp only [outerM, outerOk, ht, and_self, decide_true, cond_true, outXY]
  rw [beside_tiny (by omega) (by omega)]
  simp only
  rw [wrap_id (n := px + (mx + dX d)) (by omega) (by omega), wrap_id (n := py + (my + dY d)) (by omega) (by omega)]
  simp only [Int.add_assoc]
end Go.Proofs.Ytknkkaimbhojpaa

open Go Go.Abs Go.Proofs
set_option linter.unusedVariables false
namespace Go.Proofs.Ytknkkaimbhojpaa
noncomputable def tbOEL_1 : FuncId → List AV → List Blk → Res := addC 26 (tspec outerOf_sh outerOf_K outerOf_re outerOf_R outerOfOk outerOfM) tbOE
theorem tabOEL_1 : Tab Try.prog tbOEL_1 cxMd tbKOE := Tab.addTy tabOE tabOE (KK := outerOf_K) (R := outerOf_R) (fn := Try.f26) (by kernel_rfl) (by kernel_rfl) (by kernel_rfl) (by kernel_rfl) _ outerOfFu outerOf_ret
noncomputable def tbOEL_2 : FuncId → List AV → List Blk → Res := addC 48 (tspec mOuter_sh mOuter_K mOuter_re mOuter_R mOuterOk mOuterM) tbOEL_1
theorem tabOEL_2 : Tab Try.prog tbOEL_2 cxMd tbKOE := Tab.addTy tabOEL_1 tabOE (KK := mOuter_K) (R := mOuter_R) (fn := Try.f48) (by kernel_rfl) (by kernel_rfl) (by kernel_rfl) (by kernel_rfl) _ mOuterFu mOuter_ret
noncomputable def tbOEB : FuncId → List AV → List Blk → Res := tbOEL_2
noncomputable def tbKOEB : KT := tbKOE
theorem tabOEB : Tab Try.prog tbOEB cxMd tbKOEB := tabOEL_2
end Go.Proofs.Ytknkkaimbhojpaa
