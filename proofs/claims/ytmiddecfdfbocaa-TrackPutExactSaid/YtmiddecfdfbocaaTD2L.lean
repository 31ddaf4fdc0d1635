/- Which of two places comes first. -/
import Derived.Test.YtmiddecfdfbocaaTD2
import Derived.Test.YtmiddecfdfbocaaA22
set_option linter.all false
set_option linter.unusedVariables false
set_option linter.unusedSimpArgs false
open Go Go.Abs Go.Proofs
set_option linter.unusedSimpArgs false
set_option linter.unusedVariables false
namespace Go.Proofs.Ytmiddecfdfbocaa
abbrev Cell := Int × Int × Int
/-- -1, 0 or 1: by the second number, then by the first -/
def cmpCell (a b : Cell) : Int := bif decide (a.2.1 < b.2.1) then -1 else bif decide (b.2.1 < a.2.1) then 1 else bif decide (a.1 < b.1) then -1 else bif decide (b.1 < a.1) then 1 else 0
def fbehindM : Int × Int × Int × Int × Int × Int → Int := fun (ax, ay, sa, bx, y, sb) => cmpCell (ax, ay, sa) (bx, y, sb)
abbrev fbehindFu : Int × Int × Int × Int × Int × Int → Nat := fun _ => 1
theorem fbehind_ret (x : Int × Int × Int × Int × Int × Int) (_ : true = true) : Ret fbehind_re fbehind_R (fbehind_run (fbehindFu x) x) (fbehindM x) := by
  obtain ⟨ax, ay, sa, bx, y, sb⟩ := x
  refine Ret.of ((fbehind_arg ..).trans ((fbehind_eq ..).trans ?_)) (Ret.int _ _)
  rw [show ∀ x y, cmpOrOk [x, y] = true from fun _ _ => rfl, cond_true]
  have e : orF [compareM (ay, y), compareM (ax, bx)] = cmpCell (ax, ay, sa) (bx, y, sb) := by
    by_cases h1 : ay < y
    · simp [orF, compareM, cmpCell, h1]
    · by_cases h2 : y < ay
      · simp [orF, compareM, cmpCell, h1, h2]
      · by_cases h3 : ax < bx
        · simp [orF, compareM, cmpCell, h1, h2, h3]
        · by_cases h4 : bx < ax <;> simp [orF, compareM, cmpCell, h1, h2, h3, h4]
  simp only [cmpOrM, e, fbehindM]
end Go.Proofs.Ytmiddecfdfbocaa

open Go Go.Abs Go.Proofs
set_option linter.unusedVariables false
namespace Go.Proofs.Ytmiddecfdfbocaa
noncomputable def tbTD2L_1 : FuncId → List AV → List Blk → Res := addC 42 (tspec fbehind_sh fbehind_K fbehind_re fbehind_R (fun _ => true) fbehindM) tbTD2
theorem tabTD2L_1 : Tab Try.prog tbTD2L_1 cxMd tbKTD2 := Tab.addTy (os := []) tabTD2 tabTD2 (KK := fbehind_K) (R := fbehind_R) (fn := Try.f42) (by kernel_rfl) (by kernel_rfl) (by kernel_rfl) (by kernel_rfl) _ fbehindFu fbehind_ret
noncomputable def tbTD2B : FuncId → List AV → List Blk → Res := tbTD2L_1
noncomputable def tbKTD2B : KT := tbKTD2
theorem tabTD2B : Tab Try.prog tbTD2B cxMd tbKTD2B := tabTD2L_1
end Go.Proofs.Ytmiddecfdfbocaa
