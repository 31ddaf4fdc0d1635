/- Part of the proof, by an evaluator over plain values: TBB. -/
import Derived.Test.YtmiddecfdfbocaaTBL
set_option linter.all false
set_option linter.unusedVariables false
set_option linter.unusedSimpArgs false
open Go Go.Abs Go.Proofs
set_option linter.unusedVariables false
namespace Go.Proofs.Ytmiddecfdfbocaa
noncomputable def tbTBL_1 : FuncId → List AV → List Blk → Res := addC 55 (tspec yardOf_sh yardOf_K yardOf_re yardOf_R (fun _ => true) yardOfM) tbTB
theorem tabTBL_1 : Tab Try.prog tbTBL_1 cxMd tbKTB := Tab.addTy tabTB tabTB (KK := yardOf_K) (R := yardOf_R) (fn := Try.f55) (by kernel_rfl) (by kernel_rfl) (by kernel_rfl) (by kernel_rfl) _ (fun x => yardOfFu x + 8) yardOf_ret
noncomputable def tbTBL_2 : FuncId → List AV → List Blk → Res := addC 51 (tspec rYardOf_sh rYardOf_K rYardOf_re rYardOf_R (fun _ => true) rYardOfM) tbTBL_1
theorem tabTBL_2 : Tab Try.prog tbTBL_2 cxMd tbKTB := Tab.addTy tabTBL_1 tabTB (KK := rYardOf_K) (R := rYardOf_R) (fn := Try.f51) (by kernel_rfl) (by kernel_rfl) (by kernel_rfl) (by kernel_rfl) _ rYardOfFu rYardOf_ret
noncomputable def tbTBB : FuncId → List AV → List Blk → Res := tbTBL_2
noncomputable def tbKTBB : KT := tbKTB
theorem tabTBB : Tab Try.prog tbTBB cxMd tbKTBB := tabTBL_2
end Go.Proofs.Ytmiddecfdfbocaa
