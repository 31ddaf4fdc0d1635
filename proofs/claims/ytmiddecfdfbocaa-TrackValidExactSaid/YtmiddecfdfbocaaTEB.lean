/- Part of the proof, by an evaluator over plain values: TEB. -/
import Derived.Test.YtmiddecfdfbocaaTEL
set_option linter.all false
set_option linter.unusedVariables false
set_option linter.unusedSimpArgs false
open Go Go.Abs Go.Proofs
set_option linter.unusedVariables false
namespace Go.Proofs.Ytmiddecfdfbocaa
noncomputable def tbTEL_1 : FuncId → List AV → List Blk → Res := addC 35 (tspec check_sh check_K check_re check_R (fun _ => true) checkM) tbTE
theorem tabTEL_1 : Tab Try.prog tbTEL_1 cxMd tbKTE := Tab.addTy tabTE tabTE (KK := check_K) (R := check_R) (fn := Try.f35) (by kernel_rfl) (by kernel_rfl) (by kernel_rfl) (by kernel_rfl) _ (fun x => checkFu x + 8) check_ret
noncomputable def tbTEL_2 : FuncId → List AV → List Blk → Res := addC 32 (tspec rproper_sh rproper_K rproper_re rproper_R rproperOk rproperM) tbTEL_1
theorem tabTEL_2 : Tab Try.prog tbTEL_2 cxMd tbKTE := Tab.addTy tabTEL_1 tabTE (KK := rproper_K) (R := rproper_R) (fn := Try.f32) (by kernel_rfl) (by kernel_rfl) (by kernel_rfl) (by kernel_rfl) _ rproperFu rproper_ret
noncomputable def tbTEL_3 : FuncId → List AV → List Blk → Res := addC 36 (tspecS look_sh look_K look_re look_R lookOk lookM) tbTEL_2
theorem tabTEL_3 : Tab Try.prog tbTEL_3 cxMd tbKTE := Tab.addTyS tabTEL_2 tabTE (KK := look_K) (R := look_R) (fn := Try.f36) (by kernel_rfl) (by kernel_rfl) (by kernel_rfl) (by kernel_rfl) _ lookFu look_ret
noncomputable def tbTEL_4 : FuncId → List AV → List Blk → Res := addC 17 (tspec rCellsOf_sh rCellsOf_K rCellsOf_re rCellsOf_R rCellsOfOk rCellsOfM) tbTEL_3
theorem tabTEL_4 : Tab Try.prog tbTEL_4 cxMd tbKTE := Tab.addTy tabTEL_3 tabTE (KK := rCellsOf_K) (R := rCellsOf_R) (fn := Try.f17) (by kernel_rfl) (by kernel_rfl) (by kernel_rfl) (by kernel_rfl) _ rCellsOfFu rCellsOf_ret
noncomputable def tbTEB : FuncId → List AV → List Blk → Res := tbTEL_4
noncomputable def tbKTEB : KT := tbKTE
theorem tabTEB : Tab Try.prog tbTEB cxMd tbKTEB := tabTEL_4
end Go.Proofs.Ytmiddecfdfbocaa
