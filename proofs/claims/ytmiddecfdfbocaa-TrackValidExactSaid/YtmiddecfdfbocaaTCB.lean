/- Part of the proof, by an evaluator over plain values: TCB. -/
import Derived.Test.YtmiddecfdfbocaaTCL
set_option linter.all false
set_option linter.unusedVariables false
set_option linter.unusedSimpArgs false
open Go Go.Abs Go.Proofs
set_option linter.unusedVariables false
namespace Go.Proofs.Ytmiddecfdfbocaa
noncomputable def tbTCL_1 : FuncId → List AV → List Blk → Res := addC 73 (tspec fits_sh fits_K fits_re fits_R (fun _ => true) fitsM) tbTC
theorem tabTCL_1 : Tab Try.prog tbTCL_1 cxMd tbKTC := Tab.addTy tabTC tabTC (KK := fits_K) (R := fits_R) (fn := Try.f73) (by kernel_rfl) (by kernel_rfl) (by kernel_rfl) (by kernel_rfl) _ (fun x => fitsFu x + 8) fits_ret
noncomputable def tbTCL_2 : FuncId → List AV → List Blk → Res := addC 46 (tspec rTable_sh rTable_K rTable_re rTable_R rTableOk rTableM) tbTCL_1
theorem tabTCL_2 : Tab Try.prog tbTCL_2 cxMd tbKTC := Tab.addTy tabTCL_1 tabTC (KK := rTable_K) (R := rTable_R) (fn := Try.f46) (by kernel_rfl) (by kernel_rfl) (by kernel_rfl) (by kernel_rfl) _ rTableFu rTable_ret
noncomputable def tbTCL_3 : FuncId → List AV → List Blk → Res := addC 57 (tspec compare_sh compare_K compare_re compare_R (fun _ => true) compareM) tbTCL_2
theorem tabTCL_3 : Tab Try.prog tbTCL_3 cxMd tbKTC := Tab.addTy tabTCL_2 tabTC (KK := compare_K) (R := compare_R) (fn := Try.f57) (by kernel_rfl) (by kernel_rfl) (by kernel_rfl) (by kernel_rfl) _ compareFu compare_ret
noncomputable def tbTCB : FuncId → List AV → List Blk → Res := tbTCL_3
noncomputable def tbKTCB : KT := tbKTC
theorem tabTCB : Tab Try.prog tbTCB cxMd tbKTCB := tabTCL_3
end Go.Proofs.Ytmiddecfdfbocaa
