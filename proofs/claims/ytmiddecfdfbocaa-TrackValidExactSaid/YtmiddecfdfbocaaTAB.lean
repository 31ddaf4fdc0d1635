/- Part of the proof, by an evaluator over plain values: TAB. -/
import Derived.Test.YtmiddecfdfbocaaTAL
set_option linter.all false
set_option linter.unusedVariables false
set_option linter.unusedSimpArgs false
open Go Go.Abs Go.Proofs
set_option linter.unusedVariables false
namespace Go.Proofs.Ytmiddecfdfbocaa
noncomputable def tbTAL_1 : FuncId → List AV → List Blk → Res := addC 75 (tspec proper_sh proper_K proper_re proper_R (fun _ => true) properM) tbTA
theorem tabTAL_1 : Tab Try.prog tbTAL_1 cxMd tbKTA := Tab.addTy tabTA tabTA (KK := proper_K) (R := proper_R) (fn := Try.f75) (by kernel_rfl) (by kernel_rfl) (by kernel_rfl) (by kernel_rfl) _ properFu proper_ret
noncomputable def tbTAL_2 : FuncId → List AV → List Blk → Res := addC 72 (tspec right_sh right_K right_re right_R (fun _ => true) rightM) tbTAL_1
theorem tabTAL_2 : Tab Try.prog tbTAL_2 cxMd tbKTA := Tab.addTy tabTAL_1 tabTA (KK := right_K) (R := right_R) (fn := Try.f72) (by kernel_rfl) (by kernel_rfl) (by kernel_rfl) (by kernel_rfl) _ rightFu right_ret
noncomputable def tbTAL_3 : FuncId → List AV → List Blk → Res := addC 71 (tspec yWith_sh yWith_K yWith_re yWith_R (fun _ => true) yWithM) tbTAL_2
theorem tabTAL_3 : Tab Try.prog tbTAL_3 cxMd tbKTA := Tab.addTy tabTAL_2 tabTA (KK := yWith_K) (R := yWith_R) (fn := Try.f71) (by kernel_rfl) (by kernel_rfl) (by kernel_rfl) (by kernel_rfl) _ yWithFu yWith_ret
noncomputable def tbTAB : FuncId → List AV → List Blk → Res := tbTAL_3
noncomputable def tbKTAB : KT := tbKTA
theorem tabTAB : Tab Try.prog tbTAB cxMd tbKTAB := tabTAL_3
end Go.Proofs.Ytmiddecfdfbocaa
