/- Part of the proof, by an evaluator over plain values: TGB. -/
import Derived.Test.YtmiddecfdfbocaaTGL
set_option linter.all false
set_option linter.unusedVariables false
set_option linter.unusedSimpArgs false
open Go Go.Abs Go.Proofs
set_option linter.unusedVariables false
namespace Go.Proofs.Ytmiddecfdfbocaa
noncomputable def tbTGL_1 : FuncId → List AV → List Blk → Res := addC 8 (tspec valid_sh valid_K valid_re valid_R validOk validM) tbTG
theorem tabTGL_1 : Tab Try.prog tbTGL_1 cxMd tbKTG := Tab.addTy tabTG tabTG (KK := valid_K) (R := valid_R) (fn := Try.f8) (by kernel_rfl) (by kernel_rfl) (by kernel_rfl) (by kernel_rfl) _ validFu valid_ret
noncomputable def tbTGB : FuncId → List AV → List Blk → Res := tbTGL_1
noncomputable def tbKTGB : KT := tbKTG
theorem tabTGB : Tab Try.prog tbTGB cxMd tbKTGB := tabTGL_1
end Go.Proofs.Ytmiddecfdfbocaa
