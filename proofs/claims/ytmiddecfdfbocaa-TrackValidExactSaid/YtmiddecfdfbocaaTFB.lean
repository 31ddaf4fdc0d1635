/- Part of the proof, by an evaluator over plain values: TFB. -/
import Derived.Test.YtmiddecfdfbocaaTFL
set_option linter.all false
set_option linter.unusedVariables false
set_option linter.unusedSimpArgs false
open Go Go.Abs Go.Proofs
set_option linter.unusedVariables false
namespace Go.Proofs.Ytmiddecfdfbocaa
noncomputable def tbTFL_1 : FuncId → List AV → List Blk → Res := addC 27 (tspec looked_sh looked_K looked_re looked_R lookedOk lookedM) tbTF
theorem tabTFL_1 : Tab Try.prog tbTFL_1 cxMd tbKTF := Tab.addTy tabTF tabTF (KK := looked_K) (R := looked_R) (fn := Try.f27) (by kernel_rfl) (by kernel_rfl) (by kernel_rfl) (by kernel_rfl) _ lookedFu looked_ret
noncomputable def tbTFL_2 : FuncId → List AV → List Blk → Res := addC 7 (tspec rValid_sh rValid_K rValid_re rValid_R rValidOk rValidM) tbTFL_1
theorem tabTFL_2 : Tab Try.prog tbTFL_2 cxMd tbKTF := Tab.addTy tabTFL_1 tabTF (KK := rValid_K) (R := rValid_R) (fn := Try.f7) (by kernel_rfl) (by kernel_rfl) (by kernel_rfl) (by kernel_rfl) _ rValidFu rValid_ret
noncomputable def tbTFB : FuncId → List AV → List Blk → Res := tbTFL_2
noncomputable def tbKTFB : KT := tbKTF
theorem tabTFB : Tab Try.prog tbTFB cxMd tbKTFB := tabTFL_2
end Go.Proofs.Ytmiddecfdfbocaa
