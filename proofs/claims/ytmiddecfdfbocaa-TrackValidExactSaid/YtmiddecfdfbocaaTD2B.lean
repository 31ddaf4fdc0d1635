/- Part of the proof, by an evaluator over plain values: TD2B. -/
import Derived.Test.YtmiddecfdfbocaaTD2L
set_option linter.all false
set_option linter.unusedVariables false
set_option linter.unusedSimpArgs false
open Go Go.Abs Go.Proofs
set_option linter.unusedVariables false
namespace Go.Proofs.Ytmiddecfdfbocaa
noncomputable def tbTD2L_1 : FuncId → List AV → List Blk → Res := addC 42 (tspec fbehind_sh fbehind_K fbehind_re fbehind_R (fun _ => true) fbehindM) tbTD2
theorem tabTD2L_1 : Tab Try.prog tbTD2L_1 cxMd tbKTD2 := Tab.addTy tabTD2 tabTD2 (KK := fbehind_K) (R := fbehind_R) (fn := Try.f42) (by kernel_rfl) (by kernel_rfl) (by kernel_rfl) (by kernel_rfl) _ fbehindFu fbehind_ret
noncomputable def tbTD2B : FuncId → List AV → List Blk → Res := tbTD2L_1
noncomputable def tbKTD2B : KT := tbKTD2
theorem tabTD2B : Tab Try.prog tbTD2B cxMd tbKTD2B := tabTD2L_1
end Go.Proofs.Ytmiddecfdfbocaa
