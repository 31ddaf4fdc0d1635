/- Part of the proof, by an evaluator over plain values: TDB. -/
import Derived.Test.YtmiddecfdfbocaaTDL
set_option linter.all false
set_option linter.unusedVariables false
set_option linter.unusedSimpArgs false
open Go Go.Abs Go.Proofs
set_option linter.unusedVariables false
namespace Go.Proofs.Ytmiddecfdfbocaa
noncomputable def tbTDL_1 : FuncId → List AV → List Blk → Res := addC 52 (tspec nextTable_sh nextTable_K nextTable_re nextTable_R nextTableOk nextTableM) tbTD
theorem tabTDL_1 : Tab Try.prog tbTDL_1 cxMd tbKTD := Tab.addTy tabTD tabTD (KK := nextTable_K) (R := nextTable_R) (fn := Try.f52) (by kernel_rfl) (by kernel_rfl) (by kernel_rfl) (by kernel_rfl) _ nextTableFu nextTable_ret
noncomputable def tbTDL_2 : FuncId → List AV → List Blk → Res := addC 31 (tspec rCheck_sh rCheck_K rCheck_re rCheck_R (fun _ => true) rCheckM) tbTDL_1
theorem tabTDL_2 : Tab Try.prog tbTDL_2 cxMd tbKTD := Tab.addTy tabTDL_1 tabTD (KK := rCheck_K) (R := rCheck_R) (fn := Try.f31) (by kernel_rfl) (by kernel_rfl) (by kernel_rfl) (by kernel_rfl) _ rCheckFu rCheck_ret
noncomputable def tbTDL_3 : FuncId → List AV → List Blk → Res := addC 56 (tspec cmpOr_sh cmpOr_K cmpOr_re cmpOr_R cmpOrOk cmpOrM) tbTDL_2
theorem tabTDL_3 : Tab Try.prog tbTDL_3 cxMd tbKTD := Tab.addTy tabTDL_2 tabTD (KK := cmpOr_K) (R := cmpOr_R) (fn := Try.f56) (by kernel_rfl) (by kernel_rfl) (by kernel_rfl) (by kernel_rfl) _ cmpOrFu cmpOr_ret
noncomputable def tbTDB : FuncId → List AV → List Blk → Res := tbTDL_3
noncomputable def tbKTDB : KT := tbKTD
theorem tabTDB : Tab Try.prog tbTDB cxMd tbKTDB := tabTDL_3
end Go.Proofs.Ytmiddecfdfbocaa
