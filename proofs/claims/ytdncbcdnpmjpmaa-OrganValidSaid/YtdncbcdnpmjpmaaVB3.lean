/- Part of the proof, by an evaluator over plain values: VB3. -/
import Derived.Test.YtdncbcdnpmjpmaaVL4
set_option linter.all false
set_option linter.unusedVariables false
set_option linter.unusedSimpArgs false
open Go Go.Abs Go.Proofs
namespace Go.Proofs.Ytdncbcdnpmjpmaa
noncomputable def tb5 : FuncId → List AV → List Blk → Res := addC 5 (tspec rV_sh rV_K rV_re rV_R organOk organM) tb4
theorem tab5 : Tab Try.prog tb5 cxMd tbK3 := tab4.addTy tab4 (KK := rV_K) (R := rV_R) (fn := Try.f5) (by kernel_rfl) (by kernel_rfl) (by kernel_rfl) (by kernel_rfl) _ (fun x => List.length (α := Int) x.2.2.2.1 + List.length (α := Int × Int × Int × Bool) x.2.2.2.2 + 1) (fun x h => rV_ret x.1 x.2.1 x.2.2.1 x.2.2.2.1 x.2.2.2.2 h)
end Go.Proofs.Ytdncbcdnpmjpmaa
