/- Part of the proof, by an evaluator over plain values: VB2. -/
import Derived.Test.YtdncbcdnpmjpmaaVL3
import Derived.Test.YtdncbcdnpmjpmaaVB1
set_option linter.all false
set_option linter.unusedVariables false
set_option linter.unusedSimpArgs false
open Go Go.Abs Go.Proofs
namespace Go.Proofs.Ytdncbcdnpmjpmaa
noncomputable def tb4a : FuncId → List AV → List Blk → Res := addC 14 (tspec fits_sh fits_K fits_re fits_R fitsOk fitsM) tb3
theorem tab4a : Tab Try.prog tb4a cxMd tbK3 := tab3.addTy tab3 (KK := fits_K) (R := fits_R) (fn := Try.f14) (by kernel_rfl) (by kernel_rfl) (by kernel_rfl) (by kernel_rfl) _ (fun x => List.length (α := Int × Int × Int × Bool) x.2.2.2.2.1 + 1) (fun x h => fits_ret x.1 x.2.1 x.2.2.1 x.2.2.2.1 x.2.2.2.2.1 x.2.2.2.2.2 h)
noncomputable def tb4 : FuncId → List AV → List Blk → Res := addC 4 (tspec oV_sh oV_K oV_re oV_R organOk organM) tb4a
theorem tab4 : Tab Try.prog tb4 cxMd tbK3 := tab4a.addTy tab3 (KK := oV_K) (R := oV_R) (fn := Try.f4) (by kernel_rfl) (by kernel_rfl) (by kernel_rfl) (by kernel_rfl) _ (fun x => List.length (α := Int) x.2.2.2.1 + List.length (α := Int × Int × Int × Bool) x.2.2.2.2 + 1) (fun x h => oV_ret x.1 x.2.1 x.2.2.1 x.2.2.2.1 x.2.2.2.2 h)
end Go.Proofs.Ytdncbcdnpmjpmaa
