/- Part of the proof, by an evaluator over plain values: B2. -/
import Derived.Test.YtjmgcpohgpjpiaaL2
set_option linter.all false
set_option linter.unusedVariables false
set_option linter.unusedSimpArgs false
open Go Go.Abs Go.Proofs
namespace Go.Proofs.Ytjmgcpohgpjpiaa
noncomputable def tb3a : FuncId → List AV → List Blk → Res := addC 4 (tspec rTell_sh rTell_K rTell_re rTell_R tellOk tellM) tb2c
theorem tab3a : Tab Try.prog tb3a cxMd tbK2c := tab2c.addTy tab2c (KK := rTell_K) (R := rTell_R) (fn := Try.f4) (by kernel_rfl) (by kernel_rfl) (by kernel_rfl) (by kernel_rfl) _ (fun x => List.length (α := Int) x.2.2.2.2.2.2 + 1) (fun x h => rTell_ret x.1 x.2.1 x.2.2.1 x.2.2.2.1 x.2.2.2.2.1 x.2.2.2.2.2.1 x.2.2.2.2.2.2 h)
noncomputable def tb3b : FuncId → List AV → List Blk → Res := addC 5 (tspec oTell_sh oTell_K oTell_re oTell_R tellOk tellM) tb3a
theorem tab3b : Tab Try.prog tb3b cxMd tbK2c := tab3a.addTy tab2c (KK := oTell_K) (R := oTell_R) (fn := Try.f5) (by kernel_rfl) (by kernel_rfl) (by kernel_rfl) (by kernel_rfl) _ (fun x => List.length (α := Int) x.2.2.2.2.2.2 + 1) (fun x h => oTell_ret x.1 x.2.1 x.2.2.1 x.2.2.2.1 x.2.2.2.2.1 x.2.2.2.2.2.1 x.2.2.2.2.2.2 h)
end Go.Proofs.Ytjmgcpohgpjpiaa
