/- Part of the proof, by an evaluator over plain values: B1. -/
import Derived.Test.YtjmgcpohgpjpiaaL1
set_option linter.all false
set_option linter.unusedVariables false
set_option linter.unusedSimpArgs false
open Go Go.Abs Go.Proofs
namespace Go.Proofs.Ytjmgcpohgpjpiaa
theorem mixed : Try.prog.follows .mixedOrders = true := by kernel_rfl
theorem tabN : Tab Try.prog noC cxMd noK := Tab.none mixed
theorem tab0 : Tab Try.prog tb0 cxMd tbK0 := tabN.addInl tabN (by kernel_rfl) (by kernel_rfl) (by kernel_rfl)
noncomputable def tb1a : FuncId → List AV → List Blk → Res := addC 10 (tspec inRange_sh inRange_K inRange_re inRange_R inRangeOk inRangeM) tb0
theorem tab1a : Tab Try.prog tb1a cxMd tbK0 := tab0.addTy tab0 (KK := inRange_K) (R := inRange_R) (fn := Try.f10) (by kernel_rfl) (by kernel_rfl) (by kernel_rfl) (by kernel_rfl) _ (fun x => x.1.length + 1) (fun x h => inRange_ret x.1 x.2 h)
noncomputable def tb1b : FuncId → List AV → List Blk → Res := addC 6 (tspec sameInts_sh sameInts_K sameInts_re sameInts_R sameIntsOk sameIntsM) tb1a
theorem tab1b : Tab Try.prog tb1b cxMd tbK0 := tab1a.addTy tab0 (KK := sameInts_K) (R := sameInts_R) (fn := Try.f6) (by kernel_rfl) (by kernel_rfl) (by kernel_rfl) (by kernel_rfl) _ (fun x => x.1.length + 1) (fun x h => sameInts_ret x.1 x.2 h)
noncomputable def tb1c : FuncId → List AV → List Blk → Res := addC 8 (tspec rStream_sh rStream_K rStream_re rStream_R rStreamOk rStreamM) tb1b
theorem tab1c : Tab Try.prog tb1c cxMd tbK0 := tab1b.addTy tab0 (KK := rStream_K) (R := rStream_R) (fn := Try.f8) (by kernel_rfl) (by kernel_rfl) (by kernel_rfl) (by kernel_rfl) _ (fun x => x.1.length + 1) (fun x h => rStream_ret x.1 x.2 h)
noncomputable def tb1d : FuncId → List AV → List Blk → Res := addC 7 (tspec rValid_sh rValid_K rValid_re rValid_R validOk validM) tb1c
theorem tab1d : Tab Try.prog tb1d cxMd tbK0 := tab1c.addTy tab0 (KK := rValid_K) (R := rValid_R) (fn := Try.f7) (by kernel_rfl) (by kernel_rfl) (by kernel_rfl) (by kernel_rfl) _ (fun _ => 100) (fun x _ => rValid_ret x.1 x.2.1 x.2.2.1 x.2.2.2.1 x.2.2.2.2.1 x.2.2.2.2.2)
noncomputable def tb1e : FuncId → List AV → List Blk → Res := addC 9 (tspec oValid_sh oValid_K oValid_re oValid_R validOk validM) tb1d
theorem tab1e : Tab Try.prog tb1e cxMd tbK0 := tab1d.addTy tab0 (KK := oValid_K) (R := oValid_R) (fn := Try.f9) (by kernel_rfl) (by kernel_rfl) (by kernel_rfl) (by kernel_rfl) _ (fun _ => 100) (fun x _ => oValid_ret x.1 x.2.1 x.2.2.1 x.2.2.2.1 x.2.2.2.2.1 x.2.2.2.2.2)
noncomputable def tb2a : FuncId → List AV → List Blk → Res := addC 11 (inl Try.prog noC cxMd noK Try.f11) tb1e
noncomputable def tbK2a : KT := addK 11 (inlK Try.prog noC cxMd noK Try.f11) tbK0
theorem tab2a : Tab Try.prog tb2a cxMd tbK2a := tab1e.addInl tabN (by kernel_rfl) (by kernel_rfl) (by kernel_rfl)
noncomputable def tb2b : FuncId → List AV → List Blk → Res := addC 12 (inl Try.prog noC cxMd noK Try.f12) tb2a
noncomputable def tbK2b : KT := addK 12 (inlK Try.prog noC cxMd noK Try.f12) tbK2a
theorem tab2b : Tab Try.prog tb2b cxMd tbK2b := tab2a.addInl tabN (by kernel_rfl) (by kernel_rfl) (by kernel_rfl)
noncomputable def tb2c : FuncId → List AV → List Blk → Res := addC 13 (inl Try.prog noC cxMd noK Try.f13) tb2b
noncomputable def tbK2c : KT := addK 13 (inlK Try.prog noC cxMd noK Try.f13) tbK2b
theorem tab2c : Tab Try.prog tb2c cxMd tbK2c := tab2b.addInl tabN (by kernel_rfl) (by kernel_rfl) (by kernel_rfl)
end Go.Proofs.Ytjmgcpohgpjpiaa
