/- Part of the proof, by an evaluator over plain values: VB1. -/
import Derived.Test.YtdncbcdnpmjpmaaVL1
set_option linter.all false
set_option linter.unusedVariables false
set_option linter.unusedSimpArgs false
open Go Go.Abs Go.Proofs
namespace Go.Proofs.Ytdncbcdnpmjpmaa
theorem mixed : Try.prog.follows .mixedOrders = true := by kernel_rfl
theorem tabN : Tab Try.prog noC cxMd noK := Tab.none mixed
theorem tab0 : Tab Try.prog tb0 cxMd tbK0 := ((((tabN.addInl tabN (fn := Try.f28) (by kernel_rfl) (by kernel_rfl) (by kernel_rfl)).addInl tabN (fn := Try.f25) (by kernel_rfl) (by kernel_rfl) (by kernel_rfl)).addInl tabN (fn := Try.f22) (by kernel_rfl) (by kernel_rfl) (by kernel_rfl)).addInl tabN (fn := Try.f17) (by kernel_rfl) (by kernel_rfl) (by kernel_rfl)).addInl tabN (fn := Try.f15) (by kernel_rfl) (by kernel_rfl) (by kernel_rfl)
theorem tab1 : Tab Try.prog tb1 cxMd tbK1 := (tab0.addInl tab0 (fn := Try.f27) (by kernel_rfl) (by kernel_rfl) (by kernel_rfl)).addInl tab0 (fn := Try.f26) (by kernel_rfl) (by kernel_rfl) (by kernel_rfl)
theorem tab2 : Tab Try.prog tb2 cxMd tbK2 := tab1.addInl tab1 (fn := Try.f23) (by kernel_rfl) (by kernel_rfl) (by kernel_rfl)
noncomputable def tb3a : FuncId → List AV → List Blk → Res := addC 6 (tspec oVC_sh oVC_K oVC_re oVC_R validOk validM) tb0
theorem tab3a : Tab Try.prog tb3a cxMd tbK0 := tab0.addTy tab0 (KK := oVC_K) (R := oVC_R) (fn := Try.f6) (by kernel_rfl) (by kernel_rfl) (by kernel_rfl) (by kernel_rfl) _ (fun _ => 100) (fun x _ => oVC_ret x.1 x.2.1 x.2.2.1 x.2.2.2.1 x.2.2.2.2.1 x.2.2.2.2.2)
noncomputable def tb3b : FuncId → List AV → List Blk → Res := addC 7 (tspec rVC_sh rVC_K rVC_re rVC_R validOk validM) tb3a
theorem tab3b : Tab Try.prog tb3b cxMd tbK0 := tab3a.addTy tab0 (KK := rVC_K) (R := rVC_R) (fn := Try.f7) (by kernel_rfl) (by kernel_rfl) (by kernel_rfl) (by kernel_rfl) _ (fun _ => 100) (fun x _ => rVC_ret x.1 x.2.1 x.2.2.1 x.2.2.2.1 x.2.2.2.2.1 x.2.2.2.2.2)
noncomputable def tb3c : FuncId → List AV → List Blk → Res := addC 16 (tspec check_sh check_K check_re check_R checkOk checkM) tb3b
theorem tab3c : Tab Try.prog tb3c cxMd tbK0 := tab3b.addTy tab0 (KK := check_K) (R := check_R) (fn := Try.f16) (by kernel_rfl) (by kernel_rfl) (by kernel_rfl) (by kernel_rfl) _ (fun _ => 1) (fun x h => check_ret x.1 x.2 h)
noncomputable def tb3d : FuncId → List AV → List Blk → Res := addC 9 (tspec oWithin_sh oWithin_K oWithin_re oWithin_R withinOk withinM) tb3c
theorem tab3d : Tab Try.prog tb3d cxMd tbK0 := tab3c.addTy tab0 (KK := oWithin_K) (R := oWithin_R) (fn := Try.f9) (by kernel_rfl) (by kernel_rfl) (by kernel_rfl) (by kernel_rfl) _ (fun _ => 1) (fun x _ => oWithin_ret 1 x.1 x.2.1 x.2.2.1 x.2.2.2.1 x.2.2.2.2.1 x.2.2.2.2.2.1 x.2.2.2.2.2.2)
noncomputable def tb3e : FuncId → List AV → List Blk → Res := addC 18 (tspec rWithin_sh rWithin_K rWithin_re rWithin_R withinOk withinM) tb3d
theorem tab3e : Tab Try.prog tb3e cxMd tbK0 := tab3d.addTy tab0 (KK := rWithin_K) (R := rWithin_R) (fn := Try.f18) (by kernel_rfl) (by kernel_rfl) (by kernel_rfl) (by kernel_rfl) _ (fun _ => 1) (fun x _ => rWithin_ret 1 x.1 x.2.1 x.2.2.1 x.2.2.2.1 x.2.2.2.2.1 x.2.2.2.2.2.1 x.2.2.2.2.2.2)
noncomputable def tb3f : FuncId → List AV → List Blk → Res := addC 10 (tspec beside_sh beside_K beside_re beside_R besideOk besideM) tb3e
theorem tab3f : Tab Try.prog tb3f cxMd tbK0 := tab3e.addTy tab0 (KK := beside_K) (R := beside_R) (fn := Try.f10) (by kernel_rfl) (by kernel_rfl) (by kernel_rfl) (by kernel_rfl) _ (fun _ => 1) (fun x h => beside_ret 1 x.1 x.2.1 x.2.2 h)
noncomputable def tb3g : FuncId → List AV → List Blk → Res := addC 19 (tspec outer_sh outer_K outer_re outer_R outerOk outerM) tb3f
theorem tab3g : Tab Try.prog tb3g cxMd tbK0 := tab3f.addTy tab0 (KK := outer_K) (R := outer_R) (fn := Try.f19) (by kernel_rfl) (by kernel_rfl) (by kernel_rfl) (by kernel_rfl) _ (fun _ => 1) (fun x h => outer_ret 1 x.1 x.2.1 x.2.2.1 x.2.2.2 h)
noncomputable def tb3h : FuncId → List AV → List Blk → Res := addC 11 (tspec isOrd_sh isOrd_K isOrd_re isOrd_R (fun _ => true) isOrdM) tb3g
theorem tab3h : Tab Try.prog tb3h cxMd tbK0 := tab3g.addTy tab0 (KK := isOrd_K) (R := isOrd_R) (fn := Try.f11) (by kernel_rfl) (by kernel_rfl) (by kernel_rfl) (by kernel_rfl) _ (fun _ => 1) (fun x _ => isOrd_ret 1 x)
noncomputable def tb3i : FuncId → List AV → List Blk → Res := addC 12 (tspec rStates_sh rStates_K rStates_re rStates_R (fun _ => true) rStatesM) tb3h
theorem tab3i : Tab Try.prog tb3i cxMd tbK0 := tab3h.addTy tab0 (KK := rStates_K) (R := rStates_R) (fn := Try.f12) (by kernel_rfl) (by kernel_rfl) (by kernel_rfl) (by kernel_rfl) _ (fun _ => 1) (fun x _ => rStates_ret 1 x)
noncomputable def tb3j : FuncId → List AV → List Blk → Res := addC 20 (tspec leads_sh leads_K leads_re leads_R (fun _ => true) leadsM) tb3i
theorem tab3j : Tab Try.prog tb3j cxMd tbK0 := tab3i.addTy tab2 (KK := leads_K) (R := leads_R) (fn := Try.f20) (by kernel_rfl) (by kernel_rfl) (by kernel_rfl) (by kernel_rfl) _ (fun _ => 1) (fun x _ => leads_ret 1 x.1 x.2)
noncomputable def tb3k : FuncId → List AV → List Blk → Res := addC 13 (tspec mouths_sh mouths_K mouths_re mouths_R mouthsOk mouthsM) tb3j
theorem tab3k : Tab Try.prog tb3k cxMd tbK0 := tab3j.addTy tab0 (KK := mouths_K) (R := mouths_R) (fn := Try.f13) (by kernel_rfl) (by kernel_rfl) (by kernel_rfl) (by kernel_rfl) _ (fun x => List.length (α := Int × Int × Int × Bool) x.2.2.2.2 + 1) (fun x h => mouths_ret x.1 x.2.1 x.2.2.1 x.2.2.2.1 x.2.2.2.2 h)
noncomputable def tb3 : FuncId → List AV → List Blk → Res := addC 8 (inl Try.prog tb3k cxMd tbK0 Try.f8) tb3k
noncomputable def tbK3 : KT := addK 8 (inlK Try.prog tb3k cxMd tbK0 Try.f8) tbK0
theorem tab3 : Tab Try.prog tb3 cxMd tbK3 := tab3k.addInl tab3k (fn := Try.f8) (by kernel_rfl) (by kernel_rfl) (by kernel_rfl)
end Go.Proofs.Ytdncbcdnpmjpmaa
