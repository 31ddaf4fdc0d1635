/- The laws of the parts of sorting, put together. -/
import Derived.Test.YtaiokhbjjhicpaaKA1
set_option linter.all false
set_option linter.unusedVariables false
set_option linter.unusedSimpArgs false

open Go Go.Abs Go.Proofs
set_option linter.unusedVariables false
namespace Go.Proofs.Ytaiokhbjjhicpaa
noncomputable def tbKAL_1 : FuncId → List AV → List Blk → Res := addC 9 (tspecB ins_e ins_k insOk insM) tbKA
theorem tabKAL_1 : Tab Try.prog tbKAL_1 cxMd tbKKA := Tab.addTyB tabKA tabKA (e := ins_e) (k := ins_k) (fn := Try.f9) (by kernel_rfl) (by kernel_rfl) (by kernel_rfl) (by kernel_rfl) _ insFu ins_retB
noncomputable def tbKAL_2 : FuncId → List AV → List Blk → Res := addC 20 (tspecB sift_e sift_k siftOk siftM) tbKAL_1
theorem tabKAL_2 : Tab Try.prog tbKAL_2 cxMd tbKKA := Tab.addTyB tabKAL_1 tabKA (e := sift_e) (k := sift_k) (fn := Try.f20) (by kernel_rfl) (by kernel_rfl) (by kernel_rfl) (by kernel_rfl) _ siftFu sift_retB
noncomputable def tbKAL_3 : FuncId → List AV → List Blk → Res := addC 13 (tspecB rev_e rev_k revOk revM) tbKAL_2
theorem tabKAL_3 : Tab Try.prog tbKAL_3 cxMd tbKKA := Tab.addTyB tabKAL_2 tabKA (e := rev_e) (k := rev_k) (fn := Try.f13) (by kernel_rfl) (by kernel_rfl) (by kernel_rfl) (by kernel_rfl) _ revFu rev_retB
noncomputable def tbKAL_4 : FuncId → List AV → List Blk → Res := addC 14 (tspecB pins_e pins_k pinsOk pinsM) tbKAL_3
theorem tabKAL_4 : Tab Try.prog tbKAL_4 cxMd tbKKA := Tab.addTyB tabKAL_3 tabKA (e := pins_e) (k := pins_k) (fn := Try.f14) (by kernel_rfl) (by kernel_rfl) (by kernel_rfl) (by kernel_rfl) _ pinsFu pins_retB
noncomputable def tbKAL_5 : FuncId → List AV → List Blk → Res := addC 16 (tspecB peq_e peq_k peqOk peqM) tbKAL_4
theorem tabKAL_5 : Tab Try.prog tbKAL_5 cxMd tbKKA := Tab.addTyB tabKAL_4 tabKA (e := peq_e) (k := peq_k) (fn := Try.f16) (by kernel_rfl) (by kernel_rfl) (by kernel_rfl) (by kernel_rfl) _ peqFu peq_retB
noncomputable def tbKAL_6 : FuncId → List AV → List Blk → Res := addC 17 (tspecB part_e part_k partOk partM) tbKAL_5
theorem tabKAL_6 : Tab Try.prog tbKAL_6 cxMd tbKKA := Tab.addTyB tabKAL_5 tabKA (e := part_e) (k := part_k) (fn := Try.f17) (by kernel_rfl) (by kernel_rfl) (by kernel_rfl) (by kernel_rfl) _ partFu part_retB
noncomputable def tbKAL_7 : FuncId → List AV → List Blk → Res := addC 12 (tspec choose_sh choose_K choose_re choose_R chooseOk chooseM) tbKAL_6
theorem tabKAL_7 : Tab Try.prog tbKAL_7 cxMd tbKKA := Tab.addTy tabKAL_6 tabKA (KK := choose_K) (R := choose_R) (fn := Try.f12) (by kernel_rfl) (by kernel_rfl) (by kernel_rfl) (by kernel_rfl) _ chooseFu choose_ret
noncomputable def tbKAB : FuncId → List AV → List Blk → Res := tbKAL_7
noncomputable def tbKKAB : KT := tbKKA
theorem tabKAB : Tab Try.prog tbKAB cxMd tbKKAB := tabKAL_7
end Go.Proofs.Ytaiokhbjjhicpaa
