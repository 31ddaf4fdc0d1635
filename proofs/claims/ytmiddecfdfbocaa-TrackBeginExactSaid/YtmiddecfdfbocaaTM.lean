/- Part of the proof, by an evaluator over plain values: TM. -/
import Derived.Test.YtmiddecfdfbocaaTKL
import Derived.Test.YtmiddecfdfbocaaProg
import Derived.KernelRfl
set_option linter.all false
set_option linter.unusedVariables false
set_option linter.unusedSimpArgs false
open Go Go.Abs Go.Proofs
set_option linter.unusedVariables false
namespace Go.Proofs.Ytmiddecfdfbocaa
noncomputable def tbTM : FuncId → List AV → List Blk → Res := tbTKB
noncomputable def tbKTM : KT := tbKTKB
theorem tabTM : Tab Try.prog tbTM cxMd tbKTM := tabTKB
noncomputable def cx_lBegin (F : Nat) : Cx := { P := Try.prog, C := tbTM, K := tbKTM, mode := cxMd, fuel := F, live := liveTab [], pin := 0 }
def lBegin_K : CK := CK.pair (CK.int IntKind.i64) (CK.pair (CK.slice 71 (CK.pair (CK.int IntKind.i64) (CK.pair (CK.int IntKind.i64) (CK.pair (CK.int IntKind.i64) (CK.pair (CK.int IntKind.i64) (CK.pair (CK.int IntKind.i64) (CK.int IntKind.i64))))))) (CK.slice 58 (CK.pair (CK.int IntKind.i64) (CK.pair (CK.int IntKind.i64) (CK.int IntKind.i64)))))
def lBegin_sh : List (Option Nat) := [some 2, none]
def lBegin_R : CK := CK.bool
def lBegin_re : List (Option Nat) := [none]
theorem lBegin_eq (F : Nat) (a0_0 : Int) (a0_1 : List (Int × Int × Int × Int × Int × Int)) (a1 : List (Int × Int × Int)) : runF (cx_lBegin F) Try.f4 [AV.agg [AV.int IntKind.i64 a0_0, AV.ro (CK.pair (CK.int IntKind.i64) (CK.pair (CK.int IntKind.i64) (CK.pair (CK.int IntKind.i64) (CK.pair (CK.int IntKind.i64) (CK.pair (CK.int IntKind.i64) (CK.int IntKind.i64)))))) a0_1], AV.ro (CK.pair (CK.int IntKind.i64) (CK.pair (CK.int IntKind.i64) (CK.int IntKind.i64))) a1] [] = bif rValidOk (a0_0, a0_1, a1, [(-1, 0, [])]) then bif rValidM (a0_0, a0_1, a1, [(-1, 0, [])]) != 0 then bif beginOk (a0_0, a0_1, a1) then bif decide (Prod.snd (Prod.snd (Prod.snd (Prod.snd (beginM (a0_0, a0_1, a1))))) = rValidM (a0_0, a0_1, a1, [(-1, 0, [])])) then bif sameOk (Prod.fst (beginM (a0_0, a0_1, a1)), Prod.fst (Prod.snd (beginM (a0_0, a0_1, a1))), Prod.fst (Prod.snd (Prod.snd (beginM (a0_0, a0_1, a1)))), Prod.fst (Prod.snd (Prod.snd (Prod.snd (beginM (a0_0, a0_1, a1))))), 0, [], [], []) then { ok := true, val := AV.bool (sameM (Prod.fst (beginM (a0_0, a0_1, a1)), Prod.fst (Prod.snd (beginM (a0_0, a0_1, a1))), Prod.fst (Prod.snd (Prod.snd (beginM (a0_0, a0_1, a1)))), Prod.fst (Prod.snd (Prod.snd (Prod.snd (beginM (a0_0, a0_1, a1))))), 0, [], [], [])) } else { ok := false, val := AV.junk } else { ok := true, val := AV.bool false } else { ok := false, val := AV.junk } else bif beginOk (a0_0, a0_1, a1) then bif decide (Prod.snd (Prod.snd (Prod.snd (Prod.snd (beginM (a0_0, a0_1, a1))))) = 0) then bif sameOk (Prod.fst (beginM (a0_0, a0_1, a1)), Prod.fst (Prod.snd (beginM (a0_0, a0_1, a1))), Prod.fst (Prod.snd (Prod.snd (beginM (a0_0, a0_1, a1)))), Prod.fst (Prod.snd (Prod.snd (Prod.snd (beginM (a0_0, a0_1, a1))))), a0_0, a0_1, a1, [(-1, 0, [])]) then { ok := true, val := AV.bool (sameM (Prod.fst (beginM (a0_0, a0_1, a1)), Prod.fst (Prod.snd (beginM (a0_0, a0_1, a1))), Prod.fst (Prod.snd (Prod.snd (beginM (a0_0, a0_1, a1)))), Prod.fst (Prod.snd (Prod.snd (Prod.snd (beginM (a0_0, a0_1, a1))))), a0_0, a0_1, a1, [(-1, 0, [])])) } else { ok := false, val := AV.junk } else { ok := true, val := AV.bool false } else { ok := false, val := AV.junk } else { ok := false, val := AV.junk } := by kernel_rfl
noncomputable def lBegin_run (F : Nat) (x : CT lBegin_K) : Res := runF (cx_lBegin F) Try.f4 (groupA lBegin_sh (enc lBegin_K x)) []
theorem lBegin_arg (F : Nat) (a0_0 : Int) (a0_1 : List (Int × Int × Int × Int × Int × Int)) (a1 : List (Int × Int × Int)) : lBegin_run F (a0_0, a0_1, a1) = runF (cx_lBegin F) Try.f4 [AV.agg [AV.int IntKind.i64 a0_0, AV.ro (CK.pair (CK.int IntKind.i64) (CK.pair (CK.int IntKind.i64) (CK.pair (CK.int IntKind.i64) (CK.pair (CK.int IntKind.i64) (CK.pair (CK.int IntKind.i64) (CK.int IntKind.i64)))))) a0_1], AV.ro (CK.pair (CK.int IntKind.i64) (CK.pair (CK.int IntKind.i64) (CK.int IntKind.i64))) a1] [] := by kernel_rfl
end Go.Proofs.Ytmiddecfdfbocaa
