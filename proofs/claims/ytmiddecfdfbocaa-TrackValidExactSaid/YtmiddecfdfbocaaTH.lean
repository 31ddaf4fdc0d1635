/- Part of the proof, by an evaluator over plain values: TH. -/
import Derived.Test.YtmiddecfdfbocaaTGB
import Derived.Test.YtmiddecfdfbocaaProg
import Derived.KernelRfl
set_option linter.all false
set_option linter.unusedVariables false
set_option linter.unusedSimpArgs false
open Go Go.Abs Go.Proofs
set_option linter.unusedVariables false
namespace Go.Proofs.Ytmiddecfdfbocaa
noncomputable def tbTH : FuncId → List AV → List Blk → Res := tbTGB
noncomputable def tbKTH : KT := tbKTGB
theorem tabTH : Tab Try.prog tbTH cxMd tbKTH := tabTGB
noncomputable def cx_lValid (F : Nat) : Cx := { P := Try.prog, C := tbTH, K := tbKTH, mode := cxMd, fuel := F, live := liveTab [], pin := 0 }
def lValid_K : CK := CK.pair (CK.int IntKind.i64) (CK.pair (CK.slice 71 (CK.pair (CK.int IntKind.i64) (CK.pair (CK.int IntKind.i64) (CK.pair (CK.int IntKind.i64) (CK.pair (CK.int IntKind.i64) (CK.pair (CK.int IntKind.i64) (CK.int IntKind.i64))))))) (CK.pair (CK.slice 58 (CK.pair (CK.int IntKind.i64) (CK.pair (CK.int IntKind.i64) (CK.int IntKind.i64)))) (CK.slice 45 (CK.pair (CK.int IntKind.i64) (CK.pair (CK.int IntKind.i64) (CK.slice 47 (CK.pair (CK.int IntKind.i64) (CK.slice 58 (CK.pair (CK.int IntKind.i64) (CK.pair (CK.int IntKind.i64) (CK.int IntKind.i64)))))))))))
def lValid_sh : List (Option Nat) := [some 4]
def lValid_R : CK := CK.bool
def lValid_re : List (Option Nat) := [none]
theorem lValid_eq (F : Nat) (a0_0 : Int) (a0_1 : List (Int × Int × Int × Int × Int × Int)) (a0_2 : List (Int × Int × Int)) (a0_3 : List (Int × Int × List (Int × List (Int × Int × Int)))) : runF (cx_lValid F) Try.f3 [AV.agg [AV.int IntKind.i64 a0_0, AV.ro (CK.pair (CK.int IntKind.i64) (CK.pair (CK.int IntKind.i64) (CK.pair (CK.int IntKind.i64) (CK.pair (CK.int IntKind.i64) (CK.pair (CK.int IntKind.i64) (CK.int IntKind.i64)))))) a0_1, AV.ro (CK.pair (CK.int IntKind.i64) (CK.pair (CK.int IntKind.i64) (CK.int IntKind.i64))) a0_2, AV.ro (CK.pair (CK.int IntKind.i64) (CK.pair (CK.int IntKind.i64) (CK.slice 47 (CK.pair (CK.int IntKind.i64) (CK.slice 58 (CK.pair (CK.int IntKind.i64) (CK.pair (CK.int IntKind.i64) (CK.int IntKind.i64)))))))) a0_3]] [] = bif rValidOk (a0_0, a0_1, a0_2, a0_3) then bif validOk (a0_0, a0_1, a0_2, a0_3) then { ok := true, val := AV.bool (decide (validM (a0_0, a0_1, a0_2, a0_3) = rValidM (a0_0, a0_1, a0_2, a0_3))) } else { ok := false, val := AV.junk } else { ok := false, val := AV.junk } := by kernel_rfl
noncomputable def lValid_run (F : Nat) (x : CT lValid_K) : Res := runF (cx_lValid F) Try.f3 (groupA lValid_sh (enc lValid_K x)) []
theorem lValid_arg (F : Nat) (a0_0 : Int) (a0_1 : List (Int × Int × Int × Int × Int × Int)) (a0_2 : List (Int × Int × Int)) (a0_3 : List (Int × Int × List (Int × List (Int × Int × Int)))) : lValid_run F (a0_0, a0_1, a0_2, a0_3) = runF (cx_lValid F) Try.f3 [AV.agg [AV.int IntKind.i64 a0_0, AV.ro (CK.pair (CK.int IntKind.i64) (CK.pair (CK.int IntKind.i64) (CK.pair (CK.int IntKind.i64) (CK.pair (CK.int IntKind.i64) (CK.pair (CK.int IntKind.i64) (CK.int IntKind.i64)))))) a0_1, AV.ro (CK.pair (CK.int IntKind.i64) (CK.pair (CK.int IntKind.i64) (CK.int IntKind.i64))) a0_2, AV.ro (CK.pair (CK.int IntKind.i64) (CK.pair (CK.int IntKind.i64) (CK.slice 47 (CK.pair (CK.int IntKind.i64) (CK.slice 58 (CK.pair (CK.int IntKind.i64) (CK.pair (CK.int IntKind.i64) (CK.int IntKind.i64)))))))) a0_3]] [] := by kernel_rfl
end Go.Proofs.Ytmiddecfdfbocaa
