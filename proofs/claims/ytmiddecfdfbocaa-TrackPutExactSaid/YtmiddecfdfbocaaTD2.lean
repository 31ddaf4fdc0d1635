/- Part of the proof, by an evaluator over plain values: TD2. -/
import Derived.Test.YtmiddecfdfbocaaTDL
import Derived.Test.YtmiddecfdfbocaaProg
import Derived.KernelRfl
set_option linter.all false
set_option linter.unusedVariables false
set_option linter.unusedSimpArgs false
open Go Go.Abs Go.Proofs
set_option linter.unusedVariables false
namespace Go.Proofs.Ytmiddecfdfbocaa
noncomputable def tbTD2 : FuncId → List AV → List Blk → Res := tbTDB
noncomputable def tbKTD2 : KT := tbKTDB
theorem tabTD2 : Tab Try.prog tbTD2 cxMd tbKTD2 := tabTDB
noncomputable def cx_fbehind (F : Nat) : Cx := { P := Try.prog, C := tbTD2, K := tbKTD2, mode := cxMd, fuel := F, live := liveTab [], pin := 0, nx := true }
def fbehind_K : CK := CK.pair (CK.int IntKind.i64) (CK.pair (CK.int IntKind.i64) (CK.pair (CK.int IntKind.i64) (CK.pair (CK.int IntKind.i64) (CK.pair (CK.int IntKind.i64) (CK.int IntKind.i64)))))
def fbehind_sh : List (Option Nat) := [some 3, some 3]
def fbehind_R : CK := CK.int IntKind.i64
def fbehind_re : List (Option Nat) := [none]
theorem fbehind_eq (F : Nat) (a0_0 : Int) (a0_1 : Int) (a0_2 : Int) (a1_0 : Int) (a1_1 : Int) (a1_2 : Int) : runF (cx_fbehind F) Try.f42 [AV.agg [AV.int IntKind.i64 a0_0, AV.int IntKind.i64 a0_1, AV.int IntKind.i64 a0_2], AV.agg [AV.int IntKind.i64 a1_0, AV.int IntKind.i64 a1_1, AV.int IntKind.i64 a1_2]] [] = bif cmpOrOk [compareM (a0_1, a1_1), compareM (a0_0, a1_0)] then { ok := true, val := AV.int IntKind.i64 (cmpOrM [compareM (a0_1, a1_1), compareM (a0_0, a1_0)]) } else { ok := false, val := AV.junk } := by kernel_rfl
noncomputable def fbehind_run (F : Nat) (x : CT fbehind_K) : Res := runF (cx_fbehind F) Try.f42 (groupA fbehind_sh (enc fbehind_K x)) []
theorem fbehind_arg (F : Nat) (a0_0 : Int) (a0_1 : Int) (a0_2 : Int) (a1_0 : Int) (a1_1 : Int) (a1_2 : Int) : fbehind_run F (a0_0, a0_1, a0_2, a1_0, a1_1, a1_2) = runF (cx_fbehind F) Try.f42 [AV.agg [AV.int IntKind.i64 a0_0, AV.int IntKind.i64 a0_1, AV.int IntKind.i64 a0_2], AV.agg [AV.int IntKind.i64 a1_0, AV.int IntKind.i64 a1_1, AV.int IntKind.i64 a1_2]] [] := by kernel_rfl
end Go.Proofs.Ytmiddecfdfbocaa
