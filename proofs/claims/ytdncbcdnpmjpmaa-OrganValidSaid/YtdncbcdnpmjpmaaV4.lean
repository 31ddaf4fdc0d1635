/- Part of the proof, by an evaluator over plain values: V4. -/
import Derived.Test.YtdncbcdnpmjpmaaVB3
import Derived.Test.YtdncbcdnpmjpmaaProg
import Derived.KernelRfl
set_option linter.all false
set_option linter.unusedVariables false
set_option linter.unusedSimpArgs false
open Go Go.Abs Go.Proofs
namespace Go.Proofs.Ytdncbcdnpmjpmaa
noncomputable def cxLV (F : Nat) : Cx := { P := Try.prog, C := tb5, K := tbK3, mode := cxMd, fuel := F, live := liveTab [], pin := 0 }

def lV_K : CK := CK.pair (CK.int IntKind.i64) (CK.pair (CK.int IntKind.i64) (CK.pair (CK.int IntKind.i64) (CK.pair (CK.slice 3 (CK.int IntKind.i64)) (CK.pair (CK.slice 40 (CK.pair (CK.int IntKind.i64) (CK.pair (CK.int IntKind.i64) (CK.pair (CK.int IntKind.i64) CK.bool)))) (CK.pair (CK.int IntKind.i64) (CK.pair (CK.int IntKind.i64) (CK.pair (CK.int IntKind.i64) (CK.pair (CK.slice 22 (CK.slice 3 (CK.int IntKind.i64))) (CK.pair (CK.slice 22 (CK.slice 3 (CK.int IntKind.i64))) (CK.slice 51 (CK.slice 4 CK.bool)))))))))))
def lV_sh : List (Option Nat) := [some 5, some 6]
def lV_R : CK := CK.bool
def lV_re : List (Option Nat) := [none]
theorem lV_eq (F : Nat) (a0_0 : Int) (a0_1 : Int) (a0_2 : Int) (a0_3 : List Int) (a0_4 : List (Int × Int × Int × Bool)) (a1_0 : Int) (a1_1 : Int) (a1_2 : Int) (a1_3 : List (List Int)) (a1_4 : List (List Int)) (a1_5 : List (List Bool)) : runF (cxLV F) Try.f3 [AV.agg [AV.int IntKind.i64 a0_0, AV.int IntKind.i64 a0_1, AV.int IntKind.i64 a0_2, AV.ro (CK.int IntKind.i64) a0_3, AV.ro (CK.pair (CK.int IntKind.i64) (CK.pair (CK.int IntKind.i64) (CK.pair (CK.int IntKind.i64) CK.bool))) a0_4], AV.agg [AV.int IntKind.i64 a1_0, AV.int IntKind.i64 a1_1, AV.int IntKind.i64 a1_2, AV.ro (CK.slice 3 (CK.int IntKind.i64)) a1_3, AV.ro (CK.slice 3 (CK.int IntKind.i64)) a1_4, AV.ro (CK.slice 4 CK.bool) a1_5]] [] = bif organOk (a0_0, a0_1, a0_2, a0_3, a0_4) then bif organOk (a0_0, a0_1, a0_2, a0_3, a0_4) then bif decide (organM (a0_0, a0_1, a0_2, a0_3, a0_4) = organM (a0_0, a0_1, a0_2, a0_3, a0_4)) then bif validOk (a1_0, a1_1, a1_2, a1_3, a1_4, a1_5) then bif validOk (a1_0, a1_1, a1_2, a1_3, a1_4, a1_5) then { ok := true, val := AV.bool (decide (validM (a1_0, a1_1, a1_2, a1_3, a1_4, a1_5) = validM (a1_0, a1_1, a1_2, a1_3, a1_4, a1_5))) } else { ok := false, val := AV.junk } else { ok := false, val := AV.junk } else { ok := true, val := AV.bool false } else { ok := false, val := AV.junk } else { ok := false, val := AV.junk } := by kernel_rfl
end Go.Proofs.Ytdncbcdnpmjpmaa
