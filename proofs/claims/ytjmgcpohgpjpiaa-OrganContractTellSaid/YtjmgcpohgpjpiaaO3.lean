/- Part of the proof, by an evaluator over plain values: O3. -/
import Derived.Test.YtjmgcpohgpjpiaaB2
import Derived.Test.YtjmgcpohgpjpiaaProg
import Derived.KernelRfl
set_option linter.all false
set_option linter.unusedVariables false
set_option linter.unusedSimpArgs false
open Go Go.Abs Go.Proofs
namespace Go.Proofs.Ytjmgcpohgpjpiaa
noncomputable def cxLTell (F : Nat) : Cx := { P := Try.prog, C := tb3b, K := tbK2c, mode := cxMd, fuel := F, live := liveTab [], pin := 0 }

def lTell_K : CK := CK.pair (CK.int IntKind.i64) (CK.pair (CK.int IntKind.i64) (CK.pair (CK.int IntKind.i64) (CK.pair (CK.slice 26 (CK.slice 3 (CK.int IntKind.i64))) (CK.pair (CK.slice 26 (CK.slice 3 (CK.int IntKind.i64))) (CK.pair (CK.slice 34 (CK.slice 4 CK.bool)) (CK.slice 3 (CK.int IntKind.i64)))))))
def lTell_sh : List (Option Nat) := [some 6, none]
def lTell_R : CK := CK.bool
def lTell_re : List (Option Nat) := [none]
theorem lTell_eq (F : Nat) (a0_0 : Int) (a0_1 : Int) (a0_2 : Int) (a0_3 : List (List Int)) (a0_4 : List (List Int)) (a0_5 : List (List Bool)) (a1 : List Int) : runF (cxLTell F) Try.f3 [AV.agg [AV.int IntKind.i64 a0_0, AV.int IntKind.i64 a0_1, AV.int IntKind.i64 a0_2, AV.ro (CK.slice 3 (CK.int IntKind.i64)) a0_3, AV.ro (CK.slice 3 (CK.int IntKind.i64)) a0_4, AV.ro (CK.slice 4 CK.bool) a0_5], AV.ro (CK.int IntKind.i64) a1] [] = bif tellOk (a0_0, a0_1, a0_2, a0_3, a0_4, a0_5, a1) then bif tellOk (a0_0, a0_1, a0_2, a0_3, a0_4, a0_5, a1) then bif decide (Prod.snd (Prod.snd (tellM (a0_0, a0_1, a0_2, a0_3, a0_4, a0_5, a1))) = Prod.snd (Prod.snd (tellM (a0_0, a0_1, a0_2, a0_3, a0_4, a0_5, a1)))) then bif decide (Prod.fst (Prod.snd (tellM (a0_0, a0_1, a0_2, a0_3, a0_4, a0_5, a1))) = Prod.fst (Prod.snd (tellM (a0_0, a0_1, a0_2, a0_3, a0_4, a0_5, a1)))) then bif sameIntsOk (Prod.fst (tellM (a0_0, a0_1, a0_2, a0_3, a0_4, a0_5, a1)), Prod.fst (tellM (a0_0, a0_1, a0_2, a0_3, a0_4, a0_5, a1))) then { ok := true, val := AV.bool (sameIntsM (Prod.fst (tellM (a0_0, a0_1, a0_2, a0_3, a0_4, a0_5, a1)), Prod.fst (tellM (a0_0, a0_1, a0_2, a0_3, a0_4, a0_5, a1)))) } else { ok := false, val := AV.junk } else { ok := true, val := AV.bool false } else { ok := true, val := AV.bool false } else { ok := false, val := AV.junk } else { ok := false, val := AV.junk } := by kernel_rfl
end Go.Proofs.Ytjmgcpohgpjpiaa
