/- What stands beside a cell on a side outside. -/
import Derived.Test.YtkecflbflcppkaaGreatDoorSK
import Derived.Test.YtkecflbflcppkaaGreatDoorProg
import Derived.KernelRfl
set_option linter.all false
set_option linter.unusedVariables false
set_option linter.unusedSimpArgs false
open Go Go.Abs Go.Proofs
set_option linter.unusedVariables false
namespace Go.Proofs.YtkecflbflcppkaaGreatDoor
noncomputable def tbSL : FuncId → List AV → List Blk → Res := tbSKB
noncomputable def tbKSL : KT := tbKSKB
theorem tabSL : Tab Tryz.prog tbSL cxMd tbKSL := tabSKB
noncomputable def cx_outerB (F : Nat) : Cx := { P := Tryz.prog, C := tbSL, K := tbKSL, mode := cxMd, fuel := F, live := liveTab [], pin := 0, nx := true }
def outerB_K : CK := CK.pair (CK.int IntKind.i64) (CK.pair (CK.int IntKind.i64) (CK.pair (CK.int IntKind.i64) (CK.pair (CK.slice 3 (CK.int IntKind.i64)) (CK.pair (CK.slice 66 (CK.pair (CK.int IntKind.i64) (CK.pair (CK.int IntKind.i64) (CK.pair (CK.int IntKind.i64) CK.bool)))) (CK.pair (CK.int IntKind.i64) (CK.pair (CK.slice 134 (CK.pair (CK.int IntKind.i64) (CK.pair (CK.int IntKind.i64) (CK.pair (CK.int IntKind.i64) (CK.pair (CK.int IntKind.i64) (CK.pair (CK.int IntKind.i64) (CK.int IntKind.i64))))))) (CK.pair (CK.int IntKind.i64) (CK.pair (CK.map true false (CK.pair (CK.int IntKind.i64) (CK.pair (CK.int IntKind.i64) (CK.int IntKind.i64))) (CK.int IntKind.i64)) (CK.pair (CK.int IntKind.i64) (CK.pair (CK.int IntKind.i64) (CK.pair (CK.int IntKind.i64) (CK.int IntKind.i64))))))))))))
def outerB_sh : List Sh := [.ref 9, .one, .one, .one, .one]
def outerB_R : CK := CK.pair (CK.int IntKind.i64) CK.bool
def outerB_re : List (Option Nat) := [none, none]
theorem outerB_eq (F : Nat) (a0 : Int) (a1 : Int) (a2 : Int) (a3 : List Int) (a4 : List (Int × Int × Int × Bool)) (a5 : Int) (a6 : List (Int × Int × Int × Int × Int × Int)) (a7 : Int) (a8 : List ((Int × Int × Int) × Int)) (a9 : Int) (a10 : Int) (a11 : Int) (a12 : Int) : runF (cx_outerB F) Tryz.f53 [AV.rptr [AV.int IntKind.i64 a0, AV.int IntKind.i64 a1, AV.int IntKind.i64 a2, AV.ro (CK.int IntKind.i64) a3, AV.ro (CK.pair (CK.int IntKind.i64) (CK.pair (CK.int IntKind.i64) (CK.pair (CK.int IntKind.i64) CK.bool))) a4, AV.int IntKind.i64 a5, AV.ro (CK.pair (CK.int IntKind.i64) (CK.pair (CK.int IntKind.i64) (CK.pair (CK.int IntKind.i64) (CK.pair (CK.int IntKind.i64) (CK.pair (CK.int IntKind.i64) (CK.int IntKind.i64)))))) a6, AV.int IntKind.i64 a7, AV.rmap true false (CK.pair (CK.int IntKind.i64) (CK.pair (CK.int IntKind.i64) (CK.int IntKind.i64))) (CK.int IntKind.i64) a8] 0, AV.int IntKind.i64 a9, AV.int IntKind.i64 a10, AV.int IntKind.i64 a11, AV.int IntKind.i64 a12] [] = bif !hasM (CK.pair (CK.int IntKind.i64) (CK.pair (CK.int IntKind.i64) (CK.int IntKind.i64))) a8 ((a9, a10, a11) : (Int × (Int × Int))) then { ok := true, val := AV.tup [AV.int IntKind.i64 0, AV.bool false] } else bif decide (getM (CK.pair (CK.int IntKind.i64) (CK.pair (CK.int IntKind.i64) (CK.int IntKind.i64))) 0 a8 ((a9, a10, a11) : (Int × (Int × Int))) ≥ 100) then bif decide (a11 < 0) then { ok := true, val := AV.tup [AV.int IntKind.i64 0, AV.bool true] } else bif decide (a11 > 3) then { ok := true, val := AV.tup [AV.int IntKind.i64 0, AV.bool true] } else { ok := true, val := AV.tup [AV.int IntKind.i64 (IntKind.wrap IntKind.i64 (9 + a11)), AV.bool true] } else bif decide (0 ≤ getM (CK.pair (CK.int IntKind.i64) (CK.pair (CK.int IntKind.i64) (CK.int IntKind.i64))) 0 a8 ((a9, a10, a11) : (Int × (Int × Int)))) then bif decide (Int.tmod (IntKind.wrap IntKind.i64 (a11 + 2)) 4 < 0) then { ok := true, val := AV.tup [AV.int IntKind.i64 0, AV.bool true] } else bif decide (Int.tmod (IntKind.wrap IntKind.i64 (a11 + 2)) 4 > 3) then { ok := true, val := AV.tup [AV.int IntKind.i64 0, AV.bool true] } else bif decide (andI IntKind.i64 (shrI IntKind.i64 a12 (getM (CK.pair (CK.int IntKind.i64) (CK.pair (CK.int IntKind.i64) (CK.int IntKind.i64))) 0 a8 ((a9, a10, a11) : (Int × (Int × Int))))) 1 = 1) then { ok := true, val := AV.tup [AV.int IntKind.i64 (IntKind.wrap IntKind.i64 (13 + Int.tmod (IntKind.wrap IntKind.i64 (a11 + 2)) 4)), AV.bool true] } else { ok := true, val := AV.tup [AV.int IntKind.i64 (IntKind.wrap IntKind.i64 (9 + Int.tmod (IntKind.wrap IntKind.i64 (a11 + 2)) 4)), AV.bool true] } else { ok := false, val := AV.junk } := by kernel_rfl
noncomputable def outerB_run (F : Nat) (x : CT outerB_K) : Res := runF (cx_outerB F) Tryz.f53 (groupS outerB_sh (enc outerB_K x)) []
theorem outerB_arg (F : Nat) (a0 : Int) (a1 : Int) (a2 : Int) (a3 : List Int) (a4 : List (Int × Int × Int × Bool)) (a5 : Int) (a6 : List (Int × Int × Int × Int × Int × Int)) (a7 : Int) (a8 : List ((Int × Int × Int) × Int)) (a9 : Int) (a10 : Int) (a11 : Int) (a12 : Int) : outerB_run F (a0, a1, a2, a3, a4, a5, a6, a7, a8, a9, a10, a11, a12) = runF (cx_outerB F) Tryz.f53 [AV.rptr [AV.int IntKind.i64 a0, AV.int IntKind.i64 a1, AV.int IntKind.i64 a2, AV.ro (CK.int IntKind.i64) a3, AV.ro (CK.pair (CK.int IntKind.i64) (CK.pair (CK.int IntKind.i64) (CK.pair (CK.int IntKind.i64) CK.bool))) a4, AV.int IntKind.i64 a5, AV.ro (CK.pair (CK.int IntKind.i64) (CK.pair (CK.int IntKind.i64) (CK.pair (CK.int IntKind.i64) (CK.pair (CK.int IntKind.i64) (CK.pair (CK.int IntKind.i64) (CK.int IntKind.i64)))))) a6, AV.int IntKind.i64 a7, AV.rmap true false (CK.pair (CK.int IntKind.i64) (CK.pair (CK.int IntKind.i64) (CK.int IntKind.i64))) (CK.int IntKind.i64) a8] 0, AV.int IntKind.i64 a9, AV.int IntKind.i64 a10, AV.int IntKind.i64 a11, AV.int IntKind.i64 a12] [] := by kernel_rfl
end Go.Proofs.YtkecflbflcppkaaGreatDoor

open Go Go.Abs Go.Proofs
set_option linter.unusedSimpArgs false
set_option linter.unusedVariables false
namespace Go.Proofs.YtkecflbflcppkaaGreatDoor
abbrev BZ := Int × Int × Int × List Int × List Mo × Int × List Six × Int × MM × Int × Int × Int × Int
theorem Ret.ib (k : IntKind) (a : Int) (b : Bool) : Ret [none, none] (.pair (.int k) .bool) ⟨true, .tup [.int k a, .bool b], []⟩ (a, b) :=
  ⟨rfl, rfl, rfl, rfl, by simp [roVs, valsOf, view, view1, flatA, cellsA, decOk, nth, isInt, isB, dropL, width], rfl, fun ws h => by cases h; simp⟩
def gM (m : MM) (x y d : Int) : Int := getM K3 (V := Int) 0 m ((x, y, d) : Int × Int × Int)
def hM (m : MM) (x y d : Int) : Bool := hasM K3 (V := Int) m ((x, y, d) : Int × Int × Int)
def outerBO (m : MM) (x y d word : Int) : Int × Bool :=
  bif !hM m x y d then (0, false) else bif decide (gM m x y d ≥ 100) then (ordinaryM d false, true) else (ordinaryM (Int.tmod (IntKind.wrap IntKind.i64 (d + 2)) 4) (bitM word (gM m x y d)), true)
def outerBOk : BZ → Bool := fun (_, _, _, _, _, _, _, _, m, x, y, d, _) => decide (0 ≤ gM m x y d)
def outerBM : BZ → Int × Bool := fun (_, _, _, _, _, _, _, _, m, x, y, d, word) => outerBO m x y d word
def outerBFu : BZ → Nat := fun _ => 1
theorem outerB_ret (z : BZ) (h : outerBOk z = true) : Ret outerB_re outerB_R (outerB_run (outerBFu z) z) (outerBM z) := by
  obtain ⟨k, w, hh, cells, ms, rk, rc, ins, m, x, y, d, word⟩ := z
  refine Ret.of (r' := ⟨true, .tup [.int .i64 (outerBO m x y d word).1, .bool (outerBO m x y d word).2], []⟩) ((outerB_arg ..).trans ((outerB_eq ..).trans ?_)) (Ret.ib _ _ _)
  have h' : decide (0 ≤ getM K3 (V := Int) 0 m ((x, y, d) : Int × Int × Int)) = true := h
  rw [h']
  simp only [outerBO, cond_true]
  show (bif !hM m x y d then _ else bif decide (gM m x y d ≥ 100) then _ else _) = _
  cases hM m x y d with
  | false => rfl
  | true =>
    cases decide (gM m x y d ≥ 100) with
    | true =>
      simp only [Bool.not_true, cond_true, cond_false, ordinaryM]
      cases decide (d < 0) <;> cases decide (d > 3) <;> rfl
    | false =>
      simp only [Bool.not_true, cond_true, cond_false, ordinaryM]
      show (bif decide (Int.tmod (IntKind.wrap IntKind.i64 (d + 2)) 4 < 0) then _ else bif decide (Int.tmod (IntKind.wrap IntKind.i64 (d + 2)) 4 > 3) then _ else bif bitM word (gM m x y d) then _ else _) = _
      cases decide (Int.tmod (IntKind.wrap IntKind.i64 (d + 2)) 4 < 0) <;> cases decide (Int.tmod (IntKind.wrap IntKind.i64 (d + 2)) 4 > 3) <;> cases bitM word (gM m x y d) <;> rfl
end Go.Proofs.YtkecflbflcppkaaGreatDoor

open Go Go.Abs Go.Proofs
set_option linter.unusedVariables false
namespace Go.Proofs.YtkecflbflcppkaaGreatDoor
noncomputable def tbSLL_1 : FuncId → List AV → List Blk → Res := addC 53 (tspecS outerB_sh outerB_K outerB_re outerB_R outerBOk outerBM) tbSL
theorem tabSLL_1 : Tab Tryz.prog tbSLL_1 cxMd tbKSL := Tab.addTyS (os := []) tabSL tabSL (KK := outerB_K) (R := outerB_R) (fn := Tryz.f53) (by kernel_rfl) (by kernel_rfl) (by kernel_rfl) (by kernel_rfl) _ outerBFu outerB_ret
noncomputable def tbSLB : FuncId → List AV → List Blk → Res := tbSLL_1
noncomputable def tbKSLB : KT := tbKSL
theorem tabSLB : Tab Tryz.prog tbSLB cxMd tbKSLB := tabSLL_1
end Go.Proofs.YtkecflbflcppkaaGreatDoor
