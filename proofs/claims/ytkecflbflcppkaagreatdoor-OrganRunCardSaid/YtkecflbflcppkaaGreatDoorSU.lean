/- The laws of Step and Run, of both, and of SameOrgan. -/
import Derived.Test.YtkecflbflcppkaaGreatDoorST
import Derived.Test.YtkecflbflcppkaaGreatDoorProg
import Derived.KernelRfl
import Derived.Test.YtkecflbflcppkaaGreatDoorSP3
set_option linter.all false
set_option linter.unusedVariables false
set_option linter.unusedSimpArgs false
open Go Go.Abs Go.Proofs
set_option linter.unusedVariables false
namespace Go.Proofs.YtkecflbflcppkaaGreatDoor
noncomputable def tbSU_1 : FuncId → List AV → List Blk → Res := addC 26 (inl Tryz.prog tbSTB cxMd tbKSTB Tryz.f26) tbSTB
noncomputable def tbKSU_1 : KT := addK 26 (inlK Tryz.prog tbSTB cxMd tbKSTB Tryz.f26) tbKSTB
theorem tabSU_1 : Tab Tryz.prog tbSU_1 cxMd tbKSU_1 := Tab.addInl tabSTB tabSTB (fn := Tryz.f26) (by kernel_rfl) (by kernel_rfl) (by kernel_rfl)
noncomputable def tbSU : FuncId → List AV → List Blk → Res := tbSU_1
noncomputable def tbKSU : KT := tbKSU_1
theorem tabSU : Tab Tryz.prog tbSU cxMd tbKSU := tabSU_1
noncomputable def cx_sameOrg (F : Nat) : Cx := { P := Tryz.prog, C := tbSU, K := tbKSU, mode := cxMd, fuel := F, live := liveTab [(4, [2, 3, 5])], pin := 0, nx := true }
noncomputable def cx_oStep (F : Nat) : Cx := { P := Tryz.prog, C := tbSU, K := tbKSU, mode := cxMd, fuel := F, live := liveTab [], pin := 0, nx := true }
noncomputable def cx_rRun (F : Nat) : Cx := { P := Tryz.prog, C := tbSU, K := tbKSU, mode := cxMd, fuel := F, live := liveTab [(13, [10, 1, 11, 12, 5])], pin := 0, nx := true }
noncomputable def cx_oRun (F : Nat) : Cx := { P := Tryz.prog, C := tbSU, K := tbKSU, mode := cxMd, fuel := F, live := liveTab [(9, [9, 34, 2, 33, 8, 35, 4, 5])], pin := 0, nx := true }
def sameOrg_K : CK := CK.pair (CK.int IntKind.i64) (CK.pair (CK.int IntKind.i64) (CK.pair (CK.int IntKind.i64) (CK.pair (CK.slice 3 (CK.int IntKind.i64)) (CK.pair (CK.slice 66 (CK.pair (CK.int IntKind.i64) (CK.pair (CK.int IntKind.i64) (CK.pair (CK.int IntKind.i64) CK.bool)))) (CK.pair (CK.int IntKind.i64) (CK.pair (CK.int IntKind.i64) (CK.pair (CK.int IntKind.i64) (CK.pair (CK.slice 3 (CK.int IntKind.i64)) (CK.slice 66 (CK.pair (CK.int IntKind.i64) (CK.pair (CK.int IntKind.i64) (CK.pair (CK.int IntKind.i64) CK.bool))))))))))))
def sameOrg_sh : List (Option Nat) := [some 5, some 5]
def sameOrg_R : CK := CK.bool
def sameOrg_re : List (Option Nat) := [none]
noncomputable def sameOrg_L0r (F : Nat) (n : Nat) (s5 : Int) (h0_0 : Int) (h0_1 : Int) (h0_2 : Int) (h0_3 : List Int) (h0_4 : List (Int × Int × Int × Bool)) (h1_0 : Int) (h1_1 : Int) (h1_2 : Int) (h1_3 : List Int) (h1_4 : List (Int × Int × Int × Bool)) : Res := Lp (cx_sameOrg F) (loopBy (loopsOf (cx_sameOrg F) (bodyOf Tryz.f9) (endK (cx_sameOrg F) Tryz.f9)) 4) n { T := fr 60 [(2, AV.ptr 0 0), (3, AV.ptr 1 0), (5, AV.int IntKind.i64 s5)], H := [Blk.cells [AV.int IntKind.i64 h0_0, AV.int IntKind.i64 h0_1, AV.int IntKind.i64 h0_2, AV.ro (CK.int IntKind.i64) h0_3, AV.ro (CK.pair (CK.int IntKind.i64) (CK.pair (CK.int IntKind.i64) (CK.pair (CK.int IntKind.i64) CK.bool))) h0_4], Blk.cells [AV.int IntKind.i64 h1_0, AV.int IntKind.i64 h1_1, AV.int IntKind.i64 h1_2, AV.ro (CK.int IntKind.i64) h1_3, AV.ro (CK.pair (CK.int IntKind.i64) (CK.pair (CK.int IntKind.i64) (CK.pair (CK.int IntKind.i64) CK.bool))) h1_4]], ok := true }
noncomputable def sameOrg_L0 : Nat → Nat → Int → Int → Int → Int → List Int → List (Int × Int × Int × Bool) → Int → Int → Int → List Int → List (Int × Int × Int × Bool) → Res := Classical.choose (hideE sameOrg_L0r)
theorem sameOrg_L0_def : sameOrg_L0 = sameOrg_L0r := Classical.choose_spec (hideE sameOrg_L0r)
theorem sameOrg_L0_succ (F : Nat) (n : Nat) (s5 : Int) (h0_0 : Int) (h0_1 : Int) (h0_2 : Int) (h0_3 : List Int) (h0_4 : List (Int × Int × Int × Bool)) (h1_0 : Int) (h1_1 : Int) (h1_2 : Int) (h1_3 : List Int) (h1_4 : List (Int × Int × Int × Bool)) : sameOrg_L0 F (n + 1) s5 h0_0 h0_1 h0_2 h0_3 h0_4 h1_0 h1_1 h1_2 h1_3 h1_4 = bif decide (s5 < (↑(List.length h0_4) : Int)) then bif decide (0 ≤ s5) && decide (s5 < (↑(List.length h0_4) : Int)) then bif decide (0 ≤ s5) && decide (s5 < (↑(List.length h1_4) : Int)) then bif !(decide (Prod.fst (nth (0, 0, 0, false) h0_4 (Int.toNat s5)) = Prod.fst (nth (0, 0, 0, false) h1_4 (Int.toNat s5))) && (decide (Prod.fst (Prod.snd (nth (0, 0, 0, false) h0_4 (Int.toNat s5))) = Prod.fst (Prod.snd (nth (0, 0, 0, false) h1_4 (Int.toNat s5)))) && (decide (Prod.fst (Prod.snd (Prod.snd (nth (0, 0, 0, false) h0_4 (Int.toNat s5)))) = Prod.fst (Prod.snd (Prod.snd (nth (0, 0, 0, false) h1_4 (Int.toNat s5))))) && (decide (Prod.snd (Prod.snd (Prod.snd (nth (0, 0, 0, false) h0_4 (Int.toNat s5)))) = Prod.snd (Prod.snd (Prod.snd (nth (0, 0, 0, false) h1_4 (Int.toNat s5))))) && true)))) then { ok := true, val := AV.bool false } else sameOrg_L0 F n (IntKind.wrap IntKind.i64 (s5 + 1)) h0_0 h0_1 h0_2 h0_3 h0_4 h1_0 h1_1 h1_2 h1_3 h1_4 else { ok := false, val := AV.junk } else { ok := false, val := AV.junk } else { ok := true, val := AV.bool true } := by rewrite [sameOrg_L0_def]; kernel_rfl
theorem sameOrg_eq (F : Nat) (a0_0 : Int) (a0_1 : Int) (a0_2 : Int) (a0_3 : List Int) (a0_4 : List (Int × Int × Int × Bool)) (a1_0 : Int) (a1_1 : Int) (a1_2 : Int) (a1_3 : List Int) (a1_4 : List (Int × Int × Int × Bool)) : runF (cx_sameOrg F) Tryz.f9 [AV.agg [AV.int IntKind.i64 a0_0, AV.int IntKind.i64 a0_1, AV.int IntKind.i64 a0_2, AV.ro (CK.int IntKind.i64) a0_3, AV.ro (CK.pair (CK.int IntKind.i64) (CK.pair (CK.int IntKind.i64) (CK.pair (CK.int IntKind.i64) CK.bool))) a0_4], AV.agg [AV.int IntKind.i64 a1_0, AV.int IntKind.i64 a1_1, AV.int IntKind.i64 a1_2, AV.ro (CK.int IntKind.i64) a1_3, AV.ro (CK.pair (CK.int IntKind.i64) (CK.pair (CK.int IntKind.i64) (CK.pair (CK.int IntKind.i64) CK.bool))) a1_4]] [] = bif a0_0 != a1_0 then { ok := true, val := AV.bool false } else bif a0_1 != a1_1 then { ok := true, val := AV.bool false } else bif a0_2 != a1_2 then { ok := true, val := AV.bool false } else bif sameIntsOk (a0_3, a1_3) then bif !sameIntsM (a0_3, a1_3) then { ok := true, val := AV.bool false } else bif (↑(List.length a0_4) : Int) != (↑(List.length a1_4) : Int) then { ok := true, val := AV.bool false } else sameOrg_L0 F F 0 a0_0 a0_1 a0_2 a0_3 a0_4 a1_0 a1_1 a1_2 a1_3 a1_4 else { ok := false, val := AV.junk } := by rewrite [sameOrg_L0_def]; kernel_rfl
noncomputable def sameOrg_run (F : Nat) (x : CT sameOrg_K) : Res := runF (cx_sameOrg F) Tryz.f9 (groupA sameOrg_sh (enc sameOrg_K x)) []
theorem sameOrg_arg (F : Nat) (a0_0 : Int) (a0_1 : Int) (a0_2 : Int) (a0_3 : List Int) (a0_4 : List (Int × Int × Int × Bool)) (a1_0 : Int) (a1_1 : Int) (a1_2 : Int) (a1_3 : List Int) (a1_4 : List (Int × Int × Int × Bool)) : sameOrg_run F (a0_0, a0_1, a0_2, a0_3, a0_4, a1_0, a1_1, a1_2, a1_3, a1_4) = runF (cx_sameOrg F) Tryz.f9 [AV.agg [AV.int IntKind.i64 a0_0, AV.int IntKind.i64 a0_1, AV.int IntKind.i64 a0_2, AV.ro (CK.int IntKind.i64) a0_3, AV.ro (CK.pair (CK.int IntKind.i64) (CK.pair (CK.int IntKind.i64) (CK.pair (CK.int IntKind.i64) CK.bool))) a0_4], AV.agg [AV.int IntKind.i64 a1_0, AV.int IntKind.i64 a1_1, AV.int IntKind.i64 a1_2, AV.ro (CK.int IntKind.i64) a1_3, AV.ro (CK.pair (CK.int IntKind.i64) (CK.pair (CK.int IntKind.i64) (CK.pair (CK.int IntKind.i64) CK.bool))) a1_4]] [] := by kernel_rfl
def oStep_K : CK := CK.pair (CK.int IntKind.i64) (CK.pair (CK.int IntKind.i64) (CK.pair (CK.int IntKind.i64) (CK.pair (CK.slice 3 (CK.int IntKind.i64)) (CK.pair (CK.slice 66 (CK.pair (CK.int IntKind.i64) (CK.pair (CK.int IntKind.i64) (CK.pair (CK.int IntKind.i64) CK.bool)))) (CK.int IntKind.i64)))))
def oStep_sh : List (Option Nat) := [some 5, none]
def oStep_R : CK := CK.pair (CK.int IntKind.i64) (CK.pair (CK.int IntKind.i64) (CK.pair (CK.int IntKind.i64) (CK.pair (CK.slice 3 (CK.int IntKind.i64)) (CK.pair (CK.slice 66 (CK.pair (CK.int IntKind.i64) (CK.pair (CK.int IntKind.i64) (CK.pair (CK.int IntKind.i64) CK.bool)))) (CK.pair (CK.int IntKind.i64) (CK.int IntKind.i64))))))
def oStep_re : List (Option Nat) := [some 5, none, none]
theorem oStep_eq (F : Nat) (a0_0 : Int) (a0_1 : Int) (a0_2 : Int) (a0_3 : List Int) (a0_4 : List (Int × Int × Int × Bool)) (a1 : Int) : runF (cx_oStep F) Tryz.f8 [AV.agg [AV.int IntKind.i64 a0_0, AV.int IntKind.i64 a0_1, AV.int IntKind.i64 a0_2, AV.ro (CK.int IntKind.i64) a0_3, AV.ro (CK.pair (CK.int IntKind.i64) (CK.pair (CK.int IntKind.i64) (CK.pair (CK.int IntKind.i64) CK.bool))) a0_4], AV.int IntKind.i64 a1] [] = bif oVOk (a0_0, a0_1, a0_2, a0_3, a0_4) then bif oVM (a0_0, a0_1, a0_2, a0_3, a0_4) != 0 then { ok := true, val := AV.tup [AV.agg [AV.int IntKind.i64 0, AV.int IntKind.i64 0, AV.int IntKind.i64 0, AV.sl 0 0 0 none, AV.sl 1 0 0 none], AV.int IntKind.i64 0, AV.int IntKind.i64 (oVM (a0_0, a0_1, a0_2, a0_3, a0_4))], heap := [Blk.row 0 3 (CK.int IntKind.i64) [], Blk.row 0 66 (CK.pair (CK.int IntKind.i64) (CK.pair (CK.int IntKind.i64) (CK.pair (CK.int IntKind.i64) CK.bool))) []] } else bif newBodyOk (a0_0, a0_1, a0_2, a0_3, a0_4) then bif decide (a1 < 0) then { ok := true, val := AV.tup [AV.agg [AV.int IntKind.i64 0, AV.int IntKind.i64 0, AV.int IntKind.i64 0, AV.sl 0 0 0 none, AV.sl 1 0 0 none], AV.int IntKind.i64 0, AV.int IntKind.i64 52], heap := [Blk.row 0 3 (CK.int IntKind.i64) [], Blk.row 0 66 (CK.pair (CK.int IntKind.i64) (CK.pair (CK.int IntKind.i64) (CK.pair (CK.int IntKind.i64) CK.bool))) []] } else bif decide (0 ≤ (↑(cntI a0_4) : Int)) then bif decide (a1 ≥ shlI IntKind.i64 1 (↑(cntI a0_4) : Int)) then { ok := true, val := AV.tup [AV.agg [AV.int IntKind.i64 0, AV.int IntKind.i64 0, AV.int IntKind.i64 0, AV.sl 0 0 0 none, AV.sl 1 0 0 none], AV.int IntKind.i64 0, AV.int IntKind.i64 52], heap := [Blk.row 0 3 (CK.int IntKind.i64) [], Blk.row 0 66 (CK.pair (CK.int IntKind.i64) (CK.pair (CK.int IntKind.i64) (CK.pair (CK.int IntKind.i64) CK.bool))) []] } else bif Res.ok (stepSpec [AV.ptr 0 0, AV.ro (CK.int IntKind.i64) a0_3, AV.int IntKind.i64 a1] [Blk.cells [AV.int IntKind.i64 a0_0, AV.int IntKind.i64 a0_1, AV.int IntKind.i64 a0_2, AV.ro (CK.int IntKind.i64) a0_3, AV.ro (CK.pair (CK.int IntKind.i64) (CK.pair (CK.int IntKind.i64) (CK.pair (CK.int IntKind.i64) CK.bool))) a0_4, AV.int IntKind.i64 a0_0, AV.nils, AV.int IntKind.i64 (↑(cntI a0_4) : Int), AV.mp 1], Blk.map true false (CK.pair (CK.int IntKind.i64) (CK.pair (CK.int IntKind.i64) (CK.int IntKind.i64))) (CK.int IntKind.i64) (bodyMap a0_4 0 0 [])]) then bif Prod.snd (Prod.snd (stepM (zOf [Blk.cells [AV.int IntKind.i64 a0_0, AV.int IntKind.i64 a0_1, AV.int IntKind.i64 a0_2, AV.ro (CK.int IntKind.i64) a0_3, AV.ro (CK.pair (CK.int IntKind.i64) (CK.pair (CK.int IntKind.i64) (CK.pair (CK.int IntKind.i64) CK.bool))) a0_4, AV.int IntKind.i64 a0_0, AV.nils, AV.int IntKind.i64 (↑(cntI a0_4) : Int), AV.mp 1], Blk.map true false (CK.pair (CK.int IntKind.i64) (CK.pair (CK.int IntKind.i64) (CK.int IntKind.i64))) (CK.int IntKind.i64) (bodyMap a0_4 0 0 [])] a0_3 a1))) then { ok := true, val := AV.tup [AV.agg [AV.int IntKind.i64 0, AV.int IntKind.i64 0, AV.int IntKind.i64 0, AV.sl 0 0 0 none, AV.sl 1 0 0 none], AV.int IntKind.i64 0, AV.int IntKind.i64 53], heap := [Blk.row 0 3 (CK.int IntKind.i64) [], Blk.row 0 66 (CK.pair (CK.int IntKind.i64) (CK.pair (CK.int IntKind.i64) (CK.pair (CK.int IntKind.i64) CK.bool))) []] } else bif decide (Nat.mul (List.length (Prod.fst (stepM (zOf [Blk.cells [AV.int IntKind.i64 a0_0, AV.int IntKind.i64 a0_1, AV.int IntKind.i64 a0_2, AV.ro (CK.int IntKind.i64) a0_3, AV.ro (CK.pair (CK.int IntKind.i64) (CK.pair (CK.int IntKind.i64) (CK.pair (CK.int IntKind.i64) CK.bool))) a0_4, AV.int IntKind.i64 a0_0, AV.nils, AV.int IntKind.i64 (↑(cntI a0_4) : Int), AV.mp 1], Blk.map true false (CK.pair (CK.int IntKind.i64) (CK.pair (CK.int IntKind.i64) (CK.int IntKind.i64))) (CK.int IntKind.i64) (bodyMap a0_4 0 0 [])] a0_3 a1)))) 8 ≤ 140737488355328) then bif decide (Nat.mul (List.length a0_4) 32 ≤ 140737488355328) then { ok := true, val := AV.tup [AV.agg [AV.int IntKind.i64 a0_0, AV.int IntKind.i64 a0_1, AV.int IntKind.i64 a0_2, AV.sl 0 0 0 none, AV.sl 1 0 0 none], AV.int IntKind.i64 (Prod.fst (Prod.snd (stepM (zOf [Blk.cells [AV.int IntKind.i64 a0_0, AV.int IntKind.i64 a0_1, AV.int IntKind.i64 a0_2, AV.ro (CK.int IntKind.i64) a0_3, AV.ro (CK.pair (CK.int IntKind.i64) (CK.pair (CK.int IntKind.i64) (CK.pair (CK.int IntKind.i64) CK.bool))) a0_4, AV.int IntKind.i64 a0_0, AV.nils, AV.int IntKind.i64 (↑(cntI a0_4) : Int), AV.mp 1], Blk.map true false (CK.pair (CK.int IntKind.i64) (CK.pair (CK.int IntKind.i64) (CK.int IntKind.i64))) (CK.int IntKind.i64) (bodyMap a0_4 0 0 [])] a0_3 a1)))), AV.int IntKind.i64 0], heap := [Blk.row 0 3 (CK.int IntKind.i64) (Prod.fst (stepM (zOf [Blk.cells [AV.int IntKind.i64 a0_0, AV.int IntKind.i64 a0_1, AV.int IntKind.i64 a0_2, AV.ro (CK.int IntKind.i64) a0_3, AV.ro (CK.pair (CK.int IntKind.i64) (CK.pair (CK.int IntKind.i64) (CK.pair (CK.int IntKind.i64) CK.bool))) a0_4, AV.int IntKind.i64 a0_0, AV.nils, AV.int IntKind.i64 (↑(cntI a0_4) : Int), AV.mp 1], Blk.map true false (CK.pair (CK.int IntKind.i64) (CK.pair (CK.int IntKind.i64) (CK.int IntKind.i64))) (CK.int IntKind.i64) (bodyMap a0_4 0 0 [])] a0_3 a1))), Blk.row 0 66 (CK.pair (CK.int IntKind.i64) (CK.pair (CK.int IntKind.i64) (CK.pair (CK.int IntKind.i64) CK.bool))) a0_4] } else { ok := false, val := AV.junk } else { ok := false, val := AV.junk } else { ok := false, val := AV.junk } else { ok := false, val := AV.junk } else { ok := false, val := AV.junk } else { ok := false, val := AV.junk } := by kernel_rfl
noncomputable def oStep_run (F : Nat) (x : CT oStep_K) : Res := runF (cx_oStep F) Tryz.f8 (groupA oStep_sh (enc oStep_K x)) []
theorem oStep_arg (F : Nat) (a0_0 : Int) (a0_1 : Int) (a0_2 : Int) (a0_3 : List Int) (a0_4 : List (Int × Int × Int × Bool)) (a1 : Int) : oStep_run F (a0_0, a0_1, a0_2, a0_3, a0_4, a1) = runF (cx_oStep F) Tryz.f8 [AV.agg [AV.int IntKind.i64 a0_0, AV.int IntKind.i64 a0_1, AV.int IntKind.i64 a0_2, AV.ro (CK.int IntKind.i64) a0_3, AV.ro (CK.pair (CK.int IntKind.i64) (CK.pair (CK.int IntKind.i64) (CK.pair (CK.int IntKind.i64) CK.bool))) a0_4], AV.int IntKind.i64 a1] [] := by kernel_rfl
def rRun_K : CK := CK.pair (CK.int IntKind.i64) (CK.pair (CK.int IntKind.i64) (CK.pair (CK.int IntKind.i64) (CK.pair (CK.slice 3 (CK.int IntKind.i64)) (CK.pair (CK.slice 66 (CK.pair (CK.int IntKind.i64) (CK.pair (CK.int IntKind.i64) (CK.pair (CK.int IntKind.i64) CK.bool)))) (CK.slice 3 (CK.int IntKind.i64))))))
def rRun_sh : List (Option Nat) := [some 5, none]
def rRun_R : CK := CK.pair (CK.slice 3 (CK.int IntKind.i64)) (CK.pair (CK.int IntKind.i64) (CK.pair (CK.int IntKind.i64) (CK.pair (CK.int IntKind.i64) (CK.pair (CK.slice 3 (CK.int IntKind.i64)) (CK.pair (CK.slice 66 (CK.pair (CK.int IntKind.i64) (CK.pair (CK.int IntKind.i64) (CK.pair (CK.int IntKind.i64) CK.bool)))) (CK.int IntKind.i64))))))
def rRun_re : List (Option Nat) := [none, some 5, none]
noncomputable def rRun_L0r (F : Nat) (n : Nat) (s1 : List Int) (s12 : Int) (h0_0 : Int) (h0_1 : Int) (h0_2 : Int) (h1 : List Int) (h2_0 : Int) (h2_1 : Int) (h2_2 : Int) (h3 : List Int) (h4 : List (Int × Int × Int × Bool)) (h5 : List Int) (h6 : List (Int × Int × Int × Bool)) : Res := Lp (cx_rRun F) (loopBy (loopsOf (cx_rRun F) (bodyOf Tryz.f10) (endK (cx_rRun F) Tryz.f10)) 13) n { T := fr 71 [(1, AV.ro (CK.int IntKind.i64) s1), (5, AV.ptr 0 0), (10, AV.sl 1 0 0 none), (11, AV.ptr 2 0), (12, AV.int IntKind.i64 s12)], H := [Blk.cells [AV.int IntKind.i64 h0_0, AV.int IntKind.i64 h0_1, AV.int IntKind.i64 h0_2, AV.sl 3 0 0 none, AV.sl 4 0 0 none], Blk.row 0 3 (CK.int IntKind.i64) h1, Blk.cells [AV.int IntKind.i64 h2_0, AV.int IntKind.i64 h2_1, AV.int IntKind.i64 h2_2, AV.sl 5 0 0 none, AV.sl 6 0 0 none], Blk.row 0 3 (CK.int IntKind.i64) h3, Blk.row 0 66 (CK.pair (CK.int IntKind.i64) (CK.pair (CK.int IntKind.i64) (CK.pair (CK.int IntKind.i64) CK.bool))) h4, Blk.row 0 3 (CK.int IntKind.i64) h5, Blk.row 0 66 (CK.pair (CK.int IntKind.i64) (CK.pair (CK.int IntKind.i64) (CK.pair (CK.int IntKind.i64) CK.bool))) h6], ok := true }
noncomputable def rRun_L0 : Nat → Nat → List Int → Int → Int → Int → Int → List Int → Int → Int → Int → List Int → List (Int × Int × Int × Bool) → List Int → List (Int × Int × Int × Bool) → Res := Classical.choose (hideE rRun_L0r)
theorem rRun_L0_def : rRun_L0 = rRun_L0r := Classical.choose_spec (hideE rRun_L0r)
theorem rRun_L0_succ (F : Nat) (n : Nat) (s1 : List Int) (s12 : Int) (h0_0 : Int) (h0_1 : Int) (h0_2 : Int) (h1 : List Int) (h2_0 : Int) (h2_1 : Int) (h2_2 : Int) (h3 : List Int) (h4 : List (Int × Int × Int × Bool)) (h5 : List Int) (h6 : List (Int × Int × Int × Bool)) : rRun_L0 F (n + 1) s1 s12 h0_0 h0_1 h0_2 h1 h2_0 h2_1 h2_2 h3 h4 h5 h6 = bif decide (s12 < (↑(List.length s1) : Int)) then bif saysOk (h2_0, h2_1, h2_2, h5, h6) then bif Nat.ble 0 (List.length h1) && decide (Nat.mul (Nat.add (List.length h1) 1) 8 ≤ 140737488355328) then bif decide (0 ≤ s12) && decide (s12 < (↑(List.length s1) : Int)) then bif steppedOk (h2_0, h2_1, h2_2, h5, h6, nth 0 s1 (Int.toNat s12)) then bif !Prod.snd (Prod.snd (Prod.snd (Prod.snd (Prod.snd (steppedM (h2_0, h2_1, h2_2, h5, h6, nth 0 s1 (Int.toNat s12))))))) then { ok := true, val := AV.tup [AV.sl 0 0 0 none, AV.agg [AV.int IntKind.i64 0, AV.int IntKind.i64 0, AV.int IntKind.i64 0, AV.sl 1 0 0 none, AV.sl 2 0 0 none], AV.int IntKind.i64 53], heap := [Blk.row 0 3 (CK.int IntKind.i64) [], Blk.row 0 3 (CK.int IntKind.i64) [], Blk.row 0 66 (CK.pair (CK.int IntKind.i64) (CK.pair (CK.int IntKind.i64) (CK.pair (CK.int IntKind.i64) CK.bool))) []] } else rRun_L0 F n s1 (IntKind.wrap IntKind.i64 (s12 + 1)) h0_0 h0_1 h0_2 (h1 ++ [saysM (h2_0, h2_1, h2_2, h5, h6)]) (Prod.fst (steppedM (h2_0, h2_1, h2_2, h5, h6, nth 0 s1 (Int.toNat s12)))) (Prod.fst (Prod.snd (steppedM (h2_0, h2_1, h2_2, h5, h6, nth 0 s1 (Int.toNat s12))))) (Prod.fst (Prod.snd (Prod.snd (steppedM (h2_0, h2_1, h2_2, h5, h6, nth 0 s1 (Int.toNat s12)))))) h3 h4 (Prod.fst (Prod.snd (Prod.snd (Prod.snd (steppedM (h2_0, h2_1, h2_2, h5, h6, nth 0 s1 (Int.toNat s12))))))) (Prod.fst (Prod.snd (Prod.snd (Prod.snd (Prod.snd (steppedM (h2_0, h2_1, h2_2, h5, h6, nth 0 s1 (Int.toNat s12)))))))) else { ok := false, val := AV.junk } else { ok := false, val := AV.junk } else { ok := false, val := AV.junk } else { ok := false, val := AV.junk } else { ok := true, val := AV.tup [AV.sl 0 0 0 none, AV.agg [AV.int IntKind.i64 h2_0, AV.int IntKind.i64 h2_1, AV.int IntKind.i64 h2_2, AV.sl 1 0 0 none, AV.sl 2 0 0 none], AV.int IntKind.i64 0], heap := [Blk.row 0 3 (CK.int IntKind.i64) h1, Blk.row 0 3 (CK.int IntKind.i64) h5, Blk.row 0 66 (CK.pair (CK.int IntKind.i64) (CK.pair (CK.int IntKind.i64) (CK.pair (CK.int IntKind.i64) CK.bool))) h6] } := by rewrite [rRun_L0_def]; kernel_rfl
theorem rRun_eq (F : Nat) (a0_0 : Int) (a0_1 : Int) (a0_2 : Int) (a0_3 : List Int) (a0_4 : List (Int × Int × Int × Bool)) (a1 : List Int) : runF (cx_rRun F) Tryz.f10 [AV.agg [AV.int IntKind.i64 a0_0, AV.int IntKind.i64 a0_1, AV.int IntKind.i64 a0_2, AV.ro (CK.int IntKind.i64) a0_3, AV.ro (CK.pair (CK.int IntKind.i64) (CK.pair (CK.int IntKind.i64) (CK.pair (CK.int IntKind.i64) CK.bool))) a0_4], AV.ro (CK.int IntKind.i64) a1] [] = bif rVOk (a0_0, a0_1, a0_2, a0_3, a0_4) then bif rVM (a0_0, a0_1, a0_2, a0_3, a0_4) != 0 then { ok := true, val := AV.tup [AV.sl 0 0 0 none, AV.agg [AV.int IntKind.i64 0, AV.int IntKind.i64 0, AV.int IntKind.i64 0, AV.sl 1 0 0 none, AV.sl 2 0 0 none], AV.int IntKind.i64 (rVM (a0_0, a0_1, a0_2, a0_3, a0_4))], heap := [Blk.row 0 3 (CK.int IntKind.i64) [], Blk.row 0 3 (CK.int IntKind.i64) [], Blk.row 0 66 (CK.pair (CK.int IntKind.i64) (CK.pair (CK.int IntKind.i64) (CK.pair (CK.int IntKind.i64) CK.bool))) []] } else bif mouthsOk (a0_0, a0_1, a0_2, a0_3, a0_4) then bif rStreamOk (a1, Prod.fst (mouthsM (a0_0, a0_1, a0_2, a0_3, a0_4))) then bif rStreamM (a1, Prod.fst (mouthsM (a0_0, a0_1, a0_2, a0_3, a0_4))) != 0 then { ok := true, val := AV.tup [AV.sl 0 0 0 none, AV.agg [AV.int IntKind.i64 0, AV.int IntKind.i64 0, AV.int IntKind.i64 0, AV.sl 1 0 0 none, AV.sl 2 0 0 none], AV.int IntKind.i64 (rStreamM (a1, Prod.fst (mouthsM (a0_0, a0_1, a0_2, a0_3, a0_4))))], heap := [Blk.row 0 3 (CK.int IntKind.i64) [], Blk.row 0 3 (CK.int IntKind.i64) [], Blk.row 0 66 (CK.pair (CK.int IntKind.i64) (CK.pair (CK.int IntKind.i64) (CK.pair (CK.int IntKind.i64) CK.bool))) []] } else bif decide (Nat.mul (Nat.add 0 (List.length a0_3)) 8 ≤ 140737488355328) then bif decide (Nat.mul (Nat.add 0 (List.length a0_4)) 32 ≤ 140737488355328) then rRun_L0 F F a1 0 0 0 0 [] a0_0 a0_1 a0_2 [] [] a0_3 a0_4 else { ok := false, val := AV.junk } else { ok := false, val := AV.junk } else { ok := false, val := AV.junk } else { ok := false, val := AV.junk } else { ok := false, val := AV.junk } := by rewrite [rRun_L0_def]; kernel_rfl
noncomputable def rRun_run (F : Nat) (x : CT rRun_K) : Res := runF (cx_rRun F) Tryz.f10 (groupA rRun_sh (enc rRun_K x)) []
theorem rRun_arg (F : Nat) (a0_0 : Int) (a0_1 : Int) (a0_2 : Int) (a0_3 : List Int) (a0_4 : List (Int × Int × Int × Bool)) (a1 : List Int) : rRun_run F (a0_0, a0_1, a0_2, a0_3, a0_4, a1) = runF (cx_rRun F) Tryz.f10 [AV.agg [AV.int IntKind.i64 a0_0, AV.int IntKind.i64 a0_1, AV.int IntKind.i64 a0_2, AV.ro (CK.int IntKind.i64) a0_3, AV.ro (CK.pair (CK.int IntKind.i64) (CK.pair (CK.int IntKind.i64) (CK.pair (CK.int IntKind.i64) CK.bool))) a0_4], AV.ro (CK.int IntKind.i64) a1] [] := by kernel_rfl
def oRun_K : CK := CK.pair (CK.int IntKind.i64) (CK.pair (CK.int IntKind.i64) (CK.pair (CK.int IntKind.i64) (CK.pair (CK.slice 3 (CK.int IntKind.i64)) (CK.pair (CK.slice 66 (CK.pair (CK.int IntKind.i64) (CK.pair (CK.int IntKind.i64) (CK.pair (CK.int IntKind.i64) CK.bool)))) (CK.slice 3 (CK.int IntKind.i64))))))
def oRun_sh : List (Option Nat) := [some 5, none]
def oRun_R : CK := CK.pair (CK.slice 3 (CK.int IntKind.i64)) (CK.pair (CK.int IntKind.i64) (CK.pair (CK.int IntKind.i64) (CK.pair (CK.int IntKind.i64) (CK.pair (CK.slice 3 (CK.int IntKind.i64)) (CK.pair (CK.slice 66 (CK.pair (CK.int IntKind.i64) (CK.pair (CK.int IntKind.i64) (CK.pair (CK.int IntKind.i64) CK.bool)))) (CK.int IntKind.i64))))))
def oRun_re : List (Option Nat) := [none, some 5, none]
noncomputable def oRun_L0r (F : Nat) (n : Nat) (s9 : List Int) (s33 : List Int) (s34 : Int) (s35 : Int) (h0_0 : Int) (h0_1 : Int) (h0_2 : Int) (h0_3 : List Int) (h0_4 : List (Int × Int × Int × Bool)) (h1 : List Int) (h2_0 : Int) (h2_1 : Int) (h2_2 : Int) (h3_0 : Int) (h3_1 : Int) (h3_2 : Int) (h3_3 : List Int) (h3_4 : List (Int × Int × Int × Bool)) (h3_5 : Int) (h3_7 : Int) (h4 : List Int) (h5 : List (Int × Int × Int × Bool)) (h6 : List ((Int × Int × Int) × Int)) : Res := Lp (cx_oRun F) (loopBy (loopsOf (cx_oRun F) (bodyOf Tryz.f11) (endK (cx_oRun F) Tryz.f11)) 9) n { T := fr 59 [(2, AV.ptr 0 0), (4, AV.sl 1 0 0 none), (5, AV.ptr 2 0), (8, AV.ptr 3 0), (9, AV.ro (CK.int IntKind.i64) s9), (33, AV.ro (CK.int IntKind.i64) s33), (34, AV.int IntKind.i64 s34), (35, AV.int IntKind.i64 s35)], H := [Blk.cells [AV.int IntKind.i64 h0_0, AV.int IntKind.i64 h0_1, AV.int IntKind.i64 h0_2, AV.ro (CK.int IntKind.i64) h0_3, AV.ro (CK.pair (CK.int IntKind.i64) (CK.pair (CK.int IntKind.i64) (CK.pair (CK.int IntKind.i64) CK.bool))) h0_4], Blk.row 0 3 (CK.int IntKind.i64) h1, Blk.cells [AV.int IntKind.i64 h2_0, AV.int IntKind.i64 h2_1, AV.int IntKind.i64 h2_2, AV.sl 4 0 0 none, AV.sl 5 0 0 none], Blk.cells [AV.int IntKind.i64 h3_0, AV.int IntKind.i64 h3_1, AV.int IntKind.i64 h3_2, AV.ro (CK.int IntKind.i64) h3_3, AV.ro (CK.pair (CK.int IntKind.i64) (CK.pair (CK.int IntKind.i64) (CK.pair (CK.int IntKind.i64) CK.bool))) h3_4, AV.int IntKind.i64 h3_5, AV.nils, AV.int IntKind.i64 h3_7, AV.mp 6], Blk.row 0 3 (CK.int IntKind.i64) h4, Blk.row 0 66 (CK.pair (CK.int IntKind.i64) (CK.pair (CK.int IntKind.i64) (CK.pair (CK.int IntKind.i64) CK.bool))) h5, Blk.map true false (CK.pair (CK.int IntKind.i64) (CK.pair (CK.int IntKind.i64) (CK.int IntKind.i64))) (CK.int IntKind.i64) h6], ok := true }
noncomputable def oRun_L0 : Nat → Nat → List Int → List Int → Int → Int → Int → Int → Int → List Int → List (Int × Int × Int × Bool) → List Int → Int → Int → Int → Int → Int → Int → List Int → List (Int × Int × Int × Bool) → Int → Int → List Int → List (Int × Int × Int × Bool) → List ((Int × Int × Int) × Int) → Res := Classical.choose (hideE oRun_L0r)
theorem oRun_L0_def : oRun_L0 = oRun_L0r := Classical.choose_spec (hideE oRun_L0r)
theorem oRun_L0_succ (F : Nat) (n : Nat) (s9 : List Int) (s33 : List Int) (s34 : Int) (s35 : Int) (h0_0 : Int) (h0_1 : Int) (h0_2 : Int) (h0_3 : List Int) (h0_4 : List (Int × Int × Int × Bool)) (h1 : List Int) (h2_0 : Int) (h2_1 : Int) (h2_2 : Int) (h3_0 : Int) (h3_1 : Int) (h3_2 : Int) (h3_3 : List Int) (h3_4 : List (Int × Int × Int × Bool)) (h3_5 : Int) (h3_7 : Int) (h4 : List Int) (h5 : List (Int × Int × Int × Bool)) (h6 : List ((Int × Int × Int) × Int)) : oRun_L0 F (n + 1) s9 s33 s34 s35 h0_0 h0_1 h0_2 h0_3 h0_4 h1 h2_0 h2_1 h2_2 h3_0 h3_1 h3_2 h3_3 h3_4 h3_5 h3_7 h4 h5 h6 = bif decide (s35 < s34) then bif decide (0 ≤ s35) && decide (s35 < (↑(List.length s33) : Int)) then bif Res.ok (stepSpec [AV.ptr 0 0, AV.ro (CK.int IntKind.i64) s9, AV.int IntKind.i64 (nth 0 s33 (Int.toNat s35))] [Blk.cells [AV.int IntKind.i64 h3_0, AV.int IntKind.i64 h3_1, AV.int IntKind.i64 h3_2, AV.ro (CK.int IntKind.i64) h3_3, AV.ro (CK.pair (CK.int IntKind.i64) (CK.pair (CK.int IntKind.i64) (CK.pair (CK.int IntKind.i64) CK.bool))) h3_4, AV.int IntKind.i64 h3_5, AV.nils, AV.int IntKind.i64 h3_7, AV.mp 1], Blk.map true false (CK.pair (CK.int IntKind.i64) (CK.pair (CK.int IntKind.i64) (CK.int IntKind.i64))) (CK.int IntKind.i64) h6]) then bif Prod.snd (Prod.snd (stepM (zOf [Blk.cells [AV.int IntKind.i64 h3_0, AV.int IntKind.i64 h3_1, AV.int IntKind.i64 h3_2, AV.ro (CK.int IntKind.i64) h3_3, AV.ro (CK.pair (CK.int IntKind.i64) (CK.pair (CK.int IntKind.i64) (CK.pair (CK.int IntKind.i64) CK.bool))) h3_4, AV.int IntKind.i64 h3_5, AV.nils, AV.int IntKind.i64 h3_7, AV.mp 1], Blk.map true false (CK.pair (CK.int IntKind.i64) (CK.pair (CK.int IntKind.i64) (CK.int IntKind.i64))) (CK.int IntKind.i64) h6] s9 (nth 0 s33 (Int.toNat s35))))) then { ok := true, val := AV.tup [AV.sl 0 0 0 none, AV.agg [AV.int IntKind.i64 0, AV.int IntKind.i64 0, AV.int IntKind.i64 0, AV.sl 1 0 0 none, AV.sl 2 0 0 none], AV.int IntKind.i64 53], heap := [Blk.row 0 3 (CK.int IntKind.i64) [], Blk.row 0 3 (CK.int IntKind.i64) [], Blk.row 0 66 (CK.pair (CK.int IntKind.i64) (CK.pair (CK.int IntKind.i64) (CK.pair (CK.int IntKind.i64) CK.bool))) []] } else bif Nat.ble 0 (List.length h1) && decide (Nat.mul (Nat.add (List.length h1) 1) 8 ≤ 140737488355328) then oRun_L0 F n (Prod.fst (stepM (zOf [Blk.cells [AV.int IntKind.i64 h3_0, AV.int IntKind.i64 h3_1, AV.int IntKind.i64 h3_2, AV.ro (CK.int IntKind.i64) h3_3, AV.ro (CK.pair (CK.int IntKind.i64) (CK.pair (CK.int IntKind.i64) (CK.pair (CK.int IntKind.i64) CK.bool))) h3_4, AV.int IntKind.i64 h3_5, AV.nils, AV.int IntKind.i64 h3_7, AV.mp 1], Blk.map true false (CK.pair (CK.int IntKind.i64) (CK.pair (CK.int IntKind.i64) (CK.int IntKind.i64))) (CK.int IntKind.i64) h6] s9 (nth 0 s33 (Int.toNat s35))))) s33 s34 (IntKind.wrap IntKind.i64 (s35 + 1)) h0_0 h0_1 h0_2 h0_3 h0_4 (h1 ++ [Prod.fst (Prod.snd (stepM (zOf [Blk.cells [AV.int IntKind.i64 h3_0, AV.int IntKind.i64 h3_1, AV.int IntKind.i64 h3_2, AV.ro (CK.int IntKind.i64) h3_3, AV.ro (CK.pair (CK.int IntKind.i64) (CK.pair (CK.int IntKind.i64) (CK.pair (CK.int IntKind.i64) CK.bool))) h3_4, AV.int IntKind.i64 h3_5, AV.nils, AV.int IntKind.i64 h3_7, AV.mp 1], Blk.map true false (CK.pair (CK.int IntKind.i64) (CK.pair (CK.int IntKind.i64) (CK.int IntKind.i64))) (CK.int IntKind.i64) h6] s9 (nth 0 s33 (Int.toNat s35)))))]) h2_0 h2_1 h2_2 h3_0 h3_1 h3_2 h3_3 h3_4 h3_5 h3_7 h4 h5 h6 else { ok := false, val := AV.junk } else { ok := false, val := AV.junk } else { ok := false, val := AV.junk } else bif decide (Nat.mul (List.length s9) 8 ≤ 140737488355328) then bif decide (Nat.mul (List.length h0_4) 32 ≤ 140737488355328) then { ok := true, val := AV.tup [AV.sl 0 0 0 none, AV.agg [AV.int IntKind.i64 h0_0, AV.int IntKind.i64 h0_1, AV.int IntKind.i64 h0_2, AV.sl 1 0 0 none, AV.sl 2 0 0 none], AV.int IntKind.i64 0], heap := [Blk.row 0 3 (CK.int IntKind.i64) h1, Blk.row 0 3 (CK.int IntKind.i64) s9, Blk.row 0 66 (CK.pair (CK.int IntKind.i64) (CK.pair (CK.int IntKind.i64) (CK.pair (CK.int IntKind.i64) CK.bool))) h0_4] } else { ok := false, val := AV.junk } else { ok := false, val := AV.junk } := by rewrite [oRun_L0_def]; kernel_rfl
theorem oRun_eq (F : Nat) (a0_0 : Int) (a0_1 : Int) (a0_2 : Int) (a0_3 : List Int) (a0_4 : List (Int × Int × Int × Bool)) (a1 : List Int) : runF (cx_oRun F) Tryz.f11 [AV.agg [AV.int IntKind.i64 a0_0, AV.int IntKind.i64 a0_1, AV.int IntKind.i64 a0_2, AV.ro (CK.int IntKind.i64) a0_3, AV.ro (CK.pair (CK.int IntKind.i64) (CK.pair (CK.int IntKind.i64) (CK.pair (CK.int IntKind.i64) CK.bool))) a0_4], AV.ro (CK.int IntKind.i64) a1] [] = bif oVOk (a0_0, a0_1, a0_2, a0_3, a0_4) then bif oVM (a0_0, a0_1, a0_2, a0_3, a0_4) != 0 then { ok := true, val := AV.tup [AV.sl 0 0 0 none, AV.agg [AV.int IntKind.i64 0, AV.int IntKind.i64 0, AV.int IntKind.i64 0, AV.sl 1 0 0 none, AV.sl 2 0 0 none], AV.int IntKind.i64 (oVM (a0_0, a0_1, a0_2, a0_3, a0_4))], heap := [Blk.row 0 3 (CK.int IntKind.i64) [], Blk.row 0 3 (CK.int IntKind.i64) [], Blk.row 0 66 (CK.pair (CK.int IntKind.i64) (CK.pair (CK.int IntKind.i64) (CK.pair (CK.int IntKind.i64) CK.bool))) []] } else bif newBodyOk (a0_0, a0_1, a0_2, a0_3, a0_4) then bif inRangeOk (a1, (↑(cntI a0_4) : Int)) then bif !inRangeM (a1, (↑(cntI a0_4) : Int)) then { ok := true, val := AV.tup [AV.sl 0 0 0 none, AV.agg [AV.int IntKind.i64 0, AV.int IntKind.i64 0, AV.int IntKind.i64 0, AV.sl 1 0 0 none, AV.sl 2 0 0 none], AV.int IntKind.i64 52], heap := [Blk.row 0 3 (CK.int IntKind.i64) [], Blk.row 0 3 (CK.int IntKind.i64) [], Blk.row 0 66 (CK.pair (CK.int IntKind.i64) (CK.pair (CK.int IntKind.i64) (CK.pair (CK.int IntKind.i64) CK.bool))) []] } else oRun_L0 F F a0_3 a1 (↑(List.length a1) : Int) 0 a0_0 a0_1 a0_2 a0_3 a0_4 [] 0 0 0 a0_0 a0_1 a0_2 a0_3 a0_4 a0_0 (↑(cntI a0_4) : Int) [] [] (bodyMap a0_4 0 0 []) else { ok := false, val := AV.junk } else { ok := false, val := AV.junk } else { ok := false, val := AV.junk } := by rewrite [oRun_L0_def]; kernel_rfl
noncomputable def oRun_run (F : Nat) (x : CT oRun_K) : Res := runF (cx_oRun F) Tryz.f11 (groupA oRun_sh (enc oRun_K x)) []
theorem oRun_arg (F : Nat) (a0_0 : Int) (a0_1 : Int) (a0_2 : Int) (a0_3 : List Int) (a0_4 : List (Int × Int × Int × Bool)) (a1 : List Int) : oRun_run F (a0_0, a0_1, a0_2, a0_3, a0_4, a1) = runF (cx_oRun F) Tryz.f11 [AV.agg [AV.int IntKind.i64 a0_0, AV.int IntKind.i64 a0_1, AV.int IntKind.i64 a0_2, AV.ro (CK.int IntKind.i64) a0_3, AV.ro (CK.pair (CK.int IntKind.i64) (CK.pair (CK.int IntKind.i64) (CK.pair (CK.int IntKind.i64) CK.bool))) a0_4], AV.ro (CK.int IntKind.i64) a1] [] := by kernel_rfl
end Go.Proofs.YtkecflbflcppkaaGreatDoor

open Go Go.Abs Go.Proofs
set_option linter.unusedSimpArgs false
set_option linter.unusedVariables false
namespace Go.Proofs.YtkecflbflcppkaaGreatDoor
/-! ### SameOrgan -/
abbrev Organ2 := Int × Int × Int × List Int × List Mo × Int × Int × Int × List Int × List Mo
def sameOrgOk : Organ2 → Bool := fun (_, _, _, c, m, _) => decide (c.length < big ∧ m.length < big)
def sameOrgM : Organ2 → Bool := fun (k, w, h, c, m, k', w', h', c', m') => decide (k = k' ∧ w = w' ∧ h = h' ∧ c = c' ∧ m = m')
def sameOrgFu : Organ2 → Nat := fun (_, _, _, _, m, _) => m.length + 1
theorem mo_eq (a b : Mo) : (decide (a.1 = b.1) && (decide (a.2.1 = b.2.1) && (decide (a.2.2.1 = b.2.2.1) && (decide (a.2.2.2 = b.2.2.2) && true)))) = decide (a = b) := by
  obtain ⟨a1, a2, a3, a4⟩ := a
  obtain ⟨b1, b2, b3, b4⟩ := b
  rw [Bool.eq_iff_iff]
  simp only [Bool.and_eq_true, decide_eq_true_eq, Prod.mk.injEq, and_true]
theorem sameOrg_L0_spec (F : Nat) (k w h : Int) (c : List Int) (m : List Mo) (k' w' h' : Int) (c' : List Int) (m' : List Mo) (hx : m.length < big) (he : m'.length = m.length) : ∀ (n f i : Nat), i + n = m.length → n < f → sameOrg_L0 F f i k w h c m k' w' h' c' m' = resB (decide (m.drop i = m'.drop i))
  | n, 0, i, _, h => by omega
  | 0, f + 1, i, hi, _ => by
    rw [sameOrg_L0_succ, drop_len m (by omega), drop_len m' (by omega)]
    simp only [show ¬ ((i : Int) < m.length) by omega, decide_false, cond_false, decide_true]
    rfl
  | n + 1, f + 1, i, hi, hf => by
    have ih := sameOrg_L0_spec F k w h c m k' w' h' c' m' hx he n f (i + 1) (by omega) (by omega)
    rw [sameOrg_L0_succ, wrapS (show i < big by omega), ih, drop_nth (0, 0, 0, false) m (show i < m.length by omega), drop_nth (0, 0, 0, false) m' (show i < m'.length by omega), Int.toNat_natCast]
    have e := mo_eq (nth (0, 0, 0, false) m i) (nth (0, 0, 0, false) m' i)
    simp only [show (i : Int) < m.length by omega, show (i : Int) < m'.length by omega, show (0 : Int) ≤ i by omega, decide_true, Bool.and_self, cond_true]
    refine Eq.trans (congrArg (fun b => bif !b then resB false else resB (decide (m.drop (i + 1) = m'.drop (i + 1)))) e) ?_
    by_cases q : nth (0, 0, 0, false) m i = nth (0, 0, 0, false) m' i
    · simp [q]
    · simp [q]
theorem sameOrg_ret (z : Organ2) (hk : sameOrgOk z = true) : Ret sameOrg_re sameOrg_R (sameOrg_run (sameOrgFu z) z) (sameOrgM z) := by
  obtain ⟨k, w, h, c, m, k', w', h', c', m'⟩ := z
  simp only [sameOrgOk, decide_eq_true_eq] at hk
  refine Ret.of (r' := resB (sameOrgM (k, w, h, c, m, k', w', h', c', m'))) ((sameOrg_arg ..).trans ((sameOrg_eq ..).trans ?_)) (Ret.bool _)
  have ok : sameIntsOk (c, c') = true := decide_eq_true hk.1
  simp only [beq_ne, ok, cond_true, sameIntsM, Int.natCast_inj]
  by_cases e1 : k = k'
  · by_cases e2 : w = w'
    · by_cases e3 : h = h'
      · by_cases e4 : c = c'
        · by_cases e5 : m.length = m'.length
          · have a := sameOrg_L0_spec (m.length + 1) k w h c m k' w' h' c' m' hk.2 e5.symm m.length (m.length + 1) 0 (by omega) (by omega)
            rw [List.drop_zero, List.drop_zero] at a
            simp only [e1, e2, e3, e4, e5, decide_true, Bool.not_true, cond_false]
            rw [e1, e2, e3, e4] at a
            refine Eq.trans ?_ (a.trans ?_)
            · rfl
            · simp [sameOrgM, e1, e2, e3, e4]
          · have : ¬ m = m' := fun q => e5 (by rw [q])
            simp [e1, e2, e3, e4, e5, sameOrgM, this]; rfl
        · simp [e1, e2, e3, e4, sameOrgM]; rfl
      · simp [e1, e2, e3, sameOrgM]; rfl
    · simp [e1, e2, sameOrgM]; rfl
  · simp [e1, sameOrgM]; rfl
/-! ### the program's Step -/
def oStepOk : LyZ → Bool := rStepOk
def oStepM : LyZ → StO := rStepM
def oStepFu : LyZ → Nat := fun _ => 1
def zB (k w h : Int) (cells : List Int) (ms : List Mo) (l : List Int) (word : Int) : StZ := (k, w, h, cells, ms, k, (cntI ms : Nat), bodyMap ms 0 0 [], l, word)
theorem oStep_txt (F : Nat) (k w h : Int) (cells : List Int) (ms : List Mo) (word : Int) : runF (cx_oStep F) Tryz.f8 [orgV k w h cells ms, AV.int IntKind.i64 word] [] =
    bif oVOk (k, w, h, cells, ms) then bif oVM (k, w, h, cells, ms) != 0 then errSR (oVM (k, w, h, cells, ms)) else bif newBodyOk (k, w, h, cells, ms) then bif decide (word < 0) then errSR 52 else bif decide (0 ≤ (↑(cntI ms) : Int)) then bif decide (word ≥ shlI IntKind.i64 1 (↑(cntI ms) : Int)) then errSR 52 else
      bif stepOk (zB k w h cells ms cells word) then bif (stepM (zB k w h cells ms cells word)).2.2 then errSR 53 else bif decide (Nat.mul (stepM (zB k w h cells ms cells word)).1.length 8 ≤ 140737488355328) then bif decide (Nat.mul ms.length 32 ≤ 140737488355328) then roSR k w h (stepM (zB k w h cells ms cells word)).2.1 0 (stepM (zB k w h cells ms cells word)).1 ms
      else { ok := false, val := AV.junk } else { ok := false, val := AV.junk } else { ok := false, val := AV.junk } else { ok := false, val := AV.junk } else { ok := false, val := AV.junk } else { ok := false, val := AV.junk } :=
  (oStep_eq F k w h cells ms word).trans (by kernel_rfl)
theorem oStep_ret (z : LyZ) (hk : oStepOk z = true) : Ret oStep_re oStep_R (oStep_run (oStepFu z) z) (oStepM z) := by
  obtain ⟨k, w, h, cells, ms, word⟩ := z
  have hk' : cells.length < 9223372036854775807 ∧ ms.length < 9223372036854775807 := of_decide_eq_true hk
  have o1 : oVOk (k, w, h, cells, ms) = true := decide_eq_true hk'
  have e : oStep_run 1 (k, w, h, cells, ms, word) = _ := (oStep_arg 1 k w h cells ms word).trans (oStep_txt 1 k w h cells ms word)
  rw [o1] at e
  have g1 : ∀ {e}, Ret oStep_re oStep_R (errSR e) (errO e) := Ret.errSR
  cases hv : organB k w h cells ms with
  | false =>
    rw [show oVM (k, w, h, cells, ms) = 50 by simp only [oVM, organM, hv, cond_false]] at e
    refine Ret.of (r' := errSR 50) (e.trans rfl) ?_
    simp only [oStepM, rStepM, hv, Bool.not_false, cond_true]
    exact g1
  | true =>
    have v := OrgV.of hv
    have g := v.good
    have hf := v.few
    have hl := v.len
    obtain ⟨hw, hh, hc, _, _, _, _⟩ := orgG_spec g
    have hlen : w * h ≤ 24 * 24 := Int.mul_le_mul hw.2 hh.2 (by omega) (by omega)
    rw [show oVM (k, w, h, cells, ms) = 0 by simp only [oVM, organM, hv, cond_true], show newBodyOk (k, w, h, cells, ms) = true from decide_eq_true (by omega), show stepOk (zB k w h cells ms cells word) = true from stepOk_of g .., show decide (0 ≤ ((cntI ms : Nat) : Int)) = true from decide_eq_true (by omega),
      show stepM (zB k w h cells ms cells word) = _ from stepM_eq v cells _ word, decide_eq_true (show Nat.mul (nextC k w h ms cells word).length 8 ≤ 140737488355328 from by rw [nextC_len]; show cells.length * 8 ≤ _; omega), decide_eq_true (show Nat.mul ms.length 32 ≤ 140737488355328 from by show ms.length * 32 ≤ _; omega)] at e
    simp only [oStepM, rStepM, hv, Bool.not_true, cond_false, fineB, steppedM_eq]
    simp only [show ((0 : Int) != 0) = false from rfl, cond_true, cond_false, ge_iff_le] at e
    revert e
    by_cases c1 : word < 0
    · simp only [c1, decide_true, cond_true, show ¬ 0 ≤ word by omega, decide_false, Bool.false_and, Bool.not_false]
      exact fun e => Ret.of e g1
    · by_cases c2 : shlI IntKind.i64 1 ((cntI ms : Nat) : Int) ≤ word
      · simp only [c1, c2, decide_true, decide_false, cond_true, cond_false, show 0 ≤ word by omega, show ¬ word < shlI IntKind.i64 1 ((cntI ms : Nat) : Int) by omega, Bool.true_and, Bool.not_false]
        exact fun e => Ret.of e g1
      · simp only [c1, c2, decide_true, decide_false, cond_true, cond_false, show 0 ≤ word by omega, show word < shlI IntKind.i64 1 ((cntI ms : Nat) : Int) by omega, Bool.and_self, Bool.not_true]
        cases stOk k w h ms cells word with
        | false => exact fun e => Ret.of e g1
        | true => exact fun e => Ret.of e Ret.roSR
/-! ### runs -/
def runR (told : List Int) (k w h : Int) (cs : List Int) (ms : List Mo) : Res := { ok := true, val := AV.tup [AV.sl 0 0 0 none, AV.agg [AV.int IntKind.i64 k, AV.int IntKind.i64 w, AV.int IntKind.i64 h, AV.sl 1 0 0 none, AV.sl 2 0 0 none], AV.int IntKind.i64 0], heap := [Blk.row 0 3 (CK.int IntKind.i64) told, Blk.row 0 3 (CK.int IntKind.i64) cs, Blk.row 0 66 MoK ms] }
def errUR (e : Int) : Res := { ok := true, val := AV.tup [AV.sl 0 0 0 none, AV.agg [AV.int IntKind.i64 0, AV.int IntKind.i64 0, AV.int IntKind.i64 0, AV.sl 1 0 0 none, AV.sl 2 0 0 none], AV.int IntKind.i64 e], heap := [Blk.row 0 3 (CK.int IntKind.i64) [], Blk.row 0 3 (CK.int IntKind.i64) [], Blk.row 0 66 MoK []] }
theorem ret_ru {t : List Int} {a b c e : Int} {cs : List Int} {ms : List Mo} {r : Res} (h0 : r.ok = true) (h1 : (valsOf r.val).all isV = true) (h2 : ∀ ws, r.val = .tup ws → ws.length ≠ 1)
    (hh : roVs r = [.ro (.int .i64) t, .agg [.int .i64 a, .int .i64 b, .int .i64 c, .ro (.int .i64) cs, .ro MoK ms], .int .i64 e]) : Ret rRun_re rRun_R r ((t, a, b, c, cs, ms, e) : RunO) := by
  refine ⟨h0, h1, ?_, ?_, ?_, ?_, h2⟩
  · rw [hh]; rfl
  · rw [hh]; rfl
  · rw [hh]; simp [rRun_R, flatA, cellsA, decOk, nth, isRo, isInt, isB, dropL, width]
  · rw [hh]
    exact ((congrArg (fun (x : List Int) => ((x, a, b, c, asL (.int .i64) (.ro (.int .i64) cs), asL MoK (.ro MoK ms), e) : RunO)) (asL_ro (.int .i64) t)).trans (congrArg (fun (x : List Int) => ((t, a, b, c, x, asL MoK (.ro MoK ms), e) : RunO)) (asL_ro (.int .i64) cs))).trans (congrArg (fun (x : List Mo) => ((t, a, b, c, cs, x, e) : RunO)) (asL_ro MoK ms))
theorem Ret.runR {t : List Int} {k w h : Int} {cs : List Int} {ms : List Mo} : Ret rRun_re rRun_R (runR t k w h cs ms) ((t, k, w, h, cs, ms, 0) : RunO) := ret_ru rfl rfl (fun ws h => by cases h; simp) rfl
theorem Ret.errUR {e : Int} : Ret rRun_re rRun_R (errUR e) (errU e) := ret_ru rfl rfl (fun ws h => by cases h; simp) rfl
def runOf (k w h : Int) (ms : List Mo) (q : List Int × List Int × Bool) : Res := bif q.2.2 then runR q.1 k w h q.2.1 ms else errUR 53
theorem rRun_L0_spec (F : Nat) {l : List Int} {k w h : Int} {ms : List Mo} {x y z : Int} {d1 d2 : _} (hl : l.length ≤ 4096) : ∀ (j n i : Nat) (cells told : List Int), i + j = l.length → j < n → orgG k w h cells ms = true → told.length = i →
    rRun_L0 F n l i x y z told k w h d1 d2 cells ms = runOf k w h ms (runL k w h ms (l.drop i) cells told)
  | j, 0, i, _, _, _, h, _, _ => by omega
  | 0, n + 1, i, cells, told, hi, _, _, _ => by
    rw [rRun_L0_succ, drop_len l (by omega)]
    simp only [show ¬ ((i : Int) < l.length) by omega, decide_false, cond_false, runL]
    rfl
  | j + 1, n + 1, i, cells, told, hi, hn, g, ht => by
    rw [rRun_L0_succ, wrap_succ (i := i) (by omega), drop_nth 0 l (show i < l.length by omega), Int.toNat_natCast, show saysOk (k, w, h, cells, ms) = true from g, show ∀ a, steppedOk (k, w, h, cells, ms, a) = true from fun _ => g, steppedM_eq]
    simp only [show (i : Int) < l.length by omega, show (0 : Int) ≤ i by omega, decide_true, Bool.and_self, cond_true, nble, Nat.zero_le, Bool.true_and, runL]
    rw [decide_eq_true (show Nat.mul (Nat.add told.length 1) 8 ≤ 140737488355328 from by show (told.length + 1) * 8 ≤ _; omega)]
    cases stOk k w h ms cells (nth 0 l i) with
    | false => rfl
    | true => exact rRun_L0_spec F hl j n (i + 1) (nextC k w h ms cells (nth 0 l i)) (told ++ [toldL w cells ms 0 0]) (by omega) (by omega) (orgG_cells g (nextC_len ..)) (by simp; omega)
def rRunOk : RuZ → Bool := fun (k, w, h, cells, ms, l) => decide (cells.length < big ∧ ms.length < big ∧ l.length < big)
def rRunM : RuZ → RunO := runM
def rRunFu : RuZ → Nat := fun (k, w, h, cells, ms, l) => l.length + 1
theorem rRun_ret (z : RuZ) (hk : rRunOk z = true) : Ret rRun_re rRun_R (rRun_run (rRunFu z) z) (rRunM z) := by
  obtain ⟨k, w, h, cells, ms, l⟩ := z
  simp only [rRunOk, decide_eq_true_eq] at hk
  have o1 : rVOk (k, w, h, cells, ms) = true := decide_eq_true ⟨hk.1, hk.2.1⟩
  have o2 : mouthsOk (k, w, h, cells, ms) = true := decide_eq_true hk.2.1
  have e := (rRun_arg (l.length + 1) k w h cells ms l).trans (rRun_eq (l.length + 1) k w h cells ms l)
  rw [o1, o2] at e
  show Ret rRun_re rRun_R (rRun_run (l.length + 1) (k, w, h, cells, ms, l)) (runM (k, w, h, cells, ms, l))
  cases hv : organB k w h cells ms with
  | false =>
    rw [show rVM (k, w, h, cells, ms) = 50 by simp only [rVM, organM, hv, cond_false]] at e
    refine Ret.of (r' := errUR 50) (e.trans rfl) ?_
    simp only [runM, hv, Bool.not_false, cond_true]
    exact Ret.errUR
  | true =>
    have v := OrgV.of hv
    have g := v.good
    have hf := v.few
    obtain ⟨hw, hh, hc, _, hx, _, _⟩ := orgG_spec g
    have hlen : w * h ≤ 24 * 24 := Int.mul_le_mul hw.2 hh.2 (by omega) (by omega)
    rw [show rVM (k, w, h, cells, ms) = 0 by simp only [rVM, organM, hv, cond_true], show (mouthsM (k, w, h, cells, ms)).1 = ((cntI ms : Nat) : Int) from rfl, show rStreamOk (l, ((cntI ms : Nat) : Int)) = true from decide_eq_true (by omega),
      decide_eq_true (show Nat.mul (Nat.add 0 cells.length) 8 ≤ 140737488355328 from by show (0 + cells.length) * 8 ≤ _; omega), decide_eq_true (show Nat.mul (Nat.add 0 ms.length) 32 ≤ 140737488355328 from by show (0 + ms.length) * 32 ≤ _; omega)] at e
    simp only [runM, hv, Bool.not_true, cond_false]
    simp only [show ((0 : Int) != 0) = false from rfl, cond_true, cond_false, rStreamM] at e
    by_cases c1 : (l.length : Int) ≤ 4096
    · have c1' : ¬ (l.length : Int) > 4096 := by omega
      rw [decide_eq_false c1', cond_false] at e
      rw [decide_eq_true c1, Bool.and_true]
      cases hs : l.all (fineB ((cntI ms : Nat) : Int)) with
      | false => rw [hs] at e; exact Ret.of (r' := errUR 52) (e.trans rfl) Ret.errUR
      | true =>
        rw [hs] at e
        have sp := rRun_L0_spec (l.length + 1) (l := l) (k := k) (w := w) (h := h) (ms := ms) (x := 0) (y := 0) (z := 0) (d1 := []) (d2 := []) (by omega) l.length (l.length + 1) 0 cells [] (by omega) (by omega) g rfl
        rw [List.drop_zero] at sp
        have e2 : rRun_run (l.length + 1) (k, w, h, cells, ms, l) = runOf k w h ms (runL k w h ms l cells []) := e.trans sp
        simp only [Bool.not_true, cond_false]
        refine Ret.of e2 ?_
        simp only [runOf]
        cases (runL k w h ms l cells []).2.2
        · exact Ret.errUR
        · exact Ret.runR
    · have c1' : (l.length : Int) > 4096 := by omega
      rw [decide_eq_true c1', cond_true] at e
      rw [decide_eq_false c1, Bool.and_false]
      exact Ret.of (r' := errUR 52) (e.trans rfl) Ret.errUR
theorem oRun_txt (F n : Nat) (l s : List Int) (len i : Int) (k w h : Int) (cells : List Int) (ms : List Mo) (told : List Int) (x y z : Int) (d1 : List Int) (d2 : List Mo) : oRun_L0 F (n + 1) l s len i k w h cells ms told x y z k w h cells ms k (cntI ms : Nat) d1 d2 (bodyMap ms 0 0 []) =
    bif decide (i < len) then bif decide (0 ≤ i) && decide (i < (s.length : Int)) then bif stepOk (zB k w h cells ms l (nth 0 s i.toNat)) then bif (stepM (zB k w h cells ms l (nth 0 s i.toNat))).2.2 then errUR 53 else
      bif Nat.ble 0 told.length && decide (Nat.mul (Nat.add told.length 1) 8 ≤ 140737488355328) then oRun_L0 F n (stepM (zB k w h cells ms l (nth 0 s i.toNat))).1 s len (IntKind.wrap .i64 (i + 1)) k w h cells ms (told ++ [(stepM (zB k w h cells ms l (nth 0 s i.toNat))).2.1]) x y z k w h cells ms k (cntI ms : Nat) d1 d2 (bodyMap ms 0 0 [])
      else { ok := false, val := AV.junk } else { ok := false, val := AV.junk } else { ok := false, val := AV.junk }
    else bif decide (Nat.mul l.length 8 ≤ 140737488355328) then bif decide (Nat.mul ms.length 32 ≤ 140737488355328) then runR told k w h l ms else { ok := false, val := AV.junk } else { ok := false, val := AV.junk } :=
  (oRun_L0_succ ..).trans (by kernel_rfl)
theorem oRun_L0_spec (F : Nat) {s : List Int} {k w h : Int} {c0 : List Int} {ms : List Mo} {x y z : Int} {d1 d2 : _} (hl : s.length ≤ 4096) : ∀ (j n i : Nat) (cells told : List Int), i + j = s.length → j < n → OrgV k w h cells ms → told.length = i →
    oRun_L0 F n cells s s.length i k w h c0 ms told x y z k w h c0 ms k (cntI ms : Nat) d1 d2 (bodyMap ms 0 0 []) = runOf k w h ms (runL k w h ms (s.drop i) cells told)
  | j, 0, i, _, _, _, h, _, _ => by omega
  | 0, n + 1, i, cells, told, hi, _, v, _ => by
    have hl := v.len
    obtain ⟨hw, hh, hc, _, _, _, _⟩ := orgG_spec v.good
    have hlen : w * h ≤ 24 * 24 := Int.mul_le_mul hw.2 hh.2 (by omega) (by omega)
    rw [oRun_txt, drop_len s (by omega), decide_eq_true (show Nat.mul cells.length 8 ≤ 140737488355328 from by show cells.length * 8 ≤ _; omega), decide_eq_true (show Nat.mul ms.length 32 ≤ 140737488355328 from by show ms.length * 32 ≤ _; omega)]
    simp only [show ¬ ((i : Int) < s.length) by omega, decide_false, cond_false, runL]
    rfl
  | j + 1, n + 1, i, cells, told, hi, hn, v, ht => by
    rw [oRun_txt, wrap_succ (i := i) (by omega), drop_nth 0 s (show i < s.length by omega), Int.toNat_natCast, show stepOk (zB k w h c0 ms cells (nth 0 s i)) = true from stepOk_of v.good .., show stepM (zB k w h c0 ms cells (nth 0 s i)) = _ from stepM_eq v c0 _ _]
    simp only [show (i : Int) < s.length by omega, show (0 : Int) ≤ i by omega, decide_true, Bool.and_self, cond_true, nble, Nat.zero_le, Bool.true_and, runL]
    rw [decide_eq_true (show Nat.mul (Nat.add told.length 1) 8 ≤ 140737488355328 from by show (told.length + 1) * 8 ≤ _; omega)]
    cases ho : stOk k w h ms cells (nth 0 s i) with
    | false => rfl
    | true => exact oRun_L0_spec F hl j n (i + 1) (nextC k w h ms cells (nth 0 s i)) (told ++ [toldL w cells ms 0 0]) (by omega) (by omega) (v.step ho) (by simp; omega)
def oRunOk : RuZ → Bool := rRunOk
def oRunM : RuZ → RunO := runM
def oRunFu : RuZ → Nat := fun (k, w, h, cells, ms, l) => l.length + 1
theorem oRun_ret (z : RuZ) (hk : oRunOk z = true) : Ret oRun_re oRun_R (oRun_run (oRunFu z) z) (oRunM z) := by
  obtain ⟨k, w, h, cells, ms, l⟩ := z
  have hk' : rRunOk (k, w, h, cells, ms, l) = true := hk
  simp only [rRunOk, decide_eq_true_eq] at hk'
  have o1 : oVOk (k, w, h, cells, ms) = true := decide_eq_true ⟨hk'.1, hk'.2.1⟩
  have e := (oRun_arg (l.length + 1) k w h cells ms l).trans (oRun_eq (l.length + 1) k w h cells ms l)
  rw [o1] at e
  show Ret oRun_re oRun_R (oRun_run (l.length + 1) (k, w, h, cells, ms, l)) (runM (k, w, h, cells, ms, l))
  have g1 : ∀ {e}, Ret oRun_re oRun_R (errUR e) (errU e) := Ret.errUR
  cases hv : organB k w h cells ms with
  | false =>
    rw [show oVM (k, w, h, cells, ms) = 50 by simp only [oVM, organM, hv, cond_false]] at e
    refine Ret.of (r' := errUR 50) (e.trans rfl) ?_
    simp only [runM, hv, Bool.not_false, cond_true]
    exact g1
  | true =>
    have v := OrgV.of hv
    have g := v.good
    have hf := v.few
    have hl := v.len
    rw [show oVM (k, w, h, cells, ms) = 0 by simp only [oVM, organM, hv, cond_true], show newBodyOk (k, w, h, cells, ms) = true from decide_eq_true (by omega), show inRangeOk (l, ((cntI ms : Nat) : Int)) = true from decide_eq_true (by have := hk'.2.2; exact ⟨by omega, by omega, this⟩)] at e
    simp only [runM, hv, Bool.not_true, cond_false]
    simp only [show ((0 : Int) != 0) = false from rfl, cond_true, cond_false, inRangeM] at e
    cases hs : l.all (fineB ((cntI ms : Nat) : Int)) && decide ((l.length : Int) ≤ 4096) with
    | false => rw [hs] at e; exact Ret.of (r' := errUR 52) (e.trans rfl) g1
    | true =>
      rw [hs] at e
      simp only [Bool.and_eq_true, decide_eq_true_eq] at hs
      have sp := oRun_L0_spec (l.length + 1) (s := l) (k := k) (w := w) (h := h) (c0 := cells) (ms := ms) (x := 0) (y := 0) (z := 0) (d1 := []) (d2 := []) (by omega) l.length (l.length + 1) 0 cells [] (by omega) (by omega) v rfl
      rw [List.drop_zero] at sp
      have e2 : oRun_run (l.length + 1) (k, w, h, cells, ms, l) = runOf k w h ms (runL k w h ms l cells []) := e.trans sp
      simp only [Bool.not_true, cond_false]
      refine Ret.of e2 ?_
      simp only [runOf]
      cases (runL k w h ms l cells []).2.2
      · exact g1
      · exact Ret.runR
end Go.Proofs.YtkecflbflcppkaaGreatDoor

open Go Go.Abs Go.Proofs
set_option linter.unusedVariables false
namespace Go.Proofs.YtkecflbflcppkaaGreatDoor
noncomputable def tbSUL_1 : FuncId → List AV → List Blk → Res := addC 9 (tspec sameOrg_sh sameOrg_K sameOrg_re sameOrg_R sameOrgOk sameOrgM) tbSU
theorem tabSUL_1 : Tab Tryz.prog tbSUL_1 cxMd tbKSU := Tab.addTy (os := []) tabSU tabSU (KK := sameOrg_K) (R := sameOrg_R) (fn := Tryz.f9) (by kernel_rfl) (by kernel_rfl) (by kernel_rfl) (by kernel_rfl) _ sameOrgFu sameOrg_ret
noncomputable def tbSUL_2 : FuncId → List AV → List Blk → Res := addC 8 (tspec oStep_sh oStep_K oStep_re oStep_R oStepOk oStepM) tbSUL_1
theorem tabSUL_2 : Tab Tryz.prog tbSUL_2 cxMd tbKSU := Tab.addTy (os := []) tabSUL_1 tabSU (KK := oStep_K) (R := oStep_R) (fn := Tryz.f8) (by kernel_rfl) (by kernel_rfl) (by kernel_rfl) (by kernel_rfl) _ oStepFu oStep_ret
noncomputable def tbSUL_3 : FuncId → List AV → List Blk → Res := addC 10 (tspec rRun_sh rRun_K rRun_re rRun_R rRunOk rRunM) tbSUL_2
theorem tabSUL_3 : Tab Tryz.prog tbSUL_3 cxMd tbKSU := Tab.addTy (os := []) tabSUL_2 tabSU (KK := rRun_K) (R := rRun_R) (fn := Tryz.f10) (by kernel_rfl) (by kernel_rfl) (by kernel_rfl) (by kernel_rfl) _ rRunFu rRun_ret
noncomputable def tbSUL_4 : FuncId → List AV → List Blk → Res := addC 11 (tspec oRun_sh oRun_K oRun_re oRun_R oRunOk oRunM) tbSUL_3
theorem tabSUL_4 : Tab Tryz.prog tbSUL_4 cxMd tbKSU := Tab.addTy (os := []) tabSUL_3 tabSU (KK := oRun_K) (R := oRun_R) (fn := Tryz.f11) (by kernel_rfl) (by kernel_rfl) (by kernel_rfl) (by kernel_rfl) _ oRunFu oRun_ret
noncomputable def tbSUB : FuncId → List AV → List Blk → Res := tbSUL_4
noncomputable def tbKSUB : KT := tbKSU
theorem tabSUB : Tab Tryz.prog tbSUB cxMd tbKSUB := tabSUL_4
end Go.Proofs.YtkecflbflcppkaaGreatDoor
