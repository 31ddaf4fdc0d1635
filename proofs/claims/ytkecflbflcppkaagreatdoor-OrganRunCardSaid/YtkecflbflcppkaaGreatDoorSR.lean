/- A step of an organ, by the document; and what a stream is. -/
import Derived.Test.YtkecflbflcppkaaGreatDoorSQ
import Derived.Test.YtkecflbflcppkaaGreatDoorProg
import Derived.KernelRfl
set_option linter.all false
set_option linter.unusedVariables false
set_option linter.unusedSimpArgs false
open Go Go.Abs Go.Proofs
set_option linter.unusedVariables false
namespace Go.Proofs.YtkecflbflcppkaaGreatDoor
noncomputable def tbSR_1 : FuncId → List AV → List Blk → Res := addC 20 (inl Tryz.prog tbSQB cxMd tbKSQB Tryz.f20) tbSQB
noncomputable def tbKSR_1 : KT := addK 20 (inlK Tryz.prog tbSQB cxMd tbKSQB Tryz.f20) tbKSQB
theorem tabSR_1 : Tab Tryz.prog tbSR_1 cxMd tbKSR_1 := Tab.addInl tabSQB tabSQB (fn := Tryz.f20) (by kernel_rfl) (by kernel_rfl) (by kernel_rfl)
noncomputable def tbSR : FuncId → List AV → List Blk → Res := tbSR_1
noncomputable def tbKSR : KT := tbKSR_1
theorem tabSR : Tab Tryz.prog tbSR cxMd tbKSR := tabSR_1
noncomputable def cx_stepped (F : Nat) : Cx := { P := Tryz.prog, C := tbSR, K := tbKSR, mode := cxMd, fuel := F, live := liveTab [(7, [4, 2, 1, 7, 6]), (10, [8, 4, 2, 1, 7, 6]), (15, [6, 2, 10, 4])], pin := 0, nx := true }
noncomputable def cx_rStream (F : Nat) : Cx := { P := Tryz.prog, C := tbSR, K := tbKSR, mode := cxMd, fuel := F, live := liveTab [(4, [0, 1, 5])], pin := 0, nx := true }
def stepped_K : CK := CK.pair (CK.int IntKind.i64) (CK.pair (CK.int IntKind.i64) (CK.pair (CK.int IntKind.i64) (CK.pair (CK.slice 3 (CK.int IntKind.i64)) (CK.pair (CK.slice 66 (CK.pair (CK.int IntKind.i64) (CK.pair (CK.int IntKind.i64) (CK.pair (CK.int IntKind.i64) CK.bool)))) (CK.int IntKind.i64)))))
def stepped_sh : List (Option Nat) := [some 5, none]
def stepped_R : CK := CK.pair (CK.int IntKind.i64) (CK.pair (CK.int IntKind.i64) (CK.pair (CK.int IntKind.i64) (CK.pair (CK.slice 3 (CK.int IntKind.i64)) (CK.pair (CK.slice 66 (CK.pair (CK.int IntKind.i64) (CK.pair (CK.int IntKind.i64) (CK.pair (CK.int IntKind.i64) CK.bool)))) CK.bool))))
def stepped_re : List (Option Nat) := [some 5, none]
noncomputable def stepped_L0r (F : Nat) (n : Nat) (s1 : Int) (s7 : Int) (h0_0 : Int) (h0_1 : Int) (h0_2 : Int) (h0_3 : List Int) (h0_4 : List (Int × Int × Int × Bool)) (h1_0 : Int) (h1_1 : Int) (h1_2 : Int) (h2_0 : Int) (h2_1 : Int) (h2_2 : Int) (h3 : List Int) (h4 : List (Int × Int × Int × Bool)) (h5 : List Int) (h6 : List (Int × Int × Int × Bool)) : Res := Lp (cx_stepped F) (loopBy (loopsOf (cx_stepped F) (bodyOf Tryz.f21) (endK (cx_stepped F) Tryz.f21)) 7) n { T := fr 81 [(1, AV.int IntKind.i64 s1), (2, AV.ptr 0 0), (4, AV.ptr 1 0), (6, AV.ptr 2 0), (7, AV.int IntKind.i64 s7)], H := [Blk.cells [AV.int IntKind.i64 h0_0, AV.int IntKind.i64 h0_1, AV.int IntKind.i64 h0_2, AV.ro (CK.int IntKind.i64) h0_3, AV.ro (CK.pair (CK.int IntKind.i64) (CK.pair (CK.int IntKind.i64) (CK.pair (CK.int IntKind.i64) CK.bool))) h0_4], Blk.cells [AV.int IntKind.i64 h1_0, AV.int IntKind.i64 h1_1, AV.int IntKind.i64 h1_2, AV.sl 3 0 0 none, AV.sl 4 0 0 none], Blk.cells [AV.int IntKind.i64 h2_0, AV.int IntKind.i64 h2_1, AV.int IntKind.i64 h2_2, AV.sl 5 0 0 none, AV.sl 6 0 0 none], Blk.row 0 3 (CK.int IntKind.i64) h3, Blk.row 0 66 (CK.pair (CK.int IntKind.i64) (CK.pair (CK.int IntKind.i64) (CK.pair (CK.int IntKind.i64) CK.bool))) h4, Blk.row 0 3 (CK.int IntKind.i64) h5, Blk.row 0 66 (CK.pair (CK.int IntKind.i64) (CK.pair (CK.int IntKind.i64) (CK.pair (CK.int IntKind.i64) CK.bool))) h6], ok := true }
noncomputable def stepped_L0 : Nat → Nat → Int → Int → Int → Int → Int → List Int → List (Int × Int × Int × Bool) → Int → Int → Int → Int → Int → Int → List Int → List (Int × Int × Int × Bool) → List Int → List (Int × Int × Int × Bool) → Res := Classical.choose (hideE stepped_L0r)
theorem stepped_L0_def : stepped_L0 = stepped_L0r := Classical.choose_spec (hideE stepped_L0r)
noncomputable def stepped_L1r (F : Nat) (m0 : Nat) (n : Nat) (s1 : Int) (s7 : Int) (s8 : Int) (h0_0 : Int) (h0_1 : Int) (h0_2 : Int) (h0_3 : List Int) (h0_4 : List (Int × Int × Int × Bool)) (h1_0 : Int) (h1_1 : Int) (h1_2 : Int) (h2_0 : Int) (h2_1 : Int) (h2_2 : Int) (h3 : List Int) (h4 : List (Int × Int × Int × Bool)) (h5 : List Int) (h6 : List (Int × Int × Int × Bool)) : Res := Lp (cx_stepped F) (loopBy (innersOf (cx_stepped F) (loopBy (loopsOf (cx_stepped F) (bodyOf Tryz.f21) (endK (cx_stepped F) Tryz.f21)) 7) m0) 10) n { T := fr 81 [(1, AV.int IntKind.i64 s1), (2, AV.ptr 0 0), (4, AV.ptr 1 0), (6, AV.ptr 2 0), (7, AV.int IntKind.i64 s7), (8, AV.int IntKind.i64 s8)], H := [Blk.cells [AV.int IntKind.i64 h0_0, AV.int IntKind.i64 h0_1, AV.int IntKind.i64 h0_2, AV.ro (CK.int IntKind.i64) h0_3, AV.ro (CK.pair (CK.int IntKind.i64) (CK.pair (CK.int IntKind.i64) (CK.pair (CK.int IntKind.i64) CK.bool))) h0_4], Blk.cells [AV.int IntKind.i64 h1_0, AV.int IntKind.i64 h1_1, AV.int IntKind.i64 h1_2, AV.sl 3 0 0 none, AV.sl 4 0 0 none], Blk.cells [AV.int IntKind.i64 h2_0, AV.int IntKind.i64 h2_1, AV.int IntKind.i64 h2_2, AV.sl 5 0 0 none, AV.sl 6 0 0 none], Blk.row 0 3 (CK.int IntKind.i64) h3, Blk.row 0 66 (CK.pair (CK.int IntKind.i64) (CK.pair (CK.int IntKind.i64) (CK.pair (CK.int IntKind.i64) CK.bool))) h4, Blk.row 0 3 (CK.int IntKind.i64) h5, Blk.row 0 66 (CK.pair (CK.int IntKind.i64) (CK.pair (CK.int IntKind.i64) (CK.pair (CK.int IntKind.i64) CK.bool))) h6], ok := true }
noncomputable def stepped_L1 : Nat → Nat → Nat → Int → Int → Int → Int → Int → Int → List Int → List (Int × Int × Int × Bool) → Int → Int → Int → Int → Int → Int → List Int → List (Int × Int × Int × Bool) → List Int → List (Int × Int × Int × Bool) → Res := Classical.choose (hideE stepped_L1r)
theorem stepped_L1_def : stepped_L1 = stepped_L1r := Classical.choose_spec (hideE stepped_L1r)
noncomputable def stepped_L2r (F : Nat) (n : Nat) (s10 : Int) (h0_0 : Int) (h0_1 : Int) (h0_2 : Int) (h0_3 : List Int) (h0_4 : List (Int × Int × Int × Bool)) (h1_0 : Int) (h1_1 : Int) (h1_2 : Int) (h2_0 : Int) (h2_1 : Int) (h2_2 : Int) (h3 : List Int) (h4 : List (Int × Int × Int × Bool)) (h5 : List Int) (h6 : List (Int × Int × Int × Bool)) : Res := Lp (cx_stepped F) (loopBy (loopsOf (cx_stepped F) (bodyOf Tryz.f21) (endK (cx_stepped F) Tryz.f21)) 15) n { T := fr 81 [(2, AV.ptr 0 0), (4, AV.ptr 1 0), (6, AV.ptr 2 0), (10, AV.int IntKind.i64 s10)], H := [Blk.cells [AV.int IntKind.i64 h0_0, AV.int IntKind.i64 h0_1, AV.int IntKind.i64 h0_2, AV.ro (CK.int IntKind.i64) h0_3, AV.ro (CK.pair (CK.int IntKind.i64) (CK.pair (CK.int IntKind.i64) (CK.pair (CK.int IntKind.i64) CK.bool))) h0_4], Blk.cells [AV.int IntKind.i64 h1_0, AV.int IntKind.i64 h1_1, AV.int IntKind.i64 h1_2, AV.sl 3 0 0 none, AV.sl 4 0 0 none], Blk.cells [AV.int IntKind.i64 h2_0, AV.int IntKind.i64 h2_1, AV.int IntKind.i64 h2_2, AV.sl 5 0 0 none, AV.sl 6 0 0 none], Blk.row 0 3 (CK.int IntKind.i64) h3, Blk.row 0 66 (CK.pair (CK.int IntKind.i64) (CK.pair (CK.int IntKind.i64) (CK.pair (CK.int IntKind.i64) CK.bool))) h4, Blk.row 0 3 (CK.int IntKind.i64) h5, Blk.row 0 66 (CK.pair (CK.int IntKind.i64) (CK.pair (CK.int IntKind.i64) (CK.pair (CK.int IntKind.i64) CK.bool))) h6], ok := true }
noncomputable def stepped_L2 : Nat → Nat → Int → Int → Int → Int → List Int → List (Int × Int × Int × Bool) → Int → Int → Int → Int → Int → Int → List Int → List (Int × Int × Int × Bool) → List Int → List (Int × Int × Int × Bool) → Res := Classical.choose (hideE stepped_L2r)
theorem stepped_L2_def : stepped_L2 = stepped_L2r := Classical.choose_spec (hideE stepped_L2r)
theorem stepped_L0_succ (F : Nat) (n : Nat) (s1 : Int) (s7 : Int) (h0_0 : Int) (h0_1 : Int) (h0_2 : Int) (h0_3 : List Int) (h0_4 : List (Int × Int × Int × Bool)) (h1_0 : Int) (h1_1 : Int) (h1_2 : Int) (h2_0 : Int) (h2_1 : Int) (h2_2 : Int) (h3 : List Int) (h4 : List (Int × Int × Int × Bool)) (h5 : List Int) (h6 : List (Int × Int × Int × Bool)) : stepped_L0 F (n + 1) s1 s7 h0_0 h0_1 h0_2 h0_3 h0_4 h1_0 h1_1 h1_2 h2_0 h2_1 h2_2 h3 h4 h5 h6 = bif decide (s7 < h0_2) then stepped_L1 F n F s1 s7 0 h0_0 h0_1 h0_2 h0_3 h0_4 h1_0 h1_1 h1_2 h2_0 h2_1 h2_2 h3 h4 h5 h6 else stepped_L2 F F 0 h0_0 h0_1 h0_2 h0_3 h0_4 h1_0 h1_1 h1_2 h2_0 h2_1 h2_2 h3 h4 h5 h6 := by rewrite [stepped_L0_def, stepped_L1_def, stepped_L2_def]; kernel_rfl
theorem stepped_L1_succ (F : Nat) (m0 : Nat) (n : Nat) (s1 : Int) (s7 : Int) (s8 : Int) (h0_0 : Int) (h0_1 : Int) (h0_2 : Int) (h0_3 : List Int) (h0_4 : List (Int × Int × Int × Bool)) (h1_0 : Int) (h1_1 : Int) (h1_2 : Int) (h2_0 : Int) (h2_1 : Int) (h2_2 : Int) (h3 : List Int) (h4 : List (Int × Int × Int × Bool)) (h5 : List Int) (h6 : List (Int × Int × Int × Bool)) : stepped_L1 F m0 (n + 1) s1 s7 s8 h0_0 h0_1 h0_2 h0_3 h0_4 h1_0 h1_1 h1_2 h2_0 h2_1 h2_2 h3 h4 h5 h6 = bif decide (s8 < h0_1) then bif rNxOk (h0_0, h0_1, h0_2, h0_3, h0_4, s1, s8, s7) then bif Nat.ble 0 (List.length h5) && decide (Nat.mul (Nat.add (List.length h5) 1) 8 ≤ 140737488355328) then stepped_L1 F m0 n s1 s7 (IntKind.wrap IntKind.i64 (s8 + 1)) h0_0 h0_1 h0_2 h0_3 h0_4 h1_0 h1_1 h1_2 h2_0 h2_1 h2_2 h3 h4 (h5 ++ [rNxM (h0_0, h0_1, h0_2, h0_3, h0_4, s1, s8, s7)]) h6 else { ok := false, val := AV.junk } else { ok := false, val := AV.junk } else stepped_L0 F m0 s1 (IntKind.wrap IntKind.i64 (s7 + 1)) h0_0 h0_1 h0_2 h0_3 h0_4 h1_0 h1_1 h1_2 h2_0 h2_1 h2_2 h3 h4 h5 h6 := by rewrite [stepped_L0_def, stepped_L1_def]; kernel_rfl
theorem stepped_L2_succ (F : Nat) (n : Nat) (s10 : Int) (h0_0 : Int) (h0_1 : Int) (h0_2 : Int) (h0_3 : List Int) (h0_4 : List (Int × Int × Int × Bool)) (h1_0 : Int) (h1_1 : Int) (h1_2 : Int) (h2_0 : Int) (h2_1 : Int) (h2_2 : Int) (h3 : List Int) (h4 : List (Int × Int × Int × Bool)) (h5 : List Int) (h6 : List (Int × Int × Int × Bool)) : stepped_L2 F (n + 1) s10 h0_0 h0_1 h0_2 h0_3 h0_4 h1_0 h1_1 h1_2 h2_0 h2_1 h2_2 h3 h4 h5 h6 = bif decide (s10 < (↑(List.length h0_4) : Int)) then bif decide (0 ≤ s10) && decide (s10 < (↑(List.length h0_4) : Int)) then bif Prod.snd (Prod.snd (Prod.snd (nth (0, 0, 0, false) h0_4 (Int.toNat s10)))) then bif decide (0 ≤ IntKind.wrap IntKind.i64 (IntKind.wrap IntKind.i64 (Prod.fst (Prod.snd (nth (0, 0, 0, false) h0_4 (Int.toNat s10))) * h0_1) + Prod.fst (nth (0, 0, 0, false) h0_4 (Int.toNat s10)))) && decide (IntKind.wrap IntKind.i64 (IntKind.wrap IntKind.i64 (Prod.fst (Prod.snd (nth (0, 0, 0, false) h0_4 (Int.toNat s10))) * h0_1) + Prod.fst (nth (0, 0, 0, false) h0_4 (Int.toNat s10))) < (↑(List.length h5) : Int)) then bif decide (Int.toNat (IntKind.wrap IntKind.i64 (IntKind.wrap IntKind.i64 (Prod.fst (Prod.snd (nth (0, 0, 0, false) h0_4 (Int.toNat s10))) * h0_1) + Prod.fst (nth (0, 0, 0, false) h0_4 (Int.toNat s10)))) < List.length h5) then bif !leadsM (nth 0 h5 (Int.toNat (IntKind.wrap IntKind.i64 (IntKind.wrap IntKind.i64 (Prod.fst (Prod.snd (nth (0, 0, 0, false) h0_4 (Int.toNat s10))) * h0_1) + Prod.fst (nth (0, 0, 0, false) h0_4 (Int.toNat s10))))), Prod.fst (Prod.snd (Prod.snd (nth (0, 0, 0, false) h0_4 (Int.toNat s10))))) then { ok := true, val := AV.tup [AV.agg [AV.int IntKind.i64 0, AV.int IntKind.i64 0, AV.int IntKind.i64 0, AV.sl 0 0 0 none, AV.sl 1 0 0 none], AV.bool false], heap := [Blk.row 0 3 (CK.int IntKind.i64) [], Blk.row 0 66 (CK.pair (CK.int IntKind.i64) (CK.pair (CK.int IntKind.i64) (CK.pair (CK.int IntKind.i64) CK.bool))) []] } else stepped_L2 F n (IntKind.wrap IntKind.i64 (s10 + 1)) h0_0 h0_1 h0_2 h0_3 h0_4 h1_0 h1_1 h1_2 h2_0 h2_1 h2_2 h3 h4 h5 h6 else { ok := false, val := AV.junk } else { ok := false, val := AV.junk } else stepped_L2 F n (IntKind.wrap IntKind.i64 (s10 + 1)) h0_0 h0_1 h0_2 h0_3 h0_4 h1_0 h1_1 h1_2 h2_0 h2_1 h2_2 h3 h4 h5 h6 else { ok := false, val := AV.junk } else { ok := true, val := AV.tup [AV.agg [AV.int IntKind.i64 h2_0, AV.int IntKind.i64 h2_1, AV.int IntKind.i64 h2_2, AV.sl 0 0 0 none, AV.sl 1 0 0 none], AV.bool true], heap := [Blk.row 0 3 (CK.int IntKind.i64) h5, Blk.row 0 66 (CK.pair (CK.int IntKind.i64) (CK.pair (CK.int IntKind.i64) (CK.pair (CK.int IntKind.i64) CK.bool))) h6] } := by rewrite [stepped_L2_def]; kernel_rfl
theorem stepped_eq (F : Nat) (a0_0 : Int) (a0_1 : Int) (a0_2 : Int) (a0_3 : List Int) (a0_4 : List (Int × Int × Int × Bool)) (a1 : Int) : runF (cx_stepped F) Tryz.f21 [AV.agg [AV.int IntKind.i64 a0_0, AV.int IntKind.i64 a0_1, AV.int IntKind.i64 a0_2, AV.ro (CK.int IntKind.i64) a0_3, AV.ro (CK.pair (CK.int IntKind.i64) (CK.pair (CK.int IntKind.i64) (CK.pair (CK.int IntKind.i64) CK.bool))) a0_4], AV.int IntKind.i64 a1] [] = bif leakyOk (a0_0, a0_1, a0_2, a0_3, a0_4, a1) then bif leakyM (a0_0, a0_1, a0_2, a0_3, a0_4, a1) then { ok := true, val := AV.tup [AV.agg [AV.int IntKind.i64 0, AV.int IntKind.i64 0, AV.int IntKind.i64 0, AV.sl 0 0 0 none, AV.sl 1 0 0 none], AV.bool false], heap := [Blk.row 0 3 (CK.int IntKind.i64) [], Blk.row 0 66 (CK.pair (CK.int IntKind.i64) (CK.pair (CK.int IntKind.i64) (CK.pair (CK.int IntKind.i64) CK.bool))) []] } else bif decide (Nat.mul (Nat.add 0 (List.length a0_4)) 32 ≤ 140737488355328) then stepped_L0 F F a1 0 a0_0 a0_1 a0_2 a0_3 a0_4 0 0 0 a0_0 a0_1 a0_2 [] [] [] a0_4 else { ok := false, val := AV.junk } else { ok := false, val := AV.junk } := by rewrite [stepped_L0_def]; kernel_rfl
noncomputable def stepped_run (F : Nat) (x : CT stepped_K) : Res := runF (cx_stepped F) Tryz.f21 (groupA stepped_sh (enc stepped_K x)) []
theorem stepped_arg (F : Nat) (a0_0 : Int) (a0_1 : Int) (a0_2 : Int) (a0_3 : List Int) (a0_4 : List (Int × Int × Int × Bool)) (a1 : Int) : stepped_run F (a0_0, a0_1, a0_2, a0_3, a0_4, a1) = runF (cx_stepped F) Tryz.f21 [AV.agg [AV.int IntKind.i64 a0_0, AV.int IntKind.i64 a0_1, AV.int IntKind.i64 a0_2, AV.ro (CK.int IntKind.i64) a0_3, AV.ro (CK.pair (CK.int IntKind.i64) (CK.pair (CK.int IntKind.i64) (CK.pair (CK.int IntKind.i64) CK.bool))) a0_4], AV.int IntKind.i64 a1] [] := by kernel_rfl
def rStream_K : CK := CK.pair (CK.slice 3 (CK.int IntKind.i64)) (CK.int IntKind.i64)
def rStream_sh : List (Option Nat) := [none, none]
def rStream_R : CK := CK.int IntKind.i64
def rStream_re : List (Option Nat) := [none]
noncomputable def rStream_L0r (F : Nat) (n : Nat) (s0 : List Int) (s1 : Int) (s5 : Int) : Res := Lp (cx_rStream F) (loopBy (loopsOf (cx_rStream F) (bodyOf Tryz.f27) (endK (cx_rStream F) Tryz.f27)) 4) n { T := fr 22 [(0, AV.ro (CK.int IntKind.i64) s0), (1, AV.int IntKind.i64 s1), (5, AV.int IntKind.i64 s5)], H := [], ok := true }
noncomputable def rStream_L0 : Nat → Nat → List Int → Int → Int → Res := Classical.choose (hideE rStream_L0r)
theorem rStream_L0_def : rStream_L0 = rStream_L0r := Classical.choose_spec (hideE rStream_L0r)
theorem rStream_L0_succ (F : Nat) (n : Nat) (s0 : List Int) (s1 : Int) (s5 : Int) : rStream_L0 F (n + 1) s0 s1 s5 = bif decide (s5 < (↑(List.length s0) : Int)) then bif decide (0 ≤ s5) && decide (s5 < (↑(List.length s0) : Int)) then bif decide (nth 0 s0 (Int.toNat s5) ≥ 0) then bif decide (0 ≤ IntKind.wrap IntKind.u64 s1) then bif !decide (nth 0 s0 (Int.toNat s5) < shlI IntKind.i64 1 (IntKind.wrap IntKind.u64 s1)) then { ok := true, val := AV.int IntKind.i64 52 } else rStream_L0 F n s0 s1 (IntKind.wrap IntKind.i64 (s5 + 1)) else { ok := false, val := AV.junk } else { ok := true, val := AV.int IntKind.i64 52 } else { ok := false, val := AV.junk } else { ok := true, val := AV.int IntKind.i64 0 } := by rewrite [rStream_L0_def]; kernel_rfl
theorem rStream_eq (F : Nat) (a0 : List Int) (a1 : Int) : runF (cx_rStream F) Tryz.f27 [AV.ro (CK.int IntKind.i64) a0, AV.int IntKind.i64 a1] [] = bif decide ((↑(List.length a0) : Int) > 4096) then { ok := true, val := AV.int IntKind.i64 52 } else rStream_L0 F F a0 a1 0 := by rewrite [rStream_L0_def]; kernel_rfl
noncomputable def rStream_run (F : Nat) (x : CT rStream_K) : Res := runF (cx_rStream F) Tryz.f27 (groupA rStream_sh (enc rStream_K x)) []
theorem rStream_arg (F : Nat) (a0 : List Int) (a1 : Int) : rStream_run F (a0, a1) = runF (cx_rStream F) Tryz.f27 [AV.ro (CK.int IntKind.i64) a0, AV.int IntKind.i64 a1] [] := by kernel_rfl
end Go.Proofs.YtkecflbflcppkaaGreatDoor

open Go Go.Abs Go.Proofs
set_option linter.unusedSimpArgs false
set_option linter.unusedVariables false
namespace Go.Proofs.YtkecflbflcppkaaGreatDoor
def nxI (k w h : Int) (cells : List Int) (ms : List Mo) (word : Int) (i : Nat) : Int := nxV k w h cells ms word ((i % w.toNat : Nat) : Int) ((i / w.toNat : Nat) : Int)
def upTo (f : Nat → Int) (n : Nat) : List Int := (List.range n).map f
theorem upTo_succ (f : Nat → Int) (n : Nat) : upTo f (n + 1) = upTo f n ++ [f n] := by simp [upTo, List.range_succ]
theorem upTo_len (f : Nat → Int) (n : Nat) : (upTo f n).length = n := by simp [upTo]
theorem upTo_congr {f g : Nat → Int} {n : Nat} (h : ∀ i, i < n → f i = g i) : upTo f n = upTo g n := List.map_congr_left fun i hi => h i (List.mem_range.1 hi)
theorem upTo_nth (f : Nat → Int) {n i : Nat} (h : i < n) : nth 0 (upTo f n) i = f i := by
  rw [nth_lt _ _ _ (by rw [upTo_len]; exact h)]; simp [upTo]
theorem setAll_upTo (f : Nat → Int) : ∀ (j i : Nat), setAll f j i (upTo f i ++ List.replicate j 0) = upTo f (i + j)
  | 0, i => by simp [setAll]
  | j + 1, i => by
    have hs : (upTo f i ++ List.replicate (j + 1) 0).set i (f i) = upTo f (i + 1) ++ List.replicate j 0 := by
      rw [upTo_succ, List.set_append_right _ _ (by rw [upTo_len]; omega), upTo_len, Nat.sub_self, List.replicate_succ, List.set_cons_zero, List.append_assoc]; rfl
    rw [setAll, hs, setAll_upTo f j (i + 1), show i + 1 + j = i + (j + 1) by omega]
theorem afterM_upTo (w h rk : Int) (m : MM) (l : List Int) (word : Int) : afterM w h rk m l word = upTo (cellI w h rk [] m l word) l.length := by
  have := setAll_upTo (cellI w h rk [] m l word) l.length 0
  rw [Nat.zero_add] at this
  exact this
def noR : Res := { ok := true, val := AV.tup [AV.agg [AV.int IntKind.i64 0, AV.int IntKind.i64 0, AV.int IntKind.i64 0, AV.sl 0 0 0 none, AV.sl 1 0 0 none], AV.bool false], heap := [Blk.row 0 3 (CK.int IntKind.i64) [], Blk.row 0 66 (CK.pair (CK.int IntKind.i64) (CK.pair (CK.int IntKind.i64) (CK.pair (CK.int IntKind.i64) CK.bool))) []] }
def yesR (k w h : Int) (cs : List Int) (ms : List Mo) : Res := { ok := true, val := AV.tup [AV.agg [AV.int IntKind.i64 k, AV.int IntKind.i64 w, AV.int IntKind.i64 h, AV.sl 0 0 0 none, AV.sl 1 0 0 none], AV.bool true], heap := [Blk.row 0 3 (CK.int IntKind.i64) cs, Blk.row 0 66 (CK.pair (CK.int IntKind.i64) (CK.pair (CK.int IntKind.i64) (CK.pair (CK.int IntKind.i64) CK.bool))) ms] }
theorem sd_L2 (F : Nat) {k w h : Int} {cells : List Int} {ms ms2 : List Mo} {cs : List Int} {a b c d e f : Int} {d1 d2 : _} (hw : 1 ≤ w ∧ w ≤ 24) (hh : 1 ≤ h ∧ h ≤ 24) (hl : (cs.length : Int) = w * h) (hms : ms.all (mIn w h) = true) (hx : ms.length < 1000) : ∀ (j n i : Nat), i + j = ms.length → j < n →
    stepped_L2 F n i k w h cells ms a b c d e f d1 d2 cs ms2 = bif badL w cs (ms.drop i) then noR else yesR d e f cs ms2
  | j, 0, i, _, h => by omega
  | 0, n + 1, i, hi, _ => by
    rw [stepped_L2_succ, drop_len ms (by omega)]
    simp only [show ¬ ((i : Int) < ms.length) by omega, decide_false, cond_false, badL, List.any_nil]
    rfl
  | j + 1, n + 1, i, hi, hn => by
    have ih := sd_L2 F (k := k) (cells := cells) (cs := cs) (ms2 := ms2) (a := a) (b := b) (c := c) (d := d) (e := e) (f := f) (d1 := d1) (d2 := d2) hw hh hl hms hx j n (i + 1) (by omega) (by omega)
    have hq : mIn w h (nth (0, 0, 0, false) ms i) = true := List.all_eq_true.1 hms _ (nth_mem (0, 0, 0, false) ms (show i < ms.length by omega))
    rw [stepped_L2_succ, drop_nth (0, 0, 0, false) ms (show i < ms.length by omega), Int.toNat_natCast, wrap_succ (i := i) (by omega), ih]
    revert hq
    generalize nth (0, 0, 0, false) ms i = q
    obtain ⟨x, y, z, o⟩ := q
    intro hq
    obtain ⟨r1, r2⟩ := inR_iff.1 hq
    have r3 : 0 ≤ x ∧ x < w := r1
    have r4 : 0 ≤ y ∧ y < h := r2
    obtain ⟨i1, i2, i3, i4⟩ := idx_ok hw hh hl r3 r4
    have i5 : (y * w + x).toNat < cs.length := by omega
    simp only [show (i : Int) < ms.length by omega, show (0 : Int) ≤ i by omega, decide_true, Bool.and_self, cond_true, wrap_id (n := y * w) (by omega) (by omega), wrap_id (n := y * w + x) (by omega) (by omega), i3, i4, i5, badL, List.any_cons]
    cases o with
    | false => simp only [cond_false, Bool.false_and, Bool.false_or]
    | true =>
      simp only [cond_true, Bool.true_and]
      cases leadsM (nth 0 cs (y * w + x).toNat, z) <;> rfl
theorem sd_x (F : Nat) {k : Int} {W H : Nat} {cells : List Int} {ms ms2 : List Mo} {word : Int} {a b c d e f : Int} {d1 d2 : _} (g : orgG k W H cells ms = true) {y : Nat} (hy : y < H) (m0 : Nat) : ∀ (j n x : Nat), x + j = W → j < n →
    stepped_L1 F m0 n word (y : Int) (x : Int) k W H cells ms a b c d e f d1 d2 (upTo (nxI k W H cells ms word) (y * W + x)) ms2 = stepped_L0 F m0 word ((y + 1 : Nat) : Int) k W H cells ms a b c d e f d1 d2 (upTo (nxI k W H cells ms word) ((y + 1) * W)) ms2
  | j, 0, x, _, h => by omega
  | 0, n + 1, x, hx, _ => by
    obtain ⟨hw, hh, hl, hrk, _, _, _⟩ := orgG_spec g
    have hxW : x = W := by omega
    rw [stepped_L1_succ, wrap_succ (i := y) (by omega), hxW, Nat.succ_mul]
    simp only [show ¬ ((W : Int) < W) by omega, decide_false, cond_false]
  | j + 1, n + 1, x, hx, hn => by
    obtain ⟨hw, hh, hl, hrk, _, _, _⟩ := orgG_spec g
    have ih := sd_x F g hy (ms2 := ms2) (word := word) (a := a) (b := b) (c := c) (d := d) (e := e) (f := f) (d1 := d1) (d2 := d2) m0 j n (x + 1) (by omega) (by omega)
    have hb : y * W + x < 1000 := by
      have : y * W + x < H * W := by
        have : (y + 1) * W ≤ H * W := Nat.mul_le_mul_right _ hy
        rw [Nat.succ_mul] at this; omega
      have : H * W ≤ 24 * 24 := Nat.mul_le_mul (by omega) (by omega)
      omega
    have o : rNxOk (k, (W : Int), (H : Int), cells, ms, word, (x : Int), (y : Int)) = true := by
      simp only [rNxOk, g, Bool.true_and]; exact inR_nat (by omega) hy
    have e1 : rNxM (k, (W : Int), (H : Int), cells, ms, word, (x : Int), (y : Int)) = nxI k W H cells ms word (y * W + x) := by
      simp only [rNxM, nxI, Int.toNat_natCast]; rw [(yx W (show x < W by omega)).1, (yx W (show x < W by omega)).2]
    rw [stepped_L1_succ, wrap_succ (i := x) (by omega), o, e1, ← upTo_succ, upTo_len, show y * W + x + 1 = y * W + (x + 1) by omega, ih]
    simp only [show ((x : Int) < W) by omega, decide_true, cond_true, nble, Nat.zero_le, Bool.true_and]
    rw [decide_eq_true (show Nat.mul (Nat.add (y * W + x) 1) 8 ≤ 140737488355328 from by show (y * W + x + 1) * 8 ≤ _; omega)]
    rfl
theorem sd_y (F : Nat) (hF : 1100 ≤ F) {k : Int} {W H : Nat} {cells : List Int} {ms ms2 : List Mo} {word : Int} {a b c d e f : Int} {d1 d2 : _} (g : orgG k W H cells ms = true) : ∀ (j n y : Nat), y + j = H → j < n →
    stepped_L0 F n word (y : Int) k W H cells ms a b c d e f d1 d2 (upTo (nxI k W H cells ms word) (y * W)) ms2 = bif badL W (upTo (nxI k W H cells ms word) (H * W)) ms then noR else yesR d e f (upTo (nxI k W H cells ms word) (H * W)) ms2
  | j, 0, y, _, h => by omega
  | 0, n + 1, y, hy, _ => by
    obtain ⟨hw, hh, hl, hrk, hx, _, hm⟩ := orgG_spec g
    have := sd_L2 F (k := k) (cells := cells) (ms := ms) (ms2 := ms2) (cs := upTo (nxI k W H cells ms word) (H * W)) (a := a) (b := b) (c := c) (d := d) (e := e) (f := f) (d1 := d1) (d2 := d2) hw hh (by rw [upTo_len, Int.natCast_mul, Int.mul_comm]) hm hx ms.length F 0 (by omega) (by omega)
    rw [List.drop_zero] at this
    rw [stepped_L0_succ, show y = H by omega]
    simp only [show ¬ ((H : Int) < H) by omega, decide_false, cond_false]
    exact this
  | j + 1, n + 1, y, hy, hn => by
    obtain ⟨hw, hh, hl, hrk, _, _, _⟩ := orgG_spec g
    have ih := sd_y F hF g (ms2 := ms2) (word := word) (a := a) (b := b) (c := c) (d := d) (e := e) (f := f) (d1 := d1) (d2 := d2) j n (y + 1) (by omega) (by omega)
    have lx := sd_x F g (ms2 := ms2) (word := word) (a := a) (b := b) (c := c) (d := d) (e := e) (f := f) (d1 := d1) (d2 := d2) (show y < H by omega) n W F 0 (by omega) (by omega)
    rw [stepped_L0_succ]
    simp only [show ((y : Int) < H) by omega, decide_true, cond_true]
    exact lx.trans ih
abbrev OrgB := Int × Int × Int × List Int × List Mo × Bool
def steppedOk : LyZ → Bool := fun (k, w, h, cells, ms, _) => orgG k w h cells ms
def steppedM : LyZ → OrgB := fun (k, w, h, cells, ms, word) =>
  bif leakyM (k, w, h, cells, ms, word) then (0, 0, 0, [], [], false) else bif badL w (upTo (nxI k w h cells ms word) cells.length) ms then (0, 0, 0, [], [], false) else (k, w, h, upTo (nxI k w h cells ms word) cells.length, ms, true)
def steppedFu : LyZ → Nat := fun _ => 1100
def steppedR (z : LyZ) : Res := { ok := true, val := AV.tup [AV.agg [AV.int IntKind.i64 (steppedM z).1, AV.int IntKind.i64 (steppedM z).2.1, AV.int IntKind.i64 (steppedM z).2.2.1, AV.sl 0 0 0 none, AV.sl 1 0 0 none], AV.bool (steppedM z).2.2.2.2.2], heap := [Blk.row 0 3 (CK.int IntKind.i64) (steppedM z).2.2.2.1, Blk.row 0 66 (CK.pair (CK.int IntKind.i64) (CK.pair (CK.int IntKind.i64) (CK.pair (CK.int IntKind.i64) CK.bool))) (steppedM z).2.2.2.2.1] }
theorem stepped_retR (z : LyZ) (hk : steppedOk z = true) : stepped_run (steppedFu z) z = steppedR z ∧ (steppedR z).ok = true := by
  obtain ⟨k, w, h, cells, ms, word⟩ := z
  have g : orgG k w h cells ms = true := hk
  obtain ⟨hw, hh, hl, hrk, hx, _, _⟩ := orgG_spec g
  obtain ⟨W, rfl⟩ : ∃ a : Nat, w = a := ⟨w.toNat, by omega⟩
  obtain ⟨H, rfl⟩ : ∃ b : Nat, h = b := ⟨h.toNat, by omega⟩
  have hlen : cells.length = H * W := by rw [Nat.mul_comm]; exact_mod_cast hl
  have sy := sd_y 1100 (by omega) g (ms2 := ms) (word := word) (a := 0) (b := 0) (c := 0) (d := k) (e := W) (f := H) (d1 := []) (d2 := []) H 1100 0 (by omega) (by omega)
  rw [Nat.zero_mul, ← hlen] at sy
  refine ⟨(stepped_arg ..).trans ((stepped_eq ..).trans ?_), rfl⟩
  rw [show leakyOk (k, (W : Int), (H : Int), cells, ms, word) = true from g, decide_eq_true (show Nat.mul (Nat.add 0 ms.length) 32 ≤ 140737488355328 from by show (0 + ms.length) * 32 ≤ _; omega)]
  simp only [cond_true, steppedR, steppedM]
  cases leakyM (k, (W : Int), (H : Int), cells, ms, word) with
  | true => rfl
  | false =>
    simp only [cond_false]
    refine Eq.trans ?_ (sy.trans ?_)
    · rfl
    · cases badL W (upTo (nxI k W H cells ms word) cells.length) ms <;> rfl
def fineB (bits a : Int) : Bool := decide (0 ≤ a) && decide (a < shlI .i64 1 bits)
def rStreamOk : List Int × Int → Bool := fun (_, bits) => decide (0 ≤ bits ∧ bits ≤ 1000)
def rStreamM : List Int × Int → Int := fun (l, bits) => bif decide ((l.length : Int) > 4096) then 52 else bif l.all (fineB bits) then 0 else 52
def rStreamFu : List Int × Int → Nat := fun (l, _) => l.length + 1
theorem rStream_L0_spec (F : Nat) {l : List Int} {bits : Int} (hb : 0 ≤ bits ∧ bits ≤ 1000) (hl : l.length ≤ 4096) : ∀ (j n i : Nat), i + j = l.length → j < n →
    rStream_L0 F n l bits i = { ok := true, val := AV.int IntKind.i64 (bif (l.drop i).all (fineB bits) then 0 else 52) }
  | j, 0, i, _, h => by omega
  | 0, n + 1, i, hi, _ => by
    rw [rStream_L0_succ, drop_len l (by omega)]
    simp only [show ¬ ((i : Int) < l.length) by omega, decide_false, cond_false, List.all_nil, cond_true]
  | j + 1, n + 1, i, hi, hn => by
    have ih := rStream_L0_spec F (l := l) hb hl j n (i + 1) (by omega) (by omega)
    rw [rStream_L0_succ, drop_nth 0 l (show i < l.length by omega), Int.toNat_natCast, wrap_succ (i := i) (by omega), wrapu_id (n := bits) (by omega) (by omega), ih]
    simp only [show (i : Int) < l.length by omega, show (0 : Int) ≤ i by omega, hb.1, decide_true, Bool.and_self, cond_true, List.all_cons, fineB, ge_iff_le]
    cases decide (0 ≤ nth 0 l i) <;> cases decide (nth 0 l i < shlI IntKind.i64 1 bits) <;> rfl
theorem rStream_ret (z : List Int × Int) (hk : rStreamOk z = true) : Ret rStream_re rStream_R (rStream_run (rStreamFu z) z) (rStreamM z) := by
  obtain ⟨l, bits⟩ := z
  simp only [rStreamOk, decide_eq_true_eq] at hk
  refine Ret.of (r' := { ok := true, val := AV.int IntKind.i64 (rStreamM (l, bits)) }) ((rStream_arg ..).trans ((rStream_eq ..).trans ?_)) (Ret.int _ _)
  simp only [rStreamM]
  by_cases hl : (l.length : Int) > 4096
  · rw [decide_eq_true hl]; rfl
  · rw [decide_eq_false hl]
    simp only [cond_false]
    have := rStream_L0_spec (l.length + 1) hk (show l.length ≤ 4096 by omega) l.length (l.length + 1) 0 (by omega) (by omega)
    rw [List.drop_zero] at this
    exact this
end Go.Proofs.YtkecflbflcppkaaGreatDoor

open Go Go.Abs Go.Proofs
set_option linter.unusedVariables false
namespace Go.Proofs.YtkecflbflcppkaaGreatDoor
noncomputable def tbSRL_1 : FuncId → List AV → List Blk → Res := addC 21 (tspecR stepped_sh stepped_K steppedOk steppedR) tbSR
theorem tabSRL_1 : Tab Tryz.prog tbSRL_1 cxMd tbKSR := Tab.addTyR (os := []) tabSR tabSR (KK := stepped_K) (fn := Tryz.f21) (by kernel_rfl) (by kernel_rfl) (by kernel_rfl) (by kernel_rfl) _ steppedFu stepped_retR
noncomputable def tbSRL_2 : FuncId → List AV → List Blk → Res := addC 27 (tspec rStream_sh rStream_K rStream_re rStream_R rStreamOk rStreamM) tbSRL_1
theorem tabSRL_2 : Tab Tryz.prog tbSRL_2 cxMd tbKSR := Tab.addTy (os := []) tabSRL_1 tabSR (KK := rStream_K) (R := rStream_R) (fn := Tryz.f27) (by kernel_rfl) (by kernel_rfl) (by kernel_rfl) (by kernel_rfl) _ rStreamFu rStream_ret
noncomputable def tbSRB : FuncId → List AV → List Blk → Res := tbSRL_2
noncomputable def tbKSRB : KT := tbKSR
theorem tabSRB : Tab Tryz.prog tbSRB cxMd tbKSRB := tabSRL_2
end Go.Proofs.YtkecflbflcppkaaGreatDoor
