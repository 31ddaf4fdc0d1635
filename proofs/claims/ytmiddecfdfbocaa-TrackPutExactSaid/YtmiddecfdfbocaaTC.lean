/- Part of the proof, by an evaluator over plain values: TC. -/
import Derived.Test.YtmiddecfdfbocaaTBL
import Derived.Test.YtmiddecfdfbocaaProg
import Derived.KernelRfl
set_option linter.all false
set_option linter.unusedVariables false
set_option linter.unusedSimpArgs false
open Go Go.Abs Go.Proofs
set_option linter.unusedVariables false
namespace Go.Proofs.Ytmiddecfdfbocaa
noncomputable def tbTC_1 : FuncId → List AV → List Blk → Res := addC 45 (inl Try.prog tbTBB cxMd tbKTBB Try.f45) tbTBB
noncomputable def tbKTC_1 : KT := addK 45 (inlK Try.prog tbTBB cxMd tbKTBB Try.f45) tbKTBB
theorem tabTC_1 : Tab Try.prog tbTC_1 cxMd tbKTC_1 := Tab.addInl tabTBB tabTBB (fn := Try.f45) (by kernel_rfl) (by kernel_rfl) (by kernel_rfl)
noncomputable def tbTC_2 : FuncId → List AV → List Blk → Res := addC 69 (inl Try.prog tbTC_1 cxMd tbKTC_1 Try.f69) tbTC_1
noncomputable def tbKTC_2 : KT := addK 69 (inlK Try.prog tbTC_1 cxMd tbKTC_1 Try.f69) tbKTC_1
theorem tabTC_2 : Tab Try.prog tbTC_2 cxMd tbKTC_2 := Tab.addInl tabTC_1 tabTC_1 (fn := Try.f69) (by kernel_rfl) (by kernel_rfl) (by kernel_rfl)
noncomputable def tbTC_3 : FuncId → List AV → List Blk → Res := addC 47 (inl Try.prog tbTC_2 cxMd tbKTC_2 Try.f47) tbTC_2
noncomputable def tbKTC_3 : KT := addK 47 (inlK Try.prog tbTC_2 cxMd tbKTC_2 Try.f47) tbKTC_2
theorem tabTC_3 : Tab Try.prog tbTC_3 cxMd tbKTC_3 := Tab.addInl tabTC_2 tabTC_2 (fn := Try.f47) (by kernel_rfl) (by kernel_rfl) (by kernel_rfl)
noncomputable def tbTC_4 : FuncId → List AV → List Blk → Res := addC 49 (inl Try.prog tbTC_3 cxMd tbKTC_3 Try.f49) tbTC_3
noncomputable def tbKTC_4 : KT := addK 49 (inlK Try.prog tbTC_3 cxMd tbKTC_3 Try.f49) tbKTC_3
theorem tabTC_4 : Tab Try.prog tbTC_4 cxMd tbKTC_4 := Tab.addInl tabTC_3 tabTC_3 (fn := Try.f49) (by kernel_rfl) (by kernel_rfl) (by kernel_rfl)
noncomputable def tbTC_5 : FuncId → List AV → List Blk → Res := addC 34 (inl Try.prog tbTC_4 cxMd tbKTC_4 Try.f34) tbTC_4
noncomputable def tbKTC_5 : KT := addK 34 (inlK Try.prog tbTC_4 cxMd tbKTC_4 Try.f34) tbKTC_4
theorem tabTC_5 : Tab Try.prog tbTC_5 cxMd tbKTC_5 := Tab.addInl tabTC_4 tabTC_4 (fn := Try.f34) (by kernel_rfl) (by kernel_rfl) (by kernel_rfl)
noncomputable def tbTC_6 : FuncId → List AV → List Blk → Res := addC 40 (inl Try.prog tbTC_5 cxMd tbKTC_5 Try.f40) tbTC_5
noncomputable def tbKTC_6 : KT := addK 40 (inlK Try.prog tbTC_5 cxMd tbKTC_5 Try.f40) tbKTC_5
theorem tabTC_6 : Tab Try.prog tbTC_6 cxMd tbKTC_6 := Tab.addInl tabTC_5 tabTC_5 (fn := Try.f40) (by kernel_rfl) (by kernel_rfl) (by kernel_rfl)
noncomputable def tbTC_7 : FuncId → List AV → List Blk → Res := addC 53 (inl Try.prog tbTC_6 cxMd tbKTC_6 Try.f53) tbTC_6
noncomputable def tbKTC_7 : KT := addK 53 (inlK Try.prog tbTC_6 cxMd tbKTC_6 Try.f53) tbKTC_6
theorem tabTC_7 : Tab Try.prog tbTC_7 cxMd tbKTC_7 := Tab.addInl tabTC_6 tabTC_6 (fn := Try.f53) (by kernel_rfl) (by kernel_rfl) (by kernel_rfl)
noncomputable def tbTC_8 : FuncId → List AV → List Blk → Res := addC 76 (inl Try.prog tbTC_7 cxMd tbKTC_7 Try.f76) tbTC_7
noncomputable def tbKTC_8 : KT := addK 76 (inlK Try.prog tbTC_7 cxMd tbKTC_7 Try.f76) tbKTC_7
theorem tabTC_8 : Tab Try.prog tbTC_8 cxMd tbKTC_8 := Tab.addInl tabTC_7 tabTC_7 (fn := Try.f76) (by kernel_rfl) (by kernel_rfl) (by kernel_rfl)
noncomputable def tbTC_9 : FuncId → List AV → List Blk → Res := addC 64 (inl Try.prog tbTC_8 cxMd tbKTC_8 Try.f64) tbTC_8
noncomputable def tbKTC_9 : KT := addK 64 (inlK Try.prog tbTC_8 cxMd tbKTC_8 Try.f64) tbKTC_8
theorem tabTC_9 : Tab Try.prog tbTC_9 cxMd tbKTC_9 := Tab.addInl tabTC_8 tabTC_8 (fn := Try.f64) (by kernel_rfl) (by kernel_rfl) (by kernel_rfl)
noncomputable def tbTC : FuncId → List AV → List Blk → Res := tbTC_9
noncomputable def tbKTC : KT := tbKTC_9
theorem tabTC : Tab Try.prog tbTC cxMd tbKTC := tabTC_9
noncomputable def cx_fits (F : Nat) : Cx := { P := Try.prog, C := tbTC, K := tbKTC, mode := cxMd, fuel := F + 8, live := liveTab [(2, [20, 1, 5, 21])], pin := 0, nx := true }
noncomputable def cx_rTable (F : Nat) : Cx := { P := Try.prog, C := tbTC, K := tbKTC, mode := cxMd, fuel := F, live := liveTab [(2, [0, 1, 2, 3, 4, 5, 13])], pin := 0, nx := true }
noncomputable def cx_compare (F : Nat) : Cx := { P := Try.prog, C := tbTC, K := tbKTC, mode := cxMd, fuel := F, live := liveTab [], pin := 0, nx := true }
def fits_K : CK := CK.pair (CK.int IntKind.i64) (CK.pair (CK.int IntKind.i64) (CK.pair (CK.int IntKind.i64) (CK.pair (CK.int IntKind.i64) (CK.pair (CK.int IntKind.i64) (CK.pair (CK.int IntKind.i64) (CK.pair (CK.int IntKind.i64) (CK.pair (CK.int IntKind.i64) (CK.pair (CK.int IntKind.i64) (CK.pair (CK.int IntKind.i64) (CK.int IntKind.i64))))))))))
def fits_sh : List (Option Nat) := [some 6, none, some 4]
def fits_R : CK := CK.bool
def fits_re : List (Option Nat) := [none]
noncomputable def fits_S1 (a0_3 : Int) (a0_4 : Int) (a2_2 : Int) (a2_3 : Int) : Res := bif a0_3 != -1 then bif a0_3 != a2_2 then { ok := true, val := AV.bool false } else bif a0_4 != -1 then bif a0_4 != a2_3 then { ok := true, val := AV.bool false } else { ok := true, val := AV.bool true } else { ok := true, val := AV.bool true } else bif a0_4 != -1 then bif a0_4 != a2_3 then { ok := true, val := AV.bool false } else { ok := true, val := AV.bool true } else { ok := true, val := AV.bool true }
noncomputable def fits_S2 (a0_2 : Int) (a0_3 : Int) (a0_4 : Int) (a2_1 : Int) (a2_2 : Int) (a2_3 : Int) : Res := bif a0_2 != -1 then bif a0_2 != a2_1 then { ok := true, val := AV.bool false } else fits_S1 a0_3 a0_4 a2_2 a2_3 else fits_S1 a0_3 a0_4 a2_2 a2_3
noncomputable def fits_S3 (a0_1 : Int) (a0_2 : Int) (a0_3 : Int) (a0_4 : Int) (a2_0 : Int) (a2_1 : Int) (a2_2 : Int) (a2_3 : Int) : Res := bif a0_1 != -1 then bif a0_1 != a2_0 then { ok := true, val := AV.bool false } else fits_S2 a0_2 a0_3 a0_4 a2_1 a2_2 a2_3 else fits_S2 a0_2 a0_3 a0_4 a2_1 a2_2 a2_3
theorem fits_eq (F : Nat) (a0_0 : Int) (a0_1 : Int) (a0_2 : Int) (a0_3 : Int) (a0_4 : Int) (a0_5 : Int) (a1 : Int) (a2_0 : Int) (a2_1 : Int) (a2_2 : Int) (a2_3 : Int) : runF (cx_fits F) Try.f73 [AV.agg [AV.int IntKind.i64 a0_0, AV.int IntKind.i64 a0_1, AV.int IntKind.i64 a0_2, AV.int IntKind.i64 a0_3, AV.int IntKind.i64 a0_4, AV.int IntKind.i64 a0_5], AV.int IntKind.i64 a1, AV.agg [AV.int IntKind.i64 a2_0, AV.int IntKind.i64 a2_1, AV.int IntKind.i64 a2_2, AV.int IntKind.i64 a2_3]] [] = bif a0_0 != -1 then bif a0_0 != a1 then { ok := true, val := AV.bool false } else fits_S3 a0_1 a0_2 a0_3 a0_4 a2_0 a2_1 a2_2 a2_3 else fits_S3 a0_1 a0_2 a0_3 a0_4 a2_0 a2_1 a2_2 a2_3 := by kernel_rfl
noncomputable def fits_run (F : Nat) (x : CT fits_K) : Res := runF (cx_fits F) Try.f73 (groupA fits_sh (enc fits_K x)) []
theorem fits_arg (F : Nat) (a0_0 : Int) (a0_1 : Int) (a0_2 : Int) (a0_3 : Int) (a0_4 : Int) (a0_5 : Int) (a1 : Int) (a2_0 : Int) (a2_1 : Int) (a2_2 : Int) (a2_3 : Int) : fits_run F (a0_0, a0_1, a0_2, a0_3, a0_4, a0_5, a1, a2_0, a2_1, a2_2, a2_3) = runF (cx_fits F) Try.f73 [AV.agg [AV.int IntKind.i64 a0_0, AV.int IntKind.i64 a0_1, AV.int IntKind.i64 a0_2, AV.int IntKind.i64 a0_3, AV.int IntKind.i64 a0_4, AV.int IntKind.i64 a0_5], AV.int IntKind.i64 a1, AV.agg [AV.int IntKind.i64 a2_0, AV.int IntKind.i64 a2_1, AV.int IntKind.i64 a2_2, AV.int IntKind.i64 a2_3]] [] := by kernel_rfl
def rTable_K : CK := CK.pair (CK.slice 71 (CK.pair (CK.int IntKind.i64) (CK.pair (CK.int IntKind.i64) (CK.pair (CK.int IntKind.i64) (CK.pair (CK.int IntKind.i64) (CK.pair (CK.int IntKind.i64) (CK.int IntKind.i64))))))) (CK.pair (CK.int IntKind.i64) (CK.pair (CK.int IntKind.i64) (CK.pair (CK.int IntKind.i64) (CK.pair (CK.int IntKind.i64) (CK.int IntKind.i64)))))
def rTable_sh : List (Option Nat) := [none, none, none, none, none, none]
def rTable_R : CK := CK.int IntKind.i64
def rTable_re : List (Option Nat) := [none]
noncomputable def rTable_L0r (F : Nat) (n : Nat) (s0 : List (Int × Int × Int × Int × Int × Int)) (s1 : Int) (s2 : Int) (s3 : Int) (s4 : Int) (s5 : Int) (s13 : Int) : Res := Lp (cx_rTable F) (loopBy (loopsOf (cx_rTable F) (bodyOf Try.f46) (endK (cx_rTable F) Try.f46)) 2) n { T := fr 56 [(0, AV.ro (CK.pair (CK.int IntKind.i64) (CK.pair (CK.int IntKind.i64) (CK.pair (CK.int IntKind.i64) (CK.pair (CK.int IntKind.i64) (CK.pair (CK.int IntKind.i64) (CK.int IntKind.i64)))))) s0), (1, AV.int IntKind.i64 s1), (2, AV.int IntKind.i64 s2), (3, AV.int IntKind.i64 s3), (4, AV.int IntKind.i64 s4), (5, AV.int IntKind.i64 s5), (13, AV.int IntKind.i64 s13)], H := [], ok := true }
noncomputable def rTable_L0 : Nat → Nat → List (Int × Int × Int × Int × Int × Int) → Int → Int → Int → Int → Int → Int → Res := Classical.choose (hideE rTable_L0r)
theorem rTable_L0_def : rTable_L0 = rTable_L0r := Classical.choose_spec (hideE rTable_L0r)
noncomputable def rTable_L0_S1 (F : Nat) (n : Nat) (s0 : List (Int × Int × Int × Int × Int × Int)) (s1 : Int) (s2 : Int) (s3 : Int) (s4 : Int) (s5 : Int) (s13 : Int) : Res := bif decide (Prod.fst (Prod.snd (Prod.snd (Prod.snd (Prod.snd (nth (0, 0, 0, 0, 0, 0) s0 (Int.toNat s13)))))) = -1) then { ok := true, val := AV.int IntKind.i64 (Prod.snd (Prod.snd (Prod.snd (Prod.snd (Prod.snd (nth (0, 0, 0, 0, 0, 0) s0 (Int.toNat s13))))))) } else bif decide (Prod.fst (Prod.snd (Prod.snd (Prod.snd (Prod.snd (nth (0, 0, 0, 0, 0, 0) s0 (Int.toNat s13)))))) = s5) then { ok := true, val := AV.int IntKind.i64 (Prod.snd (Prod.snd (Prod.snd (Prod.snd (Prod.snd (nth (0, 0, 0, 0, 0, 0) s0 (Int.toNat s13))))))) } else rTable_L0 F n s0 s1 s2 s3 s4 s5 (IntKind.wrap IntKind.i64 (s13 + 1))
noncomputable def rTable_L0_S2 (F : Nat) (n : Nat) (s0 : List (Int × Int × Int × Int × Int × Int)) (s1 : Int) (s2 : Int) (s3 : Int) (s4 : Int) (s5 : Int) (s13 : Int) : Res := bif decide (Prod.fst (Prod.snd (Prod.snd (Prod.snd (nth (0, 0, 0, 0, 0, 0) s0 (Int.toNat s13))))) = -1) then rTable_L0_S1 F n s0 s1 s2 s3 s4 s5 s13 else bif decide (Prod.fst (Prod.snd (Prod.snd (Prod.snd (nth (0, 0, 0, 0, 0, 0) s0 (Int.toNat s13))))) = s4) then rTable_L0_S1 F n s0 s1 s2 s3 s4 s5 s13 else rTable_L0 F n s0 s1 s2 s3 s4 s5 (IntKind.wrap IntKind.i64 (s13 + 1))
noncomputable def rTable_L0_S3 (F : Nat) (n : Nat) (s0 : List (Int × Int × Int × Int × Int × Int)) (s1 : Int) (s2 : Int) (s3 : Int) (s4 : Int) (s5 : Int) (s13 : Int) : Res := bif decide (Prod.fst (Prod.snd (Prod.snd (nth (0, 0, 0, 0, 0, 0) s0 (Int.toNat s13)))) = -1) then rTable_L0_S2 F n s0 s1 s2 s3 s4 s5 s13 else bif decide (Prod.fst (Prod.snd (Prod.snd (nth (0, 0, 0, 0, 0, 0) s0 (Int.toNat s13)))) = s3) then rTable_L0_S2 F n s0 s1 s2 s3 s4 s5 s13 else rTable_L0 F n s0 s1 s2 s3 s4 s5 (IntKind.wrap IntKind.i64 (s13 + 1))
noncomputable def rTable_L0_S4 (F : Nat) (n : Nat) (s0 : List (Int × Int × Int × Int × Int × Int)) (s1 : Int) (s2 : Int) (s3 : Int) (s4 : Int) (s5 : Int) (s13 : Int) : Res := bif decide (Prod.fst (Prod.snd (nth (0, 0, 0, 0, 0, 0) s0 (Int.toNat s13))) = -1) then rTable_L0_S3 F n s0 s1 s2 s3 s4 s5 s13 else bif decide (Prod.fst (Prod.snd (nth (0, 0, 0, 0, 0, 0) s0 (Int.toNat s13))) = s2) then rTable_L0_S3 F n s0 s1 s2 s3 s4 s5 s13 else rTable_L0 F n s0 s1 s2 s3 s4 s5 (IntKind.wrap IntKind.i64 (s13 + 1))
theorem rTable_L0_succ (F : Nat) (n : Nat) (s0 : List (Int × Int × Int × Int × Int × Int)) (s1 : Int) (s2 : Int) (s3 : Int) (s4 : Int) (s5 : Int) (s13 : Int) : rTable_L0 F (n + 1) s0 s1 s2 s3 s4 s5 s13 = bif decide (s13 < (↑(List.length s0) : Int)) then bif decide (0 ≤ s13) && decide (s13 < (↑(List.length s0) : Int)) then bif decide (Prod.fst (nth (0, 0, 0, 0, 0, 0) s0 (Int.toNat s13)) = -1) then rTable_L0_S4 F n s0 s1 s2 s3 s4 s5 s13 else bif decide (Prod.fst (nth (0, 0, 0, 0, 0, 0) s0 (Int.toNat s13)) = s1) then rTable_L0_S4 F n s0 s1 s2 s3 s4 s5 s13 else rTable_L0 F n s0 s1 s2 s3 s4 s5 (IntKind.wrap IntKind.i64 (s13 + 1)) else { ok := false, val := AV.junk } else { ok := true, val := AV.int IntKind.i64 s1 } := by rewrite [rTable_L0_S4, rTable_L0_S3, rTable_L0_S2, rTable_L0_S1, rTable_L0_def]; kernel_rfl
theorem rTable_eq (F : Nat) (a0 : List (Int × Int × Int × Int × Int × Int)) (a1 : Int) (a2 : Int) (a3 : Int) (a4 : Int) (a5 : Int) : runF (cx_rTable F) Try.f46 [AV.ro (CK.pair (CK.int IntKind.i64) (CK.pair (CK.int IntKind.i64) (CK.pair (CK.int IntKind.i64) (CK.pair (CK.int IntKind.i64) (CK.pair (CK.int IntKind.i64) (CK.int IntKind.i64)))))) a0, AV.int IntKind.i64 a1, AV.int IntKind.i64 a2, AV.int IntKind.i64 a3, AV.int IntKind.i64 a4, AV.int IntKind.i64 a5] [] = rTable_L0 F F a0 a1 a2 a3 a4 a5 0 := by rewrite [rTable_L0_def]; kernel_rfl
noncomputable def rTable_run (F : Nat) (x : CT rTable_K) : Res := runF (cx_rTable F) Try.f46 (groupA rTable_sh (enc rTable_K x)) []
theorem rTable_arg (F : Nat) (a0 : List (Int × Int × Int × Int × Int × Int)) (a1 : Int) (a2 : Int) (a3 : Int) (a4 : Int) (a5 : Int) : rTable_run F (a0, a1, a2, a3, a4, a5) = runF (cx_rTable F) Try.f46 [AV.ro (CK.pair (CK.int IntKind.i64) (CK.pair (CK.int IntKind.i64) (CK.pair (CK.int IntKind.i64) (CK.pair (CK.int IntKind.i64) (CK.pair (CK.int IntKind.i64) (CK.int IntKind.i64)))))) a0, AV.int IntKind.i64 a1, AV.int IntKind.i64 a2, AV.int IntKind.i64 a3, AV.int IntKind.i64 a4, AV.int IntKind.i64 a5] [] := by kernel_rfl
def compare_K : CK := CK.pair (CK.int IntKind.i64) (CK.int IntKind.i64)
def compare_sh : List (Option Nat) := [none, none]
def compare_R : CK := CK.int IntKind.i64
def compare_re : List (Option Nat) := [none]
theorem compare_eq (F : Nat) (a0 : Int) (a1 : Int) : runF (cx_compare F) Try.f57 [AV.int IntKind.i64 a0, AV.int IntKind.i64 a1] [] = bif a0 != a0 then bif a1 != a1 then { ok := true, val := AV.int IntKind.i64 0 } else { ok := true, val := AV.int IntKind.i64 (-1) } else bif a1 != a1 then { ok := true, val := AV.int IntKind.i64 1 } else bif decide (a0 < a1) then { ok := true, val := AV.int IntKind.i64 (-1) } else bif decide (a0 > a1) then { ok := true, val := AV.int IntKind.i64 1 } else { ok := true, val := AV.int IntKind.i64 0 } := by kernel_rfl
noncomputable def compare_run (F : Nat) (x : CT compare_K) : Res := runF (cx_compare F) Try.f57 (groupA compare_sh (enc compare_K x)) []
theorem compare_arg (F : Nat) (a0 : Int) (a1 : Int) : compare_run F (a0, a1) = runF (cx_compare F) Try.f57 [AV.int IntKind.i64 a0, AV.int IntKind.i64 a1] [] := by kernel_rfl
end Go.Proofs.Ytmiddecfdfbocaa
