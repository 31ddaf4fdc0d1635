/- Part of the proof, by an evaluator over plain values: KG. -/
import Derived.Test.YtaiokhbjjhicpaaKF
import Derived.Test.YtaiokhbjjhicpaaProg
import Derived.KernelRfl
set_option linter.all false
set_option linter.unusedVariables false
set_option linter.unusedSimpArgs false
open Go Go.Abs Go.Proofs
set_option linter.unusedVariables false
namespace Go.Proofs.Ytaiokhbjjhicpaa
noncomputable def tbKG : FuncId → List AV → List Blk → Res := tbKFB
noncomputable def tbKKG : KT := tbKKFB
theorem tabKG : Tab Try.prog tbKG cxMd tbKKG := tabKFB
noncomputable def cx_oKept (F : Nat) : Cx := { P := Try.prog, C := tbKG, K := tbKKG, mode := cxMd, fuel := F, live := liveTab [(5, [4, 3]), (10, [5, 25])], pin := 0, nx := true }
noncomputable def cx_rKept (F : Nat) : Cx := { P := Try.prog, C := tbKG, K := tbKKG, mode := cxMd, fuel := F, live := liveTab [(4, [0, 3])], pin := 0, nx := true }
def oKept_K : CK := CK.int IntKind.i64
def oKept_sh : List (Option Nat) := [none]
def oKept_R : CK := CK.slice 2 (CK.int IntKind.i64)
def oKept_re : List (Option Nat) := [none]
noncomputable def oKept_L0r (F : Nat) (n : Nat) (s4 : Int) (h0 : List (Int × Bool)) : Res := Lp (cx_oKept F) (loopBy (loopsOf (cx_oKept F) (bodyOf Try.f4) (endK (cx_oKept F) Try.f4)) 5) n { T := fr 37 [(3, AV.mp 0), (4, AV.int IntKind.i64 s4)], H := [Blk.map false false (CK.int IntKind.i64) CK.bool h0], ok := true }
noncomputable def oKept_L0 : Nat → Nat → Int → List (Int × Bool) → Res := Classical.choose (hideE oKept_L0r)
theorem oKept_L0_def : oKept_L0 = oKept_L0r := Classical.choose_spec (hideE oKept_L0r)
noncomputable def oKept_L1r (F : Nat) (n : Nat) (h0 : List Int) (h1r : List (Int × Bool)) (h1c : List (Int × Bool)) : Res := Lp (cx_oKept F) (loopBy (loopsOf (cx_oKept F) (bodyOf Try.f4) (endK (cx_oKept F) Try.f4)) 10) n { T := fr 37 [(5, AV.sl 0 0 0 none), (25, AV.it 1)], H := [Blk.row 0 2 (CK.int IntKind.i64) h0, Blk.iter false false (CK.int IntKind.i64) CK.bool h1r h1c], ok := true }
noncomputable def oKept_L1 : Nat → Nat → List Int → List (Int × Bool) → List (Int × Bool) → Res := Classical.choose (hideE oKept_L1r)
theorem oKept_L1_def : oKept_L1 = oKept_L1r := Classical.choose_spec (hideE oKept_L1r)
theorem oKept_L0_succ (F : Nat) (n : Nat) (s4 : Int) (h0 : List (Int × Bool)) : oKept_L0 F (n + 1) s4 h0 = bif decide (s4 > 0) then oKept_L0 F n (andI IntKind.i64 s4 (IntKind.wrap IntKind.i64 (s4 - 1))) (Abs.insM (CK.int IntKind.i64) h0 (s4 : Int) true) else oKept_L1 F F [] h0 [] := by rewrite [oKept_L0_def, oKept_L1_def]; kernel_rfl
theorem oKept_L1_succ (F : Nat) (n : Nat) (h0 : List Int) (h1r : List (Int × Bool)) (h1c : List (Int × Bool)) : oKept_L1 F (n + 1) h0 h1r h1c = bif List.isEmpty h1r then bif List.isEmpty h1r then bif sortOk h0 [] then { ok := true, val := AV.sl 0 0 0 none, heap := [Blk.row 0 2 (CK.int IntKind.i64) (sortY h0 [])] } else { ok := false, val := AV.junk } else { ok := false, val := AV.junk } else anyN (List.length h1r) fun (pk0 : Nat) => bif decide (pk0 < List.length h1r) then bif Nat.ble 0 (List.length h0) && decide (Nat.mul (Nat.add (List.length h0) 1) 8 ≤ 140737488355328) then oKept_L1 F n (h0 ++ [Prod.fst (nth (0, false) h1r pk0)]) (List.eraseIdx h1r pk0) [nth (0, false) h1r pk0] else { ok := false, val := AV.junk } else { ok := false, val := AV.junk } := by rewrite [oKept_L1_def]; kernel_rfl
theorem oKept_eq (F : Nat) (a0 : Int) : runF (cx_oKept F) Try.f4 [AV.int IntKind.i64 a0] [] = bif decide (a0 < 0) then { ok := true, val := AV.sl 0 0 0 none, heap := [Blk.row 0 2 (CK.int IntKind.i64) []] } else bif decide (a0 > 1099511627776) then { ok := true, val := AV.sl 0 0 0 none, heap := [Blk.row 0 2 (CK.int IntKind.i64) []] } else oKept_L0 F F a0 [(0, true)] := by rewrite [oKept_L0_def]; kernel_rfl
noncomputable def oKept_run (F : Nat) (x : CT oKept_K) : Res := runF (cx_oKept F) Try.f4 (groupA oKept_sh (enc oKept_K x)) []
theorem oKept_arg (F : Nat) (a0 : Int) : oKept_run F (a0) = runF (cx_oKept F) Try.f4 [AV.int IntKind.i64 a0] [] := by kernel_rfl
def rKept_K : CK := CK.int IntKind.i64
def rKept_sh : List (Option Nat) := [none]
def rKept_R : CK := CK.slice 2 (CK.int IntKind.i64)
def rKept_re : List (Option Nat) := [none]
noncomputable def rKept_L0r (F : Nat) (n : Nat) (s0 : Int) (h0 : List Int) : Res := Lp (cx_rKept F) (loopBy (loopsOf (cx_rKept F) (bodyOf Try.f5) (endK (cx_rKept F) Try.f5)) 4) n { T := fr 23 [(0, AV.int IntKind.i64 s0), (3, AV.sl 0 0 0 none)], H := [Blk.row 0 2 (CK.int IntKind.i64) h0], ok := true }
noncomputable def rKept_L0 : Nat → Nat → Int → List Int → Res := Classical.choose (hideE rKept_L0r)
theorem rKept_L0_def : rKept_L0 = rKept_L0r := Classical.choose_spec (hideE rKept_L0r)
theorem rKept_L0_succ (F : Nat) (n : Nat) (s0 : Int) (h0 : List Int) : rKept_L0 F (n + 1) s0 h0 = bif decide (s0 > 0) then bif decide (Nat.mul (Nat.add 1 (List.length h0)) 8 ≤ 140737488355328) then rKept_L0 F n (andI IntKind.i64 s0 (IntKind.wrap IntKind.i64 (s0 - 1))) (andI IntKind.i64 s0 (IntKind.wrap IntKind.i64 (s0 - 1)) :: h0) else { ok := false, val := AV.junk } else { ok := true, val := AV.sl 0 0 0 none, heap := [Blk.row 0 2 (CK.int IntKind.i64) h0] } := by rewrite [rKept_L0_def]; kernel_rfl
theorem rKept_eq (F : Nat) (a0 : Int) : runF (cx_rKept F) Try.f5 [AV.int IntKind.i64 a0] [] = bif decide (a0 < 0) then { ok := true, val := AV.sl 0 0 0 none, heap := [Blk.row 0 2 (CK.int IntKind.i64) []] } else bif decide (a0 > 1099511627776) then { ok := true, val := AV.sl 0 0 0 none, heap := [Blk.row 0 2 (CK.int IntKind.i64) []] } else rKept_L0 F F a0 [a0] := by rewrite [rKept_L0_def]; kernel_rfl
noncomputable def rKept_run (F : Nat) (x : CT rKept_K) : Res := runF (cx_rKept F) Try.f5 (groupA rKept_sh (enc rKept_K x)) []
theorem rKept_arg (F : Nat) (a0 : Int) : rKept_run F (a0) = runF (cx_rKept F) Try.f5 [AV.int IntKind.i64 a0] [] := by kernel_rfl
end Go.Proofs.Ytaiokhbjjhicpaa
