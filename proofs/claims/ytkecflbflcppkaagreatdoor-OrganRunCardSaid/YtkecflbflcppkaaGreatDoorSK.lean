/- The laws of newBody and of what an organ meets outside. -/
import Derived.Test.YtkecflbflcppkaaGreatDoorSJ
import Derived.Test.YtkecflbflcppkaaGreatDoorProg
import Derived.KernelRfl
set_option linter.all false
set_option linter.unusedVariables false
set_option linter.unusedSimpArgs false
open Go Go.Abs Go.Proofs
set_option linter.unusedVariables false
namespace Go.Proofs.YtkecflbflcppkaaGreatDoor
noncomputable def tbSK_1 : FuncId → List AV → List Blk → Res := addC 93 (inl Tryz.prog tbSJB cxMd tbKSJB Tryz.f93) tbSJB
noncomputable def tbKSK_1 : KT := addK 93 (inlK Tryz.prog tbSJB cxMd tbKSJB Tryz.f93) tbKSJB
theorem tabSK_1 : Tab Tryz.prog tbSK_1 cxMd tbKSK_1 := Tab.addInl tabSJB tabSJB (fn := Tryz.f93) (by kernel_rfl) (by kernel_rfl) (by kernel_rfl)
noncomputable def tbSK_2 : FuncId → List AV → List Blk → Res := addC 74 (inl Tryz.prog tbSK_1 cxMd tbKSK_1 Tryz.f74) tbSK_1
noncomputable def tbKSK_2 : KT := addK 74 (inlK Tryz.prog tbSK_1 cxMd tbKSK_1 Tryz.f74) tbKSK_1
theorem tabSK_2 : Tab Tryz.prog tbSK_2 cxMd tbKSK_2 := Tab.addInl tabSK_1 tabSK_1 (fn := Tryz.f74) (by kernel_rfl) (by kernel_rfl) (by kernel_rfl)
noncomputable def tbSK : FuncId → List AV → List Blk → Res := tbSK_2
noncomputable def tbKSK : KT := tbKSK_2
theorem tabSK : Tab Tryz.prog tbSK cxMd tbKSK := tabSK_2
noncomputable def cx_newBody (F : Nat) : Cx := { P := Tryz.prog, C := tbSK, K := tbKSK, mode := cxMd, fuel := F, live := liveTab [(4, [4, 18, 17, 16, 3])], pin := 0, nx := true }
noncomputable def cx_meets (F : Nat) : Cx := { P := Tryz.prog, C := tbSK, K := tbKSK, mode := cxMd, fuel := F, live := liveTab [(3, [4, 2, 3, 10, 9, 1])], pin := 0, nx := true }
def newBody_K : CK := CK.pair (CK.int IntKind.i64) (CK.pair (CK.int IntKind.i64) (CK.pair (CK.int IntKind.i64) (CK.pair (CK.slice 3 (CK.int IntKind.i64)) (CK.slice 66 (CK.pair (CK.int IntKind.i64) (CK.pair (CK.int IntKind.i64) (CK.pair (CK.int IntKind.i64) CK.bool)))))))
def newBody_sh : List (Option Nat) := [some 5]
def newBody_R : CK := CK.other
def newBody_re : List (Option Nat) := [none]
noncomputable def newBody_L0r (F : Nat) (n : Nat) (s4 : Int) (s16 : List (Int × Int × Int × Bool)) (s17 : Int) (s18 : Int) (h0_0 : Int) (h0_1 : Int) (h0_2 : Int) (h0_3 : List Int) (h0_4 : List (Int × Int × Int × Bool)) (h0_5 : Int) (h0_7 : Int) (h1 : List ((Int × Int × Int) × Int)) : Res := Lp (cx_newBody F) (loopBy (loopsOf (cx_newBody F) (bodyOf Tryz.f24) (endK (cx_newBody F) Tryz.f24)) 4) n { T := fr 58 [(3, AV.ptr 0 0), (4, AV.int IntKind.i64 s4), (16, AV.ro (CK.pair (CK.int IntKind.i64) (CK.pair (CK.int IntKind.i64) (CK.pair (CK.int IntKind.i64) CK.bool))) s16), (17, AV.int IntKind.i64 s17), (18, AV.int IntKind.i64 s18)], H := [Blk.cells [AV.int IntKind.i64 h0_0, AV.int IntKind.i64 h0_1, AV.int IntKind.i64 h0_2, AV.ro (CK.int IntKind.i64) h0_3, AV.ro (CK.pair (CK.int IntKind.i64) (CK.pair (CK.int IntKind.i64) (CK.pair (CK.int IntKind.i64) CK.bool))) h0_4, AV.int IntKind.i64 h0_5, AV.nils, AV.int IntKind.i64 h0_7, AV.mp 1], Blk.map true false (CK.pair (CK.int IntKind.i64) (CK.pair (CK.int IntKind.i64) (CK.int IntKind.i64))) (CK.int IntKind.i64) h1], ok := true }
noncomputable def newBody_L0 : Nat → Nat → Int → List (Int × Int × Int × Bool) → Int → Int → Int → Int → Int → List Int → List (Int × Int × Int × Bool) → Int → Int → List ((Int × Int × Int) × Int) → Res := Classical.choose (hideE newBody_L0r)
theorem newBody_L0_def : newBody_L0 = newBody_L0r := Classical.choose_spec (hideE newBody_L0r)
theorem newBody_L0_succ (F : Nat) (n : Nat) (s4 : Int) (s16 : List (Int × Int × Int × Bool)) (s17 : Int) (s18 : Int) (h0_0 : Int) (h0_1 : Int) (h0_2 : Int) (h0_3 : List Int) (h0_4 : List (Int × Int × Int × Bool)) (h0_5 : Int) (h0_7 : Int) (h1 : List ((Int × Int × Int) × Int)) : newBody_L0 F (n + 1) s4 s16 s17 s18 h0_0 h0_1 h0_2 h0_3 h0_4 h0_5 h0_7 h1 = bif decide (s18 < s17) then bif decide (0 ≤ s18) && decide (s18 < (↑(List.length s16) : Int)) then bif Prod.snd (Prod.snd (Prod.snd (nth (0, 0, 0, false) s16 (Int.toNat s18)))) then newBody_L0 F n (IntKind.wrap IntKind.i64 (s4 + 1)) s16 s17 (IntKind.wrap IntKind.i64 (s18 + 1)) h0_0 h0_1 h0_2 h0_3 h0_4 h0_5 h0_7 (insM (CK.pair (CK.int IntKind.i64) (CK.pair (CK.int IntKind.i64) (CK.int IntKind.i64))) h1 ((Prod.fst (nth (0, 0, 0, false) s16 (Int.toNat s18)), Prod.fst (Prod.snd (nth (0, 0, 0, false) s16 (Int.toNat s18))), Prod.fst (Prod.snd (Prod.snd (nth (0, 0, 0, false) s16 (Int.toNat s18))))) : (Int × (Int × Int))) (IntKind.wrap IntKind.i64 (100 + s4))) else newBody_L0 F n s4 s16 s17 (IntKind.wrap IntKind.i64 (s18 + 1)) h0_0 h0_1 h0_2 h0_3 h0_4 h0_5 (IntKind.wrap IntKind.i64 (h0_7 + 1)) (insM (CK.pair (CK.int IntKind.i64) (CK.pair (CK.int IntKind.i64) (CK.int IntKind.i64))) h1 ((Prod.fst (nth (0, 0, 0, false) s16 (Int.toNat s18)), Prod.fst (Prod.snd (nth (0, 0, 0, false) s16 (Int.toNat s18))), Prod.fst (Prod.snd (Prod.snd (nth (0, 0, 0, false) s16 (Int.toNat s18))))) : (Int × (Int × Int))) h0_7) else { ok := false, val := AV.junk } else { ok := true, val := AV.ptr 0 0, heap := [Blk.cells [AV.int IntKind.i64 h0_0, AV.int IntKind.i64 h0_1, AV.int IntKind.i64 h0_2, AV.ro (CK.int IntKind.i64) h0_3, AV.ro (CK.pair (CK.int IntKind.i64) (CK.pair (CK.int IntKind.i64) (CK.pair (CK.int IntKind.i64) CK.bool))) h0_4, AV.int IntKind.i64 h0_5, AV.nils, AV.int IntKind.i64 h0_7, AV.mp 1], Blk.map true false (CK.pair (CK.int IntKind.i64) (CK.pair (CK.int IntKind.i64) (CK.int IntKind.i64))) (CK.int IntKind.i64) h1] } := by rewrite [newBody_L0_def]; kernel_rfl
theorem newBody_eq (F : Nat) (a0_0 : Int) (a0_1 : Int) (a0_2 : Int) (a0_3 : List Int) (a0_4 : List (Int × Int × Int × Bool)) : runF (cx_newBody F) Tryz.f24 [AV.agg [AV.int IntKind.i64 a0_0, AV.int IntKind.i64 a0_1, AV.int IntKind.i64 a0_2, AV.ro (CK.int IntKind.i64) a0_3, AV.ro (CK.pair (CK.int IntKind.i64) (CK.pair (CK.int IntKind.i64) (CK.pair (CK.int IntKind.i64) CK.bool))) a0_4]] [] = newBody_L0 F F 0 a0_4 (↑(List.length a0_4) : Int) 0 a0_0 a0_1 a0_2 a0_3 a0_4 a0_0 0 [] := by rewrite [newBody_L0_def]; kernel_rfl
noncomputable def newBody_run (F : Nat) (x : CT newBody_K) : Res := runF (cx_newBody F) Tryz.f24 (groupA newBody_sh (enc newBody_K x)) []
theorem newBody_arg (F : Nat) (a0_0 : Int) (a0_1 : Int) (a0_2 : Int) (a0_3 : List Int) (a0_4 : List (Int × Int × Int × Bool)) : newBody_run F (a0_0, a0_1, a0_2, a0_3, a0_4) = runF (cx_newBody F) Tryz.f24 [AV.agg [AV.int IntKind.i64 a0_0, AV.int IntKind.i64 a0_1, AV.int IntKind.i64 a0_2, AV.ro (CK.int IntKind.i64) a0_3, AV.ro (CK.pair (CK.int IntKind.i64) (CK.pair (CK.int IntKind.i64) (CK.pair (CK.int IntKind.i64) CK.bool))) a0_4]] [] := by kernel_rfl
def meets_K : CK := CK.pair (CK.int IntKind.i64) (CK.pair (CK.int IntKind.i64) (CK.pair (CK.int IntKind.i64) (CK.pair (CK.slice 3 (CK.int IntKind.i64)) (CK.pair (CK.slice 66 (CK.pair (CK.int IntKind.i64) (CK.pair (CK.int IntKind.i64) (CK.pair (CK.int IntKind.i64) CK.bool)))) (CK.pair (CK.int IntKind.i64) (CK.pair (CK.int IntKind.i64) (CK.int IntKind.i64)))))))
def meets_sh : List (Option Nat) := [some 5, none, none, none]
def meets_R : CK := CK.int IntKind.i64
def meets_re : List (Option Nat) := [none]
noncomputable def meets_L0r (F : Nat) (n : Nat) (s1 : Int) (s2 : Int) (s3 : Int) (s9 : Int) (s10 : Int) (h0_0 : Int) (h0_1 : Int) (h0_2 : Int) (h0_3 : List Int) (h0_4 : List (Int × Int × Int × Bool)) : Res := Lp (cx_meets F) (loopBy (loopsOf (cx_meets F) (bodyOf Tryz.f78) (endK (cx_meets F) Tryz.f78)) 3) n { T := fr 60 [(1, AV.int IntKind.i64 s1), (2, AV.int IntKind.i64 s2), (3, AV.int IntKind.i64 s3), (4, AV.ptr 0 0), (9, AV.int IntKind.i64 s9), (10, AV.int IntKind.i64 s10)], H := [Blk.cells [AV.int IntKind.i64 h0_0, AV.int IntKind.i64 h0_1, AV.int IntKind.i64 h0_2, AV.ro (CK.int IntKind.i64) h0_3, AV.ro (CK.pair (CK.int IntKind.i64) (CK.pair (CK.int IntKind.i64) (CK.pair (CK.int IntKind.i64) CK.bool))) h0_4]], ok := true }
noncomputable def meets_L0 : Nat → Nat → Int → Int → Int → Int → Int → Int → Int → Int → List Int → List (Int × Int × Int × Bool) → Res := Classical.choose (hideE meets_L0r)
theorem meets_L0_def : meets_L0 = meets_L0r := Classical.choose_spec (hideE meets_L0r)
theorem meets_L0_succ (F : Nat) (n : Nat) (s1 : Int) (s2 : Int) (s3 : Int) (s9 : Int) (s10 : Int) (h0_0 : Int) (h0_1 : Int) (h0_2 : Int) (h0_3 : List Int) (h0_4 : List (Int × Int × Int × Bool)) : meets_L0 F (n + 1) s1 s2 s3 s9 s10 h0_0 h0_1 h0_2 h0_3 h0_4 = bif decide (s10 < (↑(List.length h0_4) : Int)) then bif decide (0 ≤ s10) && decide (s10 < (↑(List.length h0_4) : Int)) then bif outerOk (Prod.fst (nth (0, 0, 0, false) h0_4 (Int.toNat s10)), Prod.fst (Prod.snd (nth (0, 0, 0, false) h0_4 (Int.toNat s10))), Prod.fst (Prod.snd (Prod.snd (nth (0, 0, 0, false) h0_4 (Int.toNat s10)))), Prod.snd (Prod.snd (Prod.snd (nth (0, 0, 0, false) h0_4 (Int.toNat s10))))) then bif decide (Prod.fst (outerM (Prod.fst (nth (0, 0, 0, false) h0_4 (Int.toNat s10)), Prod.fst (Prod.snd (nth (0, 0, 0, false) h0_4 (Int.toNat s10))), Prod.fst (Prod.snd (Prod.snd (nth (0, 0, 0, false) h0_4 (Int.toNat s10)))), Prod.snd (Prod.snd (Prod.snd (nth (0, 0, 0, false) h0_4 (Int.toNat s10)))))) = s2) then bif decide (Prod.snd (outerM (Prod.fst (nth (0, 0, 0, false) h0_4 (Int.toNat s10)), Prod.fst (Prod.snd (nth (0, 0, 0, false) h0_4 (Int.toNat s10))), Prod.fst (Prod.snd (Prod.snd (nth (0, 0, 0, false) h0_4 (Int.toNat s10)))), Prod.snd (Prod.snd (Prod.snd (nth (0, 0, 0, false) h0_4 (Int.toNat s10)))))) = s3) then bif Prod.snd (Prod.snd (Prod.snd (nth (0, 0, 0, false) h0_4 (Int.toNat s10)))) then bif decide (Prod.fst (Prod.snd (Prod.snd (nth (0, 0, 0, false) h0_4 (Int.toNat s10)))) < 0) then { ok := true, val := AV.int IntKind.i64 0 } else bif decide (Prod.fst (Prod.snd (Prod.snd (nth (0, 0, 0, false) h0_4 (Int.toNat s10)))) > 3) then { ok := true, val := AV.int IntKind.i64 0 } else { ok := true, val := AV.int IntKind.i64 (IntKind.wrap IntKind.i64 (9 + Prod.fst (Prod.snd (Prod.snd (nth (0, 0, 0, false) h0_4 (Int.toNat s10)))))) } else bif decide (0 ≤ IntKind.wrap IntKind.u64 s9) then bif decide (Int.tmod (IntKind.wrap IntKind.i64 (Prod.fst (Prod.snd (Prod.snd (nth (0, 0, 0, false) h0_4 (Int.toNat s10)))) + 2)) 4 < 0) then { ok := true, val := AV.int IntKind.i64 0 } else bif decide (Int.tmod (IntKind.wrap IntKind.i64 (Prod.fst (Prod.snd (Prod.snd (nth (0, 0, 0, false) h0_4 (Int.toNat s10)))) + 2)) 4 > 3) then { ok := true, val := AV.int IntKind.i64 0 } else bif decide (andI IntKind.i64 (shrI IntKind.i64 s1 (IntKind.wrap IntKind.u64 s9)) 1 = 1) then { ok := true, val := AV.int IntKind.i64 (IntKind.wrap IntKind.i64 (13 + Int.tmod (IntKind.wrap IntKind.i64 (Prod.fst (Prod.snd (Prod.snd (nth (0, 0, 0, false) h0_4 (Int.toNat s10)))) + 2)) 4)) } else { ok := true, val := AV.int IntKind.i64 (IntKind.wrap IntKind.i64 (9 + Int.tmod (IntKind.wrap IntKind.i64 (Prod.fst (Prod.snd (Prod.snd (nth (0, 0, 0, false) h0_4 (Int.toNat s10)))) + 2)) 4)) } else { ok := false, val := AV.junk } else bif !Prod.snd (Prod.snd (Prod.snd (nth (0, 0, 0, false) h0_4 (Int.toNat s10)))) then meets_L0 F n s1 s2 s3 (IntKind.wrap IntKind.i64 (s9 + 1)) (IntKind.wrap IntKind.i64 (s10 + 1)) h0_0 h0_1 h0_2 h0_3 h0_4 else meets_L0 F n s1 s2 s3 s9 (IntKind.wrap IntKind.i64 (s10 + 1)) h0_0 h0_1 h0_2 h0_3 h0_4 else bif !Prod.snd (Prod.snd (Prod.snd (nth (0, 0, 0, false) h0_4 (Int.toNat s10)))) then meets_L0 F n s1 s2 s3 (IntKind.wrap IntKind.i64 (s9 + 1)) (IntKind.wrap IntKind.i64 (s10 + 1)) h0_0 h0_1 h0_2 h0_3 h0_4 else meets_L0 F n s1 s2 s3 s9 (IntKind.wrap IntKind.i64 (s10 + 1)) h0_0 h0_1 h0_2 h0_3 h0_4 else { ok := false, val := AV.junk } else { ok := false, val := AV.junk } else { ok := true, val := AV.int IntKind.i64 0 } := by rewrite [meets_L0_def]; kernel_rfl
theorem meets_eq (F : Nat) (a0_0 : Int) (a0_1 : Int) (a0_2 : Int) (a0_3 : List Int) (a0_4 : List (Int × Int × Int × Bool)) (a1 : Int) (a2 : Int) (a3 : Int) : runF (cx_meets F) Tryz.f78 [AV.agg [AV.int IntKind.i64 a0_0, AV.int IntKind.i64 a0_1, AV.int IntKind.i64 a0_2, AV.ro (CK.int IntKind.i64) a0_3, AV.ro (CK.pair (CK.int IntKind.i64) (CK.pair (CK.int IntKind.i64) (CK.pair (CK.int IntKind.i64) CK.bool))) a0_4], AV.int IntKind.i64 a1, AV.int IntKind.i64 a2, AV.int IntKind.i64 a3] [] = meets_L0 F F a1 a2 a3 0 0 a0_0 a0_1 a0_2 a0_3 a0_4 := by rewrite [meets_L0_def]; kernel_rfl
noncomputable def meets_run (F : Nat) (x : CT meets_K) : Res := runF (cx_meets F) Tryz.f78 (groupA meets_sh (enc meets_K x)) []
theorem meets_arg (F : Nat) (a0_0 : Int) (a0_1 : Int) (a0_2 : Int) (a0_3 : List Int) (a0_4 : List (Int × Int × Int × Bool)) (a1 : Int) (a2 : Int) (a3 : Int) : meets_run F (a0_0, a0_1, a0_2, a0_3, a0_4, a1, a2, a3) = runF (cx_meets F) Tryz.f78 [AV.agg [AV.int IntKind.i64 a0_0, AV.int IntKind.i64 a0_1, AV.int IntKind.i64 a0_2, AV.ro (CK.int IntKind.i64) a0_3, AV.ro (CK.pair (CK.int IntKind.i64) (CK.pair (CK.int IntKind.i64) (CK.pair (CK.int IntKind.i64) CK.bool))) a0_4], AV.int IntKind.i64 a1, AV.int IntKind.i64 a2, AV.int IntKind.i64 a3] [] := by kernel_rfl
end Go.Proofs.YtkecflbflcppkaaGreatDoor

open Go Go.Abs Go.Proofs
set_option linter.unusedSimpArgs false
set_option linter.unusedVariables false
namespace Go.Proofs.YtkecflbflcppkaaGreatDoor
abbrev MM := List ((Int × Int × Int) × Int)
def ordinaryM (dir : Int) (on : Bool) : Int := bif decide (dir < 0) then 0 else bif decide (dir > 3) then 0 else bif on then IntKind.wrap IntKind.i64 (13 + dir) else IntKind.wrap IntKind.i64 (9 + dir)
def bitM (word k : Int) : Bool := decide (andI IntKind.i64 (shrI IntKind.i64 word k) 1 = 1)
/-- What newBody's map holds. -/
def bodyMap : List Mo → Nat → Nat → MM → MM
  | [], _, _, m => m
  | (x, y, d, o) :: r, a, b, m => bif o then bodyMap r (a + 1) b (insM K3 m ((x, y, d) : Int × Int × Int) (100 + a : Int)) else bodyMap r a (b + 1) (insM K3 m ((x, y, d) : Int × Int × Int) (b : Int))
def bodyR (k w h : Int) (cells : List Int) (ms : List Mo) (rk ins : Int) (m : MM) : Res :=
  { ok := true, val := AV.ptr 0 0, heap := [Blk.cells [AV.int IntKind.i64 k, AV.int IntKind.i64 w, AV.int IntKind.i64 h, AV.ro (CK.int IntKind.i64) cells, AV.ro (CK.pair (CK.int IntKind.i64) (CK.pair (CK.int IntKind.i64) (CK.pair (CK.int IntKind.i64) CK.bool))) ms, AV.int IntKind.i64 rk, AV.nils, AV.int IntKind.i64 ins, AV.mp 1], Blk.map true false (CK.pair (CK.int IntKind.i64) (CK.pair (CK.int IntKind.i64) (CK.int IntKind.i64))) (CK.int IntKind.i64) m] }
theorem newBody_L0_spec (F : Nat) (k w h : Int) (cells : List Int) (ms : List Mo) (rk : Int) (hx : ms.length < 1000) : ∀ (j n i a b : Nat) (m : MM), i + j = ms.length → j < n → a + b = i →
    newBody_L0 F n a ms ms.length i k w h cells ms rk b m = bodyR k w h cells ms rk ((b + cntI (ms.drop i) : Nat) : Int) (bodyMap (ms.drop i) a b m)
  | j, 0, i, _, _, _, _, h, _ => by omega
  | 0, n + 1, i, a, b, m, hi, _, _ => by
    rw [newBody_L0_succ, drop_len ms (by omega)]
    simp only [show ¬ ((i : Int) < ms.length) by omega, decide_false, cond_false, cntI, bodyMap, Nat.add_zero]
    rfl
  | j + 1, n + 1, i, a, b, m, hi, hn, hab => by
    have ih1 := fun m => newBody_L0_spec F k w h cells ms rk hx j n (i + 1) (a + 1) b m (by omega) (by omega) (by omega)
    have ih2 := fun m => newBody_L0_spec F k w h cells ms rk hx j n (i + 1) a (b + 1) m (by omega) (by omega) (by omega)
    rw [newBody_L0_succ, wrap_succ (i := i) (by omega), wrap_succ (i := a) (by omega), wrap_succ (i := b) (by omega), drop_nth (0, 0, 0, false) ms (show i < ms.length by omega), Int.toNat_natCast, wrap_id (n := 100 + (a : Int)) (by omega) (by omega)]
    generalize nth (0, 0, 0, false) ms i = q
    obtain ⟨x, y, d, o⟩ := q
    simp only [show (i : Int) < ms.length by omega, show (0 : Int) ≤ i by omega, decide_true, Bool.and_self, cond_true]
    cases o with
    | true =>
      simp only [cond_true]
      refine (ih1 _).trans ?_
      rw [show b + cntI (ms.drop (i + 1)) = b + cntI ((x, y, d, true) :: ms.drop (i + 1)) by simp only [cntI, cond_true]; omega]
      rfl
    | false =>
      simp only [cond_false]
      refine (ih2 _).trans ?_
      rw [show b + 1 + cntI (ms.drop (i + 1)) = b + cntI ((x, y, d, false) :: ms.drop (i + 1)) by simp only [cntI, cond_false]; omega]
      rfl
def newBodyOk : Organ → Bool := fun (_, _, _, _, ms) => decide (ms.length < 1000)
def newBodyR : Organ → Res := fun (k, w, h, cells, ms) => bodyR k w h cells ms k (cntI ms : Nat) (bodyMap ms 0 0 [])
def newBodyFu : Organ → Nat := fun (_, _, _, _, ms) => ms.length + 1
theorem newBody_retR (z : Organ) (hk : newBodyOk z = true) : newBody_run (newBodyFu z) z = newBodyR z ∧ (newBodyR z).ok = true := by
  obtain ⟨k, w, h, cells, ms⟩ := z
  have hk' : ms.length < 1000 := of_decide_eq_true hk
  refine ⟨(newBody_arg ..).trans ((newBody_eq ..).trans ?_), rfl⟩
  have := newBody_L0_spec (ms.length + 1) k w h cells ms k hk' ms.length (ms.length + 1) 0 0 0 [] (by omega) (by omega) rfl
  rw [List.drop_zero, Nat.zero_add] at this
  exact this
/-- What a place outside shows: the first mouth whose outer place it is. -/
def meetsL (word x y : Int) : List Mo → Nat → Int
  | [], _ => 0
  | m :: r, b => bif decide ((outerM m).1 = x) && decide ((outerM m).2 = y) then (bif m.2.2.2 then ordinaryM m.2.2.1 false else ordinaryM (Int.tmod (IntKind.wrap IntKind.i64 (m.2.2.1 + 2)) 4) (bitM word b)) else meetsL word x y r (bif m.2.2.2 then b else b + 1)
def meetsOk : Int × Int × Int × List Int × List Mo × Int × Int × Int → Bool := fun (_, _, _, _, ms, _) => decide (ms.length < 1000) && ms.all (fun m => outerOk m)
def meetsM : Int × Int × Int × List Int × List Mo × Int × Int × Int → Int := fun (_, _, _, _, ms, word, x, y) => meetsL word x y ms 0
def meetsFu : Int × Int × Int × List Int × List Mo × Int × Int × Int → Nat := fun (_, _, _, _, ms, _) => ms.length + 1
theorem ordR (d : Int) (on : Bool) : (bif decide (d < 0) then ({ ok := true, val := AV.int IntKind.i64 0 } : Res) else bif decide (d > 3) then { ok := true, val := AV.int IntKind.i64 0 } else bif on then { ok := true, val := AV.int IntKind.i64 (IntKind.wrap IntKind.i64 (13 + d)) } else { ok := true, val := AV.int IntKind.i64 (IntKind.wrap IntKind.i64 (9 + d)) }) = { ok := true, val := AV.int IntKind.i64 (ordinaryM d on) } := by
  simp only [ordinaryM]
  cases decide (d < 0) <;> cases decide (d > 3) <;> cases on <;> rfl
theorem meets_L0_spec (F : Nat) (k w h : Int) (cells : List Int) (ms : List Mo) (word x y : Int) (hx : ms.length < 1000) (hd : ms.all (fun m => outerOk m) = true) : ∀ (j n i b : Nat), i + j = ms.length → j < n → b ≤ i →
    meets_L0 F n word x y b i k w h cells ms = { ok := true, val := AV.int IntKind.i64 (meetsL word x y (ms.drop i) b) }
  | j, 0, i, _, _, h, _ => by omega
  | 0, n + 1, i, b, hi, _, _ => by
    rw [meets_L0_succ, drop_len ms (by omega)]
    simp only [show ¬ ((i : Int) < ms.length) by omega, decide_false, cond_false, meetsL]
  | j + 1, n + 1, i, b, hi, hn, hab => by
    have ih1 := meets_L0_spec F k w h cells ms word x y hx hd j n (i + 1) (b + 1) (by omega) (by omega) (by omega)
    have ih2 := meets_L0_spec F k w h cells ms word x y hx hd j n (i + 1) b (by omega) (by omega) (by omega)
    have hm : outerOk (nth (0, 0, 0, false) ms i) = true := List.all_eq_true.1 hd _ (nth_mem (0, 0, 0, false) ms (show i < ms.length by omega))
    rw [meets_L0_succ, wrap_succ (i := i) (by omega), wrap_succ (i := b) (by omega), drop_nth (0, 0, 0, false) ms (show i < ms.length by omega), Int.toNat_natCast, show IntKind.wrap IntKind.u64 (b : Int) = b by rw [IntKind.wrap_u64]; omega, ih1, ih2]
    revert hm
    generalize nth (0, 0, 0, false) ms i = q
    obtain ⟨a, c, d, o⟩ := q
    intro hm
    have hm' : outerOk (a, c, d, o) = true := hm
    simp only [show (i : Int) < ms.length by omega, show (0 : Int) ≤ i by omega, show (0 : Int) ≤ b by omega, decide_true, Bool.and_self, cond_true, hm', meetsL]
    cases decide ((outerM (a, c, d, o)).1 = x) <;> cases decide ((outerM (a, c, d, o)).2 = y) <;> cases o <;> simp only [cond_true, cond_false, Bool.and_true, Bool.and_false, Bool.not_true, Bool.not_false]
    · exact ordR _ _
    · exact ordR _ false
theorem meets_ret (z : Int × Int × Int × List Int × List Mo × Int × Int × Int) (hk : meetsOk z = true) : Ret meets_re meets_R (meets_run (meetsFu z) z) (meetsM z) := by
  obtain ⟨k, w, h, cells, ms, word, x, y⟩ := z
  simp only [meetsOk, Bool.and_eq_true, decide_eq_true_eq] at hk
  refine Ret.of ((meets_arg ..).trans ((meets_eq ..).trans ?_)) (Ret.int _ _)
  have := meets_L0_spec (ms.length + 1) k w h cells ms word x y hk.1 hk.2 ms.length (ms.length + 1) 0 0 (by omega) (by omega) (by omega)
  rw [List.drop_zero] at this
  exact this
end Go.Proofs.YtkecflbflcppkaaGreatDoor

open Go Go.Abs Go.Proofs
set_option linter.unusedVariables false
namespace Go.Proofs.YtkecflbflcppkaaGreatDoor
noncomputable def tbSKL_1 : FuncId → List AV → List Blk → Res := addC 24 (tspecR newBody_sh newBody_K newBodyOk newBodyR) tbSK
theorem tabSKL_1 : Tab Tryz.prog tbSKL_1 cxMd tbKSK := Tab.addTyR (os := []) tabSK tabSK (KK := newBody_K) (fn := Tryz.f24) (by kernel_rfl) (by kernel_rfl) (by kernel_rfl) (by kernel_rfl) _ newBodyFu newBody_retR
noncomputable def tbSKL_2 : FuncId → List AV → List Blk → Res := addC 78 (tspec meets_sh meets_K meets_re meets_R meetsOk meetsM) tbSKL_1
theorem tabSKL_2 : Tab Tryz.prog tbSKL_2 cxMd tbKSK := Tab.addTy (os := []) tabSKL_1 tabSK (KK := meets_K) (R := meets_R) (fn := Tryz.f78) (by kernel_rfl) (by kernel_rfl) (by kernel_rfl) (by kernel_rfl) _ meetsFu meets_ret
noncomputable def tbSKB : FuncId → List AV → List Blk → Res := tbSKL_2
noncomputable def tbKSKB : KT := tbKSK
theorem tabSKB : Tab Tryz.prog tbSKB cxMd tbKSKB := tabSKL_2
end Go.Proofs.YtkecflbflcppkaaGreatDoor
