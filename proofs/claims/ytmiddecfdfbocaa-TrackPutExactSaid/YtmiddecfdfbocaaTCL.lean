/- Which case of a table fits. -/
import Derived.Test.YtmiddecfdfbocaaTC
import Derived.Test.YtmiddecfdfbocaaA22
set_option linter.all false
set_option linter.unusedVariables false
set_option linter.unusedSimpArgs false
open Go Go.Abs Go.Proofs
set_option linter.unusedSimpArgs false
set_option linter.unusedVariables false
namespace Go.Proofs.Ytmiddecfdfbocaa
abbrev Six := Int × Int × Int × Int × Int × Int
def fit1 (p s : Int) : Bool := decide (p = -1) || decide (p = s)
def fit (x : Six) (c e n w s : Int) : Bool := fit1 x.1 c && (fit1 x.2.1 e && (fit1 x.2.2.1 n && (fit1 x.2.2.2.1 w && fit1 x.2.2.2.2.1 s)))
def fitsM : Int × Int × Int × Int × Int × Int × Int × Int × Int × Int × Int → Bool := fun (C, E, N, W, S, T, c, e, n, w, s) => fit (C, E, N, W, S, T) c e n w s
abbrev fitsFu : Int × Int × Int × Int × Int × Int × Int × Int × Int × Int × Int → Nat := fun _ => 1
theorem fits_law (F : Nat) (C E N W S T c e n w s : Int) : fits_run F (C, E, N, W, S, T, c, e, n, w, s) = ⟨true, .bool (fitsM (C, E, N, W, S, T, c, e, n, w, s)), []⟩ := by
  refine (fits_arg ..).trans ((fits_eq ..).trans ?_)
  have e1 : ∀ (p q : Int) (a : Res), (bif p != -1 then bif p != q then (⟨true, .bool false, []⟩ : Res) else a else a) = bif fit1 p q then a else ⟨true, .bool false, []⟩ := fun p q a => by
    rw [fit1, beq_ne, beq_ne]
    cases decide (p = -1) <;> cases decide (p = q) <;> rfl
  simp only [fits_S3, fits_S2, fits_S1, e1]
  simp only [resB, fitsM, fit]
  cases fit1 C c <;> cases fit1 E e <;> cases fit1 N n <;> cases fit1 W w <;> cases fit1 S s <;> rfl
theorem fits_ret (x : Int × Int × Int × Int × Int × Int × Int × Int × Int × Int × Int) (_ : true = true) : Ret fits_re fits_R (fits_run (fitsFu x) x) (fitsM x) := by
  obtain ⟨C, E, N, W, S, T, c, e, n, w, s⟩ := x
  exact Ret.of (fits_law ..) (Ret.bool _)

def tableF (c e n w s : Int) : List Six → Int
  | [] => c
  | x :: l => bif fit x c e n w s then x.2.2.2.2.2 else tableF c e n w s l
theorem rTable_L0_spec (F : Nat) (l : List Six) (c e n w s : Int) (hl : l.length < big) : ∀ (k f i : Nat), i + k = l.length → k < f → rTable_L0 F f l c e n w s i = ⟨true, .int .i64 (tableF c e n w s (l.drop i)), []⟩
  | k, 0, i, _, h => by omega
  | 0, f + 1, i, hi, _ => by
    rw [rTable_L0_succ, ltF (by omega), cond_false, drop_len l (by omega)]
    rfl
  | k + 1, f + 1, i, hi, hf => by
    have ih := rTable_L0_spec F l c e n w s hl k f (i + 1) (by omega) (by omega)
    rw [rTable_L0_succ, ltT (by omega), nnT, drop_nth (0, 0, 0, 0, 0, 0) l (by omega : i < l.length), rTable_L0_S4, rTable_L0_S3, rTable_L0_S2, rTable_L0_S1, Int.toNat_natCast, wrapS (by omega), ih]
    simp only [ cond_true, Bool.and_true, cor, tableF, fit, fit1]
    generalize nth (0, 0, 0, 0, 0, 0) l i = x
    obtain ⟨C, E, N, W, S, T⟩ := x
    simp only
    cases decide (C = -1) || decide (C = c) <;> cases decide (E = -1) || decide (E = e) <;> cases decide (N = -1) || decide (N = n) <;> cases decide (W = -1) || decide (W = w) <;> cases decide (S = -1) || decide (S = s) <;> rfl
def rTableOk : List Six × Int × Int × Int × Int × Int → Bool := fun x => decide (x.1.length < big)
def rTableM : List Six × Int × Int × Int × Int × Int → Int := fun (l, c, e, n, w, s) => tableF c e n w s l
abbrev rTableFu : List Six × Int × Int × Int × Int × Int → Nat := fun x => x.1.length + 1
theorem rTable_ret (x : List Six × Int × Int × Int × Int × Int) (h : rTableOk x = true) : Ret rTable_re rTable_R (rTable_run (rTableFu x) x) (rTableM x) := by
  obtain ⟨l, c, e, n, w, s⟩ := x
  simp only [rTableOk, decide_eq_true_eq] at h
  exact Ret.of ((rTable_arg ..).trans ((rTable_eq ..).trans (rTable_L0_spec _ l c e n w s h l.length _ 0 (by omega) (Nat.lt_succ_self _)))) (Ret.int _ _)
def compareM : Int × Int → Int := fun (a, b) => bif decide (a < b) then -1 else bif decide (b < a) then 1 else 0
abbrev compareFu : Int × Int → Nat := fun _ => 1
theorem compare_ret (x : Int × Int) (_ : true = true) : Ret compare_re compare_R (compare_run (compareFu x) x) (compareM x) := by
  obtain ⟨a, b⟩ := x
  refine Ret.of ((compare_arg ..).trans ((compare_eq ..).trans ?_)) (Ret.int _ _)
  simp only [bne_self_eq_false, cond_false, compareM, gt_iff_lt]
  cases decide (a < b) <;> cases decide (b < a) <;> rfl
end Go.Proofs.Ytmiddecfdfbocaa

open Go Go.Abs Go.Proofs
set_option linter.unusedVariables false
namespace Go.Proofs.Ytmiddecfdfbocaa
noncomputable def tbTCL_1 : FuncId → List AV → List Blk → Res := addC 73 (tspec fits_sh fits_K fits_re fits_R (fun _ => true) fitsM) tbTC
theorem tabTCL_1 : Tab Try.prog tbTCL_1 cxMd tbKTC := Tab.addTy (os := []) tabTC tabTC (KK := fits_K) (R := fits_R) (fn := Try.f73) (by kernel_rfl) (by kernel_rfl) (by kernel_rfl) (by kernel_rfl) _ (fun x => fitsFu x + 8) fits_ret
noncomputable def tbTCL_2 : FuncId → List AV → List Blk → Res := addC 46 (tspec rTable_sh rTable_K rTable_re rTable_R rTableOk rTableM) tbTCL_1
theorem tabTCL_2 : Tab Try.prog tbTCL_2 cxMd tbKTC := Tab.addTy (os := []) tabTCL_1 tabTC (KK := rTable_K) (R := rTable_R) (fn := Try.f46) (by kernel_rfl) (by kernel_rfl) (by kernel_rfl) (by kernel_rfl) _ rTableFu rTable_ret
noncomputable def tbTCL_3 : FuncId → List AV → List Blk → Res := addC 57 (tspec compare_sh compare_K compare_re compare_R (fun _ => true) compareM) tbTCL_2
theorem tabTCL_3 : Tab Try.prog tbTCL_3 cxMd tbKTC := Tab.addTy (os := []) tabTCL_2 tabTC (KK := compare_K) (R := compare_R) (fn := Try.f57) (by kernel_rfl) (by kernel_rfl) (by kernel_rfl) (by kernel_rfl) _ compareFu compare_ret
noncomputable def tbTCB : FuncId → List AV → List Blk → Res := tbTCL_3
noncomputable def tbKTCB : KT := tbKTC
theorem tabTCB : Tab Try.prog tbTCB cxMd tbKTCB := tabTCL_3
end Go.Proofs.Ytmiddecfdfbocaa
