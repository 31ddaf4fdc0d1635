/- A table's step; what a rule is. -/
import Derived.Test.YtmiddecfdfbocaaTD
import Derived.Test.YtmiddecfdfbocaaA22
set_option linter.all false
set_option linter.unusedVariables false
set_option linter.unusedSimpArgs false
open Go Go.Abs Go.Proofs
set_option linter.unusedSimpArgs false
set_option linter.unusedVariables false
namespace Go.Proofs.Ytmiddecfdfbocaa
abbrev six0 : Six := (0, 0, 0, 0, 0, 0)
theorem nextTable_L0_spec (F : Nat) (l : List Six) (c e n w s : Int) (hl : l.length < big) : ∀ (k f i : Nat), i + k = l.length → k < f → nextTable_L0 F f c l l.length i e n w s = ⟨true, .int .i64 (tableF c e n w s (l.drop i)), []⟩
  | k, 0, i, _, h => by omega
  | 0, f + 1, i, hi, _ => by
    rw [nextTable_L0_succ, ltF (by omega), cond_false, drop_len l (by omega)]
    rfl
  | k + 1, f + 1, i, hi, hf => by
    have ih := nextTable_L0_spec F l c e n w s hl k f (i + 1) (by omega) (by omega)
    rw [nextTable_L0_succ, ltT (by omega), nnT, drop_nth six0 l (by omega : i < l.length), Int.toNat_natCast, wrapS (by omega), ih]
    simp only [cond_true, Bool.and_true, tableF, fitsM]
    generalize nth six0 l i = x
    obtain ⟨C, E, N, W, S, T⟩ := x
    simp only
    cases fit (C, E, N, W, S, T) c e n w s <;> rfl
def nextTableOk : List Six × Int × Int × Int × Int × Int → Bool := fun x => decide (x.1.length < big)
def nextTableM : List Six × Int × Int × Int × Int × Int → Int := fun (l, c, e, n, w, s) => tableF c e n w s l
abbrev nextTableFu : List Six × Int × Int × Int × Int × Int → Nat := fun x => x.1.length + 1
theorem nextTable_ret (x : List Six × Int × Int × Int × Int × Int) (h : nextTableOk x = true) : Ret nextTable_re nextTable_R (nextTable_run (nextTableFu x) x) (nextTableM x) := by
  obtain ⟨l, c, e, n, w, s⟩ := x
  simp only [nextTableOk, decide_eq_true_eq] at h
  exact Ret.of ((nextTable_arg ..).trans ((nextTable_eq ..).trans (nextTable_L0_spec _ l c e n w s h l.length _ 0 (by omega) (Nat.lt_succ_self _)))) (Ret.int _ _)

def in255 (n : Int) : Bool := decide (n ≥ -1) && decide (n ≤ 255)
def caseOk (x : Six) : Bool := in255 x.1 && (in255 x.2.1 && (in255 x.2.2.1 && (in255 x.2.2.2.1 && (in255 x.2.2.2.2.1 && (decide (0 ≤ x.2.2.2.2.2) && decide (x.2.2.2.2.2 ≤ 255))))))
def casesOk : List Six → Bool
  | [] => true
  | x :: l => caseOk x && casesOk l
def checkF (kind : Int) (l : List Six) : Int :=
  bif decide (kind < 0) || decide (kind > 3) then 10 else bif !decide (kind = 3) then 0 else bif decide ((l.length : Int) > 4096) then 10 else bif casesOk l then (bif !decide (tableF 0 0 0 0 0 l = 0) then 10 else 0) else 10
theorem not_lt_255 {a : Int} {x y : Res} : (bif decide (a ≥ -1) then (bif !decide (a ≤ 255) then x else y) else x) = bif in255 a then y else (x : Res) := by
  unfold in255
  cases decide (a ≥ -1) <;> cases decide (a ≤ 255) <;> rfl
theorem le_not {a b : Int} : decide (a < b) = !decide (b ≤ a) := by rw [Bool.eq_iff_iff]; simp
theorem gt_not {a b : Int} : decide (a > b) = !decide (a ≤ b) := by rw [Bool.eq_iff_iff]; simp
theorem rCheck_L0_spec (F : Nat) (kind : Int) (l : List Six) (hl : l.length ≤ 4096) : ∀ (k f i : Nat), i + k = l.length → k < f → rCheck_L0 F f i kind l = ⟨true, .int .i64 (bif casesOk (l.drop i) then (bif !decide (tableF 0 0 0 0 0 l = 0) then 10 else 0) else 10), []⟩
  | k, 0, i, _, h => by omega
  | 0, f + 1, i, hi, _ => by
    rw [rCheck_L0_succ, ltF (by omega), cond_false, drop_len l (by omega)]
    simp only [casesOk, cond_true, rTableOk, rTableM, beq_ne, show l.length < big by simp [big]; omega, decide_true]
    cases decide (tableF 0 0 0 0 0 l = 0) <;> rfl
  | k + 1, f + 1, i, hi, hf => by
    have ih := rCheck_L0_spec F kind l hl k f (i + 1) (by omega) (by omega)
    rw [rCheck_L0_succ, ltT (by omega), nnT, drop_nth six0 l (by omega : i < l.length), Int.toNat_natCast, wrapS (by simp [big]; omega), ih]
    simp only [cond_true, Bool.and_true, casesOk, caseOk]
    generalize nth six0 l i = x
    obtain ⟨C, E, N, W, S, T⟩ := x
    simp only [not_lt_255, le_not, gt_not]
    cases in255 C <;> cases in255 E <;> cases in255 N <;> cases in255 W <;> cases in255 S <;> cases decide (0 ≤ T) <;> cases decide (T ≤ 255) <;> rfl
def rCheckM : Int × List Six → Int := fun x => checkF x.1 x.2
abbrev rCheckFu : Int × List Six → Nat := fun x => 5000
theorem rCheck_ret (x : Int × List Six) (_ : true = true) : Ret rCheck_re rCheck_R (rCheck_run (rCheckFu x) x) (rCheckM x) := by
  obtain ⟨kind, l⟩ := x
  refine Ret.of ((rCheck_arg ..).trans ((rCheck_eq ..).trans ?_)) (Ret.int _ _)
  simp only [rCheckM, checkF]
  by_cases h : (l.length : Int) > 4096
  · simp only [h, decide_true, cond_true, beq_ne]
    cases decide (kind < 0) <;> cases decide (kind > 3) <;> cases decide (kind = 3) <;> rfl
  · have := rCheck_L0_spec 5000 kind l (by omega) l.length 5000 0 (by omega) (by omega)
    rw [show ((0 : Nat) : Int) = 0 from rfl, List.drop_zero] at this
    simp only [h, decide_false, cond_false, beq_ne, this]
    cases decide (kind < 0) <;> cases decide (kind > 3) <;> cases decide (kind = 3) <;> rfl
end Go.Proofs.Ytmiddecfdfbocaa
namespace Go.Proofs.Ytmiddecfdfbocaa
def orF : List Int → Int
  | [] => 0
  | x :: l => bif !decide (x = 0) then x else orF l
theorem cmpOr_L0_spec (F : Nat) (l : List Int) (hl : l.length < big) : ∀ (k f i : Nat), i + k = l.length → k < f → cmpOr_L0 F f 0 l l.length i = ⟨true, .int .i64 (orF (l.drop i)), []⟩
  | k, 0, i, _, h => by omega
  | 0, f + 1, i, hi, _ => by
    rw [cmpOr_L0_succ, ltF (by omega), cond_false, drop_len l (by omega)]
    rfl
  | k + 1, f + 1, i, hi, hf => by
    have ih := cmpOr_L0_spec F l hl k f (i + 1) (by omega) (by omega)
    rw [cmpOr_L0_succ, ltT (by omega), nnT, drop_nth 0 l (by omega : i < l.length), Int.toNat_natCast, wrapS (by omega), ih]
    simp only [cond_true, Bool.and_true, orF, beq_ne, resI]
def cmpOrOk : List Int → Bool := fun l => decide (l.length < big)
def cmpOrM : List Int → Int := orF
abbrev cmpOrFu : List Int → Nat := fun l => l.length + 1
theorem cmpOr_ret (l : List Int) (h : cmpOrOk l = true) : Ret cmpOr_re cmpOr_R (cmpOr_run (cmpOrFu l) l) (cmpOrM l) := by
  simp only [cmpOrOk, decide_eq_true_eq] at h
  exact Ret.of ((cmpOr_arg ..).trans ((cmpOr_eq ..).trans (cmpOr_L0_spec _ l h l.length _ 0 (by omega) (Nat.lt_succ_self _)))) (Ret.int _ _)
end Go.Proofs.Ytmiddecfdfbocaa

open Go Go.Abs Go.Proofs
set_option linter.unusedVariables false
namespace Go.Proofs.Ytmiddecfdfbocaa
noncomputable def tbTDL_1 : FuncId → List AV → List Blk → Res := addC 52 (tspec nextTable_sh nextTable_K nextTable_re nextTable_R nextTableOk nextTableM) tbTD
theorem tabTDL_1 : Tab Try.prog tbTDL_1 cxMd tbKTD := Tab.addTy (os := []) tabTD tabTD (KK := nextTable_K) (R := nextTable_R) (fn := Try.f52) (by kernel_rfl) (by kernel_rfl) (by kernel_rfl) (by kernel_rfl) _ nextTableFu nextTable_ret
noncomputable def tbTDL_2 : FuncId → List AV → List Blk → Res := addC 31 (tspec rCheck_sh rCheck_K rCheck_re rCheck_R (fun _ => true) rCheckM) tbTDL_1
theorem tabTDL_2 : Tab Try.prog tbTDL_2 cxMd tbKTD := Tab.addTy (os := []) tabTDL_1 tabTD (KK := rCheck_K) (R := rCheck_R) (fn := Try.f31) (by kernel_rfl) (by kernel_rfl) (by kernel_rfl) (by kernel_rfl) _ rCheckFu rCheck_ret
noncomputable def tbTDL_3 : FuncId → List AV → List Blk → Res := addC 56 (tspec cmpOr_sh cmpOr_K cmpOr_re cmpOr_R cmpOrOk cmpOrM) tbTDL_2
theorem tabTDL_3 : Tab Try.prog tbTDL_3 cxMd tbKTD := Tab.addTy (os := []) tabTDL_2 tabTD (KK := cmpOr_K) (R := cmpOr_R) (fn := Try.f56) (by kernel_rfl) (by kernel_rfl) (by kernel_rfl) (by kernel_rfl) _ cmpOrFu cmpOr_ret
noncomputable def tbTDB : FuncId → List AV → List Blk → Res := tbTDL_3
noncomputable def tbKTDB : KT := tbKTD
theorem tabTDB : Tab Try.prog tbTDB cxMd tbKTDB := tabTDL_3
end Go.Proofs.Ytmiddecfdfbocaa
