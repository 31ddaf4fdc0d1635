/- Copies, and whether rules and cells are the same. -/
import Derived.Test.YtmiddecfdfbocaaTI
import Derived.Test.YtmiddecfdfbocaaA22
set_option linter.all false
set_option linter.unusedVariables false
set_option linter.unusedSimpArgs false
open Go Go.Abs Go.Proofs
set_option linter.unusedSimpArgs false
set_option linter.unusedVariables false
namespace Go.Proofs.Ytmiddecfdfbocaa
def cloneCellOk : List Cell → Bool := fun l => decide (l.length * 24 ≤ 140737488355328)
def cloneCellM : List Cell → List Cell := fun l => l
abbrev cloneCellFu : List Cell → Nat := fun _ => 1
theorem cloneCell_ret0 : Ret cloneCell_re cloneCell_R (runF (cx_cloneCell (cloneCellFu [])) Try.f28 [.rk false cloneCell_k []] []) (cloneCellM []) := Ret.of (cloneCell0_eq 1) Ret.row
theorem cloneCell_ret (l : List Cell) (h : cloneCellOk l = true) : Ret cloneCell_re cloneCell_R (runF (cx_cloneCell (cloneCellFu l)) Try.f28 [.rk true cloneCell_k l] []) (cloneCellM l) := by
  simp only [cloneCellOk, decide_eq_true_eq] at h
  refine Ret.of ((cloneCell_eq 1 l).trans ?_) (Ret.row (e := 58) (e' := 58) (k := cloneCell_k) (xs := l))
  exact cT (by show (0 + l.length) * 24 ≤ _; omega)
def cloneCaseOk : List Six → Bool := fun l => decide (l.length * 48 ≤ 140737488355328)
def cloneCaseM : List Six → List Six := fun l => l
abbrev cloneCaseFu : List Six → Nat := fun _ => 1
theorem cloneCase_ret0 : Ret cloneCase_re cloneCase_R (runF (cx_cloneCase (cloneCaseFu [])) Try.f39 [.rk false cloneCase_k []] []) (cloneCaseM []) := Ret.of (cloneCase0_eq 1) Ret.row
theorem cloneCase_ret (l : List Six) (h : cloneCaseOk l = true) : Ret cloneCase_re cloneCase_R (runF (cx_cloneCase (cloneCaseFu l)) Try.f39 [.rk true cloneCase_k l] []) (cloneCaseM l) := by
  simp only [cloneCaseOk, decide_eq_true_eq] at h
  refine Ret.of ((cloneCase_eq 1 l).trans ?_) (Ret.row (e := 71) (e' := 71) (k := cloneCase_k) (xs := l))
  exact cT (by show (0 + l.length) * 48 ≤ _; omega)

/-- all of two lists are the same, as far as the first goes -/
def eqL {α : Type} (e : α → α → Bool) : List α → List α → Bool
  | x :: a, y :: b => e x y && eqL e a b
  | _, _ => true
theorem eqL_refl {α : Type} {e : α → α → Bool} (h : ∀ x, e x x = true) : ∀ l, eqL e l l = true
  | [] => rfl
  | x :: l => by simp [eqL, h, eqL_refl h l]
def eqCell (a b : Cell) : Bool := decide (a.1 = b.1) && (decide (a.2.1 = b.2.1) && decide (a.2.2 = b.2.2))
def sameCellsF (a b : List Cell) : Bool := decide (a.length = b.length) && eqL eqCell a b
theorem lenEq {a b : Nat} : ((a : Int) != (b : Int)) = !decide (a = b) := by rw [Bool.eq_iff_iff]; simp; omega
theorem natEq {a b : Nat} : decide ((a : Int) = (b : Int)) = decide (a = b) := by rw [Bool.eq_iff_iff]; simp; omega
theorem sameCells_L0_spec (F : Nat) (a b : List Cell) (hl : a.length < big) (hb : b.length = a.length) : ∀ (k f i : Nat), i + k = a.length → k < f → sameCells_L0 F f a b a.length i = ⟨true, .bool (eqL eqCell (a.drop i) (b.drop i)), []⟩
  | k, 0, i, _, h => by omega
  | 0, f + 1, i, hi, _ => by
    rw [sameCells_L0_succ, ltF (by omega), cond_false, drop_len a (by omega), drop_len b (by omega)]
    rfl
  | k + 1, f + 1, i, hi, hf => by
    have ih := sameCells_L0_spec F a b hl hb k f (i + 1) (by omega) (by omega)
    rw [sameCells_L0_succ, ltT (by omega), ltT (by omega), nnT, drop_nth cell0 a (by omega : i < a.length), drop_nth cell0 b (by omega : i < b.length), Int.toNat_natCast, wrapS (by omega), ih]
    simp only [cond_true, Bool.and_true, eqL, eqCell, Bool.cond_not, resB]
    cases decide ((nth cell0 a i).1 = (nth cell0 b i).1) && (decide ((nth cell0 a i).2.1 = (nth cell0 b i).2.1) && decide ((nth cell0 a i).2.2 = (nth cell0 b i).2.2)) <;> rfl
def sameCellsOk : List Cell × List Cell → Bool := fun x => decide (x.1.length < big)
def sameCellsM : List Cell × List Cell → Bool := fun x => sameCellsF x.1 x.2
abbrev sameCellsFu : List Cell × List Cell → Nat := fun x => x.1.length + 1
theorem sameCells_ret (x : List Cell × List Cell) (h : sameCellsOk x = true) : Ret sameCells_re sameCells_R (sameCells_run (sameCellsFu x) x) (sameCellsM x) := by
  obtain ⟨a, b⟩ := x
  simp only [sameCellsOk, decide_eq_true_eq] at h
  refine Ret.of ((sameCells_arg ..).trans ((sameCells_eq ..).trans ?_)) (Ret.bool _)
  simp only [sameCellsM, sameCellsF, lenEq]
  by_cases hb : a.length = b.length
  · have := sameCells_L0_spec (sameCellsFu (a, b)) a b h hb.symm a.length (sameCellsFu (a, b)) 0 (by omega) (Nat.lt_succ_self _)
    rw [List.drop_zero, List.drop_zero] at this
    simp only [hb, decide_true, Bool.not_true, cond_false, Bool.true_and]
    rw [hb] at this
    exact this
  · simp [hb]
def eqSix (a b : Six) : Bool := decide (a.1 = b.1) && (decide (a.2.1 = b.2.1) && (decide (a.2.2.1 = b.2.2.1) && (decide (a.2.2.2.1 = b.2.2.2.1) && (decide (a.2.2.2.2.1 = b.2.2.2.2.1) && decide (a.2.2.2.2.2 = b.2.2.2.2.2)))))
def sameRuleF (ka : Int) (a : List Six) (kb : Int) (b : List Six) : Bool := decide (ka = kb) && (bif decide (ka = 3) then decide (a.length = b.length) && eqL eqSix a b else true)
theorem sameRule_L0_spec (F : Nat) (ka kb : Int) (a b : List Six) (hl : a.length < big) (hb : ka = 3 → b.length = a.length) : ∀ (k f i : Nat), i + k = a.length → k < f → sameRule_L0 F f a.length i ka a kb b = ⟨true, .bool (bif decide (ka = 3) then eqL eqSix (a.drop i) (b.drop i) else true), []⟩
  | k, 0, i, _, h => by omega
  | 0, f + 1, i, hi, _ => by
    rw [sameRule_L0_succ, ltF (by omega), cond_false, drop_len a (by omega)]
    cases decide (ka = 3) <;> simp [eqL]
  | k + 1, f + 1, i, hi, hf => by
    have ih := sameRule_L0_spec F ka kb a b hl hb k f (i + 1) (by omega) (by omega)
    rw [sameRule_L0_succ, ltT (by omega), wrapS (by omega), ih]
    by_cases h3 : ka = 3
    · have hb' := hb h3
      rw [ltT (by omega), nnT, drop_nth six0 a (by omega : i < a.length), drop_nth six0 b (by omega : i < b.length), Int.toNat_natCast]
      simp only [h3, decide_true, cond_true, Bool.and_true, eqL, eqSix, Bool.cond_not, resB]
      cases decide ((nth six0 a i).1 = (nth six0 b i).1) && (decide ((nth six0 a i).2.1 = (nth six0 b i).2.1) && (decide ((nth six0 a i).2.2.1 = (nth six0 b i).2.2.1) && (decide ((nth six0 a i).2.2.2.1 = (nth six0 b i).2.2.2.1) && (decide ((nth six0 a i).2.2.2.2.1 = (nth six0 b i).2.2.2.2.1) && decide ((nth six0 a i).2.2.2.2.2 = (nth six0 b i).2.2.2.2.2))))) <;> rfl
    · simp [h3]
abbrev TwoRules := Int × List Six × Int × List Six
def sameRuleOk : TwoRules → Bool := fun x => decide (x.2.1.length < big)
def sameRuleM : TwoRules → Bool := fun (ka, a, kb, b) => sameRuleF ka a kb b
abbrev sameRuleFu : TwoRules → Nat := fun x => x.2.1.length + 1
theorem sameRule_ret (x : TwoRules) (h : sameRuleOk x = true) : Ret sameRule_re sameRule_R (sameRule_run (sameRuleFu x) x) (sameRuleM x) := by
  obtain ⟨ka, a, kb, b⟩ := x
  simp only [sameRuleOk, decide_eq_true_eq] at h
  refine Ret.of ((sameRule_arg ..).trans ((sameRule_eq ..).trans ?_)) (Ret.bool _)
  simp only [sameRuleM, sameRuleF, beq_ne, natEq]
  by_cases hk : ka = kb
  · subst hk
    by_cases h3 : ka = 3
    · by_cases hb : a.length = b.length
      · have := sameRule_L0_spec (sameRuleFu (ka, a, ka, b)) ka ka a b h (fun _ => hb.symm) a.length (sameRuleFu (ka, a, ka, b)) 0 (by omega) (Nat.lt_succ_self _)
        rw [List.drop_zero, List.drop_zero, show ((0 : Nat) : Int) = 0 from rfl] at this
        rw [this]
        simp [h3, hb]
      · rw [show decide (a.length = b.length) = false by simp [hb]]
        simp [h3]
    · have := sameRule_L0_spec (sameRuleFu (ka, a, ka, b)) ka ka a b h (fun h => absurd h h3) a.length (sameRuleFu (ka, a, ka, b)) 0 (by omega) (Nat.lt_succ_self _)
      rw [show ((0 : Nat) : Int) = 0 from rfl] at this
      rw [this]
      simp [h3]
  · simp [hk]
end Go.Proofs.Ytmiddecfdfbocaa

open Go Go.Abs Go.Proofs
set_option linter.unusedVariables false
namespace Go.Proofs.Ytmiddecfdfbocaa
noncomputable def tbTIL_1 : FuncId → List AV → List Blk → Res := addC 28 (tspec [none] (.slice cloneCell_e cloneCell_k) cloneCell_re cloneCell_R cloneCellOk cloneCellM) tbTI
theorem tabTIL_1 : Tab Try.prog tbTIL_1 cxMd tbKTI := Tab.addNil (os := []) tabTI tabTI (k := cloneCell_k) (R := cloneCell_R) (fn := Try.f28) (by kernel_rfl) (by kernel_rfl) (by kernel_rfl) (by kernel_rfl) _ cloneCellFu cloneCell_ret0 cloneCell_ret
noncomputable def tbTIL_2 : FuncId → List AV → List Blk → Res := addC 39 (tspec [none] (.slice cloneCase_e cloneCase_k) cloneCase_re cloneCase_R cloneCaseOk cloneCaseM) tbTIL_1
theorem tabTIL_2 : Tab Try.prog tbTIL_2 cxMd tbKTI := Tab.addNil (os := []) tabTIL_1 tabTI (k := cloneCase_k) (R := cloneCase_R) (fn := Try.f39) (by kernel_rfl) (by kernel_rfl) (by kernel_rfl) (by kernel_rfl) _ cloneCaseFu cloneCase_ret0 cloneCase_ret
noncomputable def tbTIL_3 : FuncId → List AV → List Blk → Res := addC 23 (tspec sameCells_sh sameCells_K sameCells_re sameCells_R sameCellsOk sameCellsM) tbTIL_2
theorem tabTIL_3 : Tab Try.prog tbTIL_3 cxMd tbKTI := Tab.addTy (os := []) tabTIL_2 tabTI (KK := sameCells_K) (R := sameCells_R) (fn := Try.f23) (by kernel_rfl) (by kernel_rfl) (by kernel_rfl) (by kernel_rfl) _ sameCellsFu sameCells_ret
noncomputable def tbTIL_4 : FuncId → List AV → List Blk → Res := addC 22 (tspec sameRule_sh sameRule_K sameRule_re sameRule_R sameRuleOk sameRuleM) tbTIL_3
theorem tabTIL_4 : Tab Try.prog tbTIL_4 cxMd tbKTI := Tab.addTy (os := []) tabTIL_3 tabTI (KK := sameRule_K) (R := sameRule_R) (fn := Try.f22) (by kernel_rfl) (by kernel_rfl) (by kernel_rfl) (by kernel_rfl) _ sameRuleFu sameRule_ret
noncomputable def tbTIB : FuncId → List AV → List Blk → Res := tbTIL_4
noncomputable def tbKTIB : KT := tbKTI
theorem tabTIB : Tab Try.prog tbTIB cxMd tbKTIB := tabTIL_4
end Go.Proofs.Ytmiddecfdfbocaa
