/- The law of clash. -/
import Derived.Test.YtknkkaimbhojpaaOI2
set_option linter.all false
set_option linter.unusedVariables false
set_option linter.unusedSimpArgs false
open Go Go.Abs Go.Proofs
set_option linter.unusedSimpArgs false
set_option linter.unusedVariables false
namespace Go.Proofs.Ytknkkaimbhojpaa
def clashOk : ClashK → Bool := fun (ps, ls, x, y, _, k, s, _, x', y', _, k', s', _) => (sm x && (sm y && (sm x' && sm y'))) && ((sm s && sm s') && (decide (k < ls.length ∧ k' < ls.length) && ls.all (leadGood ps)))
def clashB (ps : List Part) (ls : List Lead) (x y p k s x' y' p' k' s' : Int) : Bool :=
  bif decide (x = x') && decide (y = y') then true else bif decide (dirOf x y x' y' < 0) then false else
  bif decide (k < 0) then (bif decide (k' < 0) then !decide (p = p') else !jointB ps (nth l0 ls k'.toNat) s' p x y)
  else (bif decide (k' < 0) then !jointB ps (nth l0 ls k.toNat) s p' x' y' else !decide (k = k') || (!decide (s - s' = 1) && !decide (s' - s = 1)))
def clashM : ClashK → Bool := fun (ps, ls, x, y, p, k, s, _, x', y', p', k', s', _) => clashB ps ls x y p k s x' y' p' k' s'
def clashFu : ClashK → Nat := fun _ => 1
theorem clash_ret (z : ClashK) (h : clashOk z = true) : Ret clash_re clash_R (clash_run (clashFu z) z) (clashM z) := by
  obtain ⟨ps, ls, x, y, p, k, s, st, x', y', p', k', s', st'⟩ := z
  simp only [clashOk, Bool.and_eq_true] at h
  obtain ⟨⟨hx, hy, hx', hy'⟩, ⟨hs, hs'⟩, hk, hl⟩ := h
  have hk := of_decide_eq_true hk
  have bs := of_decide_eq_true hs
  have bs' := of_decide_eq_true hs'
  refine Ret.of ((clash_arg ..).trans ((clash_eq ..).trans ?_)) (Ret.bool _)
  simp only [clashM, clashB, clash_S2, clash_S1]
  have ok : towardOk (x, y, x', y') = true := by simp only [towardOk, hx, hy, hx', hy', Bool.and_self]
  have em : towardM (x, y, x', y') = dirOf x y x' y' := rfl
  rw [ok, em, wrap_id (n := s - s') (by omega) (by omega), wrap_id (n := s' - s) (by omega) (by omega)]
  simp only [cond_true, beq_ne]
  have main : (bif decide (dirOf x y x' y' < 0) then (⟨true, .bool false, []⟩ : Res) else bif decide (k < 0) then bif decide (k' < 0) then ⟨true, .bool (!decide (p = p')), []⟩ else bif decide (k ≥ 0) then bif decide (k' ≥ 0) then bif !decide (k = k') then ⟨true, .bool true, []⟩ else bif !decide (s - s' = 1) then ⟨true, .bool (!decide (s' - s = 1)), []⟩ else ⟨true, .bool false, []⟩ else (bif jointedOk (ps, ls, x, y, p, k, s, st, x', y', p', k', s', st') then (⟨true, .bool (!jointedM (ps, ls, x, y, p, k, s, st, x', y', p', k', s', st')), []⟩ : Res) else ⟨false, .junk, []⟩) else (bif jointedOk (ps, ls, x, y, p, k, s, st, x', y', p', k', s', st') then (⟨true, .bool (!jointedM (ps, ls, x, y, p, k, s, st, x', y', p', k', s', st')), []⟩ : Res) else ⟨false, .junk, []⟩) else bif decide (k ≥ 0) then bif decide (k' ≥ 0) then bif !decide (k = k') then ⟨true, .bool true, []⟩ else bif !decide (s - s' = 1) then ⟨true, .bool (!decide (s' - s = 1)), []⟩ else ⟨true, .bool false, []⟩ else (bif jointedOk (ps, ls, x, y, p, k, s, st, x', y', p', k', s', st') then (⟨true, .bool (!jointedM (ps, ls, x, y, p, k, s, st, x', y', p', k', s', st')), []⟩ : Res) else ⟨false, .junk, []⟩) else (bif jointedOk (ps, ls, x, y, p, k, s, st, x', y', p', k', s', st') then (⟨true, .bool (!jointedM (ps, ls, x, y, p, k, s, st, x', y', p', k', s', st')), []⟩ : Res) else ⟨false, .junk, []⟩)) =
      ⟨true, .bool (bif decide (dirOf x y x' y' < 0) then false else bif decide (k < 0) then (bif decide (k' < 0) then !decide (p = p') else !jointB ps (nth l0 ls k'.toNat) s' p x y) else (bif decide (k' < 0) then !jointB ps (nth l0 ls k.toNat) s p' x' y' else !decide (k = k') || (!decide (s - s' = 1) && !decide (s' - s = 1)))), []⟩ := by
    cases decide (dirOf x y x' y' < 0) with
    | true => rfl
    | false =>
      simp only [cond_false]
      by_cases k0 : k < 0
      · by_cases k1 : k' < 0
        · rw [decide_eq_true k0, decide_eq_true k1]; rfl
        · have h3 : jointedOk (ps, ls, x, y, p, k, s, st, x', y', p', k', s', st') = true := by simp only [jointedOk, hl, Bool.and_true]; exact decide_eq_true (.inl ⟨k0, by omega, hk.2⟩)
          have h4 : jointedM (ps, ls, x, y, p, k, s, st, x', y', p', k', s', st') = jointB ps (nth l0 ls k'.toNat) s' p x y := by simp only [jointedM, decide_eq_true k0, cond_true]
          rw [decide_eq_true k0, decide_eq_false k1, decide_eq_false (show ¬ k ≥ 0 by omega), h3, h4]; rfl
      · by_cases k1 : k' < 0
        · have h3 : jointedOk (ps, ls, x, y, p, k, s, st, x', y', p', k', s', st') = true := by simp only [jointedOk, hl, Bool.and_true]; exact decide_eq_true (.inr ⟨by omega, hk.1, k1⟩)
          have h4 : jointedM (ps, ls, x, y, p, k, s, st, x', y', p', k', s', st') = jointB ps (nth l0 ls k.toNat) s p' x' y' := by simp only [jointedM, decide_eq_false k0, cond_false]
          rw [decide_eq_false k0, decide_eq_true k1, decide_eq_true (show k ≥ 0 by omega), decide_eq_false (show ¬ k' ≥ 0 by omega), h3, h4]; rfl
        · rw [decide_eq_false k0, decide_eq_false k1, decide_eq_true (show k ≥ 0 by omega), decide_eq_true (show k' ≥ 0 by omega)]
          cases decide (k = k') <;> cases decide (s - s' = 1) <;> cases decide (s' - s = 1) <;> rfl
  by_cases e1 : x = x'
  · by_cases e2 : y = y'
    · rw [decide_eq_true e1, decide_eq_true e2]; rfl
    · rw [decide_eq_true e1, decide_eq_false e2]; exact main
  · rw [decide_eq_false e1]; exact main
end Go.Proofs.Ytknkkaimbhojpaa

open Go Go.Abs Go.Proofs
set_option linter.unusedVariables false
namespace Go.Proofs.Ytknkkaimbhojpaa
noncomputable def tbOI2L_1 : FuncId → List AV → List Blk → Res := addC 47 (tspec clash_sh clash_K clash_re clash_R clashOk clashM) tbOI2
theorem tabOI2L_1 : Tab Try.prog tbOI2L_1 cxMd tbKOI2 := Tab.addTy tabOI2 tabOI2 (KK := clash_K) (R := clash_R) (fn := Try.f47) (by kernel_rfl) (by kernel_rfl) (by kernel_rfl) (by kernel_rfl) _ clashFu clash_ret
noncomputable def tbOI2B : FuncId → List AV → List Blk → Res := tbOI2L_1
noncomputable def tbKOI2B : KT := tbKOI2
theorem tabOI2B : Tab Try.prog tbOI2B cxMd tbKOI2B := tabOI2L_1
end Go.Proofs.Ytknkkaimbhojpaa
