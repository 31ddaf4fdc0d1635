/- The laws of the document's Valid, and of directions. -/
import Derived.Test.YtknkkaimbhojpaaOC
set_option linter.all false
set_option linter.unusedVariables false
set_option linter.unusedSimpArgs false
open Go Go.Abs Go.Proofs
set_option linter.unusedSimpArgs false
set_option linter.unusedVariables false
namespace Go.Proofs.Ytknkkaimbhojpaa
theorem rV_L1_spec (F : Nat) (kind w h : Int) (cells : List Int) (ms : List Mo) (hlen : ms.length < 9223372036854775807) (hw : 1 ≤ w ∧ w ≤ 24) (hh : 1 ≤ h ∧ h ≤ 24) (hc : (cells.length : Int) = w * h) : ∀ (k n i : Nat), i + k = ms.length → k < n →
    rV_L1 F n i kind w h cells ms = ⟨true, .int .i64 (bif fitsAll kind w h cells ms (ms.take i) (ms.drop i) then 0 else 50), []⟩
  | k, 0, i, _, hk => by omega
  | 0, n + 1, i, hi, _ => by
    rw [rV_L1_succ, drop_len ms (by omega)]
    simp [show ¬ ((i : Int) < ms.length) by omega, fitsAll]
  | k + 1, n + 1, i, hi, hn => by
    have ih := rV_L1_spec F kind w h cells ms hlen hw hh hc k n (i + 1) (by omega) (by omega)
    have ht := take_nth (0, 0, 0, false) ms (show i < ms.length by omega)
    rw [rV_L1_succ, wrap_succ (by omega), ih, drop_nth (0, 0, 0, false) ms (show i < ms.length by omega), ht]
    have ho : fitsOk (kind, w, h, cells, ms, (i : Int)) = true := by
      simp only [fitsOk, decide_eq_true_eq]
      exact ⟨hw.1, hw.2, hh.1, hh.2, hc, by omega, by omega, hlen⟩
    have hM : fitsM (kind, w, h, cells, ms, (i : Int)) = fitB kind w h cells ms (ms.take i) (nth (0, 0, 0, false) ms i) := by
      simp only [fitsM, Int.toNat_natCast]
    rw [ho, hM]
    simp only [show ((i : Int) < ms.length) by omega, decide_true, cond_true, fitsAll]
    cases fitB kind w h cells ms (ms.take i) (nth (0, 0, 0, false) ms i) <;> simp
theorem rV_L0_spec (F : Nat) (st kind w h : Int) (cells : List Int) (ms : List Mo) (hx : cells.length < 9223372036854775807) (hm : ms.length < 9223372036854775807) : ∀ (k n i : Nat), i + k = cells.length → k < n →
    rV_L0 F n st i kind w h cells ms = bif (cells.drop i).all (cellOk st) && decide (cntI ms ≤ 4 ∧ cntO ms ≤ 4) then rV_L1 F F 0 kind w h cells ms else ⟨true, .int .i64 50, []⟩
  | k, 0, i, _, h => by omega
  | 0, n + 1, i, hi, _ => by
    rw [rV_L0_succ, drop_len cells (by omega)]
    have ho : mouthsOk (kind, w, h, cells, ms) = true := by simp only [mouthsOk, decide_eq_true_eq]; exact hm
    simp only [show ¬ ((i : Int) < cells.length) by omega, decide_false, cond_false, ho, cond_true, mouthsM, List.all_nil, Bool.true_and]
    by_cases a1 : cntI ms ≤ 4 <;> by_cases a2 : cntO ms ≤ 4
    · simp [a1, a2, show ¬ ((cntI ms : Int) > 4) by omega, show ¬ ((cntO ms : Int) > 4) by omega]
    · simp [a1, a2, show ¬ ((cntI ms : Int) > 4) by omega, show ((cntO ms : Int) > 4) by omega]
    · simp [a1, a2, show ((cntI ms : Int) > 4) by omega]
    · simp [a1, a2, show ((cntI ms : Int) > 4) by omega]
  | k + 1, n + 1, i, hi, hn => by
    have ih := rV_L0_spec F st kind w h cells ms hx hm k n (i + 1) (by omega) (by omega)
    rw [rV_L0_succ, wrap_succ (by omega), ih, drop_nth 0 cells (show i < cells.length by omega), Int.toNat_natCast]
    simp only [show (i : Int) < cells.length by omega, show (0 : Int) ≤ i by omega, decide_true, Bool.and_self, cond_true, List.all_cons, cellOk]
    by_cases c1 : nth 0 cells i < 0
    · simp [c1, show ¬ 0 ≤ nth 0 cells i by omega]
    · by_cases c2 : nth 0 cells i ≥ st
      · simp [c1, c2, show ¬ nth 0 cells i < st by omega]
      · simp [c1, c2, show 0 ≤ nth 0 cells i by omega, show nth 0 cells i < st by omega]
def rVOk : Organ → Bool := organOk
abbrev rVM : Organ → Int := organM
def rVFu : Organ → Nat := fun (_, _, _, cells, ms) => cells.length + ms.length + 1
theorem rV_ret (z : Organ) (hk : rVOk z = true) : Ret rV_re rV_R (rV_run (rVFu z) z) (rVM z) := by
  obtain ⟨kind, w, h, cells, ms⟩ := z
  simp only [rVOk, organOk, decide_eq_true_eq] at hk
  refine Ret.of ((rV_arg ..).trans ((rV_eq ..).trans ?_)) (Ret.int _ _)
  rw [show rVFu (kind, w, h, cells, ms) = cells.length + ms.length + 1 from rfl]
  have l0 : ∀ st : Int, (1 ≤ w ∧ w ≤ 24) → (1 ≤ h ∧ h ≤ 24) → (cells.length : Int) = w * h → rV_L0 (cells.length + ms.length + 1) (cells.length + ms.length + 1) st 0 kind w h cells ms =
      ⟨true, .int .i64 (bif cells.all (cellOk st) && (fitsAll kind w h cells ms [] ms && decide (cntI ms ≤ 4 ∧ cntO ms ≤ 4)) then 0 else 50), []⟩ := fun st hw hh hc => by
    have a0 := rV_L0_spec (cells.length + ms.length + 1) st kind w h cells ms hk.1 hk.2 cells.length (cells.length + ms.length + 1) 0 (by omega) (by omega)
    have a1 := rV_L1_spec (cells.length + ms.length + 1) kind w h cells ms hk.2 hw hh hc ms.length (cells.length + ms.length + 1) 0 (by omega) (by omega)
    rw [List.take_zero, List.drop_zero] at a1
    rw [List.drop_zero] at a0
    refine Eq.trans (?_ : _ = _) (a0.trans ?_)
    · rfl
    · have a1' : rV_L1 (cells.length + ms.length + 1) (cells.length + ms.length + 1) 0 kind w h cells ms = ⟨true, .int .i64 (bif fitsAll kind w h cells ms [] ms then 0 else 50), []⟩ := a1
      rw [a1']
      cases cells.all (cellOk st) <;> cases fitsAll kind w h cells ms [] ms <;> cases decide (cntI ms ≤ 4 ∧ cntO ms ≤ 4) <;> rfl
  simp only [organM, organB, shapeB, beq_ne]
  by_cases k0 : kind = 0 ∨ kind = 1
  · have hs : ¬ rStatesM kind = 0 := by rcases k0 with rfl | rfl <;> simp [rStatesM]
    by_cases c1 : w < 1
    · simp [hs, c1, show ¬ (1 ≤ w) by omega]
    · by_cases c3 : h < 1
      · simp [hs, c1, c3, show ¬ (1 ≤ h) by omega]
      · by_cases c2 : w > 24
        · simp [hs, c1, c2, c3, show ¬ (w ≤ 24) by omega]
        · by_cases c4 : h > 24
          · simp [hs, c1, c2, c3, c4, show ¬ (h ≤ 24) by omega]
          · have g1 : 0 ≤ w * h := Int.mul_nonneg (by omega) (by omega)
            have g2 : w * h ≤ 24 * h := Int.mul_le_mul_of_nonneg_right (by omega) (by omega)
            rw [wrap_id (n := w * h) (by omega) (by omega)]
            have d1 : 1 ≤ w ∧ w ≤ 24 := by omega
            have d2 : 1 ≤ h ∧ h ≤ 24 := by omega
            by_cases c5 : (cells.length : Int) = w * h
            · have m0 := l0 (rStatesM kind) d1 d2 c5
              simp only [hs, k0, c1, c2, c3, c4, c5, d1.1, d1.2, d2.1, d2.2, decide_true, decide_false, cond_true, cond_false, Bool.not_true, Bool.not_false, and_self, Bool.true_and]
              exact m0
            · simp [hs, c1, c2, c3, c4, c5]
  · have hs : rStatesM kind = 0 := by
      simp only [rStatesM]
      have k1 : ¬ kind = 0 := fun h => k0 (.inl h)
      have k2 : ¬ kind = 1 := fun h => k0 (.inr h)
      simp [k1, k2]
    simp [hs, k0]

/-- The direction from a place to a neighbour; -1 if it is none. -/
def dirOf (x y u v : Int) : Int := bif decide (u = x + 1 ∧ v = y) then 0 else bif decide (u = x ∧ v = y - 1) then 1 else bif decide (u = x - 1 ∧ v = y) then 2 else bif decide (u = x ∧ v = y + 1) then 3 else -1
/-- Small numbers. -/
def sm (x : Int) : Bool := decide (-1000000 ≤ x ∧ x ≤ 1000000)
abbrev Q4 := Int × Int × Int × Int
def towardsOk : Q4 → Bool := fun (x, y, u, v) => sm x && (sm y && (sm u && sm v))
def towardsM : Q4 → Int := fun (x, y, u, v) => dirOf x y u v
def towardsFu : Q4 → Nat := fun _ => 1
theorem towards_ret (z : Q4) (h : towardsOk z = true) : Ret towards_re towards_R (towards_run (towardsFu z) z) (towardsM z) := by
  obtain ⟨x, y, u, v⟩ := z
  simp only [towardsOk, sm, Bool.and_eq_true, decide_eq_true_eq] at h
  refine Ret.of ((towards_arg ..).trans ((towards_eq ..).trans ?_)) (Ret.int _ _)
  simp only [besideOk, besideM, towardsM, dirOf]
  have e1 : (0 : Int).toNat = 0 := rfl
  have e2 : (1 : Int).toNat = 1 := rfl
  have e3 : (2 : Int).toNat = 2 := rfl
  have e4 : (3 : Int).toNat = 3 := rfl
  simp only [e1, e2, e3, e4, nth]
  rw [wrap_id (n := x + 1) (by omega) (by omega), wrap_id (n := y + 0) (by omega) (by omega), wrap_id (n := x + 0) (by omega) (by omega), wrap_id (n := y + -1) (by omega) (by omega), wrap_id (n := x + -1) (by omega) (by omega), wrap_id (n := y + 1) (by omega) (by omega)]
  simp only [Int.add_zero, Bool.and_true, ← Bool.decide_and, Bool.cond_decide, if_true]
  have h1 : (x + 1 = u ∧ y = v) ↔ (u = x + 1 ∧ v = y) := by omega
  have h2 : (x = u ∧ y + -1 = v) ↔ (u = x ∧ v = y - 1) := by omega
  have h3 : (x + -1 = u ∧ y = v) ↔ (u = x - 1 ∧ v = y) := by omega
  have h4 : (x = u ∧ y + 1 = v) ↔ (u = x ∧ v = y + 1) := by omega
  simp only [h1, h2, h3, h4]
  by_cases a1 : u = x + 1 ∧ v = y
  · simp [a1]
  by_cases a2 : u = x ∧ v = y - 1
  · rw [if_neg a1, if_neg a1, if_pos a2, if_pos a2]; simp
  by_cases a3 : u = x - 1 ∧ v = y
  · rw [if_neg a1, if_neg a1, if_neg a2, if_neg a2, if_pos a3, if_pos a3]; simp
  by_cases a4 : u = x ∧ v = y + 1
  · rw [if_neg a1, if_neg a1, if_neg a2, if_neg a2, if_neg a3, if_neg a3, if_pos a4, if_pos a4]; simp
  · rw [if_neg a1, if_neg a1, if_neg a2, if_neg a2, if_neg a3, if_neg a3, if_neg a4, if_neg a4]; simp
def towardOk : Q4 → Bool := fun (x, y, u, v) => sm x && (sm y && (sm u && sm v))
def towardM : Q4 → Int := fun (x, y, u, v) => dirOf x y u v
def towardFu : Q4 → Nat := fun _ => 1
theorem toward_ret (z : Q4) (h : towardOk z = true) : Ret toward_re toward_R (toward_run (towardFu z) z) (towardM z) := by
  obtain ⟨x, y, u, v⟩ := z
  simp only [towardOk, sm, Bool.and_eq_true, decide_eq_true_eq] at h
  refine Ret.of ((toward_arg ..).trans ((toward_eq ..).trans ?_)) (Ret.int _ _)
  simp only [toward_S1, toward_S2, towardM, dirOf]
  rw [wrap_id (n := u - x) (by omega) (by omega), wrap_id (n := v - y) (by omega) (by omega)]
  have h1 : (u - x = 1 ∧ v - y = 0) ↔ (u = x + 1 ∧ v = y) := by omega
  have d1 : ∀ k : Int, (u - x = k) ↔ (u = x + k) := fun k => by omega
  have d2 : ∀ k : Int, (v - y = k) ↔ (v = y + k) := fun k => by omega
  simp only [d1, d2, Bool.cond_decide]
  by_cases a1 : u = x + 1
  · have : ¬ u = x + 0 := by omega
    have n2 : ¬ u = x := by omega
    have n3 : ¬ u = x + -1 := by omega
    have n4 : ¬ u = x - 1 := by omega
    simp only [this, n2, n3, n4, false_and, if_false, a1, true_and]
    by_cases b : v = y
    · simp [b]
    · simp [b, show ¬ v = y + 0 by omega, show ¬ x + 1 = x + -1 by omega, show ¬ x + 1 = x by omega, show ¬ x + 1 = x - 1 by omega]
  by_cases a2 : u = x
  · have n1 : ¬ u = x + 1 := a1
    have n3 : ¬ u = x + -1 := by omega
    have n4 : ¬ u = x - 1 := by omega
    have n0 : u = x + 0 := by omega
    rw [if_neg n1, if_pos n0]
    simp only [n1, n3, n4, a2, true_and, false_and, if_false, if_true]
    have hv : (v = y + -1) ↔ (v = y - 1) := by omega
    simp only [hv]
    by_cases b : v = y - 1
    · simp [b, show ¬ x = x + 1 by omega]
    · simp only [b, if_false, show ¬ x = x + 1 by omega, show ¬ x = x + -1 by omega, show ¬ x = x - 1 by omega, Int.add_zero, if_true, false_and]
      by_cases c : v = y + 1 <;> simp [c]
  by_cases a3 : u = x - 1
  · have n0 : ¬ u = x + 0 := by omega
    have n3 : u = x + -1 := by omega
    simp only [a1, a2, a3, n0, if_false, if_true, false_and, true_and, show x - 1 = x + -1 by omega, show ¬ x + -1 = x + 0 by omega, show ¬ x + -1 = x + 1 by omega, show ¬ x + -1 = x by omega]
    by_cases b : v = y
    · simp [b]
    · simp [b, show ¬ v = y + 0 by omega]
  · simp [a1, a2, a3, show ¬ u = x + 0 by omega, show ¬ u = x + -1 by omega]
end Go.Proofs.Ytknkkaimbhojpaa

open Go Go.Abs Go.Proofs
set_option linter.unusedVariables false
namespace Go.Proofs.Ytknkkaimbhojpaa
noncomputable def tbOCL_1 : FuncId → List AV → List Blk → Res := addC 22 (tspec rV_sh rV_K rV_re rV_R rVOk rVM) tbOC
theorem tabOCL_1 : Tab Try.prog tbOCL_1 cxMd tbKOC := Tab.addTy tabOC tabOC (KK := rV_K) (R := rV_R) (fn := Try.f22) (by kernel_rfl) (by kernel_rfl) (by kernel_rfl) (by kernel_rfl) _ rVFu rV_ret
noncomputable def tbOCL_2 : FuncId → List AV → List Blk → Res := addC 29 (tspec towards_sh towards_K towards_re towards_R towardsOk towardsM) tbOCL_1
theorem tabOCL_2 : Tab Try.prog tbOCL_2 cxMd tbKOC := Tab.addTy tabOCL_1 tabOC (KK := towards_K) (R := towards_R) (fn := Try.f29) (by kernel_rfl) (by kernel_rfl) (by kernel_rfl) (by kernel_rfl) _ (fun x => towardsFu x + 8) towards_ret
noncomputable def tbOCL_3 : FuncId → List AV → List Blk → Res := addC 45 (tspec toward_sh toward_K toward_re toward_R towardOk towardM) tbOCL_2
theorem tabOCL_3 : Tab Try.prog tbOCL_3 cxMd tbKOC := Tab.addTy tabOCL_2 tabOC (KK := toward_K) (R := toward_R) (fn := Try.f45) (by kernel_rfl) (by kernel_rfl) (by kernel_rfl) (by kernel_rfl) _ (fun x => towardFu x + 8) toward_ret
noncomputable def tbOCB : FuncId → List AV → List Blk → Res := tbOCL_3
noncomputable def tbKOCB : KT := tbKOC
theorem tabOCB : Tab Try.prog tbOCB cxMd tbKOCB := tabOCL_3
end Go.Proofs.Ytknkkaimbhojpaa
