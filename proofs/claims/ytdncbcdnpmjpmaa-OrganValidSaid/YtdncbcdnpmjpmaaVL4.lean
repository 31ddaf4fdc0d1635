/- Part of the proof, by an evaluator over plain values: VL4. -/
import Derived.Test.YtdncbcdnpmjpmaaV3
set_option linter.all false
set_option linter.unusedVariables false
set_option linter.unusedSimpArgs false
open Go Go.Abs Go.Proofs
set_option linter.unusedSimpArgs false
set_option linter.unusedVariables false
namespace Go.Proofs.Ytdncbcdnpmjpmaa
theorem rV_L1_spec (F : Nat) (kind w h : Int) (cells : List Int) (ms : List (Int × Int × Int × Bool)) (hlen : ms.length < 9223372036854775807) (hw : 1 ≤ w ∧ w ≤ 24) (hh : 1 ≤ h ∧ h ≤ 24) (hc : (cells.length : Int) = w * h) : ∀ (k n i : Nat), i + k = ms.length → k < n →
    rV_L1 F n i kind w h cells ms = ⟨true, .int .i64 (bif fitsAll kind w h cells ms (ms.take i) (ms.drop i) then 0 else 50), []⟩
  | k, 0, i, _, hk => by omega
  | 0, n + 1, i, hi, _ => by
    rw [rV_L1_succ, drop_len ms (by omega)]
    simp [show ¬ ((i : Int) < ms.length) by omega, fitsAll]
  | k + 1, n + 1, i, hi, hn => by
    have ih := rV_L1_spec F kind w h cells ms hlen hw hh hc k n (i + 1) (by omega) (by omega)
    have ht := take_nth (0, 0, 0, false) ms (show i < ms.length by omega)
    rw [rV_L1_succ, wrap_succ (by omega), ih, drop_nth (0, 0, 0, false) ms (show i < ms.length by omega), ht]
    have ho : fitsOk (kind, w, h, cells, ms, (i : Int)) = true := by
      simp only [fitsOk, decide_eq_true_eq]
      exact ⟨hw.1, hw.2, hh.1, hh.2, hc, by omega, by omega, hlen⟩
    have hM : fitsM (kind, w, h, cells, ms, (i : Int)) = fitB kind w h cells ms (ms.take i) (nth (0, 0, 0, false) ms i) := by
      simp only [fitsM, Int.toNat_natCast]
    rw [ho, hM]
    simp only [show ((i : Int) < ms.length) by omega, decide_true, cond_true, fitsAll]
    cases fitB kind w h cells ms (ms.take i) (nth (0, 0, 0, false) ms i) <;> simp
theorem rV_L0_spec (F : Nat) (st kind w h : Int) (cells : List Int) (ms : List (Int × Int × Int × Bool)) (hx : cells.length < 9223372036854775807) (hm : ms.length < 9223372036854775807) : ∀ (k n i : Nat), i + k = cells.length → k < n →
    rV_L0 F n st i kind w h cells ms = bif (cells.drop i).all (cellOk st) && decide (cntI ms ≤ 4 ∧ cntO ms ≤ 4) then rV_L1 F F 0 kind w h cells ms else ⟨true, .int .i64 50, []⟩
  | k, 0, i, _, h => by omega
  | 0, n + 1, i, hi, _ => by
    rw [rV_L0_succ, drop_len cells (by omega)]
    have ho : mouthsOk (kind, w, h, cells, ms) = true := by simp only [mouthsOk, decide_eq_true_eq]; exact hm
    simp only [show ¬ ((i : Int) < cells.length) by omega, decide_false, cond_false, ho, cond_true, mouthsM, List.all_nil, Bool.true_and]
    by_cases a1 : cntI ms ≤ 4 <;> by_cases a2 : cntO ms ≤ 4
    · simp [a1, a2, show ¬ ((cntI ms : Int) > 4) by omega, show ¬ ((cntO ms : Int) > 4) by omega]
    · simp [a1, a2, show ¬ ((cntI ms : Int) > 4) by omega, show ((cntO ms : Int) > 4) by omega]
    · simp [a1, a2, show ((cntI ms : Int) > 4) by omega]
    · simp [a1, a2, show ((cntI ms : Int) > 4) by omega]
  | k + 1, n + 1, i, hi, hn => by
    have ih := rV_L0_spec F st kind w h cells ms hx hm k n (i + 1) (by omega) (by omega)
    rw [rV_L0_succ, wrap_succ (by omega), ih, drop_nth 0 cells (show i < cells.length by omega), Int.toNat_natCast]
    simp only [show (i : Int) < cells.length by omega, show (0 : Int) ≤ i by omega, decide_true, Bool.and_self, cond_true, List.all_cons, cellOk]
    by_cases c1 : nth 0 cells i < 0
    · simp [c1, show ¬ 0 ≤ nth 0 cells i by omega]
    · by_cases c2 : nth 0 cells i ≥ st
      · simp [c1, c2, show ¬ nth 0 cells i < st by omega]
      · simp [c1, c2, show 0 ≤ nth 0 cells i by omega, show nth 0 cells i < st by omega]
theorem rV_ret (kind w h : Int) (cells : List Int) (ms : List (Int × Int × Int × Bool)) (hk : organOk (kind, w, h, cells, ms) = true) :
    Ret rV_re rV_R (runF (cxRV (cells.length + ms.length + 1)) Try.f5 [.agg [.int .i64 kind, .int .i64 w, .int .i64 h, .ro (.int .i64) cells, .ro (.pair (.int .i64) (.pair (.int .i64) (.pair (.int .i64) .bool))) ms]] []) (organM (kind, w, h, cells, ms)) := by
  simp only [organOk, decide_eq_true_eq] at hk
  have e2 : runF (cxRV (cells.length + ms.length + 1)) Try.f5 [.agg [.int .i64 kind, .int .i64 w, .int .i64 h, .ro (.int .i64) cells, .ro (.pair (.int .i64) (.pair (.int .i64) (.pair (.int .i64) .bool))) ms]] [] = ⟨true, .int .i64 (organM (kind, w, h, cells, ms)), []⟩ := by
    rw [rV_eq]
    have l0 : ∀ st : Int, (1 ≤ w ∧ w ≤ 24) → (1 ≤ h ∧ h ≤ 24) → (cells.length : Int) = w * h → rV_L0 (cells.length + ms.length + 1) (cells.length + ms.length + 1) st 0 kind w h cells ms =
        ⟨true, .int .i64 (bif cells.all (cellOk st) && (fitsAll kind w h cells ms [] ms && decide (cntI ms ≤ 4 ∧ cntO ms ≤ 4)) then 0 else 50), []⟩ := fun st hw hh hc => by
      have a0 := rV_L0_spec (cells.length + ms.length + 1) st kind w h cells ms hk.1 hk.2 cells.length (cells.length + ms.length + 1) 0 (by omega) (by omega)
      have a1 := rV_L1_spec (cells.length + ms.length + 1) kind w h cells ms hk.2 hw hh hc ms.length (cells.length + ms.length + 1) 0 (by omega) (by omega)
      rw [List.take_zero, List.drop_zero] at a1
      rw [List.drop_zero] at a0
      refine Eq.trans (?_ : _ = _) (a0.trans ?_)
      · rfl
      · have a1' : rV_L1 (cells.length + ms.length + 1) (cells.length + ms.length + 1) 0 kind w h cells ms = ⟨true, .int .i64 (bif fitsAll kind w h cells ms [] ms then 0 else 50), []⟩ := a1
        rw [a1']
        cases cells.all (cellOk st) <;> cases fitsAll kind w h cells ms [] ms <;> cases decide (cntI ms ≤ 4 ∧ cntO ms ≤ 4) <;> rfl
    simp only [organM, organB, shapeB, beq_ne]
    by_cases k0 : kind = 0 ∨ kind = 1
    · have hs : ¬ rStatesM kind = 0 := by rcases k0 with rfl | rfl <;> simp [rStatesM]
      by_cases c1 : w < 1
      · simp [hs, c1, show ¬ (1 ≤ w) by omega]
      · by_cases c3 : h < 1
        · simp [hs, c1, c3, show ¬ (1 ≤ h) by omega]
        · by_cases c2 : w > 24
          · simp [hs, c1, c2, c3, show ¬ (w ≤ 24) by omega]
          · by_cases c4 : h > 24
            · simp [hs, c1, c2, c3, c4, show ¬ (h ≤ 24) by omega]
            · have g1 : 0 ≤ w * h := Int.mul_nonneg (by omega) (by omega)
              have g2 : w * h ≤ 24 * h := Int.mul_le_mul_of_nonneg_right (by omega) (by omega)
              rw [wrap_id (n := w * h) (by omega) (by omega)]
              have d1 : 1 ≤ w ∧ w ≤ 24 := by omega
              have d2 : 1 ≤ h ∧ h ≤ 24 := by omega
              by_cases c5 : (cells.length : Int) = w * h
              · have m0 := l0 (rStatesM kind) d1 d2 c5
                simp only [hs, k0, c1, c2, c3, c4, c5, d1.1, d1.2, d2.1, d2.2, decide_true, decide_false, cond_true, cond_false, Bool.not_true, Bool.not_false, and_self, Bool.true_and]
                exact m0
              · simp [hs, c1, c2, c3, c4, c5]
    · have hs : rStatesM kind = 0 := by
        simp only [rStatesM]
        have k1 : ¬ kind = 0 := fun h => k0 (.inl h)
        have k2 : ¬ kind = 1 := fun h => k0 (.inr h)
        simp [k1, k2]
      simp [hs, k0]
  rw [e2]
  exact Ret.int _ _
end Go.Proofs.Ytdncbcdnpmjpmaa
