/- Part of the proof, by an evaluator over plain values: VL2. -/
import Derived.Test.YtdncbcdnpmjpmaaV2
set_option linter.all false
set_option linter.unusedVariables false
set_option linter.unusedSimpArgs false
open Go Go.Abs Go.Proofs
set_option linter.unusedSimpArgs false
set_option linter.unusedVariables false
namespace Go.Proofs.Ytdncbcdnpmjpmaa
def sameM (a b : (Int × Int × Int × Bool)) : Bool := decide (a.1 = b.1) && (decide (a.2.1 = b.2.1) && decide (a.2.2.1 = b.2.2.1))
def mouthP (kind w h : Int) (cells : List Int) (ms : List (Int × Int × Int × Bool)) (m : (Int × Int × Int × Bool)) : Bool :=
  decide (0 ≤ m.2.2.1 ∧ m.2.2.1 < 4) && (withinM (kind, w, h, cells, ms, m.1, m.2.1) && !withinM (kind, w, h, cells, ms, (besideM (m.1, m.2.1, m.2.2.1)).1, (besideM (m.1, m.2.1, m.2.2.1)).2))
def mouthL (w : Int) (cells : List Int) (m : (Int × Int × Int × Bool)) : Bool := !m.2.2.2 || leadsM (nth 0 cells (m.2.1 * w + m.1).toNat, m.2.2.1)
def fitB (kind w h : Int) (cells : List Int) (ms pre : List (Int × Int × Int × Bool)) (m : (Int × Int × Int × Bool)) : Bool := mouthP kind w h cells ms m && (!(pre.any fun n => sameM n m) && mouthL w cells m)
theorem idx_ok {w h x y len : Int} (hw : 1 ≤ w ∧ w ≤ 24) (hh : 1 ≤ h ∧ h ≤ 24) (hl : len = w * h) (hx : 0 ≤ x ∧ x < w) (hy : 0 ≤ y ∧ y < h) : 0 ≤ y * w ∧ y * w ≤ 600 ∧ 0 ≤ y * w + x ∧ y * w + x < len := by
  have h1 : 0 ≤ y * w := Int.mul_nonneg hy.1 (by omega)
  have h2 : y * w ≤ (h - 1) * w := Int.mul_le_mul_of_nonneg_right (by omega) (by omega)
  have h3 : (h - 1) * w ≤ 23 * w := Int.mul_le_mul_of_nonneg_right (by omega) (by omega)
  have h4 : (h - 1) * w = w * h - w := by rw [Int.sub_mul, Int.mul_comm]; omega
  omega
theorem fits_L0_spec (F : Nat) (kind w h : Int) (cells : List Int) (ms : List (Int × Int × Int × Bool)) (x y d : Int) (o : Bool) (i : Nat) (hlen : ms.length < 9223372036854775807) (hi : i ≤ ms.length) (h0 : 0 ≤ y * w) (h1 : y * w ≤ 600) (hx : 0 ≤ x ∧ x ≤ 100) (hc : y * w + x < cells.length) : ∀ (k n j : Nat), j + k = i → k < n →
    fits_L0 F n i j kind w h cells ms x y d o = ⟨true, .bool (!(((ms.drop j).take k).any fun n => sameM n (x, y, d, o)) && mouthL w cells (x, y, d, o)), []⟩
  | k, 0, j, _, hk => by omega
  | 0, n + 1, j, hj, _ => by
    rw [fits_L0_succ, wrap_id (n := y * w) (by omega) (by omega), wrap_id (n := y * w + x) (by omega) (by omega)]
    simp only [show ¬ ((j : Int) < i) by omega, hc, show 0 ≤ y * w + x by omega, decide_true, decide_false, cond_false, cond_true, Bool.and_self, List.take_zero, List.any_nil, Bool.not_false, Bool.true_and, mouthL]
    cases o <;> simp
  | k + 1, n + 1, j, hj, hk => by
    have ih := fits_L0_spec F kind w h cells ms x y d o i hlen hi h0 h1 hx hc k n (j + 1) (by omega) (by omega)
    rw [fits_L0_succ, wrap_succ (by omega), ih, drop_nth (0, 0, 0, false) ms (show j < ms.length by omega), List.take_succ_cons, List.any_cons, Int.toNat_natCast]
    rcases hm : nth (0, 0, 0, false) ms j with ⟨b1, b2, b3, b4⟩
    simp only [show ((j : Int) < i) by omega, show ((j : Int) < ms.length) by omega, show (0 : Int) ≤ j by omega, decide_true, cond_true, Bool.and_self, sameM]
    by_cases a1 : b1 = x <;> by_cases a2 : b2 = y <;> by_cases a3 : b3 = d <;> simp [a1, a2, a3]
def fitsOk : Int × Int × Int × List Int × List (Int × Int × Int × Bool) × Int → Bool := fun (_, w, h, cells, ms, i) => decide (1 ≤ w ∧ w ≤ 24 ∧ 1 ≤ h ∧ h ≤ 24 ∧ (cells.length : Int) = w * h ∧ 0 ≤ i ∧ i < ms.length ∧ ms.length < 9223372036854775807)
def fitsM : Int × Int × Int × List Int × List (Int × Int × Int × Bool) × Int → Bool := fun (kind, w, h, cells, ms, i) => fitB kind w h cells ms (ms.take i.toNat) (nth (0, 0, 0, false) ms i.toNat)
theorem fits_ret (kind w h : Int) (cells : List Int) (ms : List (Int × Int × Int × Bool)) (i : Int) (hk : fitsOk (kind, w, h, cells, ms, i) = true) :
    Ret fits_re fits_R (runF (cxFits (ms.length + 1)) Try.f14 [.agg [.int .i64 kind, .int .i64 w, .int .i64 h, .ro (.int .i64) cells, .ro (.pair (.int .i64) (.pair (.int .i64) (.pair (.int .i64) .bool))) ms], .int .i64 i] []) (fitsM (kind, w, h, cells, ms, i)) := by
  simp only [fitsOk, decide_eq_true_eq] at hk
  obtain ⟨k1, k2, k3, k4, k5, k6, k7, k8⟩ := hk
  have e2 : runF (cxFits (ms.length + 1)) Try.f14 [.agg [.int .i64 kind, .int .i64 w, .int .i64 h, .ro (.int .i64) cells, .ro (.pair (.int .i64) (.pair (.int .i64) (.pair (.int .i64) .bool))) ms], .int .i64 i] [] = ⟨true, .bool (fitsM (kind, w, h, cells, ms, i)), []⟩ := by
    rw [fits_eq]
    obtain ⟨p, rfl⟩ : ∃ p : Nat, i = p := ⟨i.toNat, by omega⟩
    simp only [fitsM, fitB]
    rw [Int.toNat_natCast]
    have hm : ∀ x y d o, nth (0, 0, 0, false) ms p = (x, y, d, o) → 0 ≤ x ∧ x < w → 0 ≤ y ∧ y < h → _ := fun x y d o hxy hx hy =>
      fits_L0_spec (ms.length + 1) kind w h cells ms x y d o p k8 (by omega) (idx_ok ⟨k1, k2⟩ ⟨k3, k4⟩ k5 hx hy).1 (idx_ok ⟨k1, k2⟩ ⟨k3, k4⟩ k5 hx hy).2.1 ⟨hx.1, by omega⟩ (idx_ok ⟨k1, k2⟩ ⟨k3, k4⟩ k5 hx hy).2.2.2 p (ms.length + 1) 0 (by omega) (by omega)
    rcases hmm : nth (0, 0, 0, false) ms p with ⟨x, y, d, o⟩
    simp only [k6, k7, decide_true, Bool.and_self, cond_true, withinOk, outerM, mouthP]
    by_cases c1 : d < 0
    · simp [c1, show ¬ (0 ≤ d) by omega]
    · by_cases c2 : d > 3
      · simp [c1, c2, show ¬ (d < 4) by omega]
      · have c3 : 0 ≤ d ∧ d < 4 := by omega
        simp only [c1, c2, c3, decide_false, decide_true, cond_false, cond_true, outerOk, and_self, Bool.true_and]
        cases hw : withinM (kind, w, h, cells, ms, x, y) with
        | false => simp
        | true =>
          have hwd : 0 ≤ x ∧ x < w ∧ 0 ≤ y ∧ y < h := by simpa [withinM] using hw
          have := hm x y d o hmm ⟨hwd.1, hwd.2.1⟩ ⟨hwd.2.2.1, hwd.2.2.2⟩
          rw [show ((0 : Nat) : Int) = 0 from rfl] at this
          rw [this]
          cases withinM (kind, w, h, cells, ms, (besideM (x, y, d)).1, (besideM (x, y, d)).2) <;> simp
  rw [e2]
  exact Ret.bool _
end Go.Proofs.Ytdncbcdnpmjpmaa
