/- Part of the proof, by an evaluator over plain values: VL1. -/
import Derived.Test.YtdncbcdnpmjpmaaV1
import Derived.Test.YtdncbcdnpmjpmaaA19
set_option linter.all false
set_option linter.unusedVariables false
set_option linter.unusedSimpArgs false
open Go Go.Abs Go.Proofs
set_option linter.unusedSimpArgs false
set_option linter.unusedVariables false
namespace Go.Proofs.Ytdncbcdnpmjpmaa
def okWord (bits a : Int) : Bool := decide (0 ≤ a) && decide (a < 2 ^ bits.toNat)
/-! ### ValidContract -/
def wordsOk (n outs : Int) (nx pt : List Int) : Nat → Nat → Bool
  | 0, _ => true
  | k + 1, a => decide (0 ≤ nth 0 nx a) && (decide (nth 0 nx a < n) && (okWord outs (nth 0 pt a) && wordsOk n outs nx pt k (a + 1)))
def rowsOk (w : Nat) (n outs : Int) (next put : List (List Int)) (lets : List (List Bool)) : Nat → Nat → Bool
  | 0, _ => true
  | k + 1, q => decide ((nth [] next q).length = w ∧ (nth [] put q).length = w ∧ (nth [] lets q).length = w) && (wordsOk n outs (nth [] next q) (nth [] put q) w 0 && rowsOk w n outs next put lets k (q + 1))
def contractOk (ins outs delay : Int) (next put : List (List Int)) (lets : List (List Bool)) : Bool :=
  decide (0 ≤ ins ∧ ins ≤ 4 ∧ 0 ≤ outs ∧ outs ≤ 4 ∧ 1 ≤ delay ∧ delay ≤ 64 ∧ 1 ≤ next.length ∧ next.length ≤ 32 ∧ put.length = next.length ∧ lets.length = next.length) &&
    rowsOk (2 ^ ins.toNat) next.length outs next put lets next.length 0
set_option linter.unusedSimpArgs false
theorem rVC_L1_spec (F m : Nat) (n ins outs delay : Int) (next put : List (List Int)) (lets : List (List Bool)) (w q : Nat) (ho : 0 ≤ outs ∧ outs ≤ 4) (hq : q < next.length) (hp : q < put.length) (hw : w ≤ 1000) (hnq : next.length ≤ 1000)
    (h1 : (nth [] next q).length = w) (h2 : (nth [] put q).length = w) : ∀ (k f a : Nat), a + k = w → k < f →
    rVC_L1 F m f n w q a ins outs delay next put lets = bif wordsOk n outs (nth [] next q) (nth [] put q) k a then rVC_L0 F m n w ((q + 1 : Nat) : Int) ins outs delay next put lets else ⟨true, .int .i64 51, []⟩
  | k, 0, a, _, h => by omega
  | 0, f + 1, a, ha, _ => by
    rw [rVC_L1_succ, wrap_succ (i := q) (by omega)]
    simp [show ¬ ((a : Int) < w) by omega, wordsOk]
  | k + 1, f + 1, a, ha, hf => by
    have ih := rVC_L1_spec F m n ins outs delay next put lets w q ho hq hp hw hnq h1 h2 k f (a + 1) (by omega) (by omega)
    rw [rVC_L1_succ, wrap_succ (by omega), wrapu_id ho.1 (by omega), ih, shl_one ho.1 (by omega)]
    have g1 : (a : Int) < w := by omega
    have g2 : (q : Int) < next.length := by omega
    have g3 : (q : Int) < put.length := by omega
    have g4 : (a : Int) < (nth [] next q).length := by omega
    have g5 : (a : Int) < (nth [] put q).length := by omega
    simp only [Int.toNat_natCast, g1, g2, g3, g4, g5, Int.natCast_nonneg, ho.1, decide_true, Bool.true_and, cond_true, wordsOk, okWord]
    by_cases c1 : nth 0 (nth [] next q) a < 0
    · simp [c1, show ¬ 0 ≤ nth 0 (nth [] next q) a by omega]
    · by_cases c2 : nth 0 (nth [] next q) a < n
      · by_cases c3 : nth 0 (nth [] put q) a ≥ 0
        · by_cases c4 : nth 0 (nth [] put q) a < 2 ^ outs.toNat
          · simp [c1, c2, c3, c4, show 0 ≤ nth 0 (nth [] next q) a by omega, show ¬ n ≤ nth 0 (nth [] next q) a by omega]
          · simp [c1, c2, c3, c4, show 0 ≤ nth 0 (nth [] next q) a by omega, show ¬ n ≤ nth 0 (nth [] next q) a by omega]
        · simp [c1, c2, c3, show 0 ≤ nth 0 (nth [] next q) a by omega, show ¬ n ≤ nth 0 (nth [] next q) a by omega, show ¬ 0 ≤ nth 0 (nth [] put q) a by omega]
      · simp [c1, c2, show n ≤ nth 0 (nth [] next q) a by omega]
theorem rVC_L0_spec (F : Nat) (ins outs delay : Int) (next put : List (List Int)) (lets : List (List Bool)) (w : Nat) (ho : 0 ≤ outs ∧ outs ≤ 4) (hp : put.length = next.length) (hl : lets.length = next.length) (hw : w ≤ 1000) (hnq : next.length ≤ 1000) (hF : w < F) : ∀ (k f q : Nat), q + k = next.length → k < f →
    rVC_L0 F f next.length w q ins outs delay next put lets = ⟨true, .int .i64 (bif rowsOk w next.length outs next put lets k q then 0 else 51), []⟩
  | k, 0, q, _, h => by omega
  | 0, f + 1, q, hq, _ => by
    rw [rVC_L0_succ]
    simp [show ¬ ((q : Int) < next.length) by omega, rowsOk]
  | k + 1, f + 1, q, hq, hf => by
    have ih := rVC_L0_spec F ins outs delay next put lets w ho hp hl hw hnq hF k f (q + 1) (by omega) (by omega)
    rw [rVC_L0_succ]
    have g2 : (q : Int) < next.length := by omega
    have g3 : (q : Int) < put.length := by omega
    have g4 : (q : Int) < lets.length := by omega
    simp only [Int.toNat_natCast, g2, g3, g4, Int.natCast_nonneg, decide_true, Bool.true_and, cond_true, rowsOk, beq_ne, Int.natCast_inj]
    by_cases c1 : (nth [] next q).length = w
    · by_cases c2 : (nth [] put q).length = w
      · by_cases c3 : (nth [] lets q).length = w
        · have := rVC_L1_spec F f next.length ins outs delay next put lets w q ho (by omega) (by omega) hw hnq c1 c2 w F 0 (by omega) hF
          rw [show ((0 : Nat) : Int) = 0 from rfl] at this
          rw [this, ih]
          simp only [c1, c2, c3, decide_true, Bool.not_true, cond_false, and_self, Bool.true_and]
          cases wordsOk next.length outs (nth [] next q) (nth [] put q) w 0 <;> simp
        · simp [c1, c2, c3]
      · simp [c1, c2]
    · simp [c1]
def validOk : Int × Int × Int × List (List Int) × List (List Int) × List (List Bool) → Bool := fun (_, _, _, next, put, lets) => decide (next.length < 9223372036854775807 ∧ put.length < 9223372036854775807 ∧ lets.length < 9223372036854775807)
def validM : Int × Int × Int × List (List Int) × List (List Int) × List (List Bool) → Int := fun (ins, outs, delay, next, put, lets) => bif contractOk ins outs delay next put lets then 0 else 51
theorem pow_le16 {b : Int} (h : 0 ≤ b ∧ b ≤ 4) : (2 ^ b.toNat : Nat) ≤ 16 := by
  have := Nat.pow_le_pow_right (n := 2) (by omega) (show b.toNat ≤ 4 by omega)
  omega
theorem rVC_ret (ins outs delay : Int) (next put : List (List Int)) (lets : List (List Bool)) : Ret rVC_re rVC_R (runF (cxRVC 100) Try.f7 [.agg [.int .i64 ins, .int .i64 outs, .int .i64 delay, .ro (.slice 3 (.int .i64)) next, .ro (.slice 3 (.int .i64)) put, .ro (.slice 4 .bool) lets]] []) (validM (ins, outs, delay, next, put, lets)) := by
  have e : runF (cxRVC 100) Try.f7 [.agg [.int .i64 ins, .int .i64 outs, .int .i64 delay, .ro (.slice 3 (.int .i64)) next, .ro (.slice 3 (.int .i64)) put, .ro (.slice 4 .bool) lets]] [] = ⟨true, .int .i64 (bif contractOk ins outs delay next put lets then 0 else 51), []⟩ := by
    rw [rVC_eq]
    by_cases hc : 0 ≤ ins ∧ ins ≤ 4 ∧ 0 ≤ outs ∧ outs ≤ 4 ∧ 1 ≤ delay ∧ delay ≤ 64 ∧ 1 ≤ next.length ∧ next.length ≤ 32 ∧ put.length = next.length ∧ lets.length = next.length
    · obtain ⟨c1, c2, c3, c4, c5, c6, c7, c8, c9, c10⟩ := hc
      have hw := pow_le16 ⟨c1, c2⟩
      have := rVC_L0_spec 100 ins outs delay next put lets (2 ^ ins.toNat) ⟨c3, c4⟩ c9 c10 (by omega) (by omega) (by omega) next.length 100 0 (by omega) (by omega)
      rw [wrapu_id c1 (by omega), shl_one c1 (by omega)]
      rw [show ((0 : Nat) : Int) = 0 from rfl, show ((2 ^ ins.toNat : Nat) : Int) = 2 ^ ins.toNat from by simp] at this
      rw [this]
      simp [contractOk, c1, c2, c3, c4, c5, c6, c7, c8, c9, c10, beq_ne, show ¬ ins < 0 by omega, show ¬ ins > 4 by omega, show ¬ outs < 0 by omega, show ¬ outs > 4 by omega, show ¬ delay < 1 by omega, show ¬ delay > 64 by omega, show ¬ (next.length : Int) < 1 by omega, show ¬ (next.length : Int) > 32 by omega]
    · simp only [contractOk, hc, decide_false, Bool.false_and, cond_false]
      simp only [Bool.cond_decide, beq_ne, Bool.cond_not]
      repeat' split
      all_goals first | rfl | (exfalso; apply hc; omega)
  rw [e]
  exact Ret.int _ _
theorem oVC_L1_spec (F m : Nat) (n ins outs delay : Int) (next put : List (List Int)) (lets : List (List Bool)) (w q : Nat) (ho : 0 ≤ outs ∧ outs ≤ 4) (hq : q < next.length) (hp : q < put.length) (hw : w ≤ 1000) (hnq : next.length ≤ 1000)
    (h1 : (nth [] next q).length = w) (h2 : (nth [] put q).length = w) : ∀ (k f a : Nat), a + k = w → k < f →
    oVC_L1 F m f n q n q w a ins outs delay next put lets = bif wordsOk n outs (nth [] next q) (nth [] put q) k a then oVC_L0 F m n n ((q + 1 : Nat) : Int) ins outs delay next put lets else ⟨true, .int .i64 51, []⟩
  | k, 0, a, _, h => by omega
  | 0, f + 1, a, ha, _ => by
    rw [oVC_L1_succ, wrap_succ (i := q) (by omega)]
    simp [show ¬ ((a : Int) < w) by omega, wordsOk]
  | k + 1, f + 1, a, ha, hf => by
    have ih := oVC_L1_spec F m n ins outs delay next put lets w q ho hq hp hw hnq h1 h2 k f (a + 1) (by omega) (by omega)
    rw [oVC_L1_succ, wrap_succ (by omega), ih, shl_one ho.1 (by omega)]
    have g1 : (a : Int) < w := by omega
    have g2 : (q : Int) < next.length := by omega
    have g3 : (q : Int) < put.length := by omega
    have g4 : (a : Int) < (nth [] next q).length := by omega
    have g5 : (a : Int) < (nth [] put q).length := by omega
    simp only [Int.toNat_natCast, g1, g2, g3, g4, g5, Int.natCast_nonneg, ho.1, decide_true, Bool.true_and, cond_true, wordsOk, okWord]
    by_cases c1 : nth 0 (nth [] next q) a < 0
    · simp [c1, show ¬ 0 ≤ nth 0 (nth [] next q) a by omega]
    · by_cases c2 : nth 0 (nth [] next q) a < n
      · by_cases c3 : nth 0 (nth [] put q) a < 0
        · simp [c1, c2, c3, show 0 ≤ nth 0 (nth [] next q) a by omega, show ¬ n ≤ nth 0 (nth [] next q) a by omega, show ¬ 0 ≤ nth 0 (nth [] put q) a by omega]
        · by_cases c4 : nth 0 (nth [] put q) a < 2 ^ outs.toNat
          · simp [c1, c2, c3, c4, show 0 ≤ nth 0 (nth [] put q) a by omega, show ¬ 2 ^ outs.toNat ≤ nth 0 (nth [] put q) a by omega, show 0 ≤ nth 0 (nth [] next q) a by omega, show ¬ n ≤ nth 0 (nth [] next q) a by omega]
          · simp [c1, c2, c3, c4, show 2 ^ outs.toNat ≤ nth 0 (nth [] put q) a by omega, show 0 ≤ nth 0 (nth [] next q) a by omega, show ¬ n ≤ nth 0 (nth [] next q) a by omega]
      · simp [c1, c2, show n ≤ nth 0 (nth [] next q) a by omega]
theorem oVC_L0_spec (F : Nat) (ins outs delay : Int) (next put : List (List Int)) (lets : List (List Bool)) (hi : 0 ≤ ins ∧ ins ≤ 4) (ho : 0 ≤ outs ∧ outs ≤ 4) (hp : put.length = next.length) (hl : lets.length = next.length) (hnq : next.length ≤ 1000) (hF : 16 < F) : ∀ (k f q : Nat), q + k = next.length → k < f →
    oVC_L0 F f next.length next.length q ins outs delay next put lets = ⟨true, .int .i64 (bif rowsOk (2 ^ ins.toNat) next.length outs next put lets k q then 0 else 51), []⟩
  | k, 0, q, _, h => by omega
  | 0, f + 1, q, hq, _ => by
    rw [oVC_L0_succ]
    simp [show ¬ ((q : Int) < next.length) by omega, rowsOk]
  | k + 1, f + 1, q, hq, hf => by
    have ih := oVC_L0_spec F ins outs delay next put lets hi ho hp hl hnq hF k f (q + 1) (by omega) (by omega)
    have hw := pow_le16 hi
    rw [oVC_L0_succ, shl_one hi.1 (by omega), show (2 : Int) ^ ins.toNat = ((2 ^ ins.toNat : Nat) : Int) from by simp]
    generalize 2 ^ ins.toNat = w at *
    have g2 : (q : Int) < next.length := by omega
    have g3 : (q : Int) < put.length := by omega
    have g4 : (q : Int) < lets.length := by omega
    simp only [Int.toNat_natCast, g2, g3, g4, hi.1, Int.natCast_nonneg, decide_true, Bool.true_and, cond_true, rowsOk, beq_ne, Int.natCast_inj]
    by_cases c1 : (nth [] next q).length = w
    · by_cases c2 : (nth [] put q).length = w
      · by_cases c3 : (nth [] lets q).length = w
        · have := oVC_L1_spec F f next.length ins outs delay next put lets w q ho (by omega) (by omega) (by omega) hnq c1 c2 w F 0 (by omega) (by omega)
          rw [show ((0 : Nat) : Int) = 0 from rfl] at this
          rw [this, ih]
          simp only [c1, c2, c3, decide_true, Bool.not_true, cond_false, and_self, Bool.true_and]
          cases wordsOk next.length outs (nth [] next q) (nth [] put q) w 0 <;> simp
        · simp [c1, c2, c3]
      · simp [c1, c2]
    · simp [c1]
theorem oVC_ret (ins outs delay : Int) (next put : List (List Int)) (lets : List (List Bool)) : Ret oVC_re oVC_R (runF (cxOVC 100) Try.f6 [.agg [.int .i64 ins, .int .i64 outs, .int .i64 delay, .ro (.slice 3 (.int .i64)) next, .ro (.slice 3 (.int .i64)) put, .ro (.slice 4 .bool) lets]] []) (validM (ins, outs, delay, next, put, lets)) := by
  have e : runF (cxOVC 100) Try.f6 [.agg [.int .i64 ins, .int .i64 outs, .int .i64 delay, .ro (.slice 3 (.int .i64)) next, .ro (.slice 3 (.int .i64)) put, .ro (.slice 4 .bool) lets]] [] = ⟨true, .int .i64 (bif contractOk ins outs delay next put lets then 0 else 51), []⟩ := by
    rw [oVC_eq]
    by_cases hc : 0 ≤ ins ∧ ins ≤ 4 ∧ 0 ≤ outs ∧ outs ≤ 4 ∧ 1 ≤ delay ∧ delay ≤ 64 ∧ 1 ≤ next.length ∧ next.length ≤ 32 ∧ put.length = next.length ∧ lets.length = next.length
    · obtain ⟨c1, c2, c3, c4, c5, c6, c7, c8, c9, c10⟩ := hc
      have hw := pow_le16 ⟨c1, c2⟩
      have := oVC_L0_spec 100 ins outs delay next put lets ⟨c1, c2⟩ ⟨c3, c4⟩ c9 c10 (by omega) (by omega) next.length 100 0 (by omega) (by omega)
      rw [show ((0 : Nat) : Int) = 0 from rfl] at this
      rw [this]
      simp [contractOk, c1, c2, c3, c4, c5, c6, c7, c8, c9, c10, beq_ne, show ¬ ins < 0 by omega, show ¬ ins > 4 by omega, show ¬ outs < 0 by omega, show ¬ outs > 4 by omega, show ¬ delay < 1 by omega, show ¬ delay > 64 by omega, show ¬ (next.length : Int) < 1 by omega, show ¬ (next.length : Int) > 32 by omega]
    · simp only [contractOk, hc, decide_false, Bool.false_and, cond_false]
      simp only [Bool.cond_decide, beq_ne, Bool.cond_not]
      repeat' split
      all_goals first | rfl | (exfalso; apply hc; omega)
  rw [e]
  exact Ret.int _ _

/-! ### small ones -/
abbrev OTy := Int × Int × Int × List Int × List (Int × Int × Int × Bool)
theorem Ret.int2 (k l : IntKind) (a b : Int) : Ret [none, none] (.pair (.int k) (.int l)) ⟨true, .tup [.int k a, .int l b], []⟩ (a, b) :=
  ⟨rfl, rfl, rfl, rfl, by simp [roVs, valsOf, view, view1, flatA, cellsA, decOk, nth, isInt, dropL, width], rfl, fun ws h => by cases h; simp⟩
theorem Ret.ibb (k : IntKind) (a : Int) (b c : Bool) : Ret [none, none, none] (.pair (.int k) (.pair .bool .bool)) ⟨true, .tup [.int k a, .bool b, .bool c], []⟩ (a, b, c) :=
  ⟨rfl, rfl, rfl, rfl, by simp [roVs, valsOf, view, view1, flatA, cellsA, decOk, nth, isInt, isB, dropL, width], rfl, fun ws h => by cases h; simp⟩
def withinOk : Int × Int × Int × List Int × List (Int × Int × Int × Bool) × Int × Int → Bool := fun _ => true
def withinM : Int × Int × Int × List Int × List (Int × Int × Int × Bool) × Int × Int → Bool := fun (_, w, h, _, _, x, y) => decide (0 ≤ x ∧ x < w ∧ 0 ≤ y ∧ y < h)
theorem oWithin_ret (F : Nat) (kind w h : Int) (cells : List Int) (mouths : List (Int × Int × Int × Bool)) (x y : Int) :
    Ret oWithin_re oWithin_R (runF (cxP F) Try.f9 [.agg [.int .i64 kind, .int .i64 w, .int .i64 h, .ro (.int .i64) cells, .ro (.pair (.int .i64) (.pair (.int .i64) (.pair (.int .i64) .bool))) mouths], .int .i64 x, .int .i64 y] []) (withinM (kind, w, h, cells, mouths, x, y)) := by
  have e := oWithin_eq F kind w h cells mouths x y
  have e2 : runF (cxP F) Try.f9 [.agg [.int .i64 kind, .int .i64 w, .int .i64 h, .ro (.int .i64) cells, .ro (.pair (.int .i64) (.pair (.int .i64) (.pair (.int .i64) .bool))) mouths], .int .i64 x, .int .i64 y] [] = ⟨true, .bool (withinM (kind, w, h, cells, mouths, x, y)), []⟩ := by
    rw [e]
    simp only [withinM]
    by_cases c1 : 0 ≤ x <;> by_cases c2 : x < w <;> by_cases c3 : 0 ≤ y <;> simp [c1, c2, c3]
  rw [e2]
  exact Ret.bool _
theorem rWithin_ret (F : Nat) (kind w h : Int) (cells : List Int) (mouths : List (Int × Int × Int × Bool)) (x y : Int) :
    Ret rWithin_re rWithin_R (runF (cxP F) Try.f18 [.agg [.int .i64 kind, .int .i64 w, .int .i64 h, .ro (.int .i64) cells, .ro (.pair (.int .i64) (.pair (.int .i64) (.pair (.int .i64) .bool))) mouths], .int .i64 x, .int .i64 y] []) (withinM (kind, w, h, cells, mouths, x, y)) := by
  have e := rWithin_eq F kind w h cells mouths x y
  have e2 : runF (cxP F) Try.f18 [.agg [.int .i64 kind, .int .i64 w, .int .i64 h, .ro (.int .i64) cells, .ro (.pair (.int .i64) (.pair (.int .i64) (.pair (.int .i64) .bool))) mouths], .int .i64 x, .int .i64 y] [] = ⟨true, .bool (withinM (kind, w, h, cells, mouths, x, y)), []⟩ := by
    rw [e]
    simp only [withinM]
    by_cases c1 : 0 ≤ x <;> by_cases c2 : x < w <;> by_cases c3 : 0 ≤ y <;> simp [c1, c2, c3]
  rw [e2]
  exact Ret.bool _
def besideOk : Int × Int × Int → Bool := fun (_, _, d) => decide (0 ≤ d ∧ d < 4)
def besideM : Int × Int × Int → Int × Int := fun (x, y, d) => (IntKind.wrap .i64 (x + nth 0 [1, 0, -1, 0] d.toNat), IntKind.wrap .i64 (y + nth 0 [0, -1, 0, 1] d.toNat))
theorem beside_ret (F : Nat) (x y d : Int) (h : besideOk (x, y, d) = true) : Ret beside_re beside_R (runF (cxP F) Try.f10 [.int .i64 x, .int .i64 y, .int .i64 d] []) (besideM (x, y, d)) := by
  simp only [besideOk, decide_eq_true_eq] at h
  rw [beside_eq]
  simp only [h.1, h.2, decide_true, Bool.and_self, cond_true]
  exact Ret.int2 _ _ _ _
def outerOk : Int × Int × Int × Bool → Bool := fun (_, _, d, _) => decide (0 ≤ d ∧ d < 4)
def outerM : Int × Int × Int × Bool → Int × Int := fun (x, y, d, _) => besideM (x, y, d)
theorem outer_ret (F : Nat) (x y d : Int) (o : Bool) (h : outerOk (x, y, d, o) = true) : Ret outer_re outer_R (runF (cxP F) Try.f19 [.agg [.int .i64 x, .int .i64 y, .int .i64 d, .bool o]] []) (outerM (x, y, d, o)) := by
  simp only [outerOk, decide_eq_true_eq] at h
  rw [outer_eq]
  obtain rfl | rfl | rfl | rfl : d = 0 ∨ d = 1 ∨ d = 2 ∨ d = 3 := by omega
  all_goals exact Ret.int2 _ _ _ _
def isOrdOk : Int → Bool := fun s => decide (-9223372036854775000 ≤ s)
def isOrdM : Int → Int × Bool × Bool := fun s => bif decide (9 ≤ s ∧ s < 17) then (Int.tmod (s - 9) 4, decide (s ≥ 13), true) else (0, false, false)
theorem isOrd_ret (F : Nat) (s : Int) : Ret isOrd_re isOrd_R (runF (cxP F) Try.f11 [.int .i64 s] []) (isOrdM s) := by
  have e2 : runF (cxP F) Try.f11 [.int .i64 s] [] = ⟨true, .tup [.int .i64 (isOrdM s).1, .bool (isOrdM s).2.1, .bool (isOrdM s).2.2], []⟩ := by
    rw [isOrd_eq]
    simp only [isOrdM, Bool.cond_decide]
    by_cases c : 9 ≤ s ∧ s < 17
    · have c1 : s ≥ 1 := by omega
      have c2 : ¬ s < 9 := by omega
      have c3 : s ≥ 9 := by omega
      simp only [c1, c2, c3, c.2, if_true, if_false, decide_true, decide_false, and_self, wrap_id (n := s - 9) (by omega) (by omega)]
    · rw [if_neg c]
      by_cases h9 : s ≥ 9
      · simp [h9, show ¬ s < 17 by omega]
      · simp [h9]
  rw [e2]
  exact Ret.ibb _ _ _ _
def rStatesM : Int → Int := fun k => bif decide (k = 0) then 29 else bif decide (k = 1) then 32 else 0
theorem rStates_ret (F : Nat) (k : Int) : Ret rStates_re rStates_R (runF (cxP F) Try.f12 [.int .i64 k] []) (rStatesM k) := by
  have e2 : runF (cxP F) Try.f12 [.int .i64 k] [] = ⟨true, .int .i64 (rStatesM k), []⟩ := by
    rw [rStates_eq]
    simp only [rStatesM, Bool.cond_decide]
    repeat' split
    all_goals rfl
  rw [e2]
  exact Ret.int _ _
def leadsM : Int × Int → Bool := fun (s, d) => decide (9 ≤ s ∧ s < 17 ∧ Int.tmod (s - 9) 4 = d)
theorem leads_ret (F : Nat) (s d : Int) : Ret leads_re leads_R (runF (cxP2 F) Try.f20 [.int .i64 s, .int .i64 d] []) (leadsM (s, d)) := by
  have e2 : runF (cxP2 F) Try.f20 [.int .i64 s, .int .i64 d] [] = ⟨true, .bool (leadsM (s, d)), []⟩ := by
    rw [leads_eq]
    simp only [leadsM]
    by_cases c : 9 ≤ s
    · by_cases c2 : s < 17
      · have c3 : s ≥ 9 := c
        have c4 : ¬ s ≥ 17 := by omega
        simp only [c, c2, c3, c4, decide_true, decide_false, Bool.not_true, cond_true, cond_false, true_and, wrap_id (n := s - 9) (by omega) (by omega)]
        simp only [Bool.cond_decide]
        repeat' split
        all_goals rfl
      · simp [c, c2]
    · simp [c]
  rw [e2]
  exact Ret.bool _
def checkOk : Int × List (Int × Int × Int × Int × Int × Int) → Bool := fun (k, _) => decide (k = 0 ∨ k = 1)
def checkM : Int × List (Int × Int × Int × Int × Int × Int) → Int := fun _ => 0
theorem check_ret (k : Int) (l : List (Int × Int × Int × Int × Int × Int)) (h : checkOk (k, l) = true) : Ret check_re check_R (runF (cxCheck 1) Try.f16 [.agg [.int .i64 k, .ro (.pair (.int .i64) (.pair (.int .i64) (.pair (.int .i64) (.pair (.int .i64) (.pair (.int .i64) (.int .i64)))))) l]] []) (checkM (k, l)) := by
  simp only [checkOk, decide_eq_true_eq] at h
  have e2 : runF (cxCheck 1) Try.f16 [.agg [.int .i64 k, .ro (.pair (.int .i64) (.pair (.int .i64) (.pair (.int .i64) (.pair (.int .i64) (.pair (.int .i64) (.int .i64)))))) l]] [] = ⟨true, .int .i64 (checkM (k, l)), []⟩ := by
    rw [check_eq]
    rcases h with rfl | rfl <;> simp [checkM]
  rw [e2]
  exact Ret.int _ _
/-! ### Mouths -/
def cntO : List (Int × Int × Int × Bool) → Nat
  | [] => 0
  | m :: l => (bif m.2.2.2 then 1 else 0) + cntO l
def cntI : List (Int × Int × Int × Bool) → Nat
  | [] => 0
  | m :: l => (bif m.2.2.2 then 0 else 1) + cntI l
theorem cnt_le : ∀ (l : List (Int × Int × Int × Bool)), cntO l + cntI l = l.length
  | [] => rfl
  | m :: l => by
    have := cnt_le l
    simp only [cntO, cntI, List.length_cons]
    cases m.2.2.2 <;> simp <;> omega
theorem mouths_L0_spec (F : Nat) (kind w h : Int) (cells : List Int) (ms : List (Int × Int × Int × Bool)) (hx : ms.length < 9223372036854775807) : ∀ (k n i a b : Nat), i + k = ms.length → k < n → a + b = i →
    mouths_L0 F n a b i kind w h cells ms = ⟨true, .tup [.int .i64 ((a + cntI (ms.drop i) : Nat) : Int), .int .i64 ((b + cntO (ms.drop i) : Nat) : Int)], []⟩
  | k, 0, i, a, b, _, h, _ => by omega
  | 0, n + 1, i, a, b, hi, _, _ => by
    rw [mouths_L0_succ, drop_len ms (by omega)]
    simp [show ¬ ((i : Int) < ms.length) by omega, cntI, cntO]
  | k + 1, n + 1, i, a, b, hi, hn, hab => by
    have ih1 := mouths_L0_spec F kind w h cells ms hx k n (i + 1) (a + 1) b (by omega) (by omega) (by omega)
    have ih2 := mouths_L0_spec F kind w h cells ms hx k n (i + 1) a (b + 1) (by omega) (by omega) (by omega)
    rw [mouths_L0_succ, wrap_succ (by omega), wrap_succ (by omega), wrap_succ (by omega), ih1, ih2, drop_nth (0, 0, 0, false) ms (show i < ms.length by omega)]
    have h1 : (i : Int) < ms.length := by omega
    have h0 : (0 : Int) ≤ i := by omega
    simp only [h1, h0, decide_true, Bool.true_and, cond_true, Int.toNat_natCast, cntI, cntO]
    cases (nth (0, 0, 0, false) ms i).2.2.2
    · simp only [cond_false, Res.mk.injEq, AV.tup.injEq, List.cons.injEq, AV.int.injEq, true_and, and_true]; omega
    · simp only [cond_true, Res.mk.injEq, AV.tup.injEq, List.cons.injEq, AV.int.injEq, true_and, and_true]; omega
def mouthsOk : OTy → Bool := fun (_, _, _, _, ms) => decide (ms.length < 9223372036854775807)
def mouthsM : OTy → Int × Int := fun (_, _, _, _, ms) => ((cntI ms : Int), (cntO ms : Int))
theorem mouths_ret (kind w h : Int) (cells : List Int) (ms : List (Int × Int × Int × Bool)) (hk : mouthsOk (kind, w, h, cells, ms) = true) : Ret mouths_re mouths_R (runF (cxMouths (ms.length + 1)) Try.f13 [.agg [.int .i64 kind, .int .i64 w, .int .i64 h, .ro (.int .i64) cells, .ro (.pair (.int .i64) (.pair (.int .i64) (.pair (.int .i64) .bool))) ms]] []) (mouthsM (kind, w, h, cells, ms)) := by
  simp only [mouthsOk, decide_eq_true_eq] at hk
  have := mouths_L0_spec (ms.length + 1) kind w h cells ms hk ms.length (ms.length + 1) 0 0 0 (by omega) (by omega) (by omega)
  rw [mouths_eq, show (0 : Int) = ((0 : Nat) : Int) from rfl, this]
  simp only [Nat.zero_add, List.drop_zero, mouthsM]
  exact Ret.int2 _ _ _ _
end Go.Proofs.Ytdncbcdnpmjpmaa
