/- Part of the proof, by an evaluator over plain values: L1. -/
import Derived.Test.YtjmgcpohgpjpiaaO1
import Derived.Test.YtjmgcpohgpjpiaaA19
set_option linter.all false
set_option linter.unusedVariables false
set_option linter.unusedSimpArgs false
open Go Go.Abs Go.Proofs
namespace Go.Proofs.Ytjmgcpohgpjpiaa
/-! ### inRange -/
def okWord (bits a : Int) : Bool := decide (0 ≤ a) && decide (a < 2 ^ bits.toNat)
def streamOk (xs : List Int) (bits : Int) : Bool := xs.all (okWord bits) && decide (xs.length ≤ 4096)
theorem inRange_L0_spec (F : Nat) (xs : List Int) (bits : Int) (hb : 0 ≤ bits ∧ bits ≤ 62) (hx : xs.length < 9223372036854775807) : ∀ (k n i : Nat), i + k = xs.length → k < n →
    inRange_L0 F n xs bits xs xs.length i = ⟨true, .bool ((xs.drop i).all (okWord bits) && decide (xs.length ≤ 4096)), []⟩
  | k, 0, i, _, h => by omega
  | 0, n + 1, i, hi, _ => by
    rw [inRange_L0_succ, drop_len xs (by omega)]
    simp [show ¬ ((i : Int) < xs.length) by omega]
    omega
  | k + 1, n + 1, i, hi, hn => by
    have ih := inRange_L0_spec F xs bits hb hx k n (i + 1) (by omega) (by omega)
    rw [inRange_L0_succ, wrap_succ (by omega), ih, drop_nth 0 xs (show i < xs.length by omega), shl_one hb.1 hb.2]
    have h1 : (i : Int) < xs.length := by omega
    have h0 : (0 : Int) ≤ i := by omega
    simp only [h1, h0, hb.1, decide_true, Bool.true_and, cond_true, Int.toNat_natCast, List.all_cons, okWord]
    by_cases c1 : nth 0 xs i < 0
    · simp [c1, show ¬ 0 ≤ nth 0 xs i by omega]
    · by_cases c2 : nth 0 xs i ≥ 2 ^ bits.toNat
      · simp [c1, c2, show ¬ nth 0 xs i < 2 ^ bits.toNat by omega]
      · simp [c1, c2, show 0 ≤ nth 0 xs i by omega, show nth 0 xs i < 2 ^ bits.toNat by omega]
def inRangeOk : List Int × Int → Bool := fun (xs, bits) => decide (0 ≤ bits ∧ bits ≤ 62 ∧ xs.length < 9223372036854775807)
def inRangeM : List Int × Int → Bool := fun (xs, bits) => streamOk xs bits
theorem inRange_ret (xs : List Int) (bits : Int) (h : inRangeOk (xs, bits) = true) : Ret inRange_re inRange_R (runF (cxInRange (xs.length + 1)) Try.f10 [.ro (.int .i64) xs, .int .i64 bits] []) (inRangeM (xs, bits)) := by
  simp only [inRangeOk, decide_eq_true_eq] at h
  have := inRange_L0_spec (xs.length + 1) xs bits ⟨h.1, h.2.1⟩ h.2.2 xs.length (xs.length + 1) 0 (by omega) (by omega)
  rw [inRange_eq, show (0 : Int) = ((0 : Nat) : Int) from rfl, this]
  exact Ret.bool _
/-! ### sameInts -/
theorem sameInts_L0_spec (F : Nat) (xs ys : List Int) (hx : xs.length < 9223372036854775807) (hl : xs.length = ys.length) : ∀ (k n i : Nat), i + k = xs.length → k < n →
    sameInts_L0 F n xs ys i = ⟨true, .bool (decide (xs.drop i = ys.drop i)), []⟩
  | k, 0, i, _, h => by omega
  | 0, n + 1, i, hi, _ => by
    rw [sameInts_L0_succ, drop_len xs (by omega), drop_len ys (by omega)]
    simp [show ¬ ((i : Int) < xs.length) by omega]
  | k + 1, n + 1, i, hi, hn => by
    have ih := sameInts_L0_spec F xs ys hx hl k n (i + 1) (by omega) (by omega)
    rw [sameInts_L0_succ, wrap_succ (by omega), ih, drop_nth 0 xs (show i < xs.length by omega), drop_nth 0 ys (show i < ys.length by omega)]
    have h1 : (i : Int) < xs.length := by omega
    have h2 : (i : Int) < ys.length := by omega
    have h0 : (0 : Int) ≤ i := by omega
    simp only [h1, h0, h2, decide_true, Bool.true_and, cond_true, Int.toNat_natCast, beq_ne]
    by_cases c1 : nth 0 xs i = nth 0 ys i <;> simp [c1]
def sameIntsOk : List Int × List Int → Bool := fun (xs, _) => decide (xs.length < 9223372036854775807)
def sameIntsM : List Int × List Int → Bool := fun (xs, ys) => decide (xs = ys)
theorem sameInts_ret (xs ys : List Int) (h : sameIntsOk (xs, ys) = true) : Ret sameInts_re sameInts_R (runF (cxSameInts (xs.length + 1)) Try.f6 [.ro (.int .i64) xs, .ro (.int .i64) ys] []) (sameIntsM (xs, ys)) := by
  simp only [sameIntsOk, decide_eq_true_eq] at h
  have e : runF (cxSameInts (xs.length + 1)) Try.f6 [.ro (.int .i64) xs, .ro (.int .i64) ys] [] = ⟨true, .bool (decide (xs = ys)), []⟩ := by
    rw [sameInts_eq]
    by_cases hl : xs.length = ys.length
    · have := sameInts_L0_spec (xs.length + 1) xs ys h hl xs.length (xs.length + 1) 0 (by omega) (by omega)
      rw [show (0 : Int) = ((0 : Nat) : Int) from rfl, this]
      simp [hl, beq_ne]
    · have : ¬ xs = ys := fun h => hl (by rw [h])
      simp [beq_ne, this, show ¬ ((xs.length : Int) = ys.length) by omega]
  rw [e]
  exact Ret.bool _
/-! ### stream -/
theorem rStream_L0_spec (F : Nat) (xs : List Int) (bits : Int) (hb : 0 ≤ bits ∧ bits ≤ 62) (hx : xs.length < 9223372036854775807) : ∀ (k n i : Nat), i + k = xs.length → k < n →
    rStream_L0 F n xs bits i = ⟨true, .int .i64 (bif (xs.drop i).all (okWord bits) then 0 else 52), []⟩
  | k, 0, i, _, h => by omega
  | 0, n + 1, i, hi, _ => by
    rw [rStream_L0_succ, drop_len xs (by omega)]
    simp [show ¬ ((i : Int) < xs.length) by omega]
  | k + 1, n + 1, i, hi, hn => by
    have ih := rStream_L0_spec F xs bits hb hx k n (i + 1) (by omega) (by omega)
    rw [rStream_L0_succ, wrap_succ (by omega), wrapu_id hb.1 (by omega), ih, drop_nth 0 xs (show i < xs.length by omega), shl_one hb.1 hb.2]
    have h1 : (i : Int) < xs.length := by omega
    have h0 : (0 : Int) ≤ i := by omega
    simp only [h1, h0, hb.1, decide_true, Bool.true_and, cond_true, Int.toNat_natCast, List.all_cons, okWord]
    by_cases c1 : nth 0 xs i ≥ 0
    · by_cases c2 : nth 0 xs i < 2 ^ bits.toNat
      · simp [c1, c2, show 0 ≤ nth 0 xs i by omega]
      · simp [c1, c2, show 0 ≤ nth 0 xs i by omega]
    · simp [c1, show ¬ 0 ≤ nth 0 xs i by omega]
def rStreamOk : List Int × Int → Bool := fun (xs, bits) => decide (0 ≤ bits ∧ bits ≤ 62 ∧ xs.length < 9223372036854775807)
def rStreamM : List Int × Int → Int := fun (xs, bits) => bif streamOk xs bits then 0 else 52
theorem rStream_ret (xs : List Int) (bits : Int) (h : rStreamOk (xs, bits) = true) : Ret rStream_re rStream_R (runF (cxRStream (xs.length + 1)) Try.f8 [.ro (.int .i64) xs, .int .i64 bits] []) (rStreamM (xs, bits)) := by
  simp only [rStreamOk, decide_eq_true_eq] at h
  have := rStream_L0_spec (xs.length + 1) xs bits ⟨h.1, h.2.1⟩ h.2.2 xs.length (xs.length + 1) 0 (by omega) (by omega)
  have e : runF (cxRStream (xs.length + 1)) Try.f8 [.ro (.int .i64) xs, .int .i64 bits] [] = ⟨true, .int .i64 (bif streamOk xs bits then 0 else 52), []⟩ := by
    rw [rStream_eq]
    rw [show ((0 : Nat) : Int) = 0 from rfl] at this
    rw [this]
    by_cases hl : (xs.length : Int) > 4096
    · simp [hl, streamOk, show ¬ xs.length ≤ 4096 by omega]
    · simp [hl, streamOk, show xs.length ≤ 4096 by omega]
  rw [e]
  exact Ret.int _ _
/-! ### ValidContract -/
def wordsOk (n outs : Int) (nx pt : List Int) : Nat → Nat → Bool
  | 0, _ => true
  | k + 1, a => decide (0 ≤ nth 0 nx a) && (decide (nth 0 nx a < n) && (okWord outs (nth 0 pt a) && wordsOk n outs nx pt k (a + 1)))
def rowsOk (w : Nat) (n outs : Int) (next put : List (List Int)) (lets : List (List Bool)) : Nat → Nat → Bool
  | 0, _ => true
  | k + 1, q => decide ((nth [] next q).length = w ∧ (nth [] put q).length = w ∧ (nth [] lets q).length = w) && (wordsOk n outs (nth [] next q) (nth [] put q) w 0 && rowsOk w n outs next put lets k (q + 1))
def contractOk (ins outs delay : Int) (next put : List (List Int)) (lets : List (List Bool)) : Bool :=
  decide (0 ≤ ins ∧ ins ≤ 4 ∧ 0 ≤ outs ∧ outs ≤ 4 ∧ 1 ≤ delay ∧ delay ≤ 64 ∧ 1 ≤ next.length ∧ next.length ≤ 32 ∧ put.length = next.length ∧ lets.length = next.length) &&
    rowsOk (2 ^ ins.toNat) next.length outs next put lets next.length 0
set_option linter.unusedSimpArgs false
theorem rValid_L1_spec (F m : Nat) (n ins outs delay : Int) (next put : List (List Int)) (lets : List (List Bool)) (w q : Nat) (ho : 0 ≤ outs ∧ outs ≤ 4) (hq : q < next.length) (hp : q < put.length) (hw : w ≤ 1000) (hnq : next.length ≤ 1000)
    (h1 : (nth [] next q).length = w) (h2 : (nth [] put q).length = w) : ∀ (k f a : Nat), a + k = w → k < f →
    rValid_L1 F m f n w q a ins outs delay next put lets = bif wordsOk n outs (nth [] next q) (nth [] put q) k a then rValid_L0 F m n w ((q + 1 : Nat) : Int) ins outs delay next put lets else ⟨true, .int .i64 51, []⟩
  | k, 0, a, _, h => by omega
  | 0, f + 1, a, ha, _ => by
    rw [rValid_L1_succ, wrap_succ (i := q) (by omega)]
    simp [show ¬ ((a : Int) < w) by omega, wordsOk]
  | k + 1, f + 1, a, ha, hf => by
    have ih := rValid_L1_spec F m n ins outs delay next put lets w q ho hq hp hw hnq h1 h2 k f (a + 1) (by omega) (by omega)
    rw [rValid_L1_succ, wrap_succ (by omega), wrapu_id ho.1 (by omega), ih, shl_one ho.1 (by omega)]
    have g1 : (a : Int) < w := by omega
    have g2 : (q : Int) < next.length := by omega
    have g3 : (q : Int) < put.length := by omega
    have g4 : (a : Int) < (nth [] next q).length := by omega
    have g5 : (a : Int) < (nth [] put q).length := by omega
    simp only [Int.toNat_natCast, g1, g2, g3, g4, g5, Int.natCast_nonneg, ho.1, decide_true, Bool.true_and, cond_true, wordsOk, okWord]
    by_cases c1 : nth 0 (nth [] next q) a < 0
    · simp [c1, show ¬ 0 ≤ nth 0 (nth [] next q) a by omega]
    · by_cases c2 : nth 0 (nth [] next q) a < n
      · by_cases c3 : nth 0 (nth [] put q) a ≥ 0
        · by_cases c4 : nth 0 (nth [] put q) a < 2 ^ outs.toNat
          · simp [c1, c2, c3, c4, show 0 ≤ nth 0 (nth [] next q) a by omega, show ¬ n ≤ nth 0 (nth [] next q) a by omega]
          · simp [c1, c2, c3, c4, show 0 ≤ nth 0 (nth [] next q) a by omega, show ¬ n ≤ nth 0 (nth [] next q) a by omega]
        · simp [c1, c2, c3, show 0 ≤ nth 0 (nth [] next q) a by omega, show ¬ n ≤ nth 0 (nth [] next q) a by omega, show ¬ 0 ≤ nth 0 (nth [] put q) a by omega]
      · simp [c1, c2, show n ≤ nth 0 (nth [] next q) a by omega]
theorem rValid_L0_spec (F : Nat) (ins outs delay : Int) (next put : List (List Int)) (lets : List (List Bool)) (w : Nat) (ho : 0 ≤ outs ∧ outs ≤ 4) (hp : put.length = next.length) (hl : lets.length = next.length) (hw : w ≤ 1000) (hnq : next.length ≤ 1000) (hF : w < F) : ∀ (k f q : Nat), q + k = next.length → k < f →
    rValid_L0 F f next.length w q ins outs delay next put lets = ⟨true, .int .i64 (bif rowsOk w next.length outs next put lets k q then 0 else 51), []⟩
  | k, 0, q, _, h => by omega
  | 0, f + 1, q, hq, _ => by
    rw [rValid_L0_succ]
    simp [show ¬ ((q : Int) < next.length) by omega, rowsOk]
  | k + 1, f + 1, q, hq, hf => by
    have ih := rValid_L0_spec F ins outs delay next put lets w ho hp hl hw hnq hF k f (q + 1) (by omega) (by omega)
    rw [rValid_L0_succ]
    have g2 : (q : Int) < next.length := by omega
    have g3 : (q : Int) < put.length := by omega
    have g4 : (q : Int) < lets.length := by omega
    simp only [Int.toNat_natCast, g2, g3, g4, Int.natCast_nonneg, decide_true, Bool.true_and, cond_true, rowsOk, beq_ne, Int.natCast_inj]
    by_cases c1 : (nth [] next q).length = w
    · by_cases c2 : (nth [] put q).length = w
      · by_cases c3 : (nth [] lets q).length = w
        · have := rValid_L1_spec F f next.length ins outs delay next put lets w q ho (by omega) (by omega) hw hnq c1 c2 w F 0 (by omega) hF
          rw [show ((0 : Nat) : Int) = 0 from rfl] at this
          rw [this, ih]
          simp only [c1, c2, c3, decide_true, Bool.not_true, cond_false, and_self, Bool.true_and]
          cases wordsOk next.length outs (nth [] next q) (nth [] put q) w 0 <;> simp
        · simp [c1, c2, c3]
      · simp [c1, c2]
    · simp [c1]
def validOk : Int × Int × Int × List (List Int) × List (List Int) × List (List Bool) → Bool := fun (_, _, _, next, put, lets) => decide (next.length < 9223372036854775807 ∧ put.length < 9223372036854775807 ∧ lets.length < 9223372036854775807)
def validM : Int × Int × Int × List (List Int) × List (List Int) × List (List Bool) → Int := fun (ins, outs, delay, next, put, lets) => bif contractOk ins outs delay next put lets then 0 else 51
theorem pow_le16 {b : Int} (h : 0 ≤ b ∧ b ≤ 4) : (2 ^ b.toNat : Nat) ≤ 16 := by
  have := Nat.pow_le_pow_right (n := 2) (by omega) (show b.toNat ≤ 4 by omega)
  omega
theorem rValid_ret (ins outs delay : Int) (next put : List (List Int)) (lets : List (List Bool)) : Ret rValid_re rValid_R (runF (cxRValid 100) Try.f7 [.agg [.int .i64 ins, .int .i64 outs, .int .i64 delay, .ro (.slice 3 (.int .i64)) next, .ro (.slice 3 (.int .i64)) put, .ro (.slice 4 .bool) lets]] []) (validM (ins, outs, delay, next, put, lets)) := by
  have e : runF (cxRValid 100) Try.f7 [.agg [.int .i64 ins, .int .i64 outs, .int .i64 delay, .ro (.slice 3 (.int .i64)) next, .ro (.slice 3 (.int .i64)) put, .ro (.slice 4 .bool) lets]] [] = ⟨true, .int .i64 (bif contractOk ins outs delay next put lets then 0 else 51), []⟩ := by
    rw [rValid_eq]
    by_cases hc : 0 ≤ ins ∧ ins ≤ 4 ∧ 0 ≤ outs ∧ outs ≤ 4 ∧ 1 ≤ delay ∧ delay ≤ 64 ∧ 1 ≤ next.length ∧ next.length ≤ 32 ∧ put.length = next.length ∧ lets.length = next.length
    · obtain ⟨c1, c2, c3, c4, c5, c6, c7, c8, c9, c10⟩ := hc
      have hw := pow_le16 ⟨c1, c2⟩
      have := rValid_L0_spec 100 ins outs delay next put lets (2 ^ ins.toNat) ⟨c3, c4⟩ c9 c10 (by omega) (by omega) (by omega) next.length 100 0 (by omega) (by omega)
      rw [wrapu_id c1 (by omega), shl_one c1 (by omega)]
      rw [show ((0 : Nat) : Int) = 0 from rfl, show ((2 ^ ins.toNat : Nat) : Int) = 2 ^ ins.toNat from by simp] at this
      rw [this]
      simp [contractOk, c1, c2, c3, c4, c5, c6, c7, c8, c9, c10, beq_ne, show ¬ ins < 0 by omega, show ¬ ins > 4 by omega, show ¬ outs < 0 by omega, show ¬ outs > 4 by omega, show ¬ delay < 1 by omega, show ¬ delay > 64 by omega, show ¬ (next.length : Int) < 1 by omega, show ¬ (next.length : Int) > 32 by omega]
    · simp only [contractOk, hc, decide_false, Bool.false_and, cond_false]
      simp only [Bool.cond_decide, beq_ne, Bool.cond_not]
      repeat' split
      all_goals first | rfl | (exfalso; apply hc; omega)
  rw [e]
  exact Ret.int _ _
theorem oValid_L1_spec (F m : Nat) (n ins outs delay : Int) (next put : List (List Int)) (lets : List (List Bool)) (w q : Nat) (ho : 0 ≤ outs ∧ outs ≤ 4) (hq : q < next.length) (hp : q < put.length) (hw : w ≤ 1000) (hnq : next.length ≤ 1000)
    (h1 : (nth [] next q).length = w) (h2 : (nth [] put q).length = w) : ∀ (k f a : Nat), a + k = w → k < f →
    oValid_L1 F m f n q n q w a ins outs delay next put lets = bif wordsOk n outs (nth [] next q) (nth [] put q) k a then oValid_L0 F m n n ((q + 1 : Nat) : Int) ins outs delay next put lets else ⟨true, .int .i64 51, []⟩
  | k, 0, a, _, h => by omega
  | 0, f + 1, a, ha, _ => by
    rw [oValid_L1_succ, wrap_succ (i := q) (by omega)]
    simp [show ¬ ((a : Int) < w) by omega, wordsOk]
  | k + 1, f + 1, a, ha, hf => by
    have ih := oValid_L1_spec F m n ins outs delay next put lets w q ho hq hp hw hnq h1 h2 k f (a + 1) (by omega) (by omega)
    rw [oValid_L1_succ, wrap_succ (by omega), ih, shl_one ho.1 (by omega)]
    have g1 : (a : Int) < w := by omega
    have g2 : (q : Int) < next.length := by omega
    have g3 : (q : Int) < put.length := by omega
    have g4 : (a : Int) < (nth [] next q).length := by omega
    have g5 : (a : Int) < (nth [] put q).length := by omega
    simp only [Int.toNat_natCast, g1, g2, g3, g4, g5, Int.natCast_nonneg, ho.1, decide_true, Bool.true_and, cond_true, wordsOk, okWord]
    by_cases c1 : nth 0 (nth [] next q) a < 0
    · simp [c1, show ¬ 0 ≤ nth 0 (nth [] next q) a by omega]
    · by_cases c2 : nth 0 (nth [] next q) a < n
      · by_cases c3 : nth 0 (nth [] put q) a < 0
        · simp [c1, c2, c3, show 0 ≤ nth 0 (nth [] next q) a by omega, show ¬ n ≤ nth 0 (nth [] next q) a by omega, show ¬ 0 ≤ nth 0 (nth [] put q) a by omega]
        · by_cases c4 : nth 0 (nth [] put q) a < 2 ^ outs.toNat
          · simp [c1, c2, c3, c4, show 0 ≤ nth 0 (nth [] put q) a by omega, show ¬ 2 ^ outs.toNat ≤ nth 0 (nth [] put q) a by omega, show 0 ≤ nth 0 (nth [] next q) a by omega, show ¬ n ≤ nth 0 (nth [] next q) a by omega]
          · simp [c1, c2, c3, c4, show 2 ^ outs.toNat ≤ nth 0 (nth [] put q) a by omega, show 0 ≤ nth 0 (nth [] next q) a by omega, show ¬ n ≤ nth 0 (nth [] next q) a by omega]
      · simp [c1, c2, show n ≤ nth 0 (nth [] next q) a by omega]
theorem oValid_L0_spec (F : Nat) (ins outs delay : Int) (next put : List (List Int)) (lets : List (List Bool)) (hi : 0 ≤ ins ∧ ins ≤ 4) (ho : 0 ≤ outs ∧ outs ≤ 4) (hp : put.length = next.length) (hl : lets.length = next.length) (hnq : next.length ≤ 1000) (hF : 16 < F) : ∀ (k f q : Nat), q + k = next.length → k < f →
    oValid_L0 F f next.length next.length q ins outs delay next put lets = ⟨true, .int .i64 (bif rowsOk (2 ^ ins.toNat) next.length outs next put lets k q then 0 else 51), []⟩
  | k, 0, q, _, h => by omega
  | 0, f + 1, q, hq, _ => by
    rw [oValid_L0_succ]
    simp [show ¬ ((q : Int) < next.length) by omega, rowsOk]
  | k + 1, f + 1, q, hq, hf => by
    have ih := oValid_L0_spec F ins outs delay next put lets hi ho hp hl hnq hF k f (q + 1) (by omega) (by omega)
    have hw := pow_le16 hi
    rw [oValid_L0_succ, shl_one hi.1 (by omega), show (2 : Int) ^ ins.toNat = ((2 ^ ins.toNat : Nat) : Int) from by simp]
    generalize 2 ^ ins.toNat = w at *
    have g2 : (q : Int) < next.length := by omega
    have g3 : (q : Int) < put.length := by omega
    have g4 : (q : Int) < lets.length := by omega
    simp only [Int.toNat_natCast, g2, g3, g4, hi.1, Int.natCast_nonneg, decide_true, Bool.true_and, cond_true, rowsOk, beq_ne, Int.natCast_inj]
    by_cases c1 : (nth [] next q).length = w
    · by_cases c2 : (nth [] put q).length = w
      · by_cases c3 : (nth [] lets q).length = w
        · have := oValid_L1_spec F f next.length ins outs delay next put lets w q ho (by omega) (by omega) (by omega) hnq c1 c2 w F 0 (by omega) (by omega)
          rw [show ((0 : Nat) : Int) = 0 from rfl] at this
          rw [this, ih]
          simp only [c1, c2, c3, decide_true, Bool.not_true, cond_false, and_self, Bool.true_and]
          cases wordsOk next.length outs (nth [] next q) (nth [] put q) w 0 <;> simp
        · simp [c1, c2, c3]
      · simp [c1, c2]
    · simp [c1]
theorem oValid_ret (ins outs delay : Int) (next put : List (List Int)) (lets : List (List Bool)) : Ret oValid_re oValid_R (runF (cxOValid 100) Try.f9 [.agg [.int .i64 ins, .int .i64 outs, .int .i64 delay, .ro (.slice 3 (.int .i64)) next, .ro (.slice 3 (.int .i64)) put, .ro (.slice 4 .bool) lets]] []) (validM (ins, outs, delay, next, put, lets)) := by
  have e : runF (cxOValid 100) Try.f9 [.agg [.int .i64 ins, .int .i64 outs, .int .i64 delay, .ro (.slice 3 (.int .i64)) next, .ro (.slice 3 (.int .i64)) put, .ro (.slice 4 .bool) lets]] [] = ⟨true, .int .i64 (bif contractOk ins outs delay next put lets then 0 else 51), []⟩ := by
    rw [oValid_eq]
    by_cases hc : 0 ≤ ins ∧ ins ≤ 4 ∧ 0 ≤ outs ∧ outs ≤ 4 ∧ 1 ≤ delay ∧ delay ≤ 64 ∧ 1 ≤ next.length ∧ next.length ≤ 32 ∧ put.length = next.length ∧ lets.length = next.length
    · obtain ⟨c1, c2, c3, c4, c5, c6, c7, c8, c9, c10⟩ := hc
      have hw := pow_le16 ⟨c1, c2⟩
      have := oValid_L0_spec 100 ins outs delay next put lets ⟨c1, c2⟩ ⟨c3, c4⟩ c9 c10 (by omega) (by omega) next.length 100 0 (by omega) (by omega)
      rw [show ((0 : Nat) : Int) = 0 from rfl] at this
      rw [this]
      simp [contractOk, c1, c2, c3, c4, c5, c6, c7, c8, c9, c10, beq_ne, show ¬ ins < 0 by omega, show ¬ ins > 4 by omega, show ¬ outs < 0 by omega, show ¬ outs > 4 by omega, show ¬ delay < 1 by omega, show ¬ delay > 64 by omega, show ¬ (next.length : Int) < 1 by omega, show ¬ (next.length : Int) > 32 by omega]
    · simp only [contractOk, hc, decide_false, Bool.false_and, cond_false]
      simp only [Bool.cond_decide, beq_ne, Bool.cond_not]
      repeat' split
      all_goals first | rfl | (exfalso; apply hc; omega)
  rw [e]
  exact Ret.int _ _
end Go.Proofs.Ytjmgcpohgpjpiaa
