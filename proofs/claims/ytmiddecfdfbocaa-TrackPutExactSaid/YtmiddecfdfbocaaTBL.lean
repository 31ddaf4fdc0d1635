/- What a state of the yard is, taken apart. -/
import Derived.Test.YtmiddecfdfbocaaTB
import Derived.Test.YtmiddecfdfbocaaA22
set_option linter.all false
set_option linter.unusedVariables false
set_option linter.unusedSimpArgs false
open Go Go.Abs Go.Proofs
set_option linter.unusedSimpArgs false
set_option linter.unusedVariables false
namespace Go.Proofs.Ytmiddecfdfbocaa
abbrev Eleven := Int × Int × Int × Int × Int × Int × Int × Int × Int × Int × Int
def dv (a b : Int) : Int := IntKind.wrap IntKind.i64 (Int.tdiv a b)
/-- the fields side sym sym2 phase ask sent root count, and what is left -/
def yf (k r : Int) : Int × Int × Int × Int × Int × Int × Int × Int × Int :=
  if k = 1 ∨ k = 2 then (0, Int.tmod r 128, 0, 0, 0, 0, 0, 0, dv r 128)
  else if k = 3 then (Int.tmod r 2, Int.tmod (dv r 2) 128, 0, 0, 0, Int.tmod (dv (dv r 2) 128) 4, 0, 0, dv (dv (dv r 2) 128) 4)
  else if k = 4 then (Int.tmod r 2, Int.tmod (dv r 2) 128, Int.tmod (dv (dv r 2) 128) 128, 0, 0, 0, 0, 0, dv (dv (dv r 2) 128) 128)
  else if k = 5 ∨ k = 6 then (Int.tmod r 2, Int.tmod (dv r 2) 3, Int.tmod (dv (dv r 2) 3) 3, 0, 0, 0, 0, 0, dv (dv (dv r 2) 3) 3)
  else if k = 7 then (Int.tmod r 2, Int.tmod (dv (dv r 2) 2) 128, 0, Int.tmod (dv r 2) 2, 0, 0, 0, 0, dv (dv (dv r 2) 2) 128)
  else if k = 8 then (Int.tmod r 2, Int.tmod (dv (dv (dv (dv r 2) 8) 4) 4) 128, 0, Int.tmod (dv r 2) 8, Int.tmod (dv (dv r 2) 8) 4, Int.tmod (dv (dv (dv r 2) 8) 4) 4, 0, 0, dv (dv (dv (dv (dv r 2) 8) 4) 4) 128)
  else if k = 9 then (0, Int.tmod (dv (dv r 2) 4) 128, 0, 0, Int.tmod (dv r 2) 4, 0, Int.tmod r 2, 0, dv (dv (dv r 2) 4) 128)
  else if k = 10 then (0, Int.tmod (dv r 4) 128, 0, Int.tmod r 4, 0, 0, 0, Int.tmod (dv (dv r 4) 128) 256, dv (dv (dv r 4) 128) 256)
  else if k = 11 then (0, 0, 0, 0, 0, 0, 0, Int.tmod r 256, dv r 256)
  else if k = 12 then (0, Int.tmod r 128, 0, 0, 0, 0, 0, Int.tmod (dv r 128) 256, dv (dv r 128) 256)
  else if k = 13 then (0, Int.tmod (dv r 2) 128, 0, Int.tmod r 2, 0, 0, 0, 0, dv (dv r 2) 128)
  else (0, 0, 0, 0, 0, 0, 0, 0, r)
def noYard : Eleven := (0, 0, 0, 0, 0, 0, 0, 0, 0, 0, 11)
/-- put together, where it is good -/
def yput (good : Ten → Bool) (k d : Int) (f : Int × Int × Int × Int × Int × Int × Int × Int × Int) : Eleven :=
  match f with
  | (side, sym, sym2, phase, ask, sent, root, count, left) =>
    bif left != 0 then noYard else bif !good (k, d, side, sym, sym2, phase, ask, sent, root, count) then noYard else (k, d, side, sym, sym2, phase, ask, sent, root, count, 0)
def yardOfM (s : Int) : Eleven := bif decide (s < 0) then noYard else yput properM (Int.tmod s 16) (Int.tmod (dv s 16) 4) (yf (Int.tmod s 16) (dv s 64))
def rGood : Ten → Bool := fun x => bif decide (x.1 = 0) || decide (x.1 = 14) then bif x.2.1 != 0 then false else rightM x else rightM x
def rYardOfM (s : Int) : Eleven := bif decide (s < 0) then noYard else bif decide (s ≥ 8388608) then noYard else yput rGood (Int.tmod s 16) (Int.tmod (dv s 16) 4) (yf (Int.tmod s 16) (dv s 64))
def yardR (x : Eleven) : Res := ⟨true, .tup [.agg [.int .i64 x.1, .int .i64 x.2.1, .int .i64 x.2.2.1, .int .i64 x.2.2.2.1, .int .i64 x.2.2.2.2.1, .int .i64 x.2.2.2.2.2.1, .int .i64 x.2.2.2.2.2.2.1, .int .i64 x.2.2.2.2.2.2.2.1, .int .i64 x.2.2.2.2.2.2.2.2.1, .int .i64 x.2.2.2.2.2.2.2.2.2.1], .int .i64 x.2.2.2.2.2.2.2.2.2.2], []⟩
theorem yardR_cond (c : Bool) (a b : Eleven) : yardR (bif c then a else b) = bif c then yardR a else yardR b := by cases c <;> rfl
theorem yardR_ret (x : Eleven) : Ret yardOf_re yardOf_R (yardR x) x := ⟨rfl, rfl, rfl, rfl, by simp [roVs, valsOf, yardR, view, view1, flatA, cellsA, decOk, nth, isInt, yardOf_R, width, dropL], rfl, fun ws h => by cases h; simp⟩
theorem yput_eq (good : Ten → Bool) (k d side sym sym2 phase ask sent root count left : Int) : yardR (yput good k d (side, sym, sym2, phase, ask, sent, root, count, left)) =
    bif left != 0 then yardR noYard else bif !good (k, d, side, sym, sym2, phase, ask, sent, root, count) then yardR noYard else yardR (k, d, side, sym, sym2, phase, ask, sent, root, count, 0) := by simp only [yput, yardR_cond]
theorem yardOf_law (F : Nat) (s : Int) : yardOf_run F s = yardR (yardOfM s) := by
  refine (yardOf_arg F s).trans ((yardOf_eq F s).trans ?_)
  simp only [yardOfM, yardR_cond]
  generalize hk : Int.tmod s 16 = k
  by_cases h1 : k = 1
  · subst h1; simp only [yf, yardOf_S1, yardOf_S2, yardOf_S3, yardOf_S4, hk, yput_eq, decide_true, decide_false, cond_true, cond_false, true_or, or_true, false_or, or_false, if_true, if_false, Int.reduceEq, Bool.false_or, Bool.or_false, Bool.true_or]; rfl
  by_cases h2 : k = 2
  · subst h2; simp only [yf, yardOf_S1, yardOf_S2, yardOf_S3, yardOf_S4, hk, yput_eq, decide_true, decide_false, cond_true, cond_false, true_or, or_true, false_or, or_false, if_true, if_false, Int.reduceEq, Bool.false_or, Bool.or_false, Bool.true_or]; rfl
  by_cases h3 : k = 3
  · subst h3; simp only [yf, yardOf_S1, yardOf_S2, yardOf_S3, yardOf_S4, hk, yput_eq, decide_true, decide_false, cond_true, cond_false, true_or, or_true, false_or, or_false, if_true, if_false, Int.reduceEq, Bool.false_or, Bool.or_false, Bool.true_or]; rfl
  by_cases h4 : k = 4
  · subst h4; simp only [yf, yardOf_S1, yardOf_S2, yardOf_S3, yardOf_S4, hk, yput_eq, decide_true, decide_false, cond_true, cond_false, true_or, or_true, false_or, or_false, if_true, if_false, Int.reduceEq, Bool.false_or, Bool.or_false, Bool.true_or]; rfl
  by_cases h5 : k = 5
  · subst h5; simp only [yf, yardOf_S1, yardOf_S2, yardOf_S3, yardOf_S4, hk, yput_eq, decide_true, decide_false, cond_true, cond_false, true_or, or_true, false_or, or_false, if_true, if_false, Int.reduceEq, Bool.false_or, Bool.or_false, Bool.true_or]; rfl
  by_cases h6 : k = 6
  · subst h6; simp only [yf, yardOf_S1, yardOf_S2, yardOf_S3, yardOf_S4, hk, yput_eq, decide_true, decide_false, cond_true, cond_false, true_or, or_true, false_or, or_false, if_true, if_false, Int.reduceEq, Bool.false_or, Bool.or_false, Bool.true_or]; rfl
  by_cases h7 : k = 7
  · subst h7; simp only [yf, yardOf_S1, yardOf_S2, yardOf_S3, yardOf_S4, hk, yput_eq, decide_true, decide_false, cond_true, cond_false, true_or, or_true, false_or, or_false, if_true, if_false, Int.reduceEq, Bool.false_or, Bool.or_false, Bool.true_or]; rfl
  by_cases h8 : k = 8
  · subst h8; simp only [yf, yardOf_S1, yardOf_S2, yardOf_S3, yardOf_S4, hk, yput_eq, decide_true, decide_false, cond_true, cond_false, true_or, or_true, false_or, or_false, if_true, if_false, Int.reduceEq, Bool.false_or, Bool.or_false, Bool.true_or]; rfl
  by_cases h9 : k = 9
  · subst h9; simp only [yf, yardOf_S1, yardOf_S2, yardOf_S3, yardOf_S4, hk, yput_eq, decide_true, decide_false, cond_true, cond_false, true_or, or_true, false_or, or_false, if_true, if_false, Int.reduceEq, Bool.false_or, Bool.or_false, Bool.true_or]; rfl
  by_cases h10 : k = 10
  · subst h10; simp only [yf, yardOf_S1, yardOf_S2, yardOf_S3, yardOf_S4, hk, yput_eq, decide_true, decide_false, cond_true, cond_false, true_or, or_true, false_or, or_false, if_true, if_false, Int.reduceEq, Bool.false_or, Bool.or_false, Bool.true_or]; rfl
  by_cases h11 : k = 11
  · subst h11; simp only [yf, yardOf_S1, yardOf_S2, yardOf_S3, yardOf_S4, hk, yput_eq, decide_true, decide_false, cond_true, cond_false, true_or, or_true, false_or, or_false, if_true, if_false, Int.reduceEq, Bool.false_or, Bool.or_false, Bool.true_or]; rfl
  by_cases h12 : k = 12
  · subst h12; simp only [yf, yardOf_S1, yardOf_S2, yardOf_S3, yardOf_S4, hk, yput_eq, decide_true, decide_false, cond_true, cond_false, true_or, or_true, false_or, or_false, if_true, if_false, Int.reduceEq, Bool.false_or, Bool.or_false, Bool.true_or]; rfl
  by_cases h13 : k = 13
  · subst h13; simp only [yf, yardOf_S1, yardOf_S2, yardOf_S3, yardOf_S4, hk, yput_eq, decide_true, decide_false, cond_true, cond_false, true_or, or_true, false_or, or_false, if_true, if_false, Int.reduceEq, Bool.false_or, Bool.or_false, Bool.true_or]; rfl
  simp only [yf, yardOf_S1, yardOf_S2, yardOf_S3, yardOf_S4, hk, yput_eq, h1, h2, h3, h4, h5, h6, h7, h8, h9, h10, h11, h12, h13, decide_true, decide_false, cond_true, cond_false, or_self, if_false, Bool.or_self]; rfl
def rloop : List Int → List Int → Ten → Int → Ten × Int
  | b :: bs, f :: fs, y, r => rloop bs fs (withF y f (Int.tmod r b)) (dv r b)
  | _, _, y, r => (y, r)
def rfin (x : Ten × Int) : Eleven := bif x.2 != 0 then noYard else bif !rGood x.1 then noYard else (x.1.1, x.1.2.1, x.1.2.2.1, x.1.2.2.2.1, x.1.2.2.2.2.1, x.1.2.2.2.2.2.1, x.1.2.2.2.2.2.2.1, x.1.2.2.2.2.2.2.2.1, x.1.2.2.2.2.2.2.2.2.1, x.1.2.2.2.2.2.2.2.2.2, 0)
theorem rYardOf_L0_spec (F : Nat) (bs fs : List Int) (hl : fs.length = bs.length) (hb : bs.length ≤ 100) (hn : ∀ b ∈ bs, b ≠ 0) : ∀ (k f i : Nat) (y : Ten) (r : Int), i + k = bs.length → k < f →
    rYardOf_L0 F f r i 0 0 0 0 0 0 0 0 0 0 y.1 y.2.1 y.2.2.1 y.2.2.2.1 y.2.2.2.2.1 y.2.2.2.2.2.1 y.2.2.2.2.2.2.1 y.2.2.2.2.2.2.2.1 y.2.2.2.2.2.2.2.2.1 y.2.2.2.2.2.2.2.2.2 bs fs = yardR (rfin (rloop (bs.drop i) (fs.drop i) y r))
  | k, 0, i, y, r, _, h => by omega
  | 0, f + 1, i, y, r, hi, _ => by
    rw [rYardOf_L0_succ, ltF (by omega), cond_false, drop_len bs (by omega)]
    obtain ⟨y1, y2, y3, y4, y5, y6, y7, y8, y9, y10⟩ := y
    simp only [rloop, rfin, rGood, yardR_cond, rYardOf_L0_S1, rYardOf_L0_S2]
    cases h1 : (r != 0)
    · by_cases h0 : y1 = 0
      · cases h2 : (y2 != 0) <;> simp [h0, yardR, noYard]
      · by_cases h14 : y1 = 14
        · cases h2 : (y2 != 0) <;> simp [h14, yardR, noYard]
        · simp [h0, h14, yardR, noYard]
    · simp [yardR, noYard]
  | k + 1, f + 1, i, y, r, hi, hf => by
    have ih := fun y r => rYardOf_L0_spec F bs fs hl hb hn k f (i + 1) y r (by omega) (by omega)
    have hb0 : (nth 0 bs i != 0) = true := by simpa using hn _ (nth_mem 0 bs (i := i) (by omega))
    rw [rYardOf_L0_succ, ltT (by omega), ltT (by omega), nnT, drop_nth 0 bs (by omega : i < bs.length), drop_nth 0 fs (by omega : i < fs.length), Int.toNat_natCast, hb0, wrapS (by simp [big]; omega)]
    simp only [show i < fs.length by omega, show i < bs.length by omega, decide_true, cond_true, Bool.and_true, rloop]
    exact ih _ _
theorem rYardOf_at (F : Nat) (bs fs : List Int) (hl : fs.length = bs.length) (hb : bs.length ≤ 100) (hn : ∀ b ∈ bs, b ≠ 0) (hF : bs.length < F) (y : Ten) (r : Int) : rYardOf_L0 F F r 0 0 0 0 0 0 0 0 0 0 0 y.1 y.2.1 y.2.2.1 y.2.2.2.1 y.2.2.2.2.1 y.2.2.2.2.2.1 y.2.2.2.2.2.2.1 y.2.2.2.2.2.2.2.1 y.2.2.2.2.2.2.2.2.1 y.2.2.2.2.2.2.2.2.2 bs fs = yardR (rfin (rloop bs fs y r)) := by
  have := rYardOf_L0_spec F bs fs hl hb hn bs.length F 0 y r (by omega) hF
  rwa [List.drop_zero, List.drop_zero] at this
theorem rYardOf_law (F : Nat) (hF : 5 < F) (s : Int) : rYardOf_run F s = yardR (rYardOfM s) := by
  refine (rYardOf_arg F s).trans ((rYardOf_eq F s).trans ?_)
  simp only [rYardOfM, yardR_cond]
  by_cases h0 : s < 0
  · simp [h0, yardR, noYard]
  by_cases hbig : s ≥ 8388608
  · simp [h0, hbig, yardR, noYard]
  simp only [h0, hbig, decide_false, cond_false]
  generalize hk : Int.tmod s 16 = k
  by_cases h1 : k = 1
  · subst h1
    simp only [rYardOf_S2, rYardOf_S1, hk, Int.reduceEq, decide_true, decide_false, cond_true, cond_false]
    refine (rYardOf_at F [128] [1] rfl (by decide) (by decide) (by simp; omega) (1, Int.tmod (dv s 16) 4, 0, 0, 0, 0, 0, 0, 0, 0) (dv s 64)).trans ?_
    simp only [rloop, withF, yf, rfin, yput, Int.reduceEq, decide_true, decide_false, cond_true, cond_false, true_or, or_true, or_self, if_true, if_false]
  by_cases h2 : k = 2
  · subst h2
    simp only [rYardOf_S2, rYardOf_S1, hk, Int.reduceEq, decide_true, decide_false, cond_true, cond_false]
    refine (rYardOf_at F [128] [1] rfl (by decide) (by decide) (by simp; omega) (2, Int.tmod (dv s 16) 4, 0, 0, 0, 0, 0, 0, 0, 0) (dv s 64)).trans ?_
    simp only [rloop, withF, yf, rfin, yput, Int.reduceEq, decide_true, decide_false, cond_true, cond_false, true_or, or_true, or_self, if_true, if_false]
  by_cases h3 : k = 3
  · subst h3
    simp only [rYardOf_S2, rYardOf_S1, hk, Int.reduceEq, decide_true, decide_false, cond_true, cond_false]
    refine (rYardOf_at F [2, 128, 4] [0, 1, 5] rfl (by decide) (by decide) (by simp; omega) (3, Int.tmod (dv s 16) 4, 0, 0, 0, 0, 0, 0, 0, 0) (dv s 64)).trans ?_
    simp only [rloop, withF, yf, rfin, yput, Int.reduceEq, decide_true, decide_false, cond_true, cond_false, true_or, or_true, or_self, if_true, if_false]
  by_cases h4 : k = 4
  · subst h4
    simp only [rYardOf_S2, rYardOf_S1, hk, Int.reduceEq, decide_true, decide_false, cond_true, cond_false]
    refine (rYardOf_at F [2, 128, 128] [0, 1, 2] rfl (by decide) (by decide) (by simp; omega) (4, Int.tmod (dv s 16) 4, 0, 0, 0, 0, 0, 0, 0, 0) (dv s 64)).trans ?_
    simp only [rloop, withF, yf, rfin, yput, Int.reduceEq, decide_true, decide_false, cond_true, cond_false, true_or, or_true, or_self, if_true, if_false]
  by_cases h5 : k = 5
  · subst h5
    simp only [rYardOf_S2, rYardOf_S1, hk, Int.reduceEq, decide_true, decide_false, cond_true, cond_false]
    refine (rYardOf_at F [2, 3, 3] [0, 1, 2] rfl (by decide) (by decide) (by simp; omega) (5, Int.tmod (dv s 16) 4, 0, 0, 0, 0, 0, 0, 0, 0) (dv s 64)).trans ?_
    simp only [rloop, withF, yf, rfin, yput, Int.reduceEq, decide_true, decide_false, cond_true, cond_false, true_or, or_true, or_self, if_true, if_false]
  by_cases h6 : k = 6
  · subst h6
    simp only [rYardOf_S2, rYardOf_S1, hk, Int.reduceEq, decide_true, decide_false, cond_true, cond_false]
    refine (rYardOf_at F [2, 3, 3] [0, 1, 2] rfl (by decide) (by decide) (by simp; omega) (6, Int.tmod (dv s 16) 4, 0, 0, 0, 0, 0, 0, 0, 0) (dv s 64)).trans ?_
    simp only [rloop, withF, yf, rfin, yput, Int.reduceEq, decide_true, decide_false, cond_true, cond_false, true_or, or_true, or_self, if_true, if_false]
  by_cases h7 : k = 7
  · subst h7
    simp only [rYardOf_S2, rYardOf_S1, hk, Int.reduceEq, decide_true, decide_false, cond_true, cond_false]
    refine (rYardOf_at F [2, 2, 128] [0, 3, 1] rfl (by decide) (by decide) (by simp; omega) (7, Int.tmod (dv s 16) 4, 0, 0, 0, 0, 0, 0, 0, 0) (dv s 64)).trans ?_
    simp only [rloop, withF, yf, rfin, yput, Int.reduceEq, decide_true, decide_false, cond_true, cond_false, true_or, or_true, or_self, if_true, if_false]
  by_cases h8 : k = 8
  · subst h8
    simp only [rYardOf_S2, rYardOf_S1, hk, Int.reduceEq, decide_true, decide_false, cond_true, cond_false]
    refine (rYardOf_at F [2, 8, 4, 4, 128] [0, 3, 4, 5, 1] rfl (by decide) (by decide) (by simp; omega) (8, Int.tmod (dv s 16) 4, 0, 0, 0, 0, 0, 0, 0, 0) (dv s 64)).trans ?_
    simp only [rloop, withF, yf, rfin, yput, Int.reduceEq, decide_true, decide_false, cond_true, cond_false, true_or, or_true, or_self, if_true, if_false]
  by_cases h9 : k = 9
  · subst h9
    simp only [rYardOf_S2, rYardOf_S1, hk, Int.reduceEq, decide_true, decide_false, cond_true, cond_false]
    refine (rYardOf_at F [2, 4, 128] [6, 4, 1] rfl (by decide) (by decide) (by simp; omega) (9, Int.tmod (dv s 16) 4, 0, 0, 0, 0, 0, 0, 0, 0) (dv s 64)).trans ?_
    simp only [rloop, withF, yf, rfin, yput, Int.reduceEq, decide_true, decide_false, cond_true, cond_false, true_or, or_true, or_self, if_true, if_false]
  by_cases h10 : k = 10
  · subst h10
    simp only [rYardOf_S2, rYardOf_S1, hk, Int.reduceEq, decide_true, decide_false, cond_true, cond_false]
    refine (rYardOf_at F [4, 128, 256] [3, 1, 7] rfl (by decide) (by decide) (by simp; omega) (10, Int.tmod (dv s 16) 4, 0, 0, 0, 0, 0, 0, 0, 0) (dv s 64)).trans ?_
    simp only [rloop, withF, yf, rfin, yput, Int.reduceEq, decide_true, decide_false, cond_true, cond_false, true_or, or_true, or_self, if_true, if_false]
  by_cases h11 : k = 11
  · subst h11
    simp only [rYardOf_S2, rYardOf_S1, hk, Int.reduceEq, decide_true, decide_false, cond_true, cond_false]
    refine (rYardOf_at F [256] [7] rfl (by decide) (by decide) (by simp; omega) (11, Int.tmod (dv s 16) 4, 0, 0, 0, 0, 0, 0, 0, 0) (dv s 64)).trans ?_
    simp only [rloop, withF, yf, rfin, yput, Int.reduceEq, decide_true, decide_false, cond_true, cond_false, true_or, or_true, or_self, if_true, if_false]
  by_cases h12 : k = 12
  · subst h12
    simp only [rYardOf_S2, rYardOf_S1, hk, Int.reduceEq, decide_true, decide_false, cond_true, cond_false]
    refine (rYardOf_at F [128, 256] [1, 7] rfl (by decide) (by decide) (by simp; omega) (12, Int.tmod (dv s 16) 4, 0, 0, 0, 0, 0, 0, 0, 0) (dv s 64)).trans ?_
    simp only [rloop, withF, yf, rfin, yput, Int.reduceEq, decide_true, decide_false, cond_true, cond_false, true_or, or_true, or_self, if_true, if_false]
  by_cases h13 : k = 13
  · subst h13
    simp only [rYardOf_S2, rYardOf_S1, hk, Int.reduceEq, decide_true, decide_false, cond_true, cond_false]
    refine (rYardOf_at F [2, 128] [3, 1] rfl (by decide) (by decide) (by simp; omega) (13, Int.tmod (dv s 16) 4, 0, 0, 0, 0, 0, 0, 0, 0) (dv s 64)).trans ?_
    simp only [rloop, withF, yf, rfin, yput, Int.reduceEq, decide_true, decide_false, cond_true, cond_false, true_or, or_true, or_self, if_true, if_false]
  simp only [rYardOf_S2, rYardOf_S1, hk, h1, h2, h3, h4, h5, h6, h7, h8, h9, h10, h11, h12, h13, decide_false, cond_false]
  refine (rYardOf_at F [] [] rfl (by decide) (by simp) (by simp; omega) (k, Int.tmod (dv s 16) 4, 0, 0, 0, 0, 0, 0, 0, 0) (dv s 64)).trans ?_
  simp only [rloop, yf, rfin, yput, h1, h2, h3, h4, h5, h6, h7, h8, h9, h10, h11, h12, h13, or_self, if_false]
theorem dv_eq {a b : Int} (h : 0 ≤ a ∧ a ≤ 9223372036854775807) (hb : 0 < b) : dv a b = a / b := by
  unfold dv
  rw [Int.tdiv_eq_ediv_of_nonneg h.1]
  have h1 : 0 ≤ a / b := Int.ediv_nonneg h.1 (by omega)
  have h2 : a / b ≤ a := Int.ediv_le_self _ h.1
  exact wrap_id (by omega) (by omega)
theorem rng {a b : Int} (h : 0 ≤ a ∧ a ≤ 9223372036854775807) (hb : 0 < b) : 0 ≤ a / b ∧ a / b ≤ 9223372036854775807 := by
  have h1 : 0 ≤ a / b := Int.ediv_nonneg h.1 (by omega)
  have h2 : a / b ≤ a := Int.ediv_le_self _ h.1
  omega
def yfn (k r : Int) : Int × Int × Int × Int × Int × Int × Int × Int × Int :=
  if k = 1 ∨ k = 2 then (0, r % 128, 0, 0, 0, 0, 0, 0, r / 128)
  else if k = 3 then (r % 2, r / 2 % 128, 0, 0, 0, r / 2 / 128 % 4, 0, 0, r / 2 / 128 / 4)
  else if k = 4 then (r % 2, r / 2 % 128, r / 2 / 128 % 128, 0, 0, 0, 0, 0, r / 2 / 128 / 128)
  else if k = 5 ∨ k = 6 then (r % 2, r / 2 % 3, r / 2 / 3 % 3, 0, 0, 0, 0, 0, r / 2 / 3 / 3)
  else if k = 7 then (r % 2, r / 2 / 2 % 128, 0, r / 2 % 2, 0, 0, 0, 0, r / 2 / 2 / 128)
  else if k = 8 then (r % 2, r / 2 / 8 / 4 / 4 % 128, 0, r / 2 % 8, r / 2 / 8 % 4, r / 2 / 8 / 4 % 4, 0, 0, r / 2 / 8 / 4 / 4 / 128)
  else if k = 9 then (0, r / 2 / 4 % 128, 0, 0, r / 2 % 4, 0, r % 2, 0, r / 2 / 4 / 128)
  else if k = 10 then (0, r / 4 % 128, 0, r % 4, 0, 0, 0, r / 4 / 128 % 256, r / 4 / 128 / 256)
  else if k = 11 then (0, 0, 0, 0, 0, 0, 0, r % 256, r / 256)
  else if k = 12 then (0, r % 128, 0, 0, 0, 0, 0, r / 128 % 256, r / 128 / 256)
  else if k = 13 then (0, r / 2 % 128, 0, r % 2, 0, 0, 0, 0, r / 2 / 128)
  else (0, 0, 0, 0, 0, 0, 0, 0, r)
theorem yf_eq {r : Int} (h : 0 ≤ r ∧ r ≤ 9223372036854775807) (k : Int) : yf k r = yfn k r := by
  have md : ∀ {a : Int} (b : Int), 0 ≤ a ∧ a ≤ 9223372036854775807 → Int.tmod a b = a % b := fun b h => Int.tmod_eq_emod_of_nonneg h.1
  have r2 := rng h (b := 2) (by omega)
  have r4 := rng h (b := 4) (by omega)
  have r128 := rng h (b := 128) (by omega)
  have r2_128 := rng r2 (b := 128) (by omega)
  have r2_3 := rng r2 (b := 3) (by omega)
  have r2_2 := rng r2 (b := 2) (by omega)
  have r2_8 := rng r2 (b := 8) (by omega)
  have r2_8_4 := rng r2_8 (b := 4) (by omega)
  have r2_8_4_4 := rng r2_8_4 (b := 4) (by omega)
  have r2_4 := rng r2 (b := 4) (by omega)
  have r4_128 := rng r4 (b := 128) (by omega)
  simp only [yf, yfn, dv_eq h (b := 2) (by omega), dv_eq h (b := 4) (by omega), dv_eq h (b := 128) (by omega), dv_eq h (b := 256) (by omega), dv_eq r2 (b := 128) (by omega), dv_eq r2 (b := 3) (by omega), dv_eq r2 (b := 2) (by omega), dv_eq r2 (b := 8) (by omega), dv_eq r2 (b := 4) (by omega),
    dv_eq r2_128 (b := 4) (by omega), dv_eq r2_128 (b := 128) (by omega), dv_eq r2_3 (b := 3) (by omega), dv_eq r2_2 (b := 128) (by omega), dv_eq r2_8 (b := 4) (by omega), dv_eq r2_8_4 (b := 4) (by omega), dv_eq r2_8_4_4 (b := 128) (by omega), dv_eq r2_4 (b := 128) (by omega), dv_eq r4 (b := 128) (by omega), dv_eq r4_128 (b := 256) (by omega), dv_eq r128 (b := 256) (by omega),
    md _ h, md _ r2, md _ r4, md _ r128, md _ r2_128, md _ r2_3, md _ r2_2, md _ r2_8, md _ r2_8_4, md _ r2_8_4_4, md _ r2_4, md _ r4_128]
theorem yput_same {g g' : Ten → Bool} {k d side sym sym2 phase ask sent root count left : Int} (h : left = 0 → g (k, d, side, sym, sym2, phase, ask, sent, root, count) = g' (k, d, side, sym, sym2, phase, ask, sent, root, count)) :
    yput g k d (side, sym, sym2, phase, ask, sent, root, count, left) = yput g' k d (side, sym, sym2, phase, ask, sent, root, count, left) := by
  simp only [yput]
  by_cases h0 : left = 0
  · rw [h h0]
  · simp [h0, beq_ne]
theorem yput_none {g : Ten → Bool} {k d side sym sym2 phase ask sent root count left : Int} (h : left ≠ 0 ∨ g (k, d, side, sym, sym2, phase, ask, sent, root, count) = false) : yput g k d (side, sym, sym2, phase, ask, sent, root, count, left) = noYard := by
  simp only [yput]
  rcases h with h | h
  · simp [h, beq_ne]
  · simp [h]
theorem good_same {k d side sym sym2 phase ask sent root count : Int} (h : properP k d side sym sym2 phase ask sent root count ↔ (k = 0 ∨ k = 14 → d = 0) ∧ rightP k d side sym sym2 phase ask sent root count) : properM (k, d, side, sym, sym2, phase, ask, sent, root, count) = rGood (k, d, side, sym, sym2, phase, ask, sent, root, count) := by
  simp only [properM, rGood, rightM]
  by_cases hk : k = 0 ∨ k = 14
  · by_cases hd : d = 0
    · have : (decide (k = 0) || decide (k = 14)) = true := by simp [hk]
      simp only [this, hd, bne_self_eq_false, cond_true, cond_false]
      rw [decide_eq_decide]
      rw [hd] at h
      exact h.trans ⟨fun h => h.2, fun h => ⟨fun _ => rfl, h⟩⟩
    · have : (decide (k = 0) || decide (k = 14)) = true := by simp [hk]
      simp only [this, cond_true]
      rw [show (d != 0) = true by simp [hd], cond_true]
      exact decide_eq_false fun h' => hd ((h.1 h').1 hk)
  · have : (decide (k = 0) || decide (k = 14)) = false := by simpa using hk
    simp only [this, cond_false]
    rw [decide_eq_decide]
    exact h.trans ⟨fun h => h.2, fun h => ⟨fun hh => absurd hh hk, h⟩⟩
set_option maxRecDepth 10000
theorem yard_core {k d r : Int} (hk : 0 ≤ k ∧ k < 16) (hd : 0 ≤ d ∧ d < 4) (hr : 0 ≤ r) : yput properM k d (yfn k r) = yput rGood k d (yfn k r) ∧ (r ≥ 131072 → yput properM k d (yfn k r) = noYard) := by
  obtain ⟨a, b⟩ := hk
  have : k = 0 ∨ k = 1 ∨ k = 2 ∨ k = 3 ∨ k = 4 ∨ k = 5 ∨ k = 6 ∨ k = 7 ∨ k = 8 ∨ k = 9 ∨ k = 10 ∨ k = 11 ∨ k = 12 ∨ k = 13 ∨ k = 14 ∨ k = 15 := by omega
  rcases this with rfl | rfl | rfl | rfl | rfl | rfl | rfl | rfl | rfl | rfl | rfl | rfl | rfl | rfl | rfl | rfl <;>
  · simp only [yfn, Int.reduceEq, or_false, false_or, or_self, or_true, true_or, if_true, if_false]
    refine ⟨yput_same fun h0 => good_same ?_, fun h => yput_none ?_⟩
    · simp only [properP, rightP, eq_self, iff_true, Int.reduceEq, or_false, false_or, or_self, or_true, true_or, false_imp_iff, true_imp_iff, ne_eq, not_true_eq_false, not_false_eq_true, and_true, true_and]
      omega
    · simp only [properM, decide_eq_false_iff_not, properP]
      omega
theorem yard_same {s : Int} (h : s ≤ 9223372036854775807) : yardOfM s = rYardOfM s := by
  simp only [yardOfM, rYardOfM]
  by_cases h0 : s < 0
  · simp only [h0, decide_true, cond_true]
  · have hs : 0 ≤ s ∧ s ≤ 9223372036854775807 := by omega
    have e1 := dv_eq hs (b := 64) (by omega)
    have e2 := dv_eq hs (b := 16) (by omega)
    have e3 : Int.tmod s 16 = s % 16 := Int.tmod_eq_emod_of_nonneg hs.1
    have e4 : Int.tmod (s / 16) 4 = s / 16 % 4 := Int.tmod_eq_emod_of_nonneg (rng hs (b := 16) (by omega)).1
    simp only [h0, decide_false, cond_false, e1, e2, e3, e4, yf_eq (rng hs (b := 64) (by omega))]
    obtain ⟨c1, c2⟩ := yard_core (k := s % 16) (d := s / 16 % 4) (r := s / 64) (by omega) (by omega) (by omega)
    by_cases hb : s ≥ 8388608
    · simp only [hb, decide_true, cond_true]
      exact c2 (by omega)
    · simp only [hb, decide_false, cond_false]
      exact c1
abbrev yardOfFu : Int → Nat := fun _ => 1
def rYardOfOk : Int → Bool := fun _ => true
abbrev rYardOfFu : Int → Nat := fun _ => 10
theorem yardOf_ret (x : Int) (_ : true = true) : Ret yardOf_re yardOf_R (yardOf_run (yardOfFu x) x) (yardOfM x) := Ret.of (yardOf_law _ x) (yardR_ret _)
theorem rYardOf_ret (x : Int) (_ : true = true) : Ret rYardOf_re rYardOf_R (rYardOf_run (rYardOfFu x) x) (rYardOfM x) := Ret.of (rYardOf_law _ (show 5 < 10 by decide) x) (yardR_ret _)
end Go.Proofs.Ytmiddecfdfbocaa

open Go Go.Abs Go.Proofs
set_option linter.unusedVariables false
namespace Go.Proofs.Ytmiddecfdfbocaa
noncomputable def tbTBL_1 : FuncId → List AV → List Blk → Res := addC 55 (tspec yardOf_sh yardOf_K yardOf_re yardOf_R (fun _ => true) yardOfM) tbTB
theorem tabTBL_1 : Tab Try.prog tbTBL_1 cxMd tbKTB := Tab.addTy (os := []) tabTB tabTB (KK := yardOf_K) (R := yardOf_R) (fn := Try.f55) (by kernel_rfl) (by kernel_rfl) (by kernel_rfl) (by kernel_rfl) _ (fun x => yardOfFu x + 8) yardOf_ret
noncomputable def tbTBL_2 : FuncId → List AV → List Blk → Res := addC 51 (tspec rYardOf_sh rYardOf_K rYardOf_re rYardOf_R (fun _ => true) rYardOfM) tbTBL_1
theorem tabTBL_2 : Tab Try.prog tbTBL_2 cxMd tbKTB := Tab.addTy (os := []) tabTBL_1 tabTB (KK := rYardOf_K) (R := rYardOf_R) (fn := Try.f51) (by kernel_rfl) (by kernel_rfl) (by kernel_rfl) (by kernel_rfl) _ rYardOfFu rYardOf_ret
noncomputable def tbTBB : FuncId → List AV → List Blk → Res := tbTBL_2
noncomputable def tbKTBB : KT := tbKTB
theorem tabTBB : Tab Try.prog tbTBB cxMd tbKTBB := tabTBL_2
end Go.Proofs.Ytmiddecfdfbocaa
