/- The laws of the document's closed and built. -/
import Derived.Test.YtknkkaimbhojpaaOJ
import Derived.Test.YtknkkaimbhojpaaPH
import Derived.Test.YtknkkaimbhojpaaA24
set_option linter.all false
set_option linter.unusedVariables false
set_option linter.unusedSimpArgs false
open Go Go.Abs Go.Proofs
set_option linter.unusedSimpArgs false
set_option linter.unusedVariables false
namespace Go.Proofs.Ytknkkaimbhojpaa
def clashT (ps : List Part) (ls : List Lead) (t u : Ti) : Bool := clashB ps ls t.1 t.2.1 t.2.2.1 t.2.2.2.1 t.2.2.2.2.1 u.1 u.2.1 u.2.2.1 u.2.2.2.1 u.2.2.2.2.1
def tiSm (ls : List Lead) (t : Ti) : Bool := (sm t.1 && sm t.2.1) && (sm t.2.2.2.2.1 && decide (t.2.2.2.1 < ls.length))
theorem clashOk_of {ps : List Part} {ls : List Lead} {t u : Ti} (hl : ls.all (leadGood ps) = true) (ht : tiSm ls t = true) (hu : tiSm ls u = true) :
    clashOk (ps, ls, t.1, t.2.1, t.2.2.1, t.2.2.2.1, t.2.2.2.2.1, t.2.2.2.2.2, u.1, u.2.1, u.2.2.1, u.2.2.2.1, u.2.2.2.2.1, u.2.2.2.2.2) = true := by
  simp only [tiSm, Bool.and_eq_true, decide_eq_true_eq] at ht hu
  simp only [clashOk, ht.1.1, ht.1.2, ht.2.1, hu.1.1, hu.1.2, hu.2.1, hl, Bool.and_true, Bool.true_and, decide_eq_true_eq]
  exact ⟨ht.2.2, hu.2.2⟩
def closedA (ps : List Part) (ls : List Lead) : List Ti → List Ti → Bool
  | _, [] => false
  | pre, t :: r => pre.any (clashT ps ls t) || closedA ps ls (pre ++ [t]) r
def anyFrom (g : Nat → Bool) : Nat → Nat → Bool
  | 0, _ => false
  | n + 1, i => g i || anyFrom g n (i + 1)
def insideF (f : Q4) (p : Int × Int) : Bool := decide (p.1 ≥ f.1) && (decide (p.1 ≤ f.2.2.1) && (decide (p.2 ≥ f.2.1) && decide (p.2 ≤ f.2.2.2)))
def openIn (ps : List Part) (ls : List Lead) (f : Q4) (k i : Nat) : Bool := decide (ledGo k i ls 0 < 0) && insideF f (outM ps k i)
def partIn (ps : List Part) (ls : List Lead) (f : Q4) (k : Nat) : Bool := anyFrom (openIn ps ls f k) (mos (nth p0 ps k)).length 0
def closedR (ps : List Part) (ls : List Lead) (l : List Ti) (f : Q4) : Bool := closedA ps ls [] l || anyFrom (partIn ps ls f) ps.length 0
def resTF (b : Bool) : Res := ⟨true, .bool b, []⟩
theorem rClosed_L1_spec (F m : Nat) (ps : List Part) (ls : List Lead) (l : List Ti) (q : Q4) (i : Nat) (hi : i < l.length) (hx : l.length < 9223372036854775807) (hl : ls.all (leadGood ps) = true) (ht : l.all (tiSm ls) = true) : ∀ (k f j : Nat), j + k = i → k < f →
    rClosed_L1 F m f l i j ps ls q.1 q.2.1 q.2.2.1 q.2.2.2 = bif ((l.take i).drop j).any (clashT ps ls (nth t0 l i)) then resTF true else rClosed_L0 F m l ((i + 1 : Nat) : Int) ps ls q.1 q.2.1 q.2.2.1 q.2.2.2
  | k, 0, j, _, h => by omega
  | 0, f + 1, j, hj, _ => by
    rw [rClosed_L1_succ, ltF (by omega), wrapS (show i < 9223372036854775807 by omega), drop_len (l.take i) (by simp; omega)]; rfl
  | k + 1, f + 1, j, hj, hf => by
    have ih := rClosed_L1_spec F m ps ls l q i hi hx hl ht k f (j + 1) (by omega) (by omega)
    have hjl : j < (l.take i).length := by simp; omega
    have e0 : ∀ n, nth (0, 0, 0, 0, 0, 0) l n = nth t0 l n := fun _ => rfl
    have hok := clashOk_of (t := nth t0 l i) (u := nth t0 l j) hl (all_nth t0 ht hi) (all_nth t0 ht (show j < l.length by omega))
    rw [rClosed_L1_succ, ltT (show j < i by omega), nnT, nnT, ltT hi, ltT (show j < l.length by omega), wrapS (show j < 9223372036854775807 by omega), ih, drop_nth t0 _ hjl, nth_take _ _ _ _ (by omega), Int.toNat_natCast, Int.toNat_natCast]
    simp only [e0, List.any_cons]
    rw [hok]
    simp only [Bool.and_self, cond_true]
    show (bif clashT ps ls (nth t0 l i) (nth t0 l j) then resTF true else _) = _
    cases clashT ps ls (nth t0 l i) (nth t0 l j) <;> rfl
theorem rClosed_L3_spec (F m : Nat) (ps : List Part) (ls : List Lead) (q : Q4) (hp : partsB ps = true) (hls : ls.length < 9223372036854775807) (k : Nat) (hk : k < ps.length) (hm : (mos (nth p0 ps k)).length < 9223372036854775807) : ∀ (n f i : Nat), i + n = (mos (nth p0 ps k)).length → n < f →
    rClosed_L3 F m f k i ps ls q.1 q.2.1 q.2.2.1 q.2.2.2 = bif anyFrom (openIn ps ls q k) n i then resTF true else rClosed_L2 F m ((k + 1 : Nat) : Int) ps ls q.1 q.2.1 q.2.2.1 q.2.2.2
  | n, 0, i, _, h => by omega
  | 0, f + 1, i, hi, _ => by
    have e0 : nth (0, 0, 0, [], [], 0, 0) ps k = nth p0 ps k := rfl
    have hlen := parts_len hp
    rw [rClosed_L3_succ, nnT, ltT hk, Int.toNat_natCast, e0, show (nth p0 ps k).2.2.2.2.1 = mos (nth p0 ps k) from rfl, ltF (by omega), wrapS (show k < 9223372036854775807 by omega)]; rfl
  | n + 1, f + 1, i, hi, hf => by
    have ih := rClosed_L3_spec F m ps ls q hp hls k hk hm n f (i + 1) (by omega) (by omega)
    have e0 : nth (0, 0, 0, [], [], 0, 0) ps k = nth p0 ps k := rfl
    have hh : hasMo ps k i = true := decide_eq_true ⟨by omega, by omega, by omega, by simp only [partAt, Int.toNat_natCast]; omega⟩
    have hg := good_of hp hh
    rw [rClosed_L3_succ, nnT, ltT hk, Int.toNat_natCast, e0, show (nth p0 ps k).2.2.2.2.1 = mos (nth p0 ps k) from rfl, ltT (show i < (mos (nth p0 ps k)).length by omega), wrapS (show i < 9223372036854775807 by omega), ih]
    have eM : mOuterM (ps, ls, (k : Int), (i : Int)) = outM ps k i := rfl
    have eL : rLedM (ps, ls, (k : Int), (i : Int)) = ledGo k i ls 0 := rfl
    have eO : mOuterOk (ps, ls, (k : Int), (i : Int)) = true := hg
    have eK : rLedOk (ps, ls, (k : Int), (i : Int)) = true := decide_eq_true hls
    simp only [eM, eL, eO, eK, cond_true, Bool.and_self, anyFrom, openIn, insideF]
    rcases em2 (decide (ledGo k i ls 0 < 0)) with d1 | d1 <;> rcases em2 (decide ((outM ps k i).1 ≥ q.1)) with d2 | d2 <;> rcases em2 (decide ((outM ps k i).1 ≤ q.2.2.1)) with d3 | d3 <;> rcases em2 (decide ((outM ps k i).2 ≥ q.2.1)) with d4 | d4 <;> rcases em2 (decide ((outM ps k i).2 ≤ q.2.2.2)) with d5 | d5 <;>
      simp only [d1, d2, d3, d4, d5, cond_true, cond_false, Bool.true_and, Bool.false_and, Bool.and_self, Bool.and_false, Bool.or_false, Bool.false_or, Bool.true_or, resTF]
theorem rClosed_L2_spec (F : Nat) (ps : List Part) (ls : List Lead) (q : Q4) (hp : partsB ps = true) (hls : ls.length < 9223372036854775807) (hm : ∀ k, k < ps.length → (mos (nth p0 ps k)).length < F ∧ (mos (nth p0 ps k)).length < 9223372036854775807) : ∀ (n f k : Nat), k + n = ps.length → n < f →
    rClosed_L2 F f k ps ls q.1 q.2.1 q.2.2.1 q.2.2.2 = resTF (anyFrom (partIn ps ls q) n k)
  | n, 0, k, _, h => by omega
  | 0, f + 1, k, hk, _ => by
    rw [rClosed_L2_succ, ltF (by omega)]; rfl
  | n + 1, f + 1, k, hk, hf => by
    have hkl : k < ps.length := by omega
    have ih := rClosed_L2_spec F ps ls q hp hls hm n f (k + 1) (by omega) (by omega)
    have l3 := rClosed_L3_spec F f ps ls q hp hls k hkl (hm k hkl).2 (mos (nth p0 ps k)).length F 0 (by omega) (hm k hkl).1
    rw [rClosed_L2_succ, ltT hkl]
    refine Eq.trans (?_ : _ = _) (l3.trans ?_)
    · rfl
    · rw [ih]
      simp only [anyFrom, partIn]
      cases anyFrom (openIn ps ls q k) (mos (nth p0 ps k)).length 0 <;> rfl
theorem rClosed_L0_spec (F : Nat) (ps : List Part) (ls : List Lead) (l : List Ti) (q : Q4) (hx : l.length < 9223372036854775807) (hF : l.length < F ∧ ps.length < F) (hl : ls.all (leadGood ps) = true) (ht : l.all (tiSm ls) = true) (hp : partsB ps = true) (hls : ls.length < 9223372036854775807) (hm : ∀ k, k < ps.length → (mos (nth p0 ps k)).length < F ∧ (mos (nth p0 ps k)).length < 9223372036854775807) : ∀ (k f i : Nat), i + k = l.length → k < f →
    rClosed_L0 F f l i ps ls q.1 q.2.1 q.2.2.1 q.2.2.2 = resTF (closedA ps ls (l.take i) (l.drop i) || anyFrom (partIn ps ls q) ps.length 0)
  | k, 0, i, _, h => by omega
  | 0, f + 1, i, hi, _ => by
    have l2 := rClosed_L2_spec F ps ls q hp hls hm ps.length F 0 (by omega) (by omega)
    rw [rClosed_L0_succ, ltF (by omega), drop_len l (by omega)]
    exact l2
  | k + 1, f + 1, i, hi, hf => by
    have hil : i < l.length := by omega
    have ih := rClosed_L0_spec F ps ls l q hx hF hl ht hp hls hm k f (i + 1) (by omega) (by omega)
    have l1 := rClosed_L1_spec F f ps ls l q i hil hx hl ht i F 0 (by omega) (by omega)
    rw [List.drop_zero] at l1
    rw [rClosed_L0_succ, ltT hil, drop_nth t0 l hil]
    refine Eq.trans (?_ : _ = _) (l1.trans ?_)
    · rfl
    · rw [ih, take_nth t0 l hil]
      simp only [closedA]
      cases (l.take i).any (clashT ps ls (nth t0 l i)) <;> rfl
abbrev TilesK := List Part × List Lead × List Ti × Int × Int × Int × Int
def mosLe (p : Part) : Bool := decide ((mos p).length ≤ 8)
def rigTi (ps : List Part) (ls : List Lead) (l : List Ti) : Bool := (partsB ps && (ps.all mosLe && decide (ls.length < 9223372036854775807))) && (decide (1 ≤ l.length ∧ l.length < 1000000) && (ls.all (leadGood ps) && l.all (tiSm ls)))
def rClosedOk : TilesK → Bool := fun (ps, ls, l, _) => rigTi ps ls l
def rClosedM : TilesK → Bool := fun (ps, ls, l, q) => closedR ps ls l q
def rClosedFu : TilesK → Nat := fun (_, _, l, _) => l.length + 20
theorem mosLe_at {ps : List Part} (h : ps.all mosLe = true) {k : Nat} (hk : k < ps.length) : (mos (nth p0 ps k)).length ≤ 8 := of_decide_eq_true (all_nth p0 h hk)
theorem rClosed_ret (z : TilesK) (h : rClosedOk z = true) : Ret rClosed_re rClosed_R (rClosed_run (rClosedFu z) z) (rClosedM z) := by
  obtain ⟨ps, ls, l, q⟩ := z
  simp only [rClosedOk, rigTi, Bool.and_eq_true] at h
  obtain ⟨⟨h1, h2, h3⟩, h4, h5, h6⟩ := h
  have h3 := of_decide_eq_true h3
  have h4 := of_decide_eq_true h4
  have hpl := parts_len h1
  have a := rClosed_L0_spec (l.length + 20) ps ls l q (by omega) ⟨by omega, by omega⟩ h5 h6 h1 h3 (fun k hk => ⟨by have := mosLe_at h2 hk; omega, by have := mosLe_at h2 hk; omega⟩) l.length (l.length + 20) 0 (by omega) (by omega)
  rw [List.take_zero, List.drop_zero] at a
  exact Ret.of ((rClosed_arg ..).trans ((rClosed_eq ..).trans a)) (Ret.bool _)
/-! ### built -/
def inF (q : Q4) (t : Ti) : Bool := decide (q.1 ≤ t.1 ∧ t.1 ≤ q.2.2.1 ∧ q.2.1 ≤ t.2.1 ∧ t.2.1 ≤ q.2.2.2)
def idxT' (q : Q4) (t : Ti) : Nat := ((t.2.1 - q.2.1) * (q.2.2.1 - q.1 + 1) + (t.1 - q.1)).toNat
def setT (q : Q4) (cs : List Int) (t : Ti) : List Int := cs.set (idxT' q t) t.2.2.2.2.2
def frOk (q : Q4) : Bool := decide (0 ≤ q.1 ∧ q.1 ≤ q.2.2.1 ∧ q.2.2.1 < 1000 ∧ 0 ≤ q.2.1 ∧ q.2.1 ≤ q.2.2.2 ∧ q.2.2.2 < 1000)
def areaQ (q : Q4) : Nat := ((q.2.2.1 - q.1 + 1) * (q.2.2.2 - q.2.1 + 1)).toNat
theorem area_ok {q : Q4} (h : frOk q = true) : 0 ≤ (q.2.2.1 - q.1 + 1) * (q.2.2.2 - q.2.1 + 1) ∧ (q.2.2.1 - q.1 + 1) * (q.2.2.2 - q.2.1 + 1) ≤ 1000000 := by
  have h := of_decide_eq_true h
  have h1 : 0 ≤ (q.2.2.1 - q.1 + 1) * (q.2.2.2 - q.2.1 + 1) := Int.mul_nonneg (by omega) (by omega)
  have h2 : (q.2.2.1 - q.1 + 1) * (q.2.2.2 - q.2.1 + 1) ≤ 1000 * (q.2.2.2 - q.2.1 + 1) := Int.mul_le_mul_of_nonneg_right (by omega) (by omega)
  omega
theorem idx_frame {q : Q4} {t : Ti} (h : frOk q = true) (ht : inF q t = true) : 0 ≤ (t.2.1 - q.2.1) * (q.2.2.1 - q.1 + 1) ∧ (t.2.1 - q.2.1) * (q.2.2.1 - q.1 + 1) ≤ 1000000 ∧ (t.2.1 - q.2.1) * (q.2.2.1 - q.1 + 1) + (t.1 - q.1) < (q.2.2.1 - q.1 + 1) * (q.2.2.2 - q.2.1 + 1) := by
  have h0 := of_decide_eq_true h
  have ht := of_decide_eq_true ht
  have ha := area_ok h
  have h1 : 0 ≤ (t.2.1 - q.2.1) * (q.2.2.1 - q.1 + 1) := Int.mul_nonneg (by omega) (by omega)
  have h2 : (t.2.1 - q.2.1) * (q.2.2.1 - q.1 + 1) ≤ (q.2.2.2 - q.2.1) * (q.2.2.1 - q.1 + 1) := Int.mul_le_mul_of_nonneg_right (by omega) (by omega)
  have h3 : (q.2.2.1 - q.1 + 1) * (q.2.2.2 - q.2.1 + 1) = (q.2.2.2 - q.2.1) * (q.2.2.1 - q.1 + 1) + (q.2.2.1 - q.1 + 1) := by rw [Int.mul_add, Int.mul_one, Int.mul_comm]
  omega
def openMo (ps : List Part) (ls : List Lead) (q : Q4) (k : Nat) : Nat → Nat → List Mo
  | 0, _ => []
  | n + 1, i => (bif decide (ledGo k i ls 0 ≥ 0) then [] else [((cellM ps k i).1 - q.1, (cellM ps k i).2 - q.2.1, (moAt ps k i).2.2.1, (moAt ps k i).2.2.2)]) ++ openMo ps ls q k n (i + 1)
def openAll (ps : List Part) (ls : List Lead) (q : Q4) : Nat → Nat → List Mo
  | 0, _ => []
  | n + 1, k => openMo ps ls q k (mos (nth p0 ps k)).length 0 ++ openAll ps ls q n (k + 1)
def builtO (ps : List Part) (ls : List Lead) (l : List Ti) (q : Q4) : Organ := ((nth p0 ps 0).1, q.2.2.1 - q.1 + 1, q.2.2.2 - q.2.1 + 1, l.foldl (setT q) (List.replicate (areaQ q) 0), openAll ps ls q ps.length 0)
theorem openMo_len (ps : List Part) (ls : List Lead) (q : Q4) (k : Nat) : ∀ n i, (openMo ps ls q k n i).length ≤ n
  | 0, _ => by simp [openMo]
  | n + 1, i => by
    have := openMo_len ps ls q k n (i + 1)
    simp only [openMo, List.length_append]
    cases decide (ledGo k i ls 0 ≥ 0) <;> simp <;> omega
def orgR (k w h : Int) (c : List Int) (m : List Mo) : Res := ⟨true, .agg [.int .i64 k, .int .i64 w, .int .i64 h, .sl 0 0 0 none, .sl 1 0 0 none], [.row 0 3 (.int .i64) c, .row 0 77 (.pair (.int .i64) (.pair (.int .i64) (.pair (.int .i64) .bool))) m]⟩
theorem rBuilt_L2_spec (F m : Nat) (ps : List Part) (ls : List Lead) (q : Q4) (hq : frOk q = true) (z1 z2 z3 : Int) (o1 o2 o3 : Int) (z4 : List Int) (z5 : List Mo) (cs : List Int) (hp : partsB ps = true) (hls : ls.length < 9223372036854775807) (k : Nat) (hk : k < ps.length) (hm : (mos (nth p0 ps k)).length ≤ 8) : ∀ (n f i : Nat) (acc : List Mo), i + n = (mos (nth p0 ps k)).length → n < f → acc.length + n ≤ 100000 →
    rBuilt_L2 F m f k i ps ls q.1 q.2.1 q.2.2.1 q.2.2.2 z1 z2 z3 o1 o2 o3 z4 z5 cs acc = rBuilt_L1 F m ((k + 1 : Nat) : Int) ps ls q.1 q.2.1 q.2.2.1 q.2.2.2 z1 z2 z3 o1 o2 o3 z4 z5 cs (acc ++ openMo ps ls q k n i)
  | n, 0, i, acc, _, h, _ => by omega
  | 0, f + 1, i, acc, hi, _, _ => by
    have e0 : nth (0, 0, 0, [], [], 0, 0) ps k = nth p0 ps k := rfl
    have hlen := parts_len hp
    rw [rBuilt_L2_succ, nnT, ltT hk, Int.toNat_natCast, e0, show (nth p0 ps k).2.2.2.2.1 = mos (nth p0 ps k) from rfl, ltF (by omega), wrapS (show k < 9223372036854775807 by omega)]
    simp only [openMo, List.append_nil]; rfl
  | n + 1, f + 1, i, acc, hi, hf, ha => by
    have ih0 := rBuilt_L2_spec F m ps ls q hq z1 z2 z3 o1 o2 o3 z4 z5 cs hp hls k hk hm n f (i + 1) acc (by omega) (by omega) (by omega)
    have ih1 := rBuilt_L2_spec F m ps ls q hq z1 z2 z3 o1 o2 o3 z4 z5 cs hp hls k hk hm n f (i + 1) (acc ++ [((cellM ps k i).1 - q.1, (cellM ps k i).2 - q.2.1, (moAt ps k i).2.2.1, (moAt ps k i).2.2.2)]) (by omega) (by omega) (by simp; omega)
    have e0 : nth (0, 0, 0, [], [], 0, 0) ps k = nth p0 ps k := rfl
    have hh : hasMo ps k i = true := decide_eq_true ⟨by omega, by omega, by omega, by simp only [partAt, Int.toNat_natCast]; omega⟩
    have hg := good_of hp hh
    have hc := cell_small hg
    have hc1 := of_decide_eq_true hc.1
    have hc2 := of_decide_eq_true hc.2
    have hq0 := of_decide_eq_true hq
    rw [rBuilt_L2_succ, nnT, nnT, ltT hk, Int.toNat_natCast, e0, show (nth p0 ps k).2.2.2.2.1 = mos (nth p0 ps k) from rfl, ltT (show i < (mos (nth p0 ps k)).length by omega), wrapS (show i < 9223372036854775807 by omega), Int.toNat_natCast]
    have eM : mCellM (ps, ls, (k : Int), (i : Int)) = cellM ps k i := rfl
    have eL : rLedM (ps, ls, (k : Int), (i : Int)) = ledGo k i ls 0 := rfl
    have eO : mCellOk (ps, ls, (k : Int), (i : Int)) = true := hg
    have eK : rLedOk (ps, ls, (k : Int), (i : Int)) = true := decide_eq_true hls
    have eN : nth (0, 0, 0, false) (mos (nth p0 ps k)) i = moAt ps k i := rfl
    have hle : decide (Nat.mul (Nat.add acc.length 1) 32 ≤ 140737488355328) = true := decide_eq_true (by show (acc.length + 1) * 32 ≤ _; omega)
    have hble : Nat.ble 0 acc.length = true := by rw [Nat.ble_eq]; exact Nat.zero_le _
    rw [eM, eN, wrap_id (n := (cellM ps k i).1 - q.1) (by omega) (by omega), wrap_id (n := (cellM ps k i).2 - q.2.1) (by omega) (by omega), hle, hble]
    simp only [eL, eO, eK, cond_true, Bool.and_self, openMo]
    rcases em2 (decide (ledGo k i ls 0 ≥ 0)) with d1 | d1
    · simp only [d1, cond_true, List.nil_append]; exact ih0
    · simp only [d1, cond_false]
      refine ih1.trans ?_
      simp
theorem rBuilt_L1_spec (F : Nat) (ps : List Part) (ls : List Lead) (q : Q4) (hq : frOk q = true) (z1 z2 z3 : Int) (o1 o2 o3 : Int) (z4 : List Int) (z5 : List Mo) (cs : List Int) (hp : partsB ps = true) (hls : ls.length < 9223372036854775807) (hm : ps.all mosLe = true) (hF : 20 ≤ F) : ∀ (n f k : Nat) (acc : List Mo), k + n = ps.length → n < f → acc.length + 8 * n ≤ 100000 →
    rBuilt_L1 F f k ps ls q.1 q.2.1 q.2.2.1 q.2.2.2 z1 z2 z3 o1 o2 o3 z4 z5 cs acc = orgR o1 o2 o3 cs (acc ++ openAll ps ls q n k)
  | n, 0, k, acc, _, h, _ => by omega
  | 0, f + 1, k, acc, hk, _, _ => by
    rw [rBuilt_L1_succ, ltF (by omega)]
    simp only [openAll, List.append_nil]; rfl
  | n + 1, f + 1, k, acc, hk, hf, ha => by
    have hkl : k < ps.length := by omega
    have hm8 := mosLe_at hm hkl
    have hol := openMo_len ps ls q k (mos (nth p0 ps k)).length 0
    have ih := rBuilt_L1_spec F ps ls q hq z1 z2 z3 o1 o2 o3 z4 z5 cs hp hls hm hF n f (k + 1) (acc ++ openMo ps ls q k (mos (nth p0 ps k)).length 0) (by omega) (by omega) (by rw [List.length_append]; omega)
    have l2 := rBuilt_L2_spec F f ps ls q hq z1 z2 z3 o1 o2 o3 z4 z5 cs hp hls k hkl hm8 (mos (nth p0 ps k)).length F 0 acc (by omega) (by omega) (by omega)
    rw [rBuilt_L1_succ, ltT hkl]
    refine Eq.trans (?_ : _ = _) (l2.trans (ih.trans ?_))
    · rfl
    · simp only [openAll, List.append_assoc]
theorem rBuilt_L0_spec (F : Nat) (ps : List Part) (ls : List Lead) (l : List Ti) (q : Q4) (hq : frOk q = true) (z1 z2 z3 : Int) (o1 o3 : Int) (z4 : List Int) (z5 : List Mo) (hp : partsB ps = true) (hls : ls.length < 9223372036854775807) (hm : ps.all mosLe = true) (hF : 20 ≤ F) (hx : l.length < 9223372036854775807) (ht : l.all (inF q) = true) : ∀ (n f i : Nat) (cs : List Int), i + n = l.length → n < f → cs.length = areaQ q →
    rBuilt_L0 F f l i ps ls q.1 q.2.1 q.2.2.1 q.2.2.2 z1 z2 z3 o1 (q.2.2.1 - q.1 + 1) o3 z4 z5 cs [] = orgR o1 (q.2.2.1 - q.1 + 1) o3 ((l.drop i).foldl (setT q) cs) (openAll ps ls q ps.length 0)
  | n, 0, i, cs, _, h, _ => by omega
  | 0, f + 1, i, cs, hi, _, _ => by
    have hlen := parts_len hp
    have l1 := rBuilt_L1_spec F ps ls q hq z1 z2 z3 o1 (q.2.2.1 - q.1 + 1) o3 z4 z5 cs hp hls hm hF ps.length F 0 [] (by omega) (by omega) (by simp; omega)
    rw [rBuilt_L0_succ, ltF (by omega), drop_len l (by omega)]
    exact l1
  | n + 1, f + 1, i, cs, hi, hf, hcs => by
    have hil : i < l.length := by omega
    have htt := all_nth t0 ht hil
    have hidx := idx_frame hq htt
    have hA := area_ok hq
    have hq0 := of_decide_eq_true hq
    have ht0 := of_decide_eq_true htt
    have ih := rBuilt_L0_spec F ps ls l q hq z1 z2 z3 o1 o3 z4 z5 hp hls hm hF hx ht n f (i + 1) (setT q cs (nth t0 l i)) (by omega) (by omega) (by simp only [setT, List.length_set]; exact hcs)
    have e0 : nth (0, 0, 0, 0, 0, 0) l i = nth t0 l i := rfl
    rw [rBuilt_L0_succ, ltT hil, nnT, drop_nth t0 l hil, Int.toNat_natCast, wrapS (show i < 9223372036854775807 by omega)]
    simp only [e0, Bool.and_self, cond_true, List.foldl_cons]
    rw [wrap_id (n := (nth t0 l i).2.1 - q.2.1) (by omega) (by omega), wrap_id (n := (nth t0 l i).1 - q.1) (by omega) (by omega), wrap_id (n := ((nth t0 l i).2.1 - q.2.1) * (q.2.2.1 - q.1 + 1)) (by omega) (by omega), wrap_id (n := ((nth t0 l i).2.1 - q.2.1) * (q.2.2.1 - q.1 + 1) + ((nth t0 l i).1 - q.1)) (by omega) (by omega)]
    rw [show decide (0 ≤ ((nth t0 l i).2.1 - q.2.1) * (q.2.2.1 - q.1 + 1) + ((nth t0 l i).1 - q.1)) = true from decide_eq_true (by omega),
      show decide (((nth t0 l i).2.1 - q.2.1) * (q.2.2.1 - q.1 + 1) + ((nth t0 l i).1 - q.1) < (cs.length : Int)) = true from decide_eq_true (by rw [hcs, areaQ]; omega),
      show decide (Int.toNat (((nth t0 l i).2.1 - q.2.1) * (q.2.2.1 - q.1 + 1) + ((nth t0 l i).1 - q.1)) < cs.length) = true from decide_eq_true (by rw [hcs, areaQ]; omega)]
    exact ih
def rBuiltOk : TilesK → Bool := fun (ps, ls, l, q) => rigTi ps ls l && (frOk q && l.all (inF q))
def rBuiltM : TilesK → Organ := fun (ps, ls, l, q) => builtO ps ls l q
def rBuiltFu : TilesK → Nat := fun (_, _, l, _) => l.length + 20
theorem retOrgR {k w h : Int} {c : List Int} {m : List Mo} : Ret rBuilt_re rBuilt_R (orgR k w h c m) ((k, w, h, c, m) : Organ) := by
  have hh : roVs (orgR k w h c m) = [.agg [.int .i64 k, .int .i64 w, .int .i64 h, .ro (.int .i64) c, .ro (.pair (.int .i64) (.pair (.int .i64) (.pair (.int .i64) .bool))) m]] := rfl
  refine ⟨rfl, rfl, ?_, ?_, ?_, ?_, fun _ h => by cases h⟩
  · rw [hh]; rfl
  · rw [hh]; rfl
  · rw [hh]; simp [rBuilt_R, flatA, cellsA, decOk, nth, isRo, isInt, dropL, width]
  · rw [hh]
    exact (congrArg (fun (a : List Int) => ((k, w, h, a, asL (.pair (.int .i64) (.pair (.int .i64) (.pair (.int .i64) .bool))) (.ro (.pair (.int .i64) (.pair (.int .i64) (.pair (.int .i64) .bool))) m)) : Organ)) (asL_ro (.int .i64) c)).trans (congrArg (fun (b : List Mo) => ((k, w, h, c, b) : Organ)) (asL_ro (.pair (.int .i64) (.pair (.int .i64) (.pair (.int .i64) .bool))) m))
theorem rBuilt_ret (z : TilesK) (h : rBuiltOk z = true) : Ret rBuilt_re rBuilt_R (rBuilt_run (rBuiltFu z) z) (rBuiltM z) := by
  obtain ⟨ps, ls, l, q⟩ := z
  simp only [rBuiltOk, rigTi, Bool.and_eq_true] at h
  obtain ⟨⟨⟨h1, h2, h3⟩, h4, h5, h6⟩, h7, h8⟩ := h
  have h3 := of_decide_eq_true h3
  have h4 := of_decide_eq_true h4
  have hpl := parts_len h1
  have hA := area_ok h7
  have hq0 := of_decide_eq_true h7
  have a := rBuilt_L0_spec (l.length + 20) ps ls l q h7 0 0 0 (nth p0 ps 0).1 (q.2.2.2 - q.2.1 + 1) [] [] h1 h3 h2 (by omega) (by omega) h8 l.length (l.length + 20) 0 (List.replicate (areaQ q) 0) (by omega) (by omega) (by simp)
  rw [List.drop_zero] at a
  refine Ret.of ((rBuilt_arg ..).trans ((rBuilt_eq ..).trans ?_)) retOrgR (r' := orgR (nth p0 ps 0).1 (q.2.2.1 - q.1 + 1) (q.2.2.2 - q.2.1 + 1) (l.foldl (setT q) (List.replicate (areaQ q) 0)) (openAll ps ls q ps.length 0))
  rw [← a, show decide (0 < (ps.length : Int)) = true from decide_eq_true (by omega)]
  rw [wrap_id (n := q.2.2.1 - q.1) (by omega) (by omega), wrap_id (n := q.2.2.2 - q.2.1) (by omega) (by omega), wrap_id (n := q.2.2.1 - q.1 + 1) (by omega) (by omega), wrap_id (n := q.2.2.2 - q.2.1 + 1) (by omega) (by omega), wrap_id (n := (q.2.2.1 - q.1 + 1) * (q.2.2.2 - q.2.1 + 1)) (by omega) (by omega)]
  simp only [cond_true]
  have cc : ∀ (c : Bool) (a b : Res), c = true → (bif c then a else b) = a := fun c a b h => by rw [h]; rfl
  refine (cc _ _ _ ?_).trans ?_
  · simp only [Bool.and_eq_true, decide_eq_true_eq]
    omega
  · rfl
end Go.Proofs.Ytknkkaimbhojpaa

open Go Go.Abs Go.Proofs
set_option linter.unusedSimpArgs false
set_option linter.unusedVariables false
namespace Go.Proofs.Ytknkkaimbhojpaa
abbrev Ent := (Int × Int) × Int × Int
def eqP (a b : Int × Int) : Bool := decide (a.1 = b.1) && decide (a.2 = b.2)
def hasE (pre : List Ent) (k : Int × Int) : Bool := pre.any fun e => eqP k e.1
def owE (pre : List Ent) : PMap := pre.map fun e => (e.1, e.2.1)
def noE (pre : List Ent) : PMap := pre.map fun e => (e.1, e.2.2)
theorem eqK_eqP (a b : Int × Int) : eqK K2 (a : Int × Int) (b : Int × Int) = eqP a b := rfl
theorem has_ow (k : Int × Int) : ∀ pre : List Ent, hasM K2 (owE pre) (k : Int × Int) = hasE pre k
  | [] => rfl
  | e :: r => by
    have ih := has_ow k r
    show (bif eqP k e.1 then true else hasM K2 (owE r) (k : Int × Int)) = (eqP k e.1 || hasE r k)
    rw [ih]; cases eqP k e.1 <;> rfl
theorem ins_ow (e : Ent) : ∀ pre : List Ent, hasE pre e.1 = false → insM K2 (owE pre) (e.1 : Int × Int) e.2.1 = owE (pre ++ [e])
  | [], _ => rfl
  | x :: r, h => by
    have h' : eqP e.1 x.1 = false ∧ hasE r e.1 = false := by simpa [hasE] using h
    have ih := ins_ow e r h'.2
    show (bif eqP e.1 x.1 then _ else ((x.1, x.2.1) : (Int × Int) × Int) :: insM K2 (owE r) (e.1 : Int × Int) e.2.1) = _
    rw [h'.1, ih]; rfl
theorem ins_no (e : Ent) : ∀ pre : List Ent, hasE pre e.1 = false → insM K2 (noE pre) (e.1 : Int × Int) e.2.2 = noE (pre ++ [e])
  | [], _ => rfl
  | x :: r, h => by
    have h' : eqP e.1 x.1 = false ∧ hasE r e.1 = false := by simpa [hasE] using h
    have ih := ins_no e r h'.2
    show (bif eqP e.1 x.1 then _ else ((x.1, x.2.2) : (Int × Int) × Int) :: insM K2 (noE r) (e.1 : Int × Int) e.2.2) = _
    rw [h'.1, ih]; rfl
def layGo : List Ent → List Ent → List Ent × Bool
  | pre, [] => (pre, true)
  | pre, e :: r => bif hasE pre e.1 then (pre, false) else layGo (pre ++ [e]) r
theorem layGo_append : ∀ (a b pre : List Ent), layGo pre (a ++ b) = bif (layGo pre a).2 then layGo (layGo pre a).1 b else layGo pre a
  | [], b, pre => rfl
  | e :: r, b, pre => by
    have ih := layGo_append r b (pre ++ [e])
    simp only [List.cons_append, layGo]
    cases hasE pre e.1
    · simp only [cond_false]; exact ih
    · rfl
def entP1 (p : Part) (k : Nat) (i : Nat) : Ent := ((p.2.2.2.2.2.1 + Int.tmod i p.2.1, p.2.2.2.2.2.2 + Int.tdiv i p.2.1), k, i)
def entP (p : Part) (k : Nat) : Nat → Nat → List Ent
  | 0, _ => []
  | n + 1, i => entP1 p k i :: entP p k n (i + 1)
def entsP : List Part → Nat → List Ent
  | [], _ => []
  | p :: r, k => entP p k p.2.2.2.1.length 0 ++ entsP r (k + 1)
def entL1 (l : Lead) (k : Nat) (i : Nat) : Ent := (((ceAt l.2.2.2.2 i).1, (ceAt l.2.2.2.2 i).2.1), 1000 + (k : Int), i)
def entL (l : Lead) (k : Nat) : Nat → Nat → List Ent
  | 0, _ => []
  | n + 1, i => entL1 l k i :: entL l k n (i + 1)
def entsL : List Lead → Nat → List Ent
  | [], _ => []
  | l :: r, k => entL l k l.2.2.2.2.length 0 ++ entsL r (k + 1)
abbrev mapB' (m : PMap) : Blk := .map true false K2 (.int .i64) m
def layF (pre : List Ent) : Res := ⟨true, .tup [.agg [.mp 0, .mp 1], .bool false], [mapB' (owE pre), mapB' (noE pre)]⟩
def layR (pre : List Ent) (b : Bool) : Res := ⟨true, .tup [.agg [.mp 0, .mp 1], .bool b], [.fmap true false K2 (.int .i64) (owE pre), mapB' (noE pre)]⟩
theorem lay_L1_spec (F m : Nat) (ps : List Part) (ls : List Lead) (p : Part) (hp : FinePart p) (i : Nat) (hi : i < 9223372036854775807) : ∀ (k f j : Nat) (pre : List Ent), j + k = p.2.2.2.1.length → k < f →
    lay_L1 F m f i ps ps.length i p.2.2.2.1.length j ps ls p.1 p.2.1 p.2.2.1 p.2.2.2.1 p.2.2.2.2.1 p.2.2.2.2.2.1 p.2.2.2.2.2.2 (owE pre) (noE pre) =
      bif (layGo pre (entP p i k j)).2 then lay_L0 F m ps ps.length ((i + 1 : Nat) : Int) ps ls (owE (layGo pre (entP p i k j)).1) (noE (layGo pre (entP p i k j)).1) else layF (layGo pre (entP p i k j)).1
  | k, 0, j, _, _, h => by omega
  | 0, f + 1, j, pre, hj, _ => by
    rw [lay_L1_succ, ltF (by omega), wrapS (show i < 9223372036854775807 from hi)]
    rfl
  | k + 1, f + 1, j, pre, hj, hf => by
    have hle := hp.le
    have w0 := hp.w0
    have w1 := hp.w1
    have t0 : 0 ≤ Int.tmod (j : Int) p.2.1 := Int.tmod_nonneg _ (by omega)
    have t1 : Int.tmod (j : Int) p.2.1 < p.2.1 := Int.tmod_lt_of_pos _ (by omega)
    have t2 : 0 ≤ Int.tdiv (j : Int) p.2.1 := Int.tdiv_nonneg (by omega) (by omega)
    have t3 : Int.tdiv (j : Int) p.2.1 ≤ j := Int.tdiv_le_self _ (by omega)
    have x0 := hp.x0
    have x1 := hp.x1
    have y0 := hp.y0
    have y1 := hp.y1
    have hw : (p.2.1 != 0) = true := by rw [beq_ne]; simp; omega
    rw [lay_L1_succ, ltT (show j < p.2.2.2.1.length by omega), wrapS (show j < 9223372036854775807 by omega), wrap_id (n := Int.tdiv (j : Int) p.2.1) (by omega) (by omega), wrap_id (n := p.2.2.2.2.2.1 + Int.tmod (j : Int) p.2.1) (by omega) (by omega), wrap_id (n := p.2.2.2.2.2.2 + Int.tdiv (j : Int) p.2.1) (by omega) (by omega)]
    simp only [hw, cond_true]
    have hh : hasM (CK.pair (CK.int IntKind.i64) (CK.int IntKind.i64)) (owE pre) ((p.2.2.2.2.2.1 + Int.tmod (j : Int) p.2.1, p.2.2.2.2.2.2 + Int.tdiv (j : Int) p.2.1) : Int × Int) = hasE pre (entP1 p i j).1 := has_ow (entP1 p i j).1 pre
    rw [hh]
    simp only [entP, layGo]
    cases h : hasE pre (entP1 p i j).1 with
    | true => rfl
    | false =>
      have ih := lay_L1_spec F m ps ls p hp i hi k f (j + 1) (pre ++ [entP1 p i j]) (by omega) (by omega)
      have i1 := ins_ow (entP1 p i j) pre h
      have i2 := ins_no (entP1 p i j) pre h
      simp only [cond_false]
      rw [← ih, ← i1, ← i2]; rfl
theorem lay_L3_spec (F m : Nat) (ps : List Part) (ls : List Lead) (l : Lead) (hc : l.2.2.2.2.all inC = true) (hx : l.2.2.2.2.length < 9223372036854775807) (i : Nat) (hi : i < 100000) : ∀ (k f j : Nat) (pre : List Ent), j + k = l.2.2.2.2.length → k < f →
    lay_L3 F m f i ls ls.length i l.2.2.2.2 l.2.2.2.2.length j ps ls (owE pre) (noE pre) =
      bif (layGo pre (entL l i k j)).2 then lay_L2 F m ls ls.length ((i + 1 : Nat) : Int) ps ls (owE (layGo pre (entL l i k j)).1) (noE (layGo pre (entL l i k j)).1) else layF (layGo pre (entL l i k j)).1
  | k, 0, j, _, _, h => by omega
  | 0, f + 1, j, pre, hj, _ => by
    rw [lay_L3_succ, ltF (by omega), wrapS (show i < 9223372036854775807 by omega)]
    rfl
  | k + 1, f + 1, j, pre, hj, hf => by
    have hjl : j < l.2.2.2.2.length := by omega
    have hin := all_nth c0 hc hjl
    have hin := of_decide_eq_true hin
    have e0 : nth (0, 0, 0) l.2.2.2.2 j = ceAt l.2.2.2.2 j := rfl
    rw [show nth c0 l.2.2.2.2 j = ceAt l.2.2.2.2 j from rfl] at hin
    rw [lay_L3_succ, ltT hjl, nnT, wrapS (show j < 9223372036854775807 by omega), Int.toNat_natCast, e0, wrap_id (n := 1000 + (i : Int)) (by omega) (by omega)]
    simp only [show ¬ (ceAt l.2.2.2.2 j).1 < 0 by omega, show ¬ (ceAt l.2.2.2.2 j).1 ≥ 24 by omega, show ¬ (ceAt l.2.2.2.2 j).2.1 < 0 by omega, show ¬ (ceAt l.2.2.2.2 j).2.1 ≥ 24 by omega, decide_false, cond_false, Bool.and_self, cond_true]
    have hh : hasM (CK.pair (CK.int IntKind.i64) (CK.int IntKind.i64)) (owE pre) (((ceAt l.2.2.2.2 j).1, (ceAt l.2.2.2.2 j).2.1) : Int × Int) = hasE pre (entL1 l i j).1 := has_ow (entL1 l i j).1 pre
    rw [hh]
    simp only [entL, layGo]
    cases h : hasE pre (entL1 l i j).1 with
    | true => rfl
    | false =>
      have ih := lay_L3_spec F m ps ls l hc hx i hi k f (j + 1) (pre ++ [entL1 l i j]) (by omega) (by omega)
      have i1 := ins_ow (entL1 l i j) pre h
      have i2 := ins_no (entL1 l i j) pre h
      simp only [cond_false]
      rw [← ih, ← i1, ← i2]; rfl
/-! ### neighbours -/
def nextP (s : Int × Int) (d : Nat) : Int × Int := (s.1 + dX d, s.2 + dY d)
def nb1 (ps : List Part) (ls : List Lead) (ow no : PMap) (p : (Int × Int) × Int) (d : Nat) : Bool := !hasM K2 ow (nextP p.1 d : Int × Int) || mayB ps ls no p.1 p.2 (nextP p.1 d) (atM ow (nextP p.1 d))
def nbFrom (ps : List Part) (ls : List Lead) (ow no : PMap) (p : (Int × Int) × Int) : Nat → Nat → Bool
  | 0, _ => true
  | n + 1, d => nb1 ps ls ow no p d && nbFrom ps ls ow no p n (d + 1)
def nbOk (ps : List Part) (ls : List Lead) (ow no : PMap) (p : (Int × Int) × Int) : Bool := nbFrom ps ls ow no p 4 0
structure GoodMaps (ps : List Part) (ls : List Lead) (ow no : PMap) : Prop where
  small : ∀ p ∈ ow, tinyP p.1 = true
  own : ∀ p ∈ ow, 0 ≤ p.2 ∧ p.2 < 1000 + ls.length
  nos : ∀ s, smallNo (atM no s) = true
  len : ls.length < 100000
  good : ls.all (leadGood ps) = true
theorem has_mem {k : Int × Int} : ∀ {m : PMap}, hasM K2 m (k : Int × Int) = true → ∃ p ∈ m, p.1 = k ∧ atM m k = p.2
  | [], h => by cases h
  | p :: m, h => by
    have h' : (bif eqP k p.1 then true else hasM K2 m (k : Int × Int)) = true := h
    cases he : eqP k p.1 with
    | true =>
      have e : k.1 = p.1.1 ∧ k.2 = p.1.2 := by simpa [eqP] using he
      refine ⟨p, List.mem_cons_self, Prod.ext e.1.symm e.2.symm, ?_⟩
      show (bif eqP k p.1 then p.2 else getM K2 (0 : Int) m (k : Int × Int)) = _
      rw [he]; rfl
    | false =>
      rw [he] at h'
      obtain ⟨q, hq, h1, h2⟩ := has_mem h'
      refine ⟨q, List.mem_cons_of_mem _ hq, h1, ?_⟩
      show (bif eqP k p.1 then p.2 else atM m k) = _
      rw [he]; exact h2
abbrev layRm (ow no : PMap) (b : Bool) : Res := ⟨true, .tup [.agg [.mp 0, .mp 1], .bool b], [.fmap true false K2 (.int .i64) ow, mapB' no]⟩
theorem lay_L5_spec (F m : Nat) (ps : List Part) (ls : List Lead) (ow no : PMap) (hg : GoodMaps ps ls ow no) (p : (Int × Int) × Int) (hp : p ∈ ow) (hr hc : PMap) : ∀ (n f d : Nat), d + n = 4 → n < f →
    lay_L5 F m f p.2 d ps ls p.1.1 p.1.2 hr hc ow no = bif nbFrom ps ls ow no p n d then lay_L4 F m ps ls hr hc ow no else layRm ow no false
  | n, 0, d, _, h => by omega
  | 0, f + 1, d, hd, _ => by
    rw [lay_L5_succ, show decide ((d : Int) < 4) = false from decide_eq_false (by omega)]; rfl
  | n + 1, f + 1, d, hd, hf => by
    have ih := lay_L5_spec F m ps ls ow no hg p hp hr hc n f (d + 1) (by omega) (by omega)
    have hs := of_decide_eq_true (hg.small p hp)
    have hb : besideM (p.1.1, p.1.2, (d : Int)) = nextP p.1 d := beside_tiny ⟨hs.1, hs.2.1⟩ ⟨hs.2.2.1, hs.2.2.2⟩
    have hbo : besideOk (p.1.1, p.1.2, (d : Int)) = true := decide_eq_true (by omega)
    rw [lay_L5_succ, show decide ((d : Int) < 4) = true from decide_eq_true (by omega), hbo, hb, wrapS (show d < 9223372036854775807 by omega), ih]
    simp only [cond_true, nbFrom, nb1]
    have e1 : hasM (CK.pair (CK.int IntKind.i64) (CK.int IntKind.i64)) ow (((nextP p.1 d).1, (nextP p.1 d).2) : Int × Int) = hasM K2 ow (nextP p.1 d : Int × Int) := rfl
    have e2 : getM (CK.pair (CK.int IntKind.i64) (CK.int IntKind.i64)) 0 ow (((nextP p.1 d).1, (nextP p.1 d).2) : Int × Int) = atM ow (nextP p.1 d) := rfl
    rw [e1, e2]
    cases hh : hasM K2 ow (nextP p.1 d : Int × Int) with
    | false => rfl
    | true =>
      obtain ⟨q, hq, hq1, hq2⟩ := has_mem hh
      have hown := hg.own p hp
      have hownq := hg.own q hq
      have hqs := hg.small q hq
      rw [hq1] at hqs
      have ok : mayOk (ow, no, ps, ls, p.1.1, p.1.2, p.2, (nextP p.1 d).1, (nextP p.1 d).2, atM ow (nextP p.1 d)) = true := by
        show mayBase ps ls no p.1 p.2 (nextP p.1 d) (atM ow (nextP p.1 d)) = true
        simp only [mayBase, hg.small p hp, hqs, hg.nos, hg.good, Bool.true_and, Bool.and_true, decide_eq_true_eq]
        have := hg.len
        omega
      have eM : mayM (ow, no, ps, ls, p.1.1, p.1.2, p.2, (nextP p.1 d).1, (nextP p.1 d).2, atM ow (nextP p.1 d)) = mayB ps ls no p.1 p.2 (nextP p.1 d) (atM ow (nextP p.1 d)) := rfl
      rw [ok, eM]
      cases mayB ps ls no p.1 p.2 (nextP p.1 d) (atM ow (nextP p.1 d)) <;> rfl
theorem all_erase {α : Type} (d : α) (g : α → Bool) : ∀ (l : List α) (i : Nat), i < l.length → (g (nth d l i) && (l.eraseIdx i).all g) = l.all g
  | [], i, h => by simp at h
  | x :: l, 0, _ => by simp [nth, List.eraseIdx]
  | x :: l, i + 1, h => by
    have ih := all_erase d g l i (by simpa using h)
    simp only [nth, List.eraseIdx, List.all_cons]
    rw [← ih]
    cases g x <;> cases g (nth d l i) <;> rfl
theorem erase_sub {α : Type} {l : List α} {i : Nat} {x : α} (h : x ∈ l.eraseIdx i) : x ∈ l := List.mem_of_mem_eraseIdx h
theorem lay_L4_spec (F : Nat) (hF : 5 ≤ F) (ps : List Part) (ls : List Lead) (ow no : PMap) (hg : GoodMaps ps ls ow no) : ∀ (n f : Nat) (rest cur : PMap), rest.length = n → n < f → (∀ p ∈ rest, p ∈ ow) →
    lay_L4 F f ps ls rest cur ow no = layRm ow no (rest.all (nbOk ps ls ow no))
  | n, 0, _, _, _, h, _ => by omega
  | 0, f + 1, rest, cur, hr, _, _ => by
    obtain rfl : rest = [] := List.length_eq_zero_iff.1 hr
    rw [lay_L4_succ]; rfl
  | n + 1, f + 1, rest, cur, hr, hf, hsub => by
    have he : rest.isEmpty = false := by cases rest with
      | nil => simp at hr
      | cons => rfl
    rw [lay_L4_succ, he]
    simp only [cond_false]
    refine anyN_const (fun i hi => ?_) (by omega)
    have hlt : decide (i < rest.length) = true := decide_eq_true hi
    have hmem : nth ((0, 0), 0) rest i ∈ rest := nth_mem _ rest hi
    have ih := lay_L4_spec F hF ps ls ow no hg n f (rest.eraseIdx i) [nth ((0, 0), 0) rest i] (by rw [List.length_eraseIdx]; simp [hi]; omega) (by omega) (fun p hp => hsub p (erase_sub hp))
    have l5 := lay_L5_spec F f ps ls ow no hg (nth ((0, 0), 0) rest i) (hsub _ hmem) (rest.eraseIdx i) [nth ((0, 0), 0) rest i] 4 F 0 (by omega) (by omega)
    rw [hlt]
    refine Eq.trans (?_ : _ = _) (l5.trans ?_)
    · rfl
    · rw [ih, ← all_erase ((0, 0), 0) (nbOk ps ls ow no) rest i hi]
      show (bif nbOk ps ls ow no (nth ((0, 0), 0) rest i) then _ else _) = _
      cases nbOk ps ls ow no (nth ((0, 0), 0) rest i) <;> rfl
/-! ### lay -/
def leadFull (ps : List Part) (l : Lead) : Bool := leadFine ps l && leadGood ps l
def rigFull (ps : List Part) (ls : List Lead) : Bool := partsB ps && (decide (ls.length < 1000) && ls.all (leadFull ps))
def allEnts (ps : List Part) (ls : List Lead) : List Ent := entsP ps 0 ++ entsL ls 0
def entOk (ls : List Lead) (e : Ent) : Bool := tinyP e.1 && (decide (0 ≤ e.2.1 ∧ e.2.1 < 1000 + ls.length) && smallNo e.2.2)
theorem entP_ok (ls : List Lead) {p : Part} (hp : FinePart p) {k : Nat} (hk : k < 1000) : ∀ n i, i + n = p.2.2.2.1.length → (entP p k n i).all (entOk ls) = true
  | 0, _, _ => rfl
  | n + 1, i, h => by
    have ih := entP_ok ls hp hk n (i + 1) (by omega)
    have hle := hp.le
    have w0 := hp.w0
    have w1 := hp.w1
    have t0 : 0 ≤ Int.tmod (i : Int) p.2.1 := Int.tmod_nonneg _ (by omega)
    have t1 : Int.tmod (i : Int) p.2.1 < p.2.1 := Int.tmod_lt_of_pos _ (by omega)
    have t2 : 0 ≤ Int.tdiv (i : Int) p.2.1 := Int.tdiv_nonneg (by omega) (by omega)
    have t3 : Int.tdiv (i : Int) p.2.1 ≤ i := Int.tdiv_le_self _ (by omega)
    have x0 := hp.x0
    have x1 := hp.x1
    have y0 := hp.y0
    have y1 := hp.y1
    simp only [entP, List.all_cons, ih, Bool.and_true, entOk, entP1, tinyP, smallNo, Bool.and_eq_true, decide_eq_true_eq]
    omega
theorem entsP_ok (ls : List Lead) : ∀ (l : List Part) (k : Nat), (∀ p ∈ l, FinePart p) → k + l.length ≤ 1000 → (entsP l k).all (entOk ls) = true
  | [], _, _, _ => rfl
  | p :: r, k, h, hk => by
    simp only [List.length_cons] at hk
    have ih := entsP_ok ls r (k + 1) (fun q hq => h q (List.mem_cons_of_mem _ hq)) (by omega)
    simp only [entsP, List.all_append, ih, Bool.and_true]
    exact entP_ok ls (h p List.mem_cons_self) (by omega) _ 0 (by omega)
theorem entL_ok (ls : List Lead) {l : Lead} (hc : l.2.2.2.2.all inC = true) (hx : l.2.2.2.2.length ≤ 576) {k : Nat} (hk : k < ls.length) : ∀ n i, i + n = l.2.2.2.2.length → (entL l k n i).all (entOk ls) = true
  | 0, _, _ => rfl
  | n + 1, i, h => by
    have ih := entL_ok ls hc hx hk n (i + 1) (by omega)
    have hin := all_nth c0 hc (show i < l.2.2.2.2.length by omega)
    have hin := of_decide_eq_true hin
    rw [show nth c0 l.2.2.2.2 i = ceAt l.2.2.2.2 i from rfl] at hin
    simp only [entL, List.all_cons, ih, Bool.and_true, entOk, entL1, tinyP, smallNo, Bool.and_eq_true, decide_eq_true_eq]
    omega
theorem entsL_ok (ls : List Lead) : ∀ (r : List Lead) (k : Nat), (∀ l ∈ r, l.2.2.2.2.all inC = true ∧ l.2.2.2.2.length ≤ 576) → k + r.length ≤ ls.length → (entsL r k).all (entOk ls) = true
  | [], _, _, _ => rfl
  | l :: r, k, h, hk => by
    simp only [List.length_cons] at hk
    have ih := entsL_ok ls r (k + 1) (fun q hq => h q (List.mem_cons_of_mem _ hq)) (by omega)
    simp only [entsL, List.all_append, ih, Bool.and_true]
    exact entL_ok ls (h l List.mem_cons_self).1 (h l List.mem_cons_self).2 (by omega) _ 0 (by omega)
theorem parts_fine {ps : List Part} (hp : partsB ps = true) : ∀ p ∈ ps, FinePart p := by
  intro p h
  simp only [partsB, Bool.and_eq_true] at hp
  exact fine_of (List.all_eq_true.1 hp.2 p h)
theorem lead_fine {ps : List Part} {ls : List Lead} (h : rigFull ps ls = true) : ∀ l ∈ ls, l.2.2.2.2.all inC = true ∧ l.2.2.2.2.length ≤ 576 := by
  intro l hl
  simp only [rigFull, Bool.and_eq_true] at h
  have := List.all_eq_true.1 h.2.2 l hl
  simp only [leadFull, leadFine, Bool.and_eq_true] at this
  exact ⟨this.1.2.1, of_decide_eq_true this.1.1⟩
theorem allEnts_ok {ps : List Part} {ls : List Lead} (h : rigFull ps ls = true) : (allEnts ps ls).all (entOk ls) = true := by
  have h0 := h
  simp only [rigFull, Bool.and_eq_true] at h
  have hl := parts_len h.1
  simp only [allEnts, List.all_append]
  rw [entsP_ok ls ps 0 (parts_fine h.1) (by omega), entsL_ok ls ls 0 (lead_fine h0) (by omega)]
  rfl
theorem no_small : ∀ (pre : List Ent), (∀ e ∈ pre, smallNo e.2.2 = true) → ∀ s, smallNo (atM (noE pre) s) = true
  | [], _, _ => rfl
  | e :: r, h, s => by
    have ih := no_small r (fun x hx => h x (List.mem_cons_of_mem _ hx)) s
    show smallNo (bif eqP s e.1 then e.2.2 else atM (noE r) s) = true
    cases eqP s e.1
    · exact ih
    · exact h e List.mem_cons_self
theorem good_maps {ps : List Part} {ls : List Lead} (h : rigFull ps ls = true) {pre : List Ent} (hp : pre.all (entOk ls) = true) : GoodMaps ps ls (owE pre) (noE pre) := by
  have hp' : ∀ e ∈ pre, entOk ls e = true := fun e he => List.all_eq_true.1 hp e he
  simp only [rigFull, Bool.and_eq_true, decide_eq_true_eq] at h
  refine ⟨?_, ?_, ?_, by omega, ?_⟩
  · intro p hm
    obtain ⟨e, he, rfl⟩ := List.mem_map.1 hm
    have := hp' e he
    simp only [entOk, Bool.and_eq_true] at this
    exact this.1
  · intro p hm
    obtain ⟨e, he, rfl⟩ := List.mem_map.1 hm
    have := hp' e he
    simp only [entOk, Bool.and_eq_true, decide_eq_true_eq] at this
    exact this.2.1
  · refine no_small pre fun e he => ?_
    have := hp' e he
    simp only [entOk, Bool.and_eq_true] at this
    exact this.2.2
  · refine List.all_eq_true.2 fun l hl => ?_
    have := List.all_eq_true.1 h.2.2 l hl
    simp only [leadFull, Bool.and_eq_true] at this
    exact this.2
theorem layGo_sub {g : Ent → Bool} : ∀ (r pre : List Ent), pre.all g = true → r.all g = true → (layGo pre r).1.all g = true
  | [], pre, h, _ => h
  | e :: r, pre, h, hr => by
    simp only [List.all_cons, Bool.and_eq_true] at hr
    simp only [layGo]
    cases hasE pre e.1
    · exact layGo_sub r (pre ++ [e]) (by simp [h, hr.1]) hr.2
    · exact h
theorem layGo_len : ∀ (r pre : List Ent), (layGo pre r).1.length ≤ pre.length + r.length
  | [], pre => by simp [layGo]
  | e :: r, pre => by
    have := layGo_len r (pre ++ [e])
    simp only [layGo, List.length_cons]
    cases hasE pre e.1
    · simp only [cond_false]; simp at this; omega
    · simp only [cond_true]; omega
def layEnd (ps : List Part) (ls : List Lead) (x : List Ent × Bool) : Res := bif x.2 then layR x.1 ((owE x.1).all (nbOk ps ls (owE x.1) (noE x.1))) else layF x.1
theorem lay_L2_spec (F : Nat) (hF : 700 ≤ F) (ps : List Part) (ls : List Lead) (h : rigFull ps ls = true) : ∀ (k f i : Nat) (pre : List Ent), i + k = ls.length → k < f → pre.all (entOk ls) = true → pre.length + (entsL (ls.drop i) i).length < F →
    lay_L2 F f ls ls.length i ps ls (owE pre) (noE pre) = layEnd ps ls (layGo pre (entsL (ls.drop i) i))
  | k, 0, i, _, _, h, _, _ => by omega
  | 0, f + 1, i, pre, hi, _, hp, hlen => by
    have l4 := lay_L4_spec F (by omega) ps ls (owE pre) (noE pre) (good_maps h hp) (owE pre).length F (owE pre) [] rfl (by simp [owE]; omega) (fun p h => h)
    rw [lay_L2_succ, ltF (by omega), drop_len ls (by omega)]
    exact l4
  | k + 1, f + 1, i, pre, hi, hf, hp, hlen => by
    have hil : i < ls.length := by omega
    have hls : ls.length < 1000 := by simp only [rigFull, Bool.and_eq_true, decide_eq_true_eq] at h; exact h.2.1
    have hmem : nth l0 ls i ∈ ls := nth_mem _ ls hil
    have hfi := lead_fine h _ hmem
    have l3 := lay_L3_spec F f ps ls (nth l0 ls i) hfi.1 (by omega) i (by omega) (nth l0 ls i).2.2.2.2.length F 0 pre (by omega) (by omega)
    have e0 : nth (0, 0, 0, 0, []) ls i = nth l0 ls i := rfl
    rw [drop_nth l0 ls hil] at hlen ⊢
    simp only [entsL] at hlen ⊢
    rw [List.length_append] at hlen
    rw [layGo_append, lay_L2_succ, ltT hil, nnT, Int.toNat_natCast, e0]
    refine Eq.trans (?_ : _ = _) (l3.trans ?_)
    · rfl
    · cases hb : (layGo pre (entL (nth l0 ls i) i (nth l0 ls i).2.2.2.2.length 0)).2 with
      | false => simp only [cond_false, layEnd, hb]
      | true =>
        have hle := layGo_len (entL (nth l0 ls i) i (nth l0 ls i).2.2.2.2.length 0) pre
        exact lay_L2_spec F hF ps ls h k f (i + 1) _ (by omega) (by omega) (layGo_sub _ _ hp (entL_ok ls hfi.1 hfi.2 hil _ 0 (by omega))) (by omega)
theorem lay_L0_spec (F : Nat) (hF : 700 ≤ F) (ps : List Part) (ls : List Lead) (h : rigFull ps ls = true) (hFl : ls.length < F) : ∀ (k f i : Nat) (pre : List Ent), i + k = ps.length → k < f → pre.all (entOk ls) = true → pre.length + (entsP (ps.drop i) i).length + (entsL ls 0).length < F →
    lay_L0 F f ps ps.length i ps ls (owE pre) (noE pre) = layEnd ps ls (layGo pre (entsP (ps.drop i) i ++ entsL ls 0))
  | k, 0, i, _, _, h, _, _ => by omega
  | 0, f + 1, i, pre, hi, _, hp, hlen => by
    have l2 := lay_L2_spec F hF ps ls h ls.length F 0 pre (by omega) (by omega) hp (by rw [List.drop_zero]; omega)
    rw [List.drop_zero] at l2
    rw [lay_L0_succ, ltF (by omega), drop_len ps (by omega)]
    exact l2
  | k + 1, f + 1, i, pre, hi, hf, hp, hlen => by
    have hil : i < ps.length := by omega
    have h0 := h
    simp only [rigFull, Bool.and_eq_true] at h0
    have hpl := parts_len h0.1
    have hfp := parts_fine h0.1 _ (nth_mem p0 ps hil)
    have hle := hfp.le
    have l1 := lay_L1_spec F f ps ls (nth p0 ps i) hfp i (by omega) (nth p0 ps i).2.2.2.1.length F 0 pre (by omega) (by omega)
    have e0 : nth (0, 0, 0, [], [], 0, 0) ps i = nth p0 ps i := rfl
    rw [drop_nth p0 ps hil] at hlen ⊢
    simp only [entsP] at hlen ⊢
    rw [List.length_append] at hlen
    rw [List.append_assoc, layGo_append, lay_L0_succ, ltT hil, nnT, Int.toNat_natCast, e0]
    refine Eq.trans (?_ : _ = _) (l1.trans ?_)
    · rfl
    · cases hb : (layGo pre (entP (nth p0 ps i) i (nth p0 ps i).2.2.2.1.length 0)).2 with
      | false => simp only [cond_false, layEnd, hb]
      | true =>
        have hle2 := layGo_len (entP (nth p0 ps i) i (nth p0 ps i).2.2.2.1.length 0) pre
        exact lay_L0_spec F hF ps ls h hFl k f (i + 1) _ (by omega) (by omega) (layGo_sub _ _ hp (entP_ok ls hfp (by omega) _ 0 (by omega))) (by omega)
def layOk : Rig → Bool := fun (ps, ls) => rigFull ps ls
def layM : Rig → (PMap × PMap × Bool) := fun (ps, ls) => (owE (layGo [] (allEnts ps ls)).1, noE (layGo [] (allEnts ps ls)).1, (layGo [] (allEnts ps ls)).2 && (owE (layGo [] (allEnts ps ls)).1).all (nbOk ps ls (owE (layGo [] (allEnts ps ls)).1) (noE (layGo [] (allEnts ps ls)).1)))
def layFu : Rig → Nat := fun (ps, ls) => (allEnts ps ls).length + ls.length + 700
theorem Ret.maps2 {ow no : PMap} {b : Bool} : Ret lay_re lay_R ⟨true, .tup [.agg [.mp 0, .mp 1], .bool b], [mapB' ow, mapB' no]⟩ ((ow, no, b) : PMap × PMap × Bool) := by
  have h : roVs ⟨true, .tup [.agg [.mp 0, .mp 1], .bool b], [mapB' ow, mapB' no]⟩ = [.agg [.rmap true false K2 (.int .i64) ow, .rmap true false K2 (.int .i64) no], .bool b] := rfl
  refine ⟨rfl, rfl, ?_, ?_, ?_, ?_, fun ws h => by cases h; simp⟩
  · rw [h]; rfl
  · rw [h]; rfl
  · rw [h]; simp [lay_R, flatA, cellsA, decOk, nth, isM, isB, dropL, width]
  · rw [h]
    exact (congrArg (fun (a : PMap) => ((a, asM K2 (.int .i64) (.rmap true false K2 (.int .i64) no), b) : PMap × PMap × Bool)) (asM_rmap (ka := true) (va := false) (kk := K2) (vk := .int .i64) (m := ow))).trans (congrArg (fun (a : PMap) => ((ow, a, b) : PMap × PMap × Bool)) (asM_rmap (ka := true) (va := false) (kk := K2) (vk := .int .i64) (m := no)))
theorem Ret.maps2f {ow no : PMap} {b : Bool} : Ret lay_re lay_R (layRm ow no b) ((ow, no, b) : PMap × PMap × Bool) := by
  have h : roVs (layRm ow no b) = [.agg [.rmap true false K2 (.int .i64) ow, .rmap true false K2 (.int .i64) no], .bool b] := rfl
  refine ⟨rfl, rfl, ?_, ?_, ?_, ?_, fun ws h => by cases h; simp⟩
  · rw [h]; rfl
  · rw [h]; rfl
  · rw [h]; simp [lay_R, flatA, cellsA, decOk, nth, isM, isB, dropL, width]
  · rw [h]
    exact (congrArg (fun (a : PMap) => ((a, asM K2 (.int .i64) (.rmap true false K2 (.int .i64) no), b) : PMap × PMap × Bool)) (asM_rmap (ka := true) (va := false) (kk := K2) (vk := .int .i64) (m := ow))).trans (congrArg (fun (a : PMap) => ((ow, a, b) : PMap × PMap × Bool)) (asM_rmap (ka := true) (va := false) (kk := K2) (vk := .int .i64) (m := no)))
theorem lay_ret (z : Rig) (h : layOk z = true) : Ret lay_re lay_R (lay_run (layFu z) z) (layM z) := by
  obtain ⟨ps, ls⟩ := z
  have h0 : rigFull ps ls = true := h
  have hp := h0
  simp only [rigFull, Bool.and_eq_true] at hp
  have hpl := parts_len hp.1
  have a := lay_L0_spec ((allEnts ps ls).length + ls.length + 700) (by omega) ps ls h0 (by omega) ps.length ((allEnts ps ls).length + ls.length + 700) 0 [] (by omega) (by omega) rfl (by rw [List.drop_zero]; simp only [allEnts, List.length_append, List.length_nil]; omega)
  rw [List.drop_zero] at a
  refine Ret.of (r' := layEnd ps ls (layGo [] (allEnts ps ls))) ((lay_arg ..).trans ((lay_eq ..).trans ?_)) ?_
  · exact a
  · simp only [layEnd, layM]
    cases (layGo [] (allEnts ps ls)).2
    · exact Ret.maps2
    · exact Ret.maps2f
end Go.Proofs.Ytknkkaimbhojpaa


open Go Go.Abs Go.Proofs
set_option linter.unusedVariables false
namespace Go.Proofs.Ytknkkaimbhojpaa
noncomputable def tbOJL_1 : FuncId → List AV → List Blk → Res := addC 20 (tspec rClosed_sh rClosed_K rClosed_re rClosed_R rClosedOk rClosedM) tbOJ
theorem tabOJL_1 : Tab Try.prog tbOJL_1 cxMd tbKOJ := Tab.addTy tabOJ tabOJ (KK := rClosed_K) (R := rClosed_R) (fn := Try.f20) (by kernel_rfl) (by kernel_rfl) (by kernel_rfl) (by kernel_rfl) _ rClosedFu rClosed_ret
noncomputable def tbOJL_2 : FuncId → List AV → List Blk → Res := addC 21 (tspec rBuilt_sh rBuilt_K rBuilt_re rBuilt_R rBuiltOk rBuiltM) tbOJL_1
theorem tabOJL_2 : Tab Try.prog tbOJL_2 cxMd tbKOJ := Tab.addTy tabOJL_1 tabOJ (KK := rBuilt_K) (R := rBuilt_R) (fn := Try.f21) (by kernel_rfl) (by kernel_rfl) (by kernel_rfl) (by kernel_rfl) _ rBuiltFu rBuilt_ret
noncomputable def tbOJL_3 : FuncId → List AV → List Blk → Res := addC 25 (tspec lay_sh lay_K lay_re lay_R layOk layM) tbOJL_2
theorem tabOJL_3 : Tab Try.prog tbOJL_3 cxMd tbKOJ := Tab.addTy tabOJL_2 tabOJ (KK := lay_K) (R := lay_R) (fn := Try.f25) (by kernel_rfl) (by kernel_rfl) (by kernel_rfl) (by kernel_rfl) _ layFu lay_ret
noncomputable def tbOJB : FuncId → List AV → List Blk → Res := tbOJL_3
noncomputable def tbKOJB : KT := tbKOJ
theorem tabOJB : Tab Try.prog tbOJB cxMd tbKOJB := tabOJL_3
end Go.Proofs.Ytknkkaimbhojpaa

open Go Go.Abs Go.Proofs
set_option linter.unusedVariables false
namespace Go.Proofs.Ytknkkaimbhojpaa
abbrev partTilesR : Rig → Res := fun z => tilesR (partTilesM z)
theorem partTiles_retR (z : Rig) (h : partTilesOk z = true) : partTiles_run (partTilesFu z) z = partTilesR z ∧ (partTilesR z).ok = true := by
  obtain ⟨ps, ls⟩ := z
  simp only [partTilesOk, oLeadsOk, rigOk, Bool.and_eq_true, decide_eq_true_eq] at h
  have hl := parts_len h.2
  have a := partTiles_L0_spec 700 ps ls h.2 h.1.1.1 (by omega) ps.length 700 0 [] (by omega) (by omega) (by simp; omega)
  rw [List.drop_zero, List.nil_append] at a
  exact ⟨(partTiles_arg ..).trans ((partTiles_eq ..).trans a), rfl⟩
noncomputable def tbOJCB : FuncId → List AV → List Blk → Res := addC 17 (tspecR partTiles_sh partTiles_K partTilesOk partTilesR) tbOJB
noncomputable def tbKOJCB : KT := tbKOJB
theorem tabOJCB : Tab Try.prog tbOJCB cxMd tbKOJCB := Tab.addTyR tabOJB tabOH (KK := partTiles_K) (fn := Try.f17) (by kernel_rfl) (by kernel_rfl) (by kernel_rfl) (by kernel_rfl) _ partTilesFu partTiles_retR
end Go.Proofs.Ytknkkaimbhojpaa
