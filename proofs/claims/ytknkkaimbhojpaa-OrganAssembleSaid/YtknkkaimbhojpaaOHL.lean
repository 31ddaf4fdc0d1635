/- The laws of the tiles that a rig lays. -/
import Derived.Test.YtknkkaimbhojpaaOH
set_option linter.all false
set_option linter.unusedVariables false
set_option linter.unusedSimpArgs false
open Go Go.Abs Go.Proofs
set_option linter.unusedSimpArgs false
set_option linter.unusedVariables false
namespace Go.Proofs.Ytknkkaimbhojpaa
abbrev Ti := Int × Int × Int × Int × Int × Int
abbrev TiK : CK := .pair (.int .i64) (.pair (.int .i64) (.pair (.int .i64) (.pair (.int .i64) (.pair (.int .i64) (.int .i64)))))
/-- The tile of a part's i-th cell. -/
def cellTi (p : Part) (k : Nat) (i : Nat) : Ti := (p.2.2.2.2.2.1 + Int.tmod i p.2.1, p.2.2.2.2.2.2 + Int.tdiv i p.2.1, k, -1, 0, nth 0 p.2.2.2.1 i)
def partTi (p : Part) (k : Nat) : Nat → Nat → List Ti
  | 0, _ => []
  | n + 1, i => cellTi p k i :: partTi p k n (i + 1)
def partsTi : List Part → Nat → List Ti
  | [], _ => []
  | p :: r, k => partTi p k p.2.2.2.1.length 0 ++ partsTi r (k + 1)
theorem partTi_len (p : Part) (k : Nat) : ∀ n i, (partTi p k n i).length = n
  | 0, _ => rfl
  | n + 1, i => by simp [partTi, partTi_len p k n (i + 1)]
structure FinePart (p : Part) : Prop where
  x0 : 0 ≤ p.2.2.2.2.2.1
  x1 : p.2.2.2.2.2.1 < 24
  y0 : 0 ≤ p.2.2.2.2.2.2
  y1 : p.2.2.2.2.2.2 < 24
  w0 : 1 ≤ p.2.1
  w1 : p.2.1 ≤ 24
  h0 : 1 ≤ p.2.2.1
  h1 : p.2.2.1 ≤ 24
  len : (p.2.2.2.1.length : Int) = p.2.1 * p.2.2.1
theorem FinePart.le {p : Part} (h : FinePart p) : p.2.2.2.1.length ≤ 576 := by
  have h1 : p.2.1 * p.2.2.1 ≤ 24 * p.2.2.1 := Int.mul_le_mul_of_nonneg_right h.w1 (by have := h.h0; omega)
  have := h.len
  have := h.h1
  omega
theorem fine_of {k0 : Int} {p : Part} (h : partOk k0 p = true) : FinePart p := by
  simp only [partOk, Bool.and_eq_true] at h
  have hxy := of_decide_eq_true h.1
  have hM := of_decide_eq_true h.2.1
  have hs : shapeB p.1 p.2.1 p.2.2.1 p.2.2.2.1 = true := by
    simp only [organM, organOf] at hM
    cases hb : organB p.1 p.2.1 p.2.2.1 p.2.2.2.1 p.2.2.2.2.1 with
    | false => rw [hb] at hM; simp at hM
    | true => simp only [organB, Bool.and_eq_true] at hb; exact hb.1
  simp only [shapeB, Bool.and_eq_true] at hs
  have a := of_decide_eq_true hs.2
  exact ⟨hxy.1, hxy.2.1, hxy.2.2.1, hxy.2.2.2, a.1, a.2.1, a.2.2.1, a.2.2.2.1, a.2.2.2.2⟩
theorem fine_at {ps : List Part} (hp : partsB ps = true) {i : Nat} (hi : i < ps.length) : FinePart (nth p0 ps i) := by
  simp only [partsB, Bool.and_eq_true] at hp
  exact fine_of (all_nth p0 hp.2 hi)
theorem partTiles_L1_spec (F m : Nat) (ps : List Part) (ls : List Lead) (p : Part) (hp : FinePart p) (i : Nat) (hi : i < 9223372036854775807) : ∀ (k f j : Nat) (acc : List Ti), j + k = p.2.2.2.1.length → k < f → acc.length + k ≤ 1000000 →
    partTiles_L1 F m f i j ps ls acc p.1 p.2.1 p.2.2.1 p.2.2.2.1 p.2.2.2.2.1 p.2.2.2.2.2.1 p.2.2.2.2.2.2 = partTiles_L0 F m ((i + 1 : Nat) : Int) ps ls (acc ++ partTi p i k j)
  | k, 0, j, _, _, h, _ => by omega
  | 0, f + 1, j, acc, hj, _, _ => by
    rw [partTiles_L1_succ, ltF (by omega), wrapS (show i < 9223372036854775807 from hi)]
    simp [partTi]
  | k + 1, f + 1, j, acc, hj, hf, ha => by
    have hle := hp.le
    have ih := partTiles_L1_spec F m ps ls p hp i hi k f (j + 1) (acc ++ [cellTi p i j]) (by omega) (by omega) (by simp; omega)
    have w0 := hp.w0
    have w1 := hp.w1
    have t0 : 0 ≤ Int.tmod (j : Int) p.2.1 := Int.tmod_nonneg _ (by omega)
    have t1 : Int.tmod (j : Int) p.2.1 < p.2.1 := Int.tmod_lt_of_pos _ (by omega)
    have t2 : 0 ≤ Int.tdiv (j : Int) p.2.1 := Int.tdiv_nonneg (by omega) (by omega)
    have t3 : Int.tdiv (j : Int) p.2.1 ≤ j := Int.tdiv_le_self _ (by omega)
    have x0 := hp.x0
    have x1 := hp.x1
    have y0 := hp.y0
    have y1 := hp.y1
    rw [partTiles_L1_succ, ltT (show j < p.2.2.2.1.length by omega), nnT, wrapS (show j < 9223372036854775807 by omega), Int.toNat_natCast, wrap_id (n := Int.tdiv (j : Int) p.2.1) (by omega) (by omega), wrap_id (n := p.2.2.2.2.2.1 + Int.tmod (j : Int) p.2.1) (by omega) (by omega), wrap_id (n := p.2.2.2.2.2.2 + Int.tdiv (j : Int) p.2.1) (by omega) (by omega)]
    have hw : (p.2.1 != 0) = true := by rw [beq_ne]; simp; omega
    have hl : decide (Nat.mul (Nat.add acc.length 1) 48 ≤ 140737488355328) = true := decide_eq_true (by show (acc.length + 1) * 48 ≤ _; omega)
    rw [hl]
    simp only [hw, cond_true, Bool.and_self, show Nat.ble 0 acc.length = true from by rw [Nat.ble_eq]; exact Nat.zero_le _]
    refine Eq.trans (?_ : _ = _) (ih.trans ?_)
    · rfl
    · simp [partTi]
def tilesR (l : List Ti) : Res := ⟨true, .sl 0 0 0 none, [.row 0 113 TiK l]⟩
theorem partTiles_L0_spec (F : Nat) (ps : List Part) (ls : List Lead) (hp : partsB ps = true) (hx : ps.length < 9223372036854775807) (hF : 600 ≤ F) : ∀ (k f i : Nat) (acc : List Ti), i + k = ps.length → k < f → acc.length + 600 * k ≤ 100000 →
    partTiles_L0 F f i ps ls acc = tilesR (acc ++ partsTi (ps.drop i) i)
  | k, 0, i, _, _, h, _ => by omega
  | 0, f + 1, i, acc, hi, _, _ => by
    rw [partTiles_L0_succ, ltF (by omega), drop_len ps (by omega)]
    simp only [partsTi, List.append_nil]; rfl
  | k + 1, f + 1, i, acc, hi, hf, ha => by
    have hil : i < ps.length := by omega
    have hfp := fine_at hp hil
    have hle := hfp.le
    have ih := partTiles_L0_spec F ps ls hp hx hF k f (i + 1) (acc ++ partTi (nth p0 ps i) i (nth p0 ps i).2.2.2.1.length 0) (by omega) (by omega) (by rw [List.length_append, partTi_len]; omega)
    have l1 := partTiles_L1_spec F f ps ls (nth p0 ps i) hfp i (by omega) (nth p0 ps i).2.2.2.1.length F 0 acc (by omega) (by omega) (by omega)
    rw [partTiles_L0_succ, ltT hil, nnT, drop_nth p0 ps hil, Int.toNat_natCast]
    simp only [Bool.and_self, cond_true, partsTi]
    refine Eq.trans (?_ : _ = _) (l1.trans (ih.trans ?_))
    · rfl
    · rw [List.append_assoc]
def partTilesOk : Rig → Bool := oLeadsOk
def partTilesM : Rig → List Ti := fun (ps, _) => partsTi ps 0
def partTilesFu : Rig → Nat := fun _ => 700
theorem parts_len {ps : List Part} (hp : partsB ps = true) : 1 ≤ ps.length ∧ ps.length ≤ 16 := by
  simp only [partsB, Bool.and_eq_true, decide_eq_true_eq] at hp
  exact hp.1
theorem partTiles_ret (z : Rig) (h : partTilesOk z = true) : Ret partTiles_re partTiles_R (partTiles_run (partTilesFu z) z) (partTilesM z) := by
  obtain ⟨ps, ls⟩ := z
  simp only [partTilesOk, oLeadsOk, rigOk, Bool.and_eq_true, decide_eq_true_eq] at h
  have hl := parts_len h.2
  have a := partTiles_L0_spec 700 ps ls h.2 h.1.1.1 (by omega) ps.length 700 0 [] (by omega) (by omega) (by simp; omega)
  rw [List.drop_zero, List.nil_append] at a
  exact Ret.of ((partTiles_arg ..).trans ((partTiles_eq ..).trans a)) Ret.row
/-! ### leads -/
def ordI (d : Int) : Int := bif decide (d < 0) then 0 else bif decide (d > 3) then 0 else 9 + d
def leadDir (ps : List Part) (l : Lead) (i : Nat) : Int :=
  bif decide (i + 1 < l.2.2.2.2.length) then dirC (ceAt l.2.2.2.2 i) (ceAt l.2.2.2.2 (i + 1)) else dirOf (ceAt l.2.2.2.2 i).1 (ceAt l.2.2.2.2 i).2.1 (cellM ps l.2.2.1 l.2.2.2.1).1 (cellM ps l.2.2.1 l.2.2.2.1).2
def leadTi1 (ps : List Part) (l : Lead) (k : Int) (i : Nat) : Ti := ((ceAt l.2.2.2.2 i).1, (ceAt l.2.2.2.2 i).2.1, -1, k, i, ordI (leadDir ps l i))
def leadTi (ps : List Part) (l : Lead) (k : Int) : Nat → Nat → List Ti
  | 0, _ => []
  | n + 1, i => leadTi1 ps l k i :: leadTi ps l k n (i + 1)
theorem leadTi_len (ps : List Part) (l : Lead) (k : Int) : ∀ n i, (leadTi ps l k n i).length = n
  | 0, _ => rfl
  | n + 1, i => by simp [leadTi, leadTi_len ps l k n (i + 1)]
def leadFine (ps : List Part) (l : Lead) : Bool := decide (l.2.2.2.2.length ≤ 576) && (l.2.2.2.2.all inC && goodMo ps l.2.2.1 l.2.2.2.1)
theorem dirOf_le (x y u v : Int) : -1 ≤ dirOf x y u v ∧ dirOf x y u v ≤ 3 := by
  simp only [dirOf, Bool.cond_decide]
  repeat' split
  all_goals omega
theorem cell_small {ps : List Part} {i k : Int} (h : goodMo ps i k = true) : sm (cellM ps i k).1 = true ∧ sm (cellM ps i k).2 = true := by
  simp only [goodMo, Bool.and_eq_true, tinies, tiny, decide_eq_true_eq] at h
  exact ⟨decide_eq_true (by show -1000000 ≤ (partAt ps i).2.2.2.2.2.1 + (moAt ps i k).1 ∧ (partAt ps i).2.2.2.2.2.1 + (moAt ps i k).1 ≤ 1000000; omega), decide_eq_true (by show -1000000 ≤ (partAt ps i).2.2.2.2.2.2 + (moAt ps i k).2.1 ∧ (partAt ps i).2.2.2.2.2.2 + (moAt ps i k).2.1 ≤ 1000000; omega)⟩
theorem leadTiles_L0_spec (F : Nat) (ps : List Part) (ls : List Lead) (l : Lead) (k : Int) (hl : leadFine ps l = true) : ∀ (n f i : Nat) (acc : List Ti), i + n = l.2.2.2.2.length → n < f → acc.length + n ≤ 1000000 →
    leadTiles_L0 F f k i ps ls acc l.1 l.2.1 l.2.2.1 l.2.2.2.1 l.2.2.2.2 = tilesR (acc ++ leadTi ps l k n i)
  | n, 0, i, _, _, h, _ => by omega
  | 0, f + 1, i, acc, hi, _, _ => by
    rw [leadTiles_L0_succ, ltF (by omega)]
    simp only [leadTi, List.append_nil]; rfl
  | n + 1, f + 1, i, acc, hi, hf, ha => by
    have ih := leadTiles_L0_spec F ps ls l k hl n f (i + 1) (acc ++ [leadTi1 ps l k i]) (by omega) (by omega) (by simp; omega)
    simp only [leadFine, Bool.and_eq_true, decide_eq_true_eq] at hl
    have hil : i < l.2.2.2.2.length := by omega
    have hs := inC_small (all_nth c0 hl.2.1 hil)
    have hc := cell_small hl.2.2
    have hle : decide (Nat.mul (Nat.add acc.length 1) 48 ≤ 140737488355328) = true := decide_eq_true (by show (acc.length + 1) * 48 ≤ _; omega)
    have hble : Nat.ble 0 acc.length = true := by rw [Nat.ble_eq]; exact Nat.zero_le _
    rw [leadTiles_L0_succ, ltT hil, wrapS (show i < 9223372036854775807 by omega), nnT, nnT, hle, hble, Int.toNat_natCast, Int.toNat_natCast]
    have e0 : ∀ j, nth (0, 0, 0) l.2.2.2.2 j = ceAt l.2.2.2.2 j := fun _ => rfl
    simp only [e0, mCellOk, hl.2.2, cond_true, Bool.and_self]
    have fin : acc ++ leadTi ps l k (n + 1) i = acc ++ [leadTi1 ps l k i] ++ leadTi ps l k n (i + 1) := by simp [leadTi]
    rw [fin, ← ih]
    by_cases hn : i + 1 < l.2.2.2.2.length
    · have hs2 := inC_small (all_nth c0 hl.2.1 hn)
      have hd : leadDir ps l i = dirC (ceAt l.2.2.2.2 i) (ceAt l.2.2.2.2 (i + 1)) := by simp only [leadDir, hn, decide_true, cond_true]
      have hb := dirOf_le (ceAt l.2.2.2.2 i).1 (ceAt l.2.2.2.2 i).2.1 (ceAt l.2.2.2.2 (i + 1)).1 (ceAt l.2.2.2.2 (i + 1)).2.1
      rw [ltT hn]
      have ok : towardOk ((ceAt l.2.2.2.2 i).1, (ceAt l.2.2.2.2 i).2.1, (ceAt l.2.2.2.2 (i + 1)).1, (ceAt l.2.2.2.2 (i + 1)).2.1) = true := by
        simp only [towardOk, Bool.and_eq_true]
        exact ⟨hs.1, hs.2, hs2.1, hs2.2⟩
      simp only [ok, cond_true, Bool.and_self, towardM, leadTi1, hd, dirC, ordI]
      by_cases d1 : dirOf (ceAt l.2.2.2.2 i).1 (ceAt l.2.2.2.2 i).2.1 (ceAt l.2.2.2.2 (i + 1)).1 (ceAt l.2.2.2.2 (i + 1)).2.1 < 0
      · simp only [d1, decide_true, cond_true]
      · rw [wrap_id (n := 9 + dirOf (ceAt l.2.2.2.2 i).1 (ceAt l.2.2.2.2 i).2.1 (ceAt l.2.2.2.2 (i + 1)).1 (ceAt l.2.2.2.2 (i + 1)).2.1) (by omega) (by omega)]
        simp only [d1, show ¬ dirOf (ceAt l.2.2.2.2 i).1 (ceAt l.2.2.2.2 i).2.1 (ceAt l.2.2.2.2 (i + 1)).1 (ceAt l.2.2.2.2 (i + 1)).2.1 > 3 by omega, decide_false, cond_false]
    · have hd : leadDir ps l i = dirOf (ceAt l.2.2.2.2 i).1 (ceAt l.2.2.2.2 i).2.1 (cellM ps l.2.2.1 l.2.2.2.1).1 (cellM ps l.2.2.1 l.2.2.2.1).2 := by simp only [leadDir, hn, decide_false, cond_false]
      have hb := dirOf_le (ceAt l.2.2.2.2 i).1 (ceAt l.2.2.2.2 i).2.1 (cellM ps l.2.2.1 l.2.2.2.1).1 (cellM ps l.2.2.1 l.2.2.2.1).2
      rw [ltF (by omega)]
      have ok : towardOk ((ceAt l.2.2.2.2 i).1, (ceAt l.2.2.2.2 i).2.1, (cellM ps l.2.2.1 l.2.2.2.1).1, (cellM ps l.2.2.1 l.2.2.2.1).2) = true := by
        simp only [towardOk, Bool.and_eq_true]
        exact ⟨hs.1, hs.2, hc.1, hc.2⟩
      simp only [mCellM, ok, cond_true, cond_false, Bool.and_self, towardM, leadTi1, hd, ordI]
      by_cases d1 : dirOf (ceAt l.2.2.2.2 i).1 (ceAt l.2.2.2.2 i).2.1 (cellM ps l.2.2.1 l.2.2.2.1).1 (cellM ps l.2.2.1 l.2.2.2.1).2 < 0
      · simp only [d1, decide_true, cond_true]
      · rw [wrap_id (n := 9 + dirOf (ceAt l.2.2.2.2 i).1 (ceAt l.2.2.2.2 i).2.1 (cellM ps l.2.2.1 l.2.2.2.1).1 (cellM ps l.2.2.1 l.2.2.2.1).2) (by omega) (by omega)]
        simp only [d1, show ¬ dirOf (ceAt l.2.2.2.2 i).1 (ceAt l.2.2.2.2 i).2.1 (cellM ps l.2.2.1 l.2.2.2.1).1 (cellM ps l.2.2.1 l.2.2.2.1).2 > 3 by omega, decide_false, cond_false]
abbrev RigI := List Part × List Lead × Int
def leadTilesOk : RigI → Bool := fun (ps, ls, k) => decide (0 ≤ k ∧ k < ls.length) && leadFine ps (nth l0 ls k.toNat)
def leadTilesM : RigI → List Ti := fun (ps, ls, k) => leadTi ps (nth l0 ls k.toNat) k (nth l0 ls k.toNat).2.2.2.2.length 0
def leadTilesFu : RigI → Nat := fun _ => 700
theorem leadTiles_ret (z : RigI) (h : leadTilesOk z = true) : Ret leadTiles_re leadTiles_R (leadTiles_run (leadTilesFu z) z) (leadTilesM z) := by
  obtain ⟨ps, ls, k⟩ := z
  simp only [leadTilesOk, Bool.and_eq_true, decide_eq_true_eq] at h
  have hl : (nth l0 ls k.toNat).2.2.2.2.length ≤ 576 := by
    have := h.2
    simp only [leadFine, Bool.and_eq_true, decide_eq_true_eq] at this
    exact this.1
  have a := leadTiles_L0_spec 700 ps ls (nth l0 ls k.toNat) k h.2 _ 700 0 [] (Nat.zero_add _) (by omega) (by simp; omega)
  rw [List.nil_append] at a
  refine Ret.of ((leadTiles_arg ..).trans ((leadTiles_eq ..).trans ?_)) (Ret.row (e' := 113))
  simp only [h.1.1, h.1.2, decide_true, Bool.and_self, cond_true]
  exact a
/-! ### the frame -/
def frStep (f : Q4) (t : Ti) : Q4 :=
  (bif decide (t.1 < f.1) then t.1 else f.1, bif decide (t.2.1 < f.2.1) then t.2.1 else f.2.1, bif decide (t.1 > f.2.2.1) then t.1 else f.2.2.1, bif decide (t.2.1 > f.2.2.2) then t.2.1 else f.2.2.2)
def t0 : Ti := (0, 0, 0, 0, 0, 0)
def frameOf (l : List Ti) : Q4 := (l.drop 1).foldl frStep ((nth t0 l 0).1, (nth t0 l 0).2.1, (nth t0 l 0).1, (nth t0 l 0).2.1)
theorem rAround_L0_spec (F : Nat) (l : List Ti) (hx : l.length < 9223372036854775807) : ∀ (k f i : Nat) (q : Q4), i + k = l.length → k < f →
    rAround_L0 F f l i 0 0 0 0 q.1 q.2.1 q.2.2.1 q.2.2.2 = ⟨true, .agg [.int .i64 ((l.drop i).foldl frStep q).1, .int .i64 ((l.drop i).foldl frStep q).2.1, .int .i64 ((l.drop i).foldl frStep q).2.2.1, .int .i64 ((l.drop i).foldl frStep q).2.2.2], []⟩
  | k, 0, i, _, _, h => by omega
  | 0, f + 1, i, q, hi, _ => by
    rw [rAround_L0_succ, ltF (by omega), drop_len l (by omega)]; rfl
  | k + 1, f + 1, i, q, hi, hf => by
    have hil : i < l.length := by omega
    have ih := rAround_L0_spec F l hx k f (i + 1) (frStep q (nth t0 l i)) (by omega) (by omega)
    rw [drop_nth t0 l hil, List.foldl_cons, ← ih, rAround_L0_succ, ltT hil, nnT, wrapS (show i < 9223372036854775807 by omega), Int.toNat_natCast]
    have e0 : nth (0, 0, 0, 0, 0, 0) l i = nth t0 l i := rfl
    simp only [e0, Bool.and_self, cond_true, frStep]
    by_cases c1 : (nth t0 l i).1 < q.1 <;> by_cases c2 : (nth t0 l i).2.1 < q.2.1 <;> by_cases c3 : (nth t0 l i).1 > q.2.2.1 <;> by_cases c4 : (nth t0 l i).2.1 > q.2.2.2 <;>
      simp only [c1, c2, c3, c4, decide_true, decide_false, cond_true, cond_false]
theorem Ret.agg4 (a b c d : Int) : Ret [some 4] (.pair (.int .i64) (.pair (.int .i64) (.pair (.int .i64) (.int .i64)))) ⟨true, .agg [.int .i64 a, .int .i64 b, .int .i64 c, .int .i64 d], []⟩ (a, b, c, d) :=
  ⟨rfl, rfl, rfl, rfl, by simp [roVs, valsOf, view, view1, flatA, cellsA, decOk, nth, isInt, dropL, width], rfl, fun ws h => by cases h⟩
def rAroundOk : List Ti → Bool := fun l => decide (1 ≤ l.length ∧ l.length < 9223372036854775807)
def rAroundM : List Ti → Q4 := frameOf
def rAroundFu : List Ti → Nat := fun l => l.length + 1
theorem rAround_ret (l : List Ti) (h : rAroundOk l = true) : Ret rAround_re rAround_R (rAround_run (rAroundFu l) l) (rAroundM l) := by
  simp only [rAroundOk, decide_eq_true_eq] at h
  have a := rAround_L0_spec (l.length + 1) l h.2 (l.length - 1) (l.length + 1) 1 ((nth t0 l 0).1, (nth t0 l 0).2.1, (nth t0 l 0).1, (nth t0 l 0).2.1) (by omega) (by omega)
  refine Ret.of (r' := ⟨true, .agg [.int .i64 (frameOf l).1, .int .i64 (frameOf l).2.1, .int .i64 (frameOf l).2.2.1, .int .i64 (frameOf l).2.2.2], []⟩) ((rAround_arg ..).trans ((rAround_eq ..).trans ?_)) (Ret.agg4 _ _ _ _)
  rw [show decide (0 < (l.length : Int)) = true from decide_eq_true (by omega)]
  simp only [cond_true]
  exact a
/-! ### which lead -/
def ledGo (a b : Int) : List Lead → Nat → Int
  | [], _ => -1
  | l :: r, i => bif endAt a b l then (i : Int) else ledGo a b r (i + 1)
theorem rLed_L0_spec (F : Nat) (ps : List Part) (ls : List Lead) (a b : Int) (hx : ls.length < 9223372036854775807) : ∀ (k f i : Nat), i + k = ls.length → k < f → rLed_L0 F f a b i ps ls = ⟨true, .int .i64 (ledGo a b (ls.drop i) i), []⟩
  | k, 0, i, _, h => by omega
  | 0, f + 1, i, hi, _ => by
    rw [rLed_L0_succ, ltF (by omega), drop_len ls (by omega)]; rfl
  | k + 1, f + 1, i, hi, hf => by
    have hil : i < ls.length := by omega
    have ih := rLed_L0_spec F ps ls a b hx k f (i + 1) (by omega) (by omega)
    rw [rLed_L0_succ, ltT hil, nnT, wrapS (show i < 9223372036854775807 by omega), ih, drop_nth l0 ls hil, Int.toNat_natCast]
    have e0 : nth (0, 0, 0, 0, []) ls i = nth l0 ls i := rfl
    simp only [e0, Bool.and_self, cond_true, ledGo, endAt]
    by_cases e1 : (nth l0 ls i).1 = a <;> by_cases e2 : (nth l0 ls i).2.1 = b <;> by_cases e3 : (nth l0 ls i).2.2.1 = a <;> by_cases e4 : (nth l0 ls i).2.2.2.1 = b <;> simp only [e1, e2, e3, e4, decide_true, decide_false, cond_true, cond_false, Bool.and_self, Bool.or_self, Bool.and_false, Bool.false_and, Bool.or_false, Bool.false_or, Bool.or_true, Bool.true_or]
def rLedOk : RigK → Bool := fun (_, ls, _, _) => decide (ls.length < 9223372036854775807)
def rLedM : RigK → Int := fun (_, ls, a, b) => ledGo a b ls 0
def rLedFu : RigK → Nat := fun (_, ls, _, _) => ls.length + 1
theorem rLed_ret (z : RigK) (h : rLedOk z = true) : Ret rLed_re rLed_R (rLed_run (rLedFu z) z) (rLedM z) := by
  obtain ⟨ps, ls, a, b⟩ := z
  simp only [rLedOk, decide_eq_true_eq] at h
  have a' := rLed_L0_spec (ls.length + 1) ps ls a b h ls.length (ls.length + 1) 0 (by omega) (by omega)
  rw [List.drop_zero] at a'
  exact Ret.of ((rLed_arg ..).trans ((rLed_eq ..).trans a')) (Ret.int _ _)
/-! ### the same organ -/
def eqMo (a b : Mo) : Bool := decide (a.1 = b.1) && (decide (a.2.1 = b.2.1) && (decide (a.2.2.1 = b.2.2.1) && decide (a.2.2.2 = b.2.2.2)))
def eqMos : List Mo → List Mo → Bool
  | [], [] => true
  | x :: a, y :: b => eqMo x y && eqMos a b
  | _, _ => false
theorem eqMos_self : ∀ a : List Mo, eqMos a a = true
  | [] => rfl
  | x :: a => by simp [eqMos, eqMo, eqMos_self a]
abbrev Organ2 := Int × Int × Int × List Int × List Mo × Int × Int × Int × List Int × List Mo
def sameOOk : Organ2 → Bool := fun (_, _, _, c, m, _, _, _, c', m') => decide (c.length < 9223372036854775807 ∧ c'.length < 9223372036854775807 ∧ m.length < 9223372036854775807)
def sameOM : Organ2 → Bool := fun (k, w, h, c, m, k', w', h', c', m') => decide (k = k') && (decide (w = w') && (decide (h = h') && (eqL c c' && (decide (m.length = m'.length) && eqMos m m'))))
def sameOFu : Organ2 → Nat := fun (_, _, _, _, m, _) => m.length + 1
theorem sameO_L0_spec (F : Nat) (k w h : Int) (c : List Int) (m : List Mo) (k' w' h' : Int) (c' : List Int) (m' : List Mo) (hx : m.length < 9223372036854775807) (he : m'.length = m.length) : ∀ (n f i : Nat), i + n = m.length → n < f → sameO_L0 F f i k w h c m k' w' h' c' m' = ⟨true, .bool (eqMos (m.drop i) (m'.drop i)), []⟩
  | n, 0, i, _, h => by omega
  | 0, f + 1, i, hi, _ => by
    rw [sameO_L0_succ, ltF (by omega), drop_len m (by omega), drop_len m' (by omega)]; rfl
  | n + 1, f + 1, i, hi, hf => by
    have ih := sameO_L0_spec F k w h c m k' w' h' c' m' hx he n f (i + 1) (by omega) (by omega)
    rw [sameO_L0_succ, ltT (show i < m.length by omega), ltT (show i < m'.length by omega), nnT, wrapS (show i < 9223372036854775807 by omega), ih, drop_nth m0 m (show i < m.length by omega), drop_nth m0 m' (show i < m'.length by omega), Int.toNat_natCast]
    have e0 : ∀ l, nth (0, 0, 0, false) l i = nth m0 l i := fun _ => rfl
    simp only [e0, Bool.and_self, cond_true, eqMos, eqMo, Bool.and_true]
    by_cases e1 : (nth m0 m i).1 = (nth m0 m' i).1 <;> by_cases e2 : (nth m0 m i).2.1 = (nth m0 m' i).2.1 <;> by_cases e3 : (nth m0 m i).2.2.1 = (nth m0 m' i).2.2.1 <;> by_cases e4 : (nth m0 m i).2.2.2 = (nth m0 m' i).2.2.2 <;> simp [e1, e2, e3, e4]
theorem sameO_ret (z : Organ2) (h : sameOOk z = true) : Ret sameO_re sameO_R (sameO_run (sameOFu z) z) (sameOM z) := by
  obtain ⟨k, w, hh, c, m, k', w', h', c', m'⟩ := z
  simp only [sameOOk, decide_eq_true_eq] at h
  refine Ret.of ((sameO_arg ..).trans ((sameO_eq ..).trans ?_)) (Ret.bool _)
  have ok : sameIOk (c, c') = true := by simp only [sameIOk, decide_eq_true_eq]; exact ⟨h.1, h.2.1⟩
  simp only [sameOM, beq_ne, ok, cond_true, sameIM, Int.natCast_inj]
  by_cases e1 : k = k'
  · by_cases e2 : w = w'
    · by_cases e3 : hh = h'
      · cases eqL c c' with
        | false => simp [e1, e2, e3]
        | true =>
          by_cases e4 : m.length = m'.length
          · have a := sameO_L0_spec (m.length + 1) k w hh c m k' w' h' c' m' h.2.2 e4.symm m.length (m.length + 1) 0 (by omega) (by omega)
            rw [List.drop_zero, List.drop_zero] at a
            simp only [e1, e2, e3, e4, decide_true, Bool.not_true, cond_false, Bool.true_and, Bool.not_false]
            rw [e1, e2, e3] at a
            rw [show sameOFu (k', w', h', c, m, k', w', h', c', m') = m.length + 1 from rfl]
            exact a
          · simp [e1, e2, e3, e4]
      · simp [e1, e2, e3]
    · simp [e1, e2]
  · simp [e1]
/-! ### may two neighbours be neighbours -/
def besideT (s t : Int × Int) (d : Int) : Bool := decide (s.1 + dX d = t.1) && decide (s.2 + dY d = t.2)
def nearMo (ps : List Part) (i k : Int) (s t : Int × Int) : Bool := (decide (s.1 = (cellM ps i k).1) && decide (s.2 = (cellM ps i k).2)) && besideT s t (moAt ps i k).2.2.1
abbrev PMap := List ((Int × Int) × Int)
def atM (m : PMap) (s : Int × Int) : Int := getM K2 (0 : Int) m (s : Int × Int)
def mayEnd (ps : List Part) (x : Int × Int × Int) (a nt : Int) (s t : Int × Int) : Bool := decide (x.1 = a) && (decide (nt = x.2.2) && nearMo ps x.1 x.2.1 s t)
theorem may1_L0_round (F f j : Nat) (hj : j < 2) (ps : List Part) (ls : List Lead) (ow no : PMap) (a x1 x2 x3 y1 y2 y3 : Int) (s t : Int × Int) (p m q : Int) (hn : nth c0 [(x1, x2, x3), (y1, y2, y3)] j = (p, m, q)) (hg : goodMo ps p m = true) (hs : 0 ≤ s.1 ∧ s.1 < 1000 ∧ 0 ≤ s.2 ∧ s.2 < 1000) :
    may1_L0 F (f + 1) a x1 x2 x3 y1 y2 y3 j ow no ps ls s.1 s.2 t.1 t.2 = bif mayEnd ps (p, m, q) a (atM no t) s t then ⟨true, .bool true, []⟩ else may1_L0 F f a x1 x2 x3 y1 y2 y3 ((j + 1 : Nat) : Int) ow no ps ls s.1 s.2 t.1 t.2 := by
  have hg' := hg
  simp only [goodMo, Bool.and_eq_true] at hg'
  obtain ⟨hm, ht⟩ := hg'
  obtain ⟨h1, h2, h3, h4⟩ := of_decide_eq_true hm
  simp only [mos] at h4
  simp only [tinies, tiny, Bool.and_eq_true, decide_eq_true_eq] at ht
  have e1 : ∀ i, nth (0, 0, 0, [], [], 0, 0) ps (Int.toNat i) = partAt ps i := fun _ => rfl
  have e2 : nth (0, 0, 0, false) (partAt ps p).2.2.2.2.1 m.toNat = moAt ps p m := rfl
  have e3 : nth (0, 0, 0) [(x1, x2, x3), (y1, y2, y3)] j = (p, m, q) := hn
  have e4 : getM (CK.pair (CK.int IntKind.i64) (CK.int IntKind.i64)) 0 no ((t.1, t.2) : Int × Int) = atM no t := rfl
  rw [may1_L0_succ, wrapS (show j < 9223372036854775807 by omega), nnT, Int.toNat_natCast, show decide ((j : Int) < 2) = true from decide_eq_true (by omega)]
  rw [e3, e4]
  simp only [e1, e2, h1, h2, h3, h4, decide_true, Bool.and_self, cond_true, mayEnd]
  by_cases c1 : p = a
  · subst c1
    simp only [decide_true, cond_true, Bool.true_and, h1, h2, Bool.and_self]
    by_cases c2 : atM no t = q
    · simp only [c2, decide_true, cond_true, Bool.true_and]
      rw [wrap_id (by omega) (by omega), wrap_id (by omega) (by omega), beside_tiny ⟨hs.1, hs.2.1⟩ ⟨hs.2.2.1, hs.2.2.2⟩, show (partAt ps p).2.2.2.2.2.1 + (moAt ps p m).1 = (cellM ps p m).1 from rfl, show (partAt ps p).2.2.2.2.2.2 + (moAt ps p m).2.1 = (cellM ps p m).2 from rfl]
      simp only [besideOk, ht, and_self, decide_true, cond_true, nearMo, besideT, Bool.and_true]
      have em : ∀ (b : Bool), b = true ∨ b = false := fun b => by cases b <;> simp
      rcases em (decide (s.1 = (cellM ps p m).1)) with d1 | d1 <;> rcases em (decide (s.2 = (cellM ps p m).2)) with d2 | d2 <;> rcases em (decide (s.1 + dX (moAt ps p m).2.2.1 = t.1)) with d3 | d3 <;> rcases em (decide (s.2 + dY (moAt ps p m).2.2.1 = t.2)) with d4 | d4 <;>
        simp only [d1, d2, d3, d4, Bool.and_self, Bool.and_false, Bool.false_and, cond_true, cond_false]
    · simp only [c2, decide_false, cond_false, Bool.false_and]
  · simp only [c1, decide_false, cond_false, Bool.false_and]
theorem may1_L0_end (F f : Nat) (ps : List Part) (ls : List Lead) (ow no : PMap) (a x1 x2 x3 y1 y2 y3 : Int) (s t : Int × Int) : may1_L0 F (f + 1) a x1 x2 x3 y1 y2 y3 ((2 : Nat) : Int) ow no ps ls s.1 s.2 t.1 t.2 = ⟨true, .bool false, []⟩ := by
  rw [may1_L0_succ]; rfl
/-- s lies in the part a, t in the path of a lead. -/
def mayPL (ps : List Part) (l : Lead) (a nt : Int) (s t : Int × Int) : Bool := mayEnd ps (l.1, l.2.1, 0) a nt s t || mayEnd ps (l.2.2.1, l.2.2.2.1, (l.2.2.2.2.length : Int) - 1) a nt s t
abbrev MayK := PMap × PMap × List Part × List Lead × Int × Int × Int × Int × Int × Int
def tinyP (s : Int × Int) : Bool := decide (0 ≤ s.1 ∧ s.1 < 1000 ∧ 0 ≤ s.2 ∧ s.2 < 1000)
/-- A lead of a rig that has passed. -/
def leadGood (ps : List Part) (l : Lead) : Bool := decide (1 ≤ l.2.2.2.2.length ∧ l.2.2.2.2.length ≤ 576) && (goodMo ps l.1 l.2.1 && goodMo ps l.2.2.1 l.2.2.2.1)
def smallNo (x : Int) : Bool := decide (0 ≤ x ∧ x < 1000000)
def mayB (ps : List Part) (ls : List Lead) (no : PMap) (s : Int × Int) (a : Int) (t : Int × Int) (b : Int) : Bool :=
  bif decide (a < 1000) then (bif decide (b < 1000) then decide (a = b) else mayPL ps (nth l0 ls (b - 1000).toNat) a (atM no t) s t)
  else bif decide (b < 1000) then mayPL ps (nth l0 ls (a - 1000).toNat) b (atM no s) t s
  else decide (a = b) && (decide (atM no s - atM no t = 1) || decide (atM no t - atM no s = 1))
def mayBase (ps : List Part) (ls : List Lead) (no : PMap) (s : Int × Int) (a : Int) (t : Int × Int) (b : Int) : Bool :=
  tinyP s && (tinyP t && (smallNo (atM no s) && (smallNo (atM no t) && (decide (0 ≤ a ∧ a < 1000 + ls.length ∧ 0 ≤ b ∧ b < 1000 + ls.length ∧ ls.length < 100000) && ls.all (leadGood ps)))))
def may1Ok : MayK → Bool := fun (_, no, ps, ls, sx, sy, a, tx, ty, b) => mayBase ps ls no (sx, sy) a (tx, ty) b && (decide (a < 1000) || decide (b ≥ 1000))
def may1M : MayK → Bool := fun (_, no, ps, ls, sx, sy, a, tx, ty, b) => mayB ps ls no (sx, sy) a (tx, ty) b
def may1Fu : MayK → Nat := fun _ => 3
theorem may1_L0_law (F f : Nat) (ps : List Part) (ls : List Lead) (ow no : PMap) (a : Int) (l : Lead) (hl : leadGood ps l = true) (s t : Int × Int) (hs : tinyP s = true) :
    may1_L0 F (f + 3) a l.1 l.2.1 0 l.2.2.1 l.2.2.2.1 (IntKind.wrap IntKind.i64 ((l.2.2.2.2.length : Int) - 1)) 0 ow no ps ls s.1 s.2 t.1 t.2 = ⟨true, .bool (mayPL ps l a (atM no t) s t), []⟩ := by
  simp only [leadGood, Bool.and_eq_true, decide_eq_true_eq] at hl
  have hs' := of_decide_eq_true hs
  rw [wrap_id (n := (l.2.2.2.2.length : Int) - 1) (by omega) (by omega)]
  have r0 := may1_L0_round F (f + 2) 0 (by omega) ps ls ow no a l.1 l.2.1 0 l.2.2.1 l.2.2.2.1 ((l.2.2.2.2.length : Int) - 1) s t l.1 l.2.1 0 rfl hl.2.1 hs'
  have r1 := may1_L0_round F (f + 1) 1 (by omega) ps ls ow no a l.1 l.2.1 0 l.2.2.1 l.2.2.2.1 ((l.2.2.2.2.length : Int) - 1) s t l.2.2.1 l.2.2.2.1 ((l.2.2.2.2.length : Int) - 1) rfl hl.2.2 hs'
  have r2 := may1_L0_end F f ps ls ow no a l.1 l.2.1 0 l.2.2.1 l.2.2.2.1 ((l.2.2.2.2.length : Int) - 1) s t
  rw [show (0 : Int) = ((0 : Nat) : Int) from rfl]
  rw [show ((0 : Nat) : Int) = 0 from rfl] at r0 ⊢
  rw [r0, r1, r2]
  simp only [mayPL]
  cases mayEnd ps (l.1, l.2.1, 0) a (atM no t) s t <;> cases mayEnd ps (l.2.2.1, l.2.2.2.1, (l.2.2.2.2.length : Int) - 1) a (atM no t) s t <;> rfl
theorem may1_ret (z : MayK) (h : may1Ok z = true) : Ret may1_re may1_R (may1_run (may1Fu z) z) (may1M z) := by
  obtain ⟨ow, no, ps, ls, sx, sy, a, tx, ty, b⟩ := z
  simp only [may1Ok, mayBase, Bool.and_eq_true, Bool.or_eq_true] at h
  obtain ⟨⟨hs, ht, n1, n2, hab, hl⟩, hor⟩ := h
  have hab := of_decide_eq_true hab
  have n1 := of_decide_eq_true n1
  have n2 := of_decide_eq_true n2
  refine Ret.of ((may1_arg ..).trans ((may1_eq ..).trans ?_)) (Ret.bool _)
  simp only [may1_S1, may1_S2, may1M, mayB]
  rw [show getM (CK.pair (CK.int IntKind.i64) (CK.int IntKind.i64)) 0 no ((sx, sy) : Int × Int) = atM no (sx, sy) from rfl, show getM (CK.pair (CK.int IntKind.i64) (CK.int IntKind.i64)) 0 no ((tx, ty) : Int × Int) = atM no (tx, ty) from rfl]
  by_cases ha : a < 1000
  · by_cases hb : b < 1000
    · simp [ha, hb]
    · have hi : (b - 1000).toNat < ls.length := by omega
      have hg := all_nth l0 hl hi
      have law := may1_L0_law 3 0 ps ls ow no a (nth l0 ls (b - 1000).toNat) hg (sx, sy) (tx, ty) hs
      rw [wrap_id (n := b - 1000) (by omega) (by omega)]
      simp only [ha, hb, show ¬ a ≥ 1000 by omega, decide_true, decide_false, cond_true, cond_false, show (0 : Int) ≤ b - 1000 by omega, show b - 1000 < (ls.length : Int) by omega, Bool.and_self]
      exact law
  · have hb : ¬ b < 1000 := by
      rcases hor with h | h
      · exact absurd (of_decide_eq_true h) ha
      · have := of_decide_eq_true h; omega
    rw [wrap_id (n := atM no (sx, sy) - atM no (tx, ty)) (by omega) (by omega), wrap_id (n := atM no (tx, ty) - atM no (sx, sy)) (by omega) (by omega)]
    simp only [ha, hb, show a ≥ 1000 by omega, show b ≥ 1000 by omega, decide_true, decide_false, cond_true, cond_false]
    by_cases e1 : a = b
    · by_cases e2 : atM no (sx, sy) - atM no (tx, ty) = 1 <;> simp [e1, e2]
    · simp [e1]
end Go.Proofs.Ytknkkaimbhojpaa

open Go Go.Abs Go.Proofs
set_option linter.unusedVariables false
namespace Go.Proofs.Ytknkkaimbhojpaa
noncomputable def tbOHL_1 : FuncId → List AV → List Blk → Res := addC 17 (tspec partTiles_sh partTiles_K partTiles_re partTiles_R partTilesOk partTilesM) tbOH
theorem tabOHL_1 : Tab Try.prog tbOHL_1 cxMd tbKOH := Tab.addTy tabOH tabOH (KK := partTiles_K) (R := partTiles_R) (fn := Try.f17) (by kernel_rfl) (by kernel_rfl) (by kernel_rfl) (by kernel_rfl) _ partTilesFu partTiles_ret
noncomputable def tbOHL_2 : FuncId → List AV → List Blk → Res := addC 18 (tspec leadTiles_sh leadTiles_K leadTiles_re leadTiles_R leadTilesOk leadTilesM) tbOHL_1
theorem tabOHL_2 : Tab Try.prog tbOHL_2 cxMd tbKOH := Tab.addTy tabOHL_1 tabOH (KK := leadTiles_K) (R := leadTiles_R) (fn := Try.f18) (by kernel_rfl) (by kernel_rfl) (by kernel_rfl) (by kernel_rfl) _ leadTilesFu leadTiles_ret
noncomputable def tbOHL_3 : FuncId → List AV → List Blk → Res := addC 19 (tspec rAround_sh rAround_K rAround_re rAround_R rAroundOk rAroundM) tbOHL_2
theorem tabOHL_3 : Tab Try.prog tbOHL_3 cxMd tbKOH := Tab.addTy tabOHL_2 tabOH (KK := rAround_K) (R := rAround_R) (fn := Try.f19) (by kernel_rfl) (by kernel_rfl) (by kernel_rfl) (by kernel_rfl) _ rAroundFu rAround_ret
noncomputable def tbOHL_4 : FuncId → List AV → List Blk → Res := addC 49 (tspec rLed_sh rLed_K rLed_re rLed_R rLedOk rLedM) tbOHL_3
theorem tabOHL_4 : Tab Try.prog tbOHL_4 cxMd tbKOH := Tab.addTy tabOHL_3 tabOH (KK := rLed_K) (R := rLed_R) (fn := Try.f49) (by kernel_rfl) (by kernel_rfl) (by kernel_rfl) (by kernel_rfl) _ rLedFu rLed_ret
noncomputable def tbOHL_5 : FuncId → List AV → List Blk → Res := addC 55 (tspec may1_sh may1_K may1_re may1_R may1Ok may1M) tbOHL_4
theorem tabOHL_5 : Tab Try.prog tbOHL_5 cxMd tbKOH := Tab.addTy tabOHL_4 tabOH (KK := may1_K) (R := may1_R) (fn := Try.f55) (by kernel_rfl) (by kernel_rfl) (by kernel_rfl) (by kernel_rfl) _ may1Fu may1_ret
noncomputable def tbOHL_6 : FuncId → List AV → List Blk → Res := addC 8 (tspec sameO_sh sameO_K sameO_re sameO_R sameOOk sameOM) tbOHL_5
theorem tabOHL_6 : Tab Try.prog tbOHL_6 cxMd tbKOH := Tab.addTy tabOHL_5 tabOH (KK := sameO_K) (R := sameO_R) (fn := Try.f8) (by kernel_rfl) (by kernel_rfl) (by kernel_rfl) (by kernel_rfl) _ sameOFu sameO_ret
noncomputable def tbOHB : FuncId → List AV → List Blk → Res := tbOHL_6
noncomputable def tbKOHB : KT := tbKOH
theorem tabOHB : Tab Try.prog tbOHB cxMd tbKOHB := tabOHL_6
end Go.Proofs.Ytknkkaimbhojpaa
