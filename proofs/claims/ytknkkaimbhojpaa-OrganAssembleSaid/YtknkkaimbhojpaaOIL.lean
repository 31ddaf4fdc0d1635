/- The law of 'may' whole: its call of itself is the one that is told already. -/
import Derived.Test.YtknkkaimbhojpaaOI
set_option linter.all false
set_option linter.unusedVariables false
set_option linter.unusedSimpArgs false
open Go Go.Abs Go.Proofs
set_option linter.unusedSimpArgs false
set_option linter.unusedVariables false
namespace Go.Proofs.Ytknkkaimbhojpaa
theorem may_L0_round (F f j : Nat) (hj : j < 2) (ps : List Part) (ls : List Lead) (ow no : PMap) (a x1 x2 x3 y1 y2 y3 : Int) (s t : Int × Int) (p m q : Int) (hn : nth c0 [(x1, x2, x3), (y1, y2, y3)] j = (p, m, q)) (hg : goodMo ps p m = true) (hs : 0 ≤ s.1 ∧ s.1 < 1000 ∧ 0 ≤ s.2 ∧ s.2 < 1000) :
    may_L0 F (f + 1) a x1 x2 x3 y1 y2 y3 j ow no ps ls s.1 s.2 t.1 t.2 = bif mayEnd ps (p, m, q) a (atM no t) s t then ⟨true, .bool true, []⟩ else may_L0 F f a x1 x2 x3 y1 y2 y3 ((j + 1 : Nat) : Int) ow no ps ls s.1 s.2 t.1 t.2 := by
  have hg' := hg
  simp only [goodMo, Bool.and_eq_true] at hg'
  obtain ⟨hm, ht⟩ := hg'
  obtain ⟨h1, h2, h3, h4⟩ := of_decide_eq_true hm
  simp only [mos] at h4
  simp only [tinies, tiny, Bool.and_eq_true, decide_eq_true_eq] at ht
  have e1 : ∀ i, nth (0, 0, 0, [], [], 0, 0) ps (Int.toNat i) = partAt ps i := fun _ => rfl
  have e2 : nth (0, 0, 0, false) (partAt ps p).2.2.2.2.1 m.toNat = moAt ps p m := rfl
  have e3 : nth (0, 0, 0) [(x1, x2, x3), (y1, y2, y3)] j = (p, m, q) := hn
  have e4 : getM (CK.pair (CK.int IntKind.i64) (CK.int IntKind.i64)) 0 no ((t.1, t.2) : Int × Int) = atM no t := rfl
  rw [may_L0_succ, wrapS (show j < 9223372036854775807 by omega), nnT, Int.toNat_natCast, show decide ((j : Int) < 2) = true from decide_eq_true (by omega)]
  rw [e3, e4]
  simp only [e1, e2, h1, h2, h3, h4, decide_true, Bool.and_self, cond_true, mayEnd]
  by_cases c1 : p = a
  · subst c1
    simp only [decide_true, cond_true, Bool.true_and, h1, h2, Bool.and_self]
    by_cases c2 : atM no t = q
    · simp only [c2, decide_true, cond_true, Bool.true_and]
      rw [wrap_id (by omega) (by omega), wrap_id (by omega) (by omega), beside_tiny ⟨hs.1, hs.2.1⟩ ⟨hs.2.2.1, hs.2.2.2⟩, show (partAt ps p).2.2.2.2.2.1 + (moAt ps p m).1 = (cellM ps p m).1 from rfl, show (partAt ps p).2.2.2.2.2.2 + (moAt ps p m).2.1 = (cellM ps p m).2 from rfl]
      simp only [besideOk, ht, and_self, decide_true, cond_true, nearMo, besideT, Bool.and_true]
      have em : ∀ (b : Bool), b = true ∨ b = false := fun b => by cases b <;> simp
      rcases em (decide (s.1 = (cellM ps p m).1)) with d1 | d1 <;> rcases em (decide (s.2 = (cellM ps p m).2)) with d2 | d2 <;> rcases em (decide (s.1 + dX (moAt ps p m).2.2.1 = t.1)) with d3 | d3 <;> rcases em (decide (s.2 + dY (moAt ps p m).2.2.1 = t.2)) with d4 | d4 <;>
        simp only [d1, d2, d3, d4, Bool.and_self, Bool.and_false, Bool.false_and, cond_true, cond_false]
    · simp only [c2, decide_false, cond_false, Bool.false_and]
  · simp only [c1, decide_false, cond_false, Bool.false_and]
theorem may_L0_end (F f : Nat) (ps : List Part) (ls : List Lead) (ow no : PMap) (a x1 x2 x3 y1 y2 y3 : Int) (s t : Int × Int) : may_L0 F (f + 1) a x1 x2 x3 y1 y2 y3 ((2 : Nat) : Int) ow no ps ls s.1 s.2 t.1 t.2 = ⟨true, .bool false, []⟩ := by
  rw [may_L0_succ]; rfl
theorem may_L0_law (F f : Nat) (ps : List Part) (ls : List Lead) (ow no : PMap) (a : Int) (l : Lead) (hl : leadGood ps l = true) (s t : Int × Int) (hs : tinyP s = true) :
    may_L0 F (f + 3) a l.1 l.2.1 0 l.2.2.1 l.2.2.2.1 (IntKind.wrap IntKind.i64 ((l.2.2.2.2.length : Int) - 1)) 0 ow no ps ls s.1 s.2 t.1 t.2 = ⟨true, .bool (mayPL ps l a (atM no t) s t), []⟩ := by
  simp only [leadGood, Bool.and_eq_true, decide_eq_true_eq] at hl
  have hs' := of_decide_eq_true hs
  rw [wrap_id (n := (l.2.2.2.2.length : Int) - 1) (by omega) (by omega)]
  have r0 := may_L0_round F (f + 2) 0 (by omega) ps ls ow no a l.1 l.2.1 0 l.2.2.1 l.2.2.2.1 ((l.2.2.2.2.length : Int) - 1) s t l.1 l.2.1 0 rfl hl.2.1 hs'
  have r1 := may_L0_round F (f + 1) 1 (by omega) ps ls ow no a l.1 l.2.1 0 l.2.2.1 l.2.2.2.1 ((l.2.2.2.2.length : Int) - 1) s t l.2.2.1 l.2.2.2.1 ((l.2.2.2.2.length : Int) - 1) rfl hl.2.2 hs'
  have r2 := may_L0_end F f ps ls ow no a l.1 l.2.1 0 l.2.2.1 l.2.2.2.1 ((l.2.2.2.2.length : Int) - 1) s t
  rw [show (0 : Int) = ((0 : Nat) : Int) from rfl]
  rw [show ((0 : Nat) : Int) = 0 from rfl] at r0 ⊢
  rw [r0, r1, r2]
  simp only [mayPL]
  cases mayEnd ps (l.1, l.2.1, 0) a (atM no t) s t <;> cases mayEnd ps (l.2.2.1, l.2.2.2.1, (l.2.2.2.2.length : Int) - 1) a (atM no t) s t <;> rfl
def mayOk : MayK → Bool := fun (_, no, ps, ls, sx, sy, a, tx, ty, b) => mayBase ps ls no (sx, sy) a (tx, ty) b
def mayM : MayK → Bool := fun (_, no, ps, ls, sx, sy, a, tx, ty, b) => mayB ps ls no (sx, sy) a (tx, ty) b
def mayFu : MayK → Nat := fun _ => 3
theorem mayBase_turn {ps : List Part} {ls : List Lead} {no : PMap} {s : Int × Int} {a : Int} {t : Int × Int} {b : Int} (h : mayBase ps ls no s a t b = true) : mayBase ps ls no t b s a = true := by
  simp only [mayBase, Bool.and_eq_true] at h ⊢
  obtain ⟨hs, ht, n1, n2, hab, hl⟩ := h
  have hab := of_decide_eq_true hab
  exact ⟨ht, hs, n2, n1, decide_eq_true (by omega), hl⟩
theorem may_ret (z : MayK) (h : mayOk z = true) : Ret may_re may_R (may_run (mayFu z) z) (mayM z) := by
  obtain ⟨ow, no, ps, ls, sx, sy, a, tx, ty, b⟩ := z
  have h0 := h
  simp only [mayOk, mayBase, Bool.and_eq_true] at h
  obtain ⟨hs, ht, n1, n2, hab, hl⟩ := h
  have hab := of_decide_eq_true hab
  have n1 := of_decide_eq_true n1
  have n2 := of_decide_eq_true n2
  refine Ret.of ((may_arg ..).trans ((may_eq ..).trans ?_)) (Ret.bool _)
  simp only [may_S1, may_S2, mayM, mayB]
  rw [show getM (CK.pair (CK.int IntKind.i64) (CK.int IntKind.i64)) 0 no ((sx, sy) : Int × Int) = atM no (sx, sy) from rfl, show getM (CK.pair (CK.int IntKind.i64) (CK.int IntKind.i64)) 0 no ((tx, ty) : Int × Int) = atM no (tx, ty) from rfl]
  by_cases ha : a < 1000
  · by_cases hb : b < 1000
    · simp [ha, hb]
    · have hi : (b - 1000).toNat < ls.length := by omega
      have hg := all_nth l0 hl hi
      have law := may_L0_law 3 0 ps ls ow no a (nth l0 ls (b - 1000).toNat) hg (sx, sy) (tx, ty) hs
      rw [wrap_id (n := b - 1000) (by omega) (by omega)]
      simp only [ha, hb, show ¬ a ≥ 1000 by omega, decide_true, decide_false, cond_true, cond_false, show (0 : Int) ≤ b - 1000 by omega, show b - 1000 < (ls.length : Int) by omega, Bool.and_self]
      exact law
  · by_cases hb : b < 1000
    · have ok : may1Ok (ow, no, ps, ls, tx, ty, b, sx, sy, a) = true := by
        show (mayBase ps ls no (tx, ty) b (sx, sy) a && (decide (b < 1000) || decide (a ≥ 1000))) = true
        rw [mayBase_turn h0, decide_eq_true hb]; rfl
      simp only [ha, hb, show a ≥ 1000 by omega, show ¬ b ≥ 1000 by omega, decide_true, decide_false, cond_true, cond_false, ok, may1M, mayB]
    · rw [wrap_id (n := atM no (sx, sy) - atM no (tx, ty)) (by omega) (by omega), wrap_id (n := atM no (tx, ty) - atM no (sx, sy)) (by omega) (by omega)]
      simp only [ha, hb, show a ≥ 1000 by omega, show b ≥ 1000 by omega, decide_true, decide_false, cond_true, cond_false]
      by_cases e1 : a = b
      · by_cases e2 : atM no (sx, sy) - atM no (tx, ty) = 1 <;> simp [e1, e2]
      · simp [e1]
/-! ### clash -/
def atCell (c : Int × Int) (x y : Int) : Bool := decide (x = c.1) && decide (y = c.2)
def jointA (ps : List Part) (l : Lead) (step part x y : Int) : Bool := decide (step = 0) && (decide (part = l.1) && atCell (cellM ps l.1 l.2.1) x y)
def jointZ (ps : List Part) (l : Lead) (step part x y : Int) : Bool := decide (step = (l.2.2.2.2.length : Int) - 1) && (decide (part = l.2.2.1) && atCell (cellM ps l.2.2.1 l.2.2.2.1) x y)
def jointB (ps : List Part) (l : Lead) (step part x y : Int) : Bool := jointA ps l step part x y || jointZ ps l step part x y
theorem em2 (b : Bool) : b = true ∨ b = false := by cases b <;> simp
abbrev ClashK := List Part × List Lead × Int × Int × Int × Int × Int × Int × Int × Int × Int × Int × Int × Int
theorem jointed_S1_law (ps : List Part) (ls : List Lead) (k : Int) (hg : leadGood ps (nth l0 ls k.toNat) = true) (x y part step : Int) : jointed_S1 ps ls x y part k step = ⟨true, .bool (jointZ ps (nth l0 ls k.toNat) step part x y), []⟩ := by
  simp only [leadGood, Bool.and_eq_true, decide_eq_true_eq] at hg
  simp only [jointed_S1]
  have e0 : nth (0, 0, 0, 0, []) ls k.toNat = nth l0 ls k.toNat := rfl
  rw [e0, wrap_id (n := ((nth l0 ls k.toNat).2.2.2.2.length : Int) - 1) (by omega) (by omega), show mCellM (ps, ls, (nth l0 ls k.toNat).2.2.1, (nth l0 ls k.toNat).2.2.2.1) = cellM ps (nth l0 ls k.toNat).2.2.1 (nth l0 ls k.toNat).2.2.2.1 from rfl]
  simp only [mCellOk, hg.2.2, cond_true, jointZ, atCell]
  rcases em2 (decide (step = ((nth l0 ls k.toNat).2.2.2.2.length : Int) - 1)) with d1 | d1 <;> rcases em2 (decide (part = (nth l0 ls k.toNat).2.2.1)) with d2 | d2 <;> rcases em2 (decide (x = (cellM ps (nth l0 ls k.toNat).2.2.1 (nth l0 ls k.toNat).2.2.2.1).1)) with d3 | d3 <;>
    simp only [d1, d2, d3, cond_true, cond_false, Bool.true_and, Bool.false_and, Bool.not_false, Bool.and_false]
theorem jointed_S2_law (ps : List Part) (ls : List Lead) (k : Int) (hg : leadGood ps (nth l0 ls k.toNat) = true) (x y part step : Int) : jointed_S2 ps ls k step x y part = ⟨true, .bool (jointZ ps (nth l0 ls k.toNat) step part x y), []⟩ := by
  simp only [leadGood, Bool.and_eq_true, decide_eq_true_eq] at hg
  simp only [jointed_S2]
  have e0 : nth (0, 0, 0, 0, []) ls k.toNat = nth l0 ls k.toNat := rfl
  rw [e0, wrap_id (n := ((nth l0 ls k.toNat).2.2.2.2.length : Int) - 1) (by omega) (by omega), show mCellM (ps, ls, (nth l0 ls k.toNat).2.2.1, (nth l0 ls k.toNat).2.2.2.1) = cellM ps (nth l0 ls k.toNat).2.2.1 (nth l0 ls k.toNat).2.2.2.1 from rfl]
  simp only [mCellOk, hg.2.2, cond_true, jointZ, atCell]
  rcases em2 (decide (step = ((nth l0 ls k.toNat).2.2.2.2.length : Int) - 1)) with d1 | d1 <;> rcases em2 (decide (part = (nth l0 ls k.toNat).2.2.1)) with d2 | d2 <;> rcases em2 (decide (x = (cellM ps (nth l0 ls k.toNat).2.2.1 (nth l0 ls k.toNat).2.2.2.1).1)) with d3 | d3 <;>
    simp only [d1, d2, d3, cond_true, cond_false, Bool.true_and, Bool.false_and, Bool.not_false, Bool.and_false]
def jointedOk : ClashK → Bool := fun (ps, ls, _, _, _, k, _, _, _, _, _, k', _, _) => decide ((k < 0 ∧ 0 ≤ k' ∧ k' < ls.length) ∨ (0 ≤ k ∧ k < ls.length ∧ k' < 0)) && ls.all (leadGood ps)
def jointedM : ClashK → Bool := fun (ps, ls, x, y, p, k, s, _, x', y', p', k', s', _) => bif decide (k < 0) then jointB ps (nth l0 ls k'.toNat) s' p x y else jointB ps (nth l0 ls k.toNat) s p' x' y'
def jointedFu : ClashK → Nat := fun _ => 1
theorem jointed_ret (z : ClashK) (hz : jointedOk z = true) : Ret jointed_re jointed_R (jointed_run (jointedFu z) z) (jointedM z) := by
  obtain ⟨ps, ls, x, y, p, k, s, st, x', y', p', k', s', st'⟩ := z
  simp only [jointedOk, Bool.and_eq_true] at hz
  obtain ⟨h, hl⟩ := hz
  have h := of_decide_eq_true h
  refine Ret.of ((jointed_arg ..).trans ((jointed_eq ..).trans ?_)) (Ret.bool _)
  simp only [jointedM]
  rcases h with ⟨h1, h2, h3⟩ | ⟨h1, h2, h3⟩
  · have hg := all_nth l0 hl (i := k'.toNat) (by omega)
    rw [jointed_S1_law ps ls k' hg, decide_eq_true h1]
    simp only [leadGood, Bool.and_eq_true, decide_eq_true_eq] at hg
    have e0 : nth (0, 0, 0, 0, []) ls k'.toNat = nth l0 ls k'.toNat := rfl
    rw [e0, show mCellM (ps, ls, (nth l0 ls k'.toNat).1, (nth l0 ls k'.toNat).2.1) = cellM ps (nth l0 ls k'.toNat).1 (nth l0 ls k'.toNat).2.1 from rfl]
    simp only [h2, h3, decide_true, Bool.and_self, cond_true, mCellOk, hg.2.1, jointB, jointA, atCell]
    rcases em2 (decide (s' = 0)) with d1 | d1 <;> rcases em2 (decide (p = (nth l0 ls k'.toNat).1)) with d2 | d2 <;> rcases em2 (decide (x = (cellM ps (nth l0 ls k'.toNat).1 (nth l0 ls k'.toNat).2.1).1)) with d3 | d3 <;> rcases em2 (decide (y = (cellM ps (nth l0 ls k'.toNat).1 (nth l0 ls k'.toNat).2.1).2)) with d4 | d4 <;>
      simp only [d1, d2, d3, d4, cond_true, cond_false, Bool.true_and, Bool.false_and, Bool.not_false, Bool.not_true, Bool.and_false, Bool.true_or, Bool.false_or, Bool.and_self]
  · have hg := all_nth l0 hl (i := k.toNat) (by omega)
    rw [jointed_S2_law ps ls k hg, decide_eq_false (show ¬ k < 0 by omega)]
    simp only [leadGood, Bool.and_eq_true, decide_eq_true_eq] at hg
    have e0 : nth (0, 0, 0, 0, []) ls k.toNat = nth l0 ls k.toNat := rfl
    rw [e0, show mCellM (ps, ls, (nth l0 ls k.toNat).1, (nth l0 ls k.toNat).2.1) = cellM ps (nth l0 ls k.toNat).1 (nth l0 ls k.toNat).2.1 from rfl]
    simp only [h1, h2, decide_true, Bool.and_self, cond_true, cond_false, mCellOk, hg.2.1, jointB, jointA, atCell]
    rcases em2 (decide (s = 0)) with d1 | d1 <;> rcases em2 (decide (p' = (nth l0 ls k.toNat).1)) with d2 | d2 <;> rcases em2 (decide (x' = (cellM ps (nth l0 ls k.toNat).1 (nth l0 ls k.toNat).2.1).1)) with d3 | d3 <;> rcases em2 (decide (y' = (cellM ps (nth l0 ls k.toNat).1 (nth l0 ls k.toNat).2.1).2)) with d4 | d4 <;>
      simp only [d1, d2, d3, d4, cond_true, cond_false, Bool.true_and, Bool.false_and, Bool.not_false, Bool.not_true, Bool.and_false, Bool.true_or, Bool.false_or, Bool.and_self]
end Go.Proofs.Ytknkkaimbhojpaa

open Go Go.Abs Go.Proofs
set_option linter.unusedVariables false
namespace Go.Proofs.Ytknkkaimbhojpaa
noncomputable def tbOIL_1 : FuncId → List AV → List Blk → Res := addC 66 (tspec jointed_sh jointed_K jointed_re jointed_R jointedOk jointedM) tbOI
theorem tabOIL_1 : Tab Try.prog tbOIL_1 cxMd tbKOI := Tab.addTy tabOI tabOI (KK := jointed_K) (R := jointed_R) (fn := Try.f66) (by kernel_rfl) (by kernel_rfl) (by kernel_rfl) (by kernel_rfl) _ jointedFu jointed_ret
noncomputable def tbOIL_2 : FuncId → List AV → List Blk → Res := addC 55 (tspec may_sh may_K may_re may_R mayOk mayM) tbOIL_1
theorem tabOIL_2 : Tab Try.prog tbOIL_2 cxMd tbKOI := Tab.addTy tabOIL_1 tabOI (KK := may_K) (R := may_R) (fn := Try.f55) (by kernel_rfl) (by kernel_rfl) (by kernel_rfl) (by kernel_rfl) _ mayFu may_ret
noncomputable def tbOIB : FuncId → List AV → List Blk → Res := tbOIL_2
noncomputable def tbKOIB : KT := tbKOI
theorem tabOIB : Tab Try.prog tbOIB cxMd tbKOIB := tabOIL_2
end Go.Proofs.Ytknkkaimbhojpaa
