/- The laws of leads: the document's pathFine, the program's checkLeads. -/
import Derived.Test.YtknkkaimbhojpaaOF
set_option linter.all false
set_option linter.unusedVariables false
set_option linter.unusedSimpArgs false
open Go Go.Abs Go.Proofs
set_option linter.unusedSimpArgs false
set_option linter.unusedVariables false
namespace Go.Proofs.Ytknkkaimbhojpaa
abbrev Ce := Int × Int × Int
abbrev c0 : Ce := (0, 0, 0)
def ceAt (l : List Ce) (i : Nat) : Ce := nth c0 l i
def inC (c : Ce) : Bool := decide (0 ≤ c.1 ∧ c.1 < 24 ∧ 0 ≤ c.2.1 ∧ c.2.1 < 24)
def sameC (b a : Ce) : Bool := decide (a.1 = b.1) && decide (a.2.1 = b.2.1)
def dirC (a b : Ce) : Int := dirOf a.1 a.2.1 b.1 b.2.1
def cOk (path : List Ce) (i : Nat) : Bool := inC (ceAt path i) && ((decide (i = 0) || decide (0 ≤ dirC (ceAt path (i - 1)) (ceAt path i))) && !((path.take i).any (sameC (ceAt path i))))
def pathR (path : List Ce) : Nat → Nat → Bool
  | 0, _ => true
  | k + 1, i => cOk path i && pathR path k (i + 1)
def atP (c : Ce) (p : Int × Int) : Bool := decide (c.1 = p.1) && decide (c.2.1 = p.2)
def endsB (s e : Int × Int) (path : List Ce) : Bool := atP (ceAt path 0) s && atP (ceAt path (path.length - 1)) e
def pathB (s e : Int × Int) (path : List Ce) : Bool := !decide (path.length = 0) && (pathR path path.length 0 && endsB s e path)
abbrev RigLead := List Part × List Lead × Int × Int × Int × Int × List Ce
def rPathOk : RigLead → Bool := fun (ps, _, a, b, c, d, path) => decide (path.length < 9223372036854775807) && (goodMo ps a b && goodMo ps c d)
def rPathM : RigLead → Bool := fun (ps, _, a, b, c, d, path) => pathB (outM ps a b) (outM ps c d) path
def rPathFu : RigLead → Nat := fun (_, _, _, _, _, _, path) => path.length + 1
theorem rPath_L1_spec (F m : Nat) (ps : List Part) (ls : List Lead) (a b c d : Int) (path : List Ce) (x : Ce) (i : Nat) (hx : path.length < 9223372036854775807) (hi : i < path.length) : ∀ (k f j : Nat), j + k = i → k < f →
    rPath_L1 F m f i j ps ls a b c d path x.1 x.2.1 x.2.2 = bif ((path.take i).drop j).any (sameC x) then ⟨true, .bool false, []⟩ else rPath_L0 F m ((i + 1 : Nat) : Int) ps ls a b c d path
  | k, 0, j, _, h => by omega
  | 0, f + 1, j, hj, _ => by
    rw [rPath_L1_succ, ltF (by omega), wrapS (show i < 9223372036854775807 by omega), drop_len (path.take i) (by simp; omega)]; rfl
  | k + 1, f + 1, j, hj, hf => by
    have ih := rPath_L1_spec F m ps ls a b c d path x i hx hi k f (j + 1) (by omega) (by omega)
    have hjl : j < (path.take i).length := by simp; omega
    rw [rPath_L1_succ, ltT (show j < i by omega), nnT, ltT (show j < path.length by omega), wrapS (show j < 9223372036854775807 by omega), ih, drop_nth c0 _ hjl, nth_take _ _ _ _ (by omega), Int.toNat_natCast]
    simp only [List.any_cons, sameC]
    generalize nth c0 path j = y
    obtain ⟨y1, y2, y3⟩ := y
    by_cases e1 : y1 = x.1 <;> by_cases e2 : y2 = x.2.1 <;> simp [e1, e2]
theorem last_wrap {n : Nat} (h : 0 < n) (h' : n < 9223372036854775807) : IntKind.wrap IntKind.i64 ((n : Int) - 1) = ((n - 1 : Nat) : Int) := by
  rw [wrap_id (by omega) (by omega)]; omega
theorem inC_small {c : Ce} (h : inC c = true) : sm c.1 = true ∧ sm c.2.1 = true := by
  simp only [inC, decide_eq_true_eq] at h
  simp only [sm, decide_eq_true_eq]
  omega
theorem rPath_L0_spec (F : Nat) (ps : List Part) (ls : List Lead) (a b c d : Int) (path : List Ce) (hx : path.length < 9223372036854775807) (h0 : 0 < path.length) (hF : path.length < F) (g1 : goodMo ps a b = true) (g2 : goodMo ps c d = true) : ∀ (k f i : Nat), i + k = path.length → k < f → (0 < i → inC (ceAt path (i - 1)) = true) →
    rPath_L0 F f i ps ls a b c d path = ⟨true, .bool (pathR path k i && endsB (outM ps a b) (outM ps c d) path), []⟩
  | k, 0, i, _, h, _ => by omega
  | 0, f + 1, i, hi, _, _ => by
    rw [rPath_L0_succ, ltF (by omega), last_wrap h0 hx, nnT, ltT (show path.length - 1 < path.length by omega), show decide (0 < (path.length : Int)) = true from decide_eq_true (by omega), Int.toNat_natCast]
    simp only [mOuterOk, mOuterM, g1, g2, cond_true, Bool.and_self, cond_false, pathR, Bool.true_and, endsB, atP, ceAt]
    have z0 : ∀ i, nth (0, 0, 0) path i = nth c0 path i := fun _ => rfl
    simp only [z0, Int.toNat_natCast, nnT, Bool.and_true, cond_true]
    by_cases e1 : (nth c0 path 0).1 = (outM ps a b).1 <;> by_cases e2 : (nth c0 path 0).2.1 = (outM ps a b).2 <;> by_cases e3 : (nth c0 path (path.length - 1)).1 = (outM ps c d).1 <;> simp [e1, e2, e3] <;> rfl
  | k + 1, f + 1, i, hi, hf, hp => by
    have hil : i < path.length := by omega
    have ih := rPath_L0_spec F ps ls a b c d path hx h0 hF g1 g2 k f (i + 1) (by omega) (by omega)
    have l1 := rPath_L1_spec F f ps ls a b c d path (ceAt path i) i hx hil i F 0 (by omega) (by omega)
    rw [List.drop_zero] at l1
    rw [rPath_L0_succ, ltT hil, nnT, Int.toNat_natCast]
    have e0 : nth (0, 0, 0) path i = ceAt path i := rfl
    simp only [e0]
    rw [show ((0 : Int)) = ((0 : Nat) : Int) from rfl, l1]
    simp only [pathR, cOk, inC]
    rw [show i + 1 - 1 = i from rfl] at ih
    by_cases q1 : (ceAt path i).1 < 0
    · simp [q1, show ¬ 0 ≤ (ceAt path i).1 by omega]
    by_cases q2 : (ceAt path i).2.1 < 0
    · simp [q1, q2, show ¬ 0 ≤ (ceAt path i).2.1 by omega]
    by_cases q3 : (ceAt path i).1 ≥ 24
    · simp [q1, q2, q3, show ¬ (ceAt path i).1 < 24 by omega]
    by_cases q4 : (ceAt path i).2.1 ≥ 24
    · simp [q1, q2, q3, q4, show ¬ (ceAt path i).2.1 < 24 by omega]
    have q : 0 ≤ (ceAt path i).1 ∧ (ceAt path i).1 < 24 ∧ 0 ≤ (ceAt path i).2.1 ∧ (ceAt path i).2.1 < 24 := by omega
    have hin : inC (ceAt path i) = true := by simp only [inC, decide_eq_true_eq]; exact q
    have ih' := ih (fun _ => hin)
    rw [ih']
    simp only [Int.natCast_zero, q1, q2, q3, q4, q, and_self, decide_true, decide_false, cond_false, cond_true, Bool.true_and, Bool.and_self]
    by_cases hi0 : i = 0
    · subst hi0
      simp
    · have hp' := inC_small (hp (by omega))
      have hs' := inC_small hin
      rw [show decide ((i : Int) > 0) = true from decide_eq_true (by omega), last_wrap (by omega) (by omega), nnT, ltT (show i - 1 < path.length by omega), Int.toNat_natCast]
      have e1 : nth (0, 0, 0) path (i - 1) = ceAt path (i - 1) := rfl
      simp only [e1, towardOk, hp'.1, hp'.2, hs'.1, hs'.2, Bool.and_self, cond_true, towardM, show ¬ i = 0 from hi0, decide_false, Bool.false_or, dirC]
      by_cases hr : dirOf (ceAt path (i - 1)).1 (ceAt path (i - 1)).2.1 (ceAt path i).1 (ceAt path i).2.1 < 0
      · simp [hr, show ¬ 0 ≤ dirOf (ceAt path (i - 1)).1 (ceAt path (i - 1)).2.1 (ceAt path i).1 (ceAt path i).2.1 by omega]
      · simp only [hr, show 0 ≤ dirOf (ceAt path (i - 1)).1 (ceAt path (i - 1)).2.1 (ceAt path i).1 (ceAt path i).2.1 by omega, decide_true, decide_false, cond_false, Bool.true_and]
        cases (path.take i).any (sameC (ceAt path i)) <;> simp
theorem rPath_ret (z : RigLead) (h : rPathOk z = true) : Ret rPath_re rPath_R (rPath_run (rPathFu z) z) (rPathM z) := by
  obtain ⟨ps, ls, a, b, c, d, path⟩ := z
  simp only [rPathOk, Bool.and_eq_true, decide_eq_true_eq] at h
  refine Ret.of ((rPath_arg ..).trans ((rPath_eq ..).trans ?_)) (Ret.bool _)
  rw [show rPathFu (ps, ls, a, b, c, d, path) = path.length + 1 from rfl]
  simp only [rPathM, pathB]
  by_cases h0 : path.length = 0
  · simp [h0]
  · have a := rPath_L0_spec (path.length + 1) ps ls a b c d path h.1 (by omega) (by omega) h.2.1 h.2.2 path.length (path.length + 1) 0 (by omega) (by omega) (fun h => by omega)
    rw [show ((0 : Int)) = ((0 : Nat) : Int) from rfl, a]
    simp [h0]
/-! ### checkLeads -/
abbrev K2 : CK := .pair (.int .i64) (.int .i64)
theorem eqK2 (a b a' b' : Int) : eqK K2 ((a, b) : Int × Int) ((a', b') : Int × Int) = (decide (a = a') && decide (b = b')) := rfl
theorem getM_ins2 (m : List ((Int × Int) × Bool)) (a b a' b' : Int) : getM K2 false (insM K2 m ((a, b) : Int × Int) true) ((a', b') : Int × Int) = ((decide (a' = a) && decide (b' = b)) || getM K2 false m ((a', b') : Int × Int)) := by
  have e := getM_insM (V := Bool) K2 rfl false m ((a, b) : Int × Int) true ((a', b') : Int × Int)
  refine e.trans ?_
  rw [eqK2]
  cases (decide (a' = a) && decide (b' = b)) <;> rfl
def Sn2 (seen : List ((Int × Int) × Bool)) (pre : List Ce) : Prop := ∀ a b : Int, getM K2 false seen ((a, b) : Int × Int) = pre.any (sameC (a, b, 0))
theorem Sn2.nil : Sn2 [] [] := fun _ _ => rfl
theorem Sn2.step {seen : List ((Int × Int) × Bool)} {pre : List Ce} (h : Sn2 seen pre) (c : Ce) : Sn2 (insM K2 seen ((c.1, c.2.1) : Int × Int) true) (pre ++ [c]) := fun a b => by
  refine (getM_ins2 seen c.1 c.2.1 a b).trans ?_
  rw [List.any_append, ← h a b]
  simp only [List.any_cons, List.any_nil, Bool.or_false, sameC]
  rw [show decide (c.1 = a) = decide (a = c.1) from decide_eq_decide.2 eq_comm, show decide (c.2.1 = b) = decide (b = c.2.1) from decide_eq_decide.2 eq_comm, Bool.or_comm]
def nilR : Res := ⟨true, .tup [.nilm, .bool false], []⟩
theorem sameC_2 (c : Ce) (pre : List Ce) : pre.any (sameC c) = pre.any (sameC (c.1, c.2.1, 0)) := rfl
theorem oLeads_L1_spec (F m : Nat) (ps : List Part) (ls : List Lead) (i : Nat) (h1 : List ((Int × Int) × Bool)) (a b c d : Int) (path : List Ce) (hx : path.length < 9223372036854775807) (hil : i < 9223372036854775807) (h0 : 0 < path.length) (g1 : goodMo ps a b = true) (g2 : goodMo ps c d = true) : ∀ (k n j : Nat) (seen : List ((Int × Int) × Bool)) (x y : Int), j + k = path.length → k < n → Sn2 seen (path.take j) → (0 < j → x = (ceAt path (j - 1)).1 ∧ y = (ceAt path (j - 1)).2.1 ∧ inC (ceAt path (j - 1)) = true) →
    oLeads_L1 F m n ls ls.length i path path.length j ps ls h1 a b c d path (moAt ps a b).1 (moAt ps a b).2.1 (moAt ps a b).2.2.1 (moAt ps a b).2.2.2 (moAt ps c d).1 (moAt ps c d).2.1 (moAt ps c d).2.2.1 (moAt ps c d).2.2.2 seen x y =
      bif pathR path k j && ((!decide (j = 0) || atP (ceAt path 0) (outM ps a b)) && atP (ceAt path (path.length - 1)) (outM ps c d)) then oLeads_L0 F m ls ls.length ((i + 1 : Nat) : Int) ps ls h1 else nilR
  | k, 0, j, _, _, _, _, h, _, _ => by omega
  | 0, n + 1, j, seen, x, y, hj, _, hs, hp => by
    obtain ⟨p1, p2, p3⟩ := hp (by omega)
    have hjl : j = path.length := by omega
    simp only [goodMo, Bool.and_eq_true] at g1 g2
    obtain ⟨q1, q2, q3, q4⟩ := of_decide_eq_true g2.1
    have eo : outerOfM ((nth (0, 0, 0, [], [], 0, 0) ps c.toNat).1, (nth (0, 0, 0, [], [], 0, 0) ps c.toNat).2.1, (nth (0, 0, 0, [], [], 0, 0) ps c.toNat).2.2.1, (nth (0, 0, 0, [], [], 0, 0) ps c.toNat).2.2.2.1, (nth (0, 0, 0, [], [], 0, 0) ps c.toNat).2.2.2.2.1, (nth (0, 0, 0, [], [], 0, 0) ps c.toNat).2.2.2.2.2.1, (nth (0, 0, 0, [], [], 0, 0) ps c.toNat).2.2.2.2.2.2, (moAt ps c d).1, (moAt ps c d).2.1, (moAt ps c d).2.2.1, (moAt ps c d).2.2.2) = outM ps c d := rfl
    rw [oLeads_L1_succ, ltF (by omega), wrapS (show i < 9223372036854775807 from hil), eo]
    have e1 : nth (0, 0, 0, [], [], 0, 0) ps c.toNat = partAt ps c := rfl
    simp only [e1, q1, q2, decide_true, Bool.and_self, cond_true, cond_false, outerOfOk, g2.2, pathR, Bool.true_and, show ¬ j = 0 by omega, decide_false, Bool.not_false, Bool.true_or, p1, p2, atP, hjl]
    by_cases t1 : (ceAt path (path.length - 1)).1 = (outM ps c d).1 <;> by_cases t2 : (ceAt path (path.length - 1)).2.1 = (outM ps c d).2 <;> simp [t1, t2, nilR, show ¬ path = [] from fun h => by simp [h] at h0]
  | k + 1, n + 1, j, seen, x, y, hj, hn, hs, hp => by
    have hjl : j < path.length := by omega
    have ht := take_nth c0 path hjl
    have hs' := hs.step (ceAt path j)
    rw [show path.take j ++ [ceAt path j] = path.take (j + 1) from ht.symm] at hs'
    have ih := oLeads_L1_spec F m ps ls i h1 a b c d path hx hil h0 g1 g2 k n (j + 1) _ (ceAt path j).1 (ceAt path j).2.1 (by omega) (by omega) hs'
    have hg : getM (CK.pair (CK.int IntKind.i64) (CK.int IntKind.i64)) false seen (((ceAt path j).1, (ceAt path j).2.1) : Int × Int) = (path.take j).any (sameC (ceAt path j)) := hs _ _
    simp only [goodMo, Bool.and_eq_true] at g1 g2
    obtain ⟨q1, q2, q3, q4⟩ := of_decide_eq_true g1.1
    have eo : outerOfM ((nth (0, 0, 0, [], [], 0, 0) ps a.toNat).1, (nth (0, 0, 0, [], [], 0, 0) ps a.toNat).2.1, (nth (0, 0, 0, [], [], 0, 0) ps a.toNat).2.2.1, (nth (0, 0, 0, [], [], 0, 0) ps a.toNat).2.2.2.1, (nth (0, 0, 0, [], [], 0, 0) ps a.toNat).2.2.2.2.1, (nth (0, 0, 0, [], [], 0, 0) ps a.toNat).2.2.2.2.2.1, (nth (0, 0, 0, [], [], 0, 0) ps a.toNat).2.2.2.2.2.2, (moAt ps a b).1, (moAt ps a b).2.1, (moAt ps a b).2.2.1, (moAt ps a b).2.2.2) = outM ps a b := rfl
    rw [oLeads_L1_succ, ltT hjl, nnT, wrapS (show j < 9223372036854775807 by omega), Int.toNat_natCast, eo]
    have e0 : nth (0, 0, 0) path j = ceAt path j := rfl
    have e1 : nth (0, 0, 0, [], [], 0, 0) ps a.toNat = partAt ps a := rfl
    simp only [e0, e1, hg, pathR, cOk, inC]
    by_cases r1 : (ceAt path j).1 < 0
    · simp [r1, nilR, show ¬ 0 ≤ (ceAt path j).1 by omega]
    by_cases r3 : (ceAt path j).1 ≥ 24
    · simp [r1, r3, nilR, show ¬ (ceAt path j).1 < 24 by omega]
    by_cases r2 : (ceAt path j).2.1 < 0
    · simp [r1, r2, r3, nilR, show ¬ 0 ≤ (ceAt path j).2.1 by omega]
    by_cases r4 : (ceAt path j).2.1 ≥ 24
    · simp [r1, r2, r3, r4, nilR, show ¬ (ceAt path j).2.1 < 24 by omega]
    have q : 0 ≤ (ceAt path j).1 ∧ (ceAt path j).1 < 24 ∧ 0 ≤ (ceAt path j).2.1 ∧ (ceAt path j).2.1 < 24 := by omega
    have hin : inC (ceAt path j) = true := by simp only [inC, decide_eq_true_eq]; exact q
    have ih' := ih (fun _ => ⟨rfl, rfl, hin⟩)
    simp only [r1, r2, r3, r4, q, and_self, decide_true, decide_false, cond_false, cond_true, Bool.true_and, Bool.and_self]
    cases (path.take j).any (sameC (ceAt path j)) with
    | true => simp [nilR]
    | false =>
      simp only [cond_false, Bool.not_false, Bool.and_true]
      by_cases hj0 : j = 0
      · subst hj0
        simp only [Int.natCast_zero, decide_true, cond_true, q1, q2, Bool.and_self, outerOfOk, g1.2, show ¬ (0 : Int) > 0 by omega, decide_false, cond_false, Bool.true_or, Bool.not_true, Bool.false_or, Bool.true_and]
        by_cases t1 : (ceAt path 0).1 = (outM ps a b).1
        · by_cases t2 : (ceAt path 0).2.1 = (outM ps a b).2
          · simp only [t1, t2, atP, decide_true, Bool.and_self, Bool.not_true, cond_false, Bool.true_and]
            refine Eq.trans (?_ : _ = _) (ih'.trans ?_)
            · rw [t1, t2]
            · simp [atP]
          · simp [t1, t2, atP, nilR]
        · simp [t1, atP, nilR]
      · obtain ⟨p1, p2, p3⟩ := hp (by omega)
        have hp' := inC_small p3
        have hs' := inC_small hin
        simp only [show ¬ ((j : Int) = 0) by omega, show ((j : Int) > 0) by omega, hj0, decide_true, decide_false, cond_false, cond_true, Bool.not_false, Bool.true_or, Bool.false_or, Bool.true_and, p1, p2, towardsOk, hp'.1, hp'.2, hs'.1, hs'.2, Bool.and_self, towardsM, dirC]
        by_cases hr : dirOf (ceAt path (j - 1)).1 (ceAt path (j - 1)).2.1 (ceAt path j).1 (ceAt path j).2.1 < 0
        · simp [hr, nilR, show ¬ 0 ≤ dirOf (ceAt path (j - 1)).1 (ceAt path (j - 1)).2.1 (ceAt path j).1 (ceAt path j).2.1 by omega]
        · simp only [hr, show 0 ≤ dirOf (ceAt path (j - 1)).1 (ceAt path (j - 1)).2.1 (ceAt path j).1 (ceAt path j).2.1 by omega, decide_true, decide_false, cond_false, Bool.true_and]
          refine Eq.trans (?_ : _ = _) (ih'.trans ?_)
          · rfl
          · simp
def isMo (ps : List Part) (i k : Int) (o : Bool) : Bool := hasMo ps i k && decide ((moAt ps i k).2.2.2 = o)
def endAt (a b : Int) (m : Lead) : Bool := (decide (m.1 = a) && decide (m.2.1 = b)) || (decide (m.2.2.1 = a) && decide (m.2.2.2.1 = b))
def leadB (ps : List Part) (pre : List Lead) (l : Lead) : Bool :=
  isMo ps l.1 l.2.1 true && (isMo ps l.2.2.1 l.2.2.2.1 false && (!(pre.any (endAt l.1 l.2.1)) && (!(pre.any (endAt l.2.2.1 l.2.2.2.1)) && pathB (outM ps l.1 l.2.1) (outM ps l.2.2.1 l.2.2.2.1) l.2.2.2.2)))
def leadsB (ps : List Part) : List Lead → List Lead → Bool
  | _, [] => true
  | pre, l :: r => leadB ps pre l && leadsB ps (pre ++ [l]) r
abbrev LMap := List ((Int × Int) × Bool)
def ledAdd (h : LMap) (l : Lead) : LMap := insM K2 (insM K2 h ((l.1, l.2.1) : Int × Int) true) ((l.2.2.1, l.2.2.2.1) : Int × Int) true
def Ld (h : LMap) (pre : List Lead) : Prop := ∀ a b : Int, getM K2 false h ((a, b) : Int × Int) = pre.any (endAt a b)
theorem Ld.nil : Ld [] [] := fun _ _ => rfl
theorem Ld.step {h : LMap} {pre : List Lead} (hl : Ld h pre) (l : Lead) : Ld (ledAdd h l) (pre ++ [l]) := fun a b => by
  refine (getM_ins2 _ l.2.2.1 l.2.2.2.1 a b).trans ?_
  have e := getM_ins2 h l.1 l.2.1 a b
  rw [show getM K2 false (insM K2 h ((l.1, l.2.1) : Int × Int) true) ((a, b) : Int × Int) = _ from e, List.any_append, ← hl a b]
  simp only [List.any_cons, List.any_nil, Bool.or_false, endAt]
  rw [show decide (l.1 = a) = decide (a = l.1) from decide_eq_decide.2 eq_comm, show decide (l.2.1 = b) = decide (b = l.2.1) from decide_eq_decide.2 eq_comm, show decide (l.2.2.1 = a) = decide (a = l.2.2.1) from decide_eq_decide.2 eq_comm, show decide (l.2.2.2.1 = b) = decide (b = l.2.2.2.1) from decide_eq_decide.2 eq_comm]
  cases (decide (a = l.1) && decide (b = l.2.1)) <;> cases (decide (a = l.2.2.1) && decide (b = l.2.2.2.1)) <;> cases getM K2 false h ((a, b) : Int × Int) <;> rfl
/-! ### a rig's mouths are small -/
theorem fitsAll_mouth {kind w h : Int} {cells : List Int} {ms : List Mo} : ∀ (pre l : List Mo), fitsAll kind w h cells ms pre l = true → ∀ m ∈ l, mouthP kind w h cells ms m = true
  | _, [], _, m, hm => by simp at hm
  | pre, x :: l, hf, m, hm => by
    simp only [fitsAll, Bool.and_eq_true, fitB] at hf
    rcases List.mem_cons.1 hm with rfl | hm
    · exact hf.1.1
    · exact fitsAll_mouth _ l hf.2 m hm
theorem good_of {ps : List Part} (hp : partsB ps = true) {i k : Int} (hh : hasMo ps i k = true) : goodMo ps i k = true := by
  simp only [goodMo, hh, Bool.true_and]
  obtain ⟨h1, h2, h3, h4⟩ := of_decide_eq_true hh
  simp only [partsB, Bool.and_eq_true] at hp
  have hq := all_nth p0 hp.2 (i := i.toNat) (by omega)
  rw [show nth p0 ps i.toNat = partAt ps i from rfl] at hq
  simp only [partOk, Bool.and_eq_true] at hq
  have hxy := of_decide_eq_true hq.1
  have hM := of_decide_eq_true hq.2.1
  have hm : mouthP (partAt ps i).1 (partAt ps i).2.1 (partAt ps i).2.2.1 (partAt ps i).2.2.2.1 (mos (partAt ps i)) (moAt ps i k) = true ∧ shapeB (partAt ps i).1 (partAt ps i).2.1 (partAt ps i).2.2.1 (partAt ps i).2.2.2.1 = true := by
    simp only [organM, organOf] at hM
    cases hb : organB (partAt ps i).1 (partAt ps i).2.1 (partAt ps i).2.2.1 (partAt ps i).2.2.2.1 (partAt ps i).2.2.2.2.1 with
    | false => rw [hb] at hM; simp at hM
    | true =>
      simp only [organB, Bool.and_eq_true] at hb
      refine ⟨fitsAll_mouth _ _ hb.2.2.1 _ ?_, hb.1⟩
      have hk : k.toNat < (mos (partAt ps i)).length := by omega
      show nth m0 (mos (partAt ps i)) k.toNat ∈ mos (partAt ps i)
      rw [nth_lt _ _ _ hk]
      exact List.getElem_mem hk
  obtain ⟨hm, hs⟩ := hm
  simp only [mouthP, Bool.and_eq_true] at hm
  simp only [shapeB, Bool.and_eq_true] at hs
  have a1 := of_decide_eq_true hm.1
  have a2 := of_decide_eq_true hm.2.1
  have a3 := of_decide_eq_true hs.2
  simp only [tinies, tiny, Bool.and_eq_true]
  exact ⟨decide_eq_true (by omega), decide_eq_true (by omega), decide_eq_true (by omega), decide_eq_true (by omega), decide_eq_true a1⟩
def fuL : List Lead → Nat
  | [] => 1
  | l :: r => l.2.2.2.2.length + 1 + fuL r
theorem fuL_len : ∀ ls : List Lead, ls.length < fuL ls
  | [] => by simp [fuL]
  | l :: r => by have := fuL_len r; simp only [fuL, List.length_cons]; omega
theorem fuL_mem : ∀ {ls : List Lead} {l : Lead}, l ∈ ls → l.2.2.2.2.length < fuL ls
  | [], _, h => by simp at h
  | x :: r, l, h => by
    rcases List.mem_cons.1 h with rfl | h
    · simp only [fuL]; omega
    · have := fuL_mem h; simp only [fuL]; omega
theorem mouthOf_yes {ps : List Part} {ls : List Lead} {i k : Int} {o : Bool} (h : hasMo ps i k = true) : mouthOfM (ps, ls, i, k, o) = ((moAt ps i k).1, (moAt ps i k).2.1, (moAt ps i k).2.2.1, (moAt ps i k).2.2.2, decide ((moAt ps i k).2.2.2 = o)) := by simp only [mouthOfM, h, cond_true]
theorem mouthOf_ok {ps : List Part} {ls : List Lead} {i k : Int} {o : Bool} : (mouthOfM (ps, ls, i, k, o)).2.2.2.2 = isMo ps i k o := by
  simp only [mouthOfM, isMo]
  cases hasMo ps i k <;> rfl
theorem oLeads_L0_spec (F : Nat) (ps : List Part) (ls : List Lead) (hx : ls.length < 9223372036854775807) (hl : ls.all (fun l => decide (l.2.2.2.2.length < 9223372036854775807)) = true) (hF : ∀ l ∈ ls, l.2.2.2.2.length < F) (hp : partsB ps = true) : ∀ (k f i : Nat) (h : LMap), i + k = ls.length → k < f → Ld h (ls.take i) →
    oLeads_L0 F f ls ls.length i ps ls h = bif leadsB ps (ls.take i) (ls.drop i) then ⟨true, .tup [.mp 0, .bool true], [.map true false K2 .bool ((ls.drop i).foldl ledAdd h)]⟩ else nilR
  | k, 0, i, _, _, h, _ => by omega
  | 0, f + 1, i, h, hi, _, _ => by
    rw [oLeads_L0_succ, ltF (by omega), drop_len ls (by omega)]; rfl
  | k + 1, f + 1, i, h, hi, hf, hd => by
    have hil : i < ls.length := by omega
    have ht := take_nth l0 ls hil
    have hmem : nth l0 ls i ∈ ls := by rw [nth_lt _ _ _ hil]; exact List.getElem_mem hil
    have hlen := of_decide_eq_true (all_nth l0 hl hil)
    have hFl := hF _ hmem
    have hd' := hd.step (nth l0 ls i)
    rw [show ls.take i ++ [nth l0 ls i] = ls.take (i + 1) from ht.symm] at hd'
    have ih := oLeads_L0_spec F ps ls hx hl hF hp k f (i + 1) _ (by omega) (by omega) hd'
    rw [show ls.take (i + 1) = ls.take i ++ [nth l0 ls i] from ht] at ih
    rw [oLeads_L0_succ, ltT hil, nnT, Int.toNat_natCast, drop_nth l0 ls hil]
    have e0 : nth (0, 0, 0, 0, []) ls i = nth l0 ls i := rfl
    simp only [e0]
    generalize nth l0 ls i = l at *
    obtain ⟨a, b, c, d, path⟩ := l
    have hg1 : getM (CK.pair (CK.int IntKind.i64) (CK.int IntKind.i64)) false h ((a, b) : Int × Int) = (ls.take i).any (endAt a b) := hd a b
    have hg2 : getM (CK.pair (CK.int IntKind.i64) (CK.int IntKind.i64)) false h ((c, d) : Int × Int) = (ls.take i).any (endAt c d) := hd c d
    simp only [Bool.and_self, cond_true, mouthOf_ok, hg1, hg2, leadsB, leadB, List.foldl_cons]
    cases hm1 : isMo ps a b true with
    | false => simp [nilR]
    | true =>
      cases hm2 : isMo ps c d false with
      | false => simp [nilR]
      | true =>
        cases (ls.take i).any (endAt a b) with
        | true => simp [nilR]
        | false =>
          cases (ls.take i).any (endAt c d) with
          | true => simp [nilR]
          | false =>
            have hh1 : hasMo ps a b = true := by simp only [isMo, Bool.and_eq_true] at hm1; exact hm1.1
            have hh2 : hasMo ps c d = true := by simp only [isMo, Bool.and_eq_true] at hm2; exact hm2.1
            simp only [Bool.not_true, Bool.not_false, cond_false, Bool.true_and, mouthOf_yes hh1, mouthOf_yes hh2, pathB]
            by_cases hp0 : path.length = 0
            · simp [hp0, nilR]
            · have l1 := oLeads_L1_spec F f ps ls i (ledAdd h (a, b, c, d, path)) a b c d path hlen (by omega) (by omega) (good_of hp hh1) (good_of hp hh2) path.length F 0 [] 0 0 (by omega) hFl (by rw [List.take_zero]; exact Sn2.nil) (fun h => by omega)
              simp only [show ¬ ((path.length : Int) = 0) by omega, hp0, decide_false, cond_false, Bool.not_false, Bool.true_and]
              refine Eq.trans (?_ : _ = _) (l1.trans ?_)
              · rfl
              · rw [ih]
                simp only [decide_true, Bool.not_true, Bool.false_or, endsB]
                cases (pathR path path.length 0 && (atP (ceAt path 0) (outM ps a b) && atP (ceAt path (path.length - 1)) (outM ps c d))) <;> rfl
def oLeadsOk : Rig → Bool := fun (ps, ls) => rigOk (ps, ls) && partsB ps
def oLeadsM : Rig → LMap × Bool := fun (ps, ls) => bif leadsB ps [] ls then (ls.foldl ledAdd [], true) else ([], false)
def oLeadsFu : Rig → Nat := fun (_, ls) => fuL ls
theorem Ret.nilmB {ka va : Bool} {kk vk : CK} : Ret [none, none] (.pair (.map ka va kk vk) .bool) ⟨true, .tup [.nilm, .bool false], []⟩ ([], false) :=
  ⟨rfl, rfl, rfl, rfl, rfl, rfl, fun ws h => by cases h; simp⟩
theorem Ret.mapB {ka va : Bool} {kk vk : CK} {m : List (CT kk × CT vk)} {b : Bool} : Ret [none, none] (.pair (.map ka va kk vk) .bool) ⟨true, .tup [.mp 0, .bool b], [.map ka va kk vk m]⟩ (m, b) := by
  have h : roVs ⟨true, .tup [.mp 0, .bool b], [.map ka va kk vk m]⟩ = [.rmap ka va kk vk m, .bool b] := rfl
  refine ⟨rfl, rfl, ?_, ?_, ?_, ?_, fun ws h => by cases h; simp⟩
  · rw [h]; rfl
  · rw [h]; rfl
  · rw [h]; simp [flatA, cellsA, decOk, nth, isM, isB, dropL, width]
  · rw [h]
    show (asM kk vk (.rmap ka va kk vk m), b) = _
    rw [asM_rmap]; rfl
theorem oLeads_ret (z : Rig) (h : oLeadsOk z = true) : Ret oLeads_re oLeads_R (oLeads_run (oLeadsFu z) z) (oLeadsM z) := by
  obtain ⟨ps, ls⟩ := z
  simp only [oLeadsOk, rigOk, Bool.and_eq_true, decide_eq_true_eq] at h
  have a := oLeads_L0_spec (fuL ls) ps ls h.1.1.2 h.1.2.2 (fun l hl => fuL_mem hl) h.2 ls.length (fuL ls) 0 [] (by omega) (fuL_len ls) (by rw [List.take_zero]; exact Ld.nil)
  rw [List.take_zero, List.drop_zero] at a
  refine Ret.of (r' := bif leadsB ps [] ls then ⟨true, .tup [.mp 0, .bool true], [.map true false K2 .bool (ls.foldl ledAdd [])]⟩ else nilR) ((oLeads_arg ..).trans ((oLeads_eq ..).trans ?_)) ?_
  · exact a
  · simp only [oLeadsM]
    cases leadsB ps [] ls
    · exact Ret.nilmB
    · exact Ret.mapB
end Go.Proofs.Ytknkkaimbhojpaa

open Go Go.Abs Go.Proofs
set_option linter.unusedVariables false
namespace Go.Proofs.Ytknkkaimbhojpaa
noncomputable def tbOFL_1 : FuncId → List AV → List Blk → Res := addC 24 (tspec oLeads_sh oLeads_K oLeads_re oLeads_R oLeadsOk oLeadsM) tbOF
theorem tabOFL_1 : Tab Try.prog tbOFL_1 cxMd tbKOF := Tab.addTy tabOF tabOF (KK := oLeads_K) (R := oLeads_R) (fn := Try.f24) (by kernel_rfl) (by kernel_rfl) (by kernel_rfl) (by kernel_rfl) _ oLeadsFu oLeads_ret
noncomputable def tbOFL_2 : FuncId → List AV → List Blk → Res := addC 43 (tspec rPath_sh rPath_K rPath_re rPath_R rPathOk rPathM) tbOFL_1
theorem tabOFL_2 : Tab Try.prog tbOFL_2 cxMd tbKOF := Tab.addTy tabOFL_1 tabOF (KK := rPath_K) (R := rPath_R) (fn := Try.f43) (by kernel_rfl) (by kernel_rfl) (by kernel_rfl) (by kernel_rfl) _ rPathFu rPath_ret
noncomputable def tbOFB : FuncId → List AV → List Blk → Res := tbOFL_2
noncomputable def tbKOFB : KT := tbKOF
theorem tabOFB : Tab Try.prog tbOFB cxMd tbKOFB := tabOFL_2
end Go.Proofs.Ytknkkaimbhojpaa
