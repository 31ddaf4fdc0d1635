/- What a rule is, and what cells in their order are. -/
import Derived.Test.YtmiddecfdfbocaaTE
import Derived.Test.YtmiddecfdfbocaaA22
set_option linter.all false
set_option linter.unusedVariables false
set_option linter.unusedSimpArgs false
open Go Go.Abs Go.Proofs
set_option linter.unusedSimpArgs false
set_option linter.unusedVariables false
namespace Go.Proofs.Ytmiddecfdfbocaa
theorem lt_255 {a : Int} {x y : Res} : (bif decide (a < -1) then x else bif decide (a > 255) then x else y) = bif in255 a then y else x := by
  unfold in255
  by_cases h : a < -1
  · simp [h, show ¬ a ≥ -1 by omega]
  · by_cases h' : a > 255
    · simp [h, h', show a ≥ -1 by omega, show ¬ a ≤ 255 by omega]
    · simp [h, h', show a ≥ -1 by omega, show a ≤ 255 by omega]
theorem check_L0_spec (F : Nat) (kind : Int) (l : List Six) (hl : l.length ≤ 4096) : ∀ (k f i : Nat), i + k = l.length → k < f → check_L0 F f l l.length i kind l = ⟨true, .int .i64 (bif casesOk (l.drop i) then (bif !decide (tableF 0 0 0 0 0 l = 0) then 10 else 0) else 10), []⟩
  | k, 0, i, _, h => by omega
  | 0, f + 1, i, hi, _ => by
    rw [check_L0_succ, ltF (by omega), cond_false, drop_len l (by omega)]
    simp only [casesOk, cond_true, nextTableOk, nextTableM, beq_ne, show l.length < big by simp [big]; omega, decide_true, resI]
  | k + 1, f + 1, i, hi, hf => by
    have ih := check_L0_spec F kind l hl k f (i + 1) (by omega) (by omega)
    rw [check_L0_succ, ltT (by omega), nnT, drop_nth six0 l (by omega : i < l.length), Int.toNat_natCast, wrapS (by simp [big]; omega), ih]
    simp only [cond_true, Bool.and_true, casesOk, caseOk]
    generalize nth six0 l i = x
    obtain ⟨C, E, N, W, S, T⟩ := x
    simp only [lt_255]
    simp only [le_not, gt_not]
    cases in255 C <;> cases in255 E <;> cases in255 N <;> cases in255 W <;> cases in255 S <;> cases decide (0 ≤ T) <;> cases decide (T ≤ 255) <;> rfl
def checkM : Int × List Six → Int := fun x => checkF x.1 x.2
abbrev checkFu : Int × List Six → Nat := fun x => 5000
theorem check_ret (x : Int × List Six) (_ : true = true) : Ret check_re check_R (check_run (checkFu x) x) (checkM x) := by
  obtain ⟨kind, l⟩ := x
  refine Ret.of ((check_arg ..).trans ((check_eq ..).trans ?_)) (Ret.int _ _)
  simp only [checkM, checkF]
  by_cases k0 : kind = 0
  · subst k0; simp
  by_cases k1 : kind = 1
  · subst k1; simp
  by_cases k2 : kind = 2
  · subst k2; simp
  by_cases k3 : kind = 3
  · subst k3
    by_cases h : (l.length : Int) > 4096
    · simp [h]
    · have := check_L0_spec (checkFu (3, l)) 3 l (by omega) l.length (checkFu (3, l) + 8) 0 (by omega) (by show l.length < 5000 + 8; omega)
      rw [show ((0 : Nat) : Int) = 0 from rfl, List.drop_zero] at this
      simp only [show ¬ (3 : Int) = 0 by omega, show ¬ (3 : Int) = 1 by omega, show ¬ (3 : Int) = 2 by omega, h, decide_true, decide_false, cond_true, cond_false, this]; rfl
  have : (decide (kind < 0) || decide (kind > 3)) = true := by simp; omega
  simp [k0, k1, k2, k3, this]

/-! ### cells in their order -/
abbrev cell0 : Cell := (0, 0, 0)
def farC (c : Cell) : Bool := decide (c.1 < -1073741824) || (decide (c.1 > 1073741824) || (decide (c.2.1 < -1073741824) || decide (c.2.1 > 1073741824)))
def badOrd : Option Cell → Cell → Bool
  | none, _ => false
  | some q, c => decide (cmpCell q c ≥ 0)
/-- the first thing that is wrong -/
def lookF (st : Int → Bool) : Option Cell → List Cell → Int
  | _, [] => 0
  | q, c :: l => bif farC c then 13 else bif st c.2.2 then (bif badOrd q c then 12 else lookF st (some c) l) else 11
def prevOf (l : List Cell) : Nat → Option Cell
  | 0 => none
  | j + 1 => some (nth cell0 l j)
theorem prevS {l : List Cell} {i : Nat} : prevOf l (i + 1) = some (nth cell0 l i) := rfl
def finM (e : Int) (n : Nat) : Int := bif decide (e = 0) then (bif decide ((n : Int) > 65536) then 14 else 0) else e
theorem gt0S {j : Nat} : decide (((j + 1 : Nat) : Int) > 0) = true := by simp
theorem wrapP {j : Nat} (h : j + 1 < big) : IntKind.wrap IntKind.i64 (((j + 1 : Nat) : Int) - 1) = (j : Int) := by
  have : ((j + 1 : Nat) : Int) - 1 = (j : Int) := by omega
  rw [this]
  exact wrap_id (by omega) (by simp [big] at h; omega)
theorem ordEq (q c : Cell) (x y : Res) : (bif decide (c.2.1 > q.2.1) then y else bif decide (c.2.1 = q.2.1) then (bif !decide (c.1 > q.1) then x else y) else x) = bif decide (cmpCell q c ≥ 0) then x else y := by
  unfold cmpCell
  by_cases h1 : q.2.1 < c.2.1
  · simp [h1]
  · by_cases h2 : c.2.1 < q.2.1
    · simp [h1, h2, show ¬ c.2.1 = q.2.1 by omega]
    · have e : c.2.1 = q.2.1 := by omega
      by_cases h3 : q.1 < c.1
      · simp [e, h3]
      · by_cases h4 : c.1 < q.1
        · simp [e, h3, h4]
        · simp [e, h3, h4]
theorem look_S1_eq (F n : Nat) (p : List Cell) (kind : Int) (cases : List Six) (m : Int) (i : Nat) (hi : i < p.length) (hp : p.length < big) :
    look_L0_S1 F n p kind cases p m i = bif badOrd (prevOf p i) (nth cell0 p i) then ⟨true, .int .i64 12, []⟩ else look_L0 F n p kind cases p m ((i + 1 : Nat) : Int) := by
  cases i with
  | zero => simp [look_L0_S1, prevOf, badOrd, wrap_id]
  | succ j =>
    rw [look_L0_S1, gt0S, wrapP (by omega), wrapS (by omega), Int.toNat_natCast, Int.toNat_natCast, ltT (by omega), nnT]
    simp only [cond_true, Bool.and_true, prevS, badOrd, fbehindM]
    rfl
/-- a state of a kind, but 0 -/
def stC (kind : Int) (s : Int) : Bool := bif !decide (s = 0) then (bif decide (kind = 0) then decide (s ≥ 0) && decide (s < 29) else bif decide (kind = 1) then decide (s ≥ 0) && decide (s < 32) else bif decide (kind = 3) then decide (s ≥ 0) && decide (s < 256) else decide ((yardOfM s).2.2.2.2.2.2.2.2.2.2 = 0)) else false
theorem resE (b : Bool) (x : Res) : (bif b then x else x) = x := by cases b <;> rfl
theorem look_L0_spec (F : Nat) (p : List Cell) (kind : Int) (cases : List Six) (hp : p.length < big) : ∀ (k f i : Nat), i + k = p.length → k < f → look_L0 F f p kind cases p p.length i = ⟨true, .int .i64 (finM (lookF (stC kind) (prevOf p i) (p.drop i)) p.length), []⟩
  | k, 0, i, _, h => by omega
  | 0, f + 1, i, hi, _ => by
    rw [look_L0_succ, ltF (by omega), cond_false, drop_len p (by omega)]
    simp only [lookF, finM, decide_true, cond_true, resI]
  | k + 1, f + 1, i, hi, hf => by
    have ih := look_L0_spec F p kind cases hp k f (i + 1) (by omega) (by omega)
    rw [look_L0_succ, ltT (by omega), nnT, drop_nth cell0 p (by omega : i < p.length), Int.toNat_natCast, look_S1_eq F f p kind cases p.length i (by omega) hp, ih]
    simp only [prevS, cond_true, Bool.and_true, lookF, beq_ne]
    generalize nth cell0 p i = c
    generalize prevOf p i = q
    obtain ⟨cx, cy, cs⟩ := c
    simp only [cor, farC, stC]
    cases decide (cx < -1073741824) || (decide (cx > 1073741824) || (decide (cy < -1073741824) || decide (cy > 1073741824)))
    · cases badOrd q (cx, cy, cs) <;> cases decide (cs = 0) <;> cases decide (kind = 0) <;> cases decide (kind = 1) <;> cases decide (kind = 3) <;> cases decide (cs ≥ 0) <;> cases decide (cs < 29) <;> cases decide (cs < 32) <;> cases decide (cs < 256) <;> cases decide ((yardOfM cs).2.2.2.2.2.2.2.2.2.2 = 0) <;> rfl
    · rfl
def lookOk : List Cell × Int × List Six → Bool := fun x => decide (x.1.length < big)
def lookM : List Cell × Int × List Six → Int := fun x => finM (lookF (stC x.2.1) none x.1) x.1.length
abbrev lookFu : List Cell × Int × List Six → Nat := fun x => x.1.length + 1
theorem look_ret (x : List Cell × Int × List Six) (h : lookOk x = true) : Ret look_re look_R (look_run (lookFu x) x) (lookM x) := by
  obtain ⟨p, kind, cases⟩ := x
  simp only [lookOk, decide_eq_true_eq] at h
  exact Ret.of ((look_arg ..).trans ((look_eq ..).trans (look_L0_spec _ p kind cases h p.length _ 0 (by omega) (Nat.lt_succ_self _)))) (Ret.int _ _)

/-! ### the other text -/

def rst (kind : Int) (cases : List Six) (s : Int) : Bool :=
  bif decide (kind = 2) then decide ((rYardOfM s).2.2.2.2.2.2.2.2.2.2 = 0) else bif decide (s ≥ 0) then (bif !decide (rCheckM (kind, cases) = 0) then decide (s < 0) else bif decide (kind = 0) then decide (s < 29) else bif decide (kind = 1) then decide (s < 32) else bif decide (kind = 2) then decide (s < 8388608) else decide (s < 256)) else false
def stP (kind : Int) (cases : List Six) (ruled : Bool) (s : Int) : Bool := bif decide (s < 1) then false else bif ruled then rst kind cases s else true
theorem rproper_S1_eq (F n : Nat) (ruled : Bool) (p : List Cell) (kind : Int) (cases : List Six) (i : Nat) (hi : i < p.length) (hp : p.length < big) :
    rproper_L0_S1 F n ruled p i kind cases = bif badOrd (prevOf p i) (nth cell0 p i) then ⟨true, .int .i64 12, []⟩ else rproper_L0 F n ruled p ((i + 1 : Nat) : Int) kind cases := by
  cases i with
  | zero => simp [rproper_L0_S1, prevOf, badOrd, wrap_id]
  | succ j =>
    rw [rproper_L0_S1, gt0S, wrapP (by omega), wrapS (by omega), Int.toNat_natCast, Int.toNat_natCast, ltT (by omega), ltT (by omega), nnT, nnT]
    simp only [cond_true, Bool.and_true, prevS, badOrd]
    exact ordEq (nth cell0 p j) (nth cell0 p (j + 1)) _ _
theorem near_far {x y s : Int} {a b : Res} : (bif decide (x ≥ -1073741824) then bif decide (x ≤ 1073741824) then bif decide (y ≥ -1073741824) then bif !decide (y ≤ 1073741824) then a else b else a else a else a) = bif farC (x, y, s) then a else b := by
  simp only [farC]
  by_cases h1 : x < -1073741824
  · simp [h1, show ¬ x ≥ -1073741824 by omega]
  · by_cases h2 : x > 1073741824
    · simp [h1, h2, show x ≥ -1073741824 by omega, show ¬ x ≤ 1073741824 by omega]
    · by_cases h3 : y < -1073741824
      · simp [h1, h2, h3, show x ≥ -1073741824 by omega, show x ≤ 1073741824 by omega, show ¬ y ≥ -1073741824 by omega]
      · by_cases h4 : y > 1073741824
        · simp [h1, h2, h3, h4, show x ≥ -1073741824 by omega, show x ≤ 1073741824 by omega, show y ≥ -1073741824 by omega, show ¬ y ≤ 1073741824 by omega]
        · simp [h1, h2, h3, h4, show x ≥ -1073741824 by omega, show x ≤ 1073741824 by omega, show y ≥ -1073741824 by omega, show y ≤ 1073741824 by omega]
theorem prune0 {st b : Bool} {x : Int} : (⟨true, .int .i64 (bif st then (bif b then 12 else x) else 11), []⟩ : Res) = bif st then (bif b then ⟨true, .int .i64 12, []⟩ else ⟨true, .int .i64 x, []⟩) else ⟨true, .int .i64 11, []⟩ := by cases st <;> cases b <;> rfl
theorem prune {st b : Bool} {x : Int} {n : Nat} : (⟨true, .int .i64 (finM (bif st then (bif b then 12 else x) else 11) n), []⟩ : Res) = bif st then (bif b then ⟨true, .int .i64 12, []⟩ else ⟨true, .int .i64 (finM x n), []⟩) else ⟨true, .int .i64 11, []⟩ := by cases st <;> cases b <;> rfl
theorem rproper_L0_spec (F : Nat) (ruled : Bool) (p : List Cell) (kind : Int) (cases : List Six) (hp : p.length < big) : ∀ (k f i : Nat), i + k = p.length → k < f → rproper_L0 F f ruled p i kind cases = ⟨true, .int .i64 (finM (lookF (stP kind cases ruled) (prevOf p i) (p.drop i)) p.length), []⟩
  | k, 0, i, _, h => by omega
  | 0, f + 1, i, hi, _ => by
    rw [rproper_L0_succ, ltF (by omega), cond_false, drop_len p (by omega)]
    simp only [lookF, finM, decide_true, cond_true, resI]
  | k + 1, f + 1, i, hi, hf => by
    have ih := rproper_L0_spec F ruled p kind cases hp k f (i + 1) (by omega) (by omega)
    rw [rproper_L0_succ, ltT (by omega), nnT, drop_nth cell0 p (by omega : i < p.length), Int.toNat_natCast, rproper_S1_eq F f ruled p kind cases i (by omega) hp, ih]
    simp only [prevS, cond_true, Bool.and_true, lookF, beq_ne]
    generalize nth cell0 p i = c
    generalize prevOf p i = q
    obtain ⟨cx, cy, cs⟩ := c
    simp only [near_far (s := cs), stP, rst]
    cases farC (cx, cy, cs)
    · simp only [cond_false]
      rw [prune]
      generalize (bif badOrd q (cx, cy, cs) then (⟨true, .int .i64 12, []⟩ : Res) else ⟨true, .int .i64 (finM (lookF (stP kind cases ruled) (some (cx, cy, cs)) (p.drop (i + 1))) p.length), []⟩) = G
      cases decide (cs < 1)
      · cases ruled
        · rfl
        · cases decide (kind = 2)
          · cases decide (cs ≥ 0)
            · rfl
            · cases decide (rCheckM (kind, cases) = 0)
              · cases decide (cs < 0) <;> rfl
              · cases decide (kind = 0)
                · cases decide (kind = 1)
                  · cases decide (cs < 256) <;> rfl
                  · cases decide (cs < 32) <;> rfl
                · cases decide (cs < 29) <;> rfl
          · cases decide ((rYardOfM cs).2.2.2.2.2.2.2.2.2.2 = 0) <;> rfl
      · rfl
    · rfl
def rproperOk : Int × List Six × Bool × List Cell → Bool := fun x => decide (x.2.2.2.length < big)
def rproperM : Int × List Six × Bool × List Cell → Int := fun x => finM (lookF (stP x.1 x.2.1 x.2.2.1) none x.2.2.2) x.2.2.2.length
abbrev rproperFu : Int × List Six × Bool × List Cell → Nat := fun x => x.2.2.2.length + 1
theorem rproper_ret (x : Int × List Six × Bool × List Cell) (h : rproperOk x = true) : Ret rproper_re rproper_R (rproper_run (rproperFu x) x) (rproperM x) := by
  obtain ⟨kind, cases, ruled, p⟩ := x
  simp only [rproperOk, decide_eq_true_eq] at h
  exact Ret.of ((rproper_arg ..).trans ((rproper_eq ..).trans (rproper_L0_spec _ ruled p kind cases h p.length _ 0 (by omega) (Nat.lt_succ_self _)))) (Ret.int _ _)

theorem rCellsOf_S1_eq (F n : Nat) (p : List Cell) (m kind : Int) (cases : List Six) (i : Nat) (hi : i < p.length) (hp : p.length < big) :
    rCellsOf_L0_S1 F n p p m i kind cases = bif badOrd (prevOf p i) (nth cell0 p i) then ⟨true, .int .i64 12, []⟩ else rCellsOf_L0 F n p p m ((i + 1 : Nat) : Int) kind cases := by
  cases i with
  | zero => simp [rCellsOf_L0_S1, prevOf, badOrd, wrap_id]
  | succ j =>
    rw [rCellsOf_L0_S1, gt0S, wrapP (by omega), wrapS (by omega), Int.toNat_natCast, Int.toNat_natCast, ltT (by omega), nnT]
    simp only [cond_true, Bool.and_true, prevS, badOrd]
    exact ordEq (nth cell0 p j) (nth cell0 p (j + 1)) _ _
def st10 (kind : Int) (cases : List Six) (s : Int) : Bool :=
  bif decide (s < 0) then false else bif (bif !decide (rCheckM (kind, cases) = 0) then decide (s ≥ 0) else bif decide (kind = 0) then decide (s ≥ 29) else bif decide (kind = 1) then decide (s ≥ 32) else bif decide (kind = 2) then decide (s ≥ 8388608) else decide (s ≥ 256)) then false else
    bif !decide (kind = 2) then true else decide ((rYardOfM s).2.2.2.2.2.2.2.2.2.2 = 0)
theorem rCellsOf_L0_spec (F : Nat) (p : List Cell) (kind : Int) (cases : List Six) (hp : p.length < big) : ∀ (k f i : Nat), i + k = p.length → k < f → rCellsOf_L0 F f p p p.length i kind cases = ⟨true, .int .i64 (lookF (st10 kind cases) (prevOf p i) (p.drop i)), []⟩
  | k, 0, i, _, h => by omega
  | 0, f + 1, i, hi, _ => by
    rw [rCellsOf_L0_succ, ltF (by omega), cond_false, drop_len p (by omega)]
    simp only [lookF]
  | k + 1, f + 1, i, hi, hf => by
    have ih := rCellsOf_L0_spec F p kind cases hp k f (i + 1) (by omega) (by omega)
    rw [rCellsOf_L0_succ, ltT (by omega), nnT, drop_nth cell0 p (by omega : i < p.length), rCellsOf_L0_S2, Int.toNat_natCast, rCellsOf_S1_eq F f p p.length kind cases i (by omega) hp, ih]
    simp only [prevS, cond_true, Bool.and_true, lookF, beq_ne]
    generalize nth cell0 p i = c
    generalize prevOf p i = q
    obtain ⟨cx, cy, cs⟩ := c
    simp only [cor, farC, st10]
    cases decide (cx < -1073741824) || (decide (cx > 1073741824) || (decide (cy < -1073741824) || decide (cy > 1073741824)))
    · simp only [cond_false]
      rw [prune0]
      generalize (bif badOrd q (cx, cy, cs) then (⟨true, .int .i64 12, []⟩ : Res) else ⟨true, .int .i64 (lookF (st10 kind cases) (some (cx, cy, cs)) (p.drop (i + 1))), []⟩) = G
      cases decide (cs < 0)
      · cases decide (rCheckM (kind, cases) = 0)
        · cases decide (cs ≥ 0)
          · cases decide (kind = 2)
            · rfl
            · cases decide ((rYardOfM cs).2.2.2.2.2.2.2.2.2.2 = 0) <;> rfl
          · rfl
        · cases decide (kind = 0)
          · cases decide (kind = 1)
            · cases decide (kind = 2)
              · cases decide (cs ≥ 256) <;> rfl
              · cases decide (cs ≥ 8388608)
                · cases decide ((rYardOfM cs).2.2.2.2.2.2.2.2.2.2 = 0) <;> rfl
                · rfl
            · cases decide (cs ≥ 32)
              · cases decide (kind = 2)
                · rfl
                · cases decide ((rYardOfM cs).2.2.2.2.2.2.2.2.2.2 = 0) <;> rfl
              · rfl
          · cases decide (cs ≥ 29)
            · cases decide (kind = 2)
              · rfl
              · cases decide ((rYardOfM cs).2.2.2.2.2.2.2.2.2.2 = 0) <;> rfl
            · rfl
      · rfl
    · rfl
def rCellsOfOk : Int × List Six × List Cell → Bool := fun x => decide (x.2.2.length < big)
def rCellsOfM : Int × List Six × List Cell → Int := fun x => lookF (st10 x.1 x.2.1) none x.2.2
abbrev rCellsOfFu : Int × List Six × List Cell → Nat := fun x => x.2.2.length + 1
theorem rCellsOf_ret (x : Int × List Six × List Cell) (h : rCellsOfOk x = true) : Ret rCellsOf_re rCellsOf_R (rCellsOf_run (rCellsOfFu x) x) (rCellsOfM x) := by
  obtain ⟨kind, cases, p⟩ := x
  simp only [rCellsOfOk, decide_eq_true_eq] at h
  exact Ret.of ((rCellsOf_arg ..).trans ((rCellsOf_eq ..).trans (rCellsOf_L0_spec _ p kind cases h p.length _ 0 (by omega) (Nat.lt_succ_self _)))) (Ret.int _ _)
end Go.Proofs.Ytmiddecfdfbocaa

open Go Go.Abs Go.Proofs
set_option linter.unusedVariables false
namespace Go.Proofs.Ytmiddecfdfbocaa
noncomputable def tbTEL_1 : FuncId → List AV → List Blk → Res := addC 35 (tspec check_sh check_K check_re check_R (fun _ => true) checkM) tbTE
theorem tabTEL_1 : Tab Try.prog tbTEL_1 cxMd tbKTE := Tab.addTy (os := []) tabTE tabTE (KK := check_K) (R := check_R) (fn := Try.f35) (by kernel_rfl) (by kernel_rfl) (by kernel_rfl) (by kernel_rfl) _ (fun x => checkFu x + 8) check_ret
noncomputable def tbTEL_2 : FuncId → List AV → List Blk → Res := addC 32 (tspec rproper_sh rproper_K rproper_re rproper_R rproperOk rproperM) tbTEL_1
theorem tabTEL_2 : Tab Try.prog tbTEL_2 cxMd tbKTE := Tab.addTy (os := []) tabTEL_1 tabTE (KK := rproper_K) (R := rproper_R) (fn := Try.f32) (by kernel_rfl) (by kernel_rfl) (by kernel_rfl) (by kernel_rfl) _ rproperFu rproper_ret
noncomputable def tbTEL_3 : FuncId → List AV → List Blk → Res := addC 36 (tspecS look_sh look_K look_re look_R lookOk lookM) tbTEL_2
theorem tabTEL_3 : Tab Try.prog tbTEL_3 cxMd tbKTE := Tab.addTyS (os := []) tabTEL_2 tabTE (KK := look_K) (R := look_R) (fn := Try.f36) (by kernel_rfl) (by kernel_rfl) (by kernel_rfl) (by kernel_rfl) _ lookFu look_ret
noncomputable def tbTEL_4 : FuncId → List AV → List Blk → Res := addC 17 (tspec rCellsOf_sh rCellsOf_K rCellsOf_re rCellsOf_R rCellsOfOk rCellsOfM) tbTEL_3
theorem tabTEL_4 : Tab Try.prog tbTEL_4 cxMd tbKTE := Tab.addTy (os := []) tabTEL_3 tabTE (KK := rCellsOf_K) (R := rCellsOf_R) (fn := Try.f17) (by kernel_rfl) (by kernel_rfl) (by kernel_rfl) (by kernel_rfl) _ rCellsOfFu rCellsOf_ret
noncomputable def tbTEB : FuncId → List AV → List Blk → Res := tbTEL_4
noncomputable def tbKTEB : KT := tbKTE
theorem tabTEB : Tab Try.prog tbTEB cxMd tbKTEB := tabTEL_4
end Go.Proofs.Ytmiddecfdfbocaa
