/- What a journal is: the program's text; both say the same. -/
import Derived.Test.YtmiddecfdfbocaaTG
import Derived.Test.YtmiddecfdfbocaaA22
set_option linter.all false
set_option linter.unusedVariables false
set_option linter.unusedSimpArgs false
open Go Go.Abs Go.Proofs
set_option linter.unusedSimpArgs false
set_option linter.unusedVariables false
namespace Go.Proofs.Ytmiddecfdfbocaa
theorem valid_L1_spec (F m : Nat) (bs : List Branch) (len q : Int) (kind : Int) (cases : List Six) (first : List Cell) (fr bat : Int) (es : List Edit) (he : es.length < big) (ho : es.all editOk = true) : ∀ (k f i : Nat) (e c : Int), i + k = es.length → k < f →
    valid_L1 F m f e c bs len q es es.length i kind cases first bs fr bat es =
      bif !decide ((editsF (stK kind cases) bat (prevE es i) (es.drop i) e c).1 = 0) then ⟨true, .int .i64 (editsF (stK kind cases) bat (prevE es i) (es.drop i) e c).1, []⟩ else
        valid_L0 F m (editsF (stK kind cases) bat (prevE es i) (es.drop i) e c).2.1 (editsF (stK kind cases) bat (prevE es i) (es.drop i) e c).2.2 bs len (IntKind.wrap IntKind.i64 (q + 1)) kind cases first bs
  | k, 0, i, e, c, _, h => by omega
  | 0, f + 1, i, e, c, hi, _ => by
    rw [valid_L1_succ, ltF (by omega), cond_false, drop_len es (by omega)]
    simp only [editsF, decide_true, Bool.not_true, cond_false]
  | k + 1, f + 1, i, e, c, hi, hf => by
    have ih := fun e c => valid_L1_spec F m bs len q kind cases first fr bat es he ho k f (i + 1) e c (by omega) (by omega)
    have hx := nth_all (d := edit0) ho (i := i) (by omega)
    simp only [editOk, decide_eq_true_eq] at hx
    rw [valid_L1_succ, ltT (by omega), nnT, drop_nth edit0 es (by omega : i < es.length), Int.toNat_natCast, wrapS (by omega)]
    rw [ih, prevES]
    have hl : (bif decide ((i : Int) > 0) then bif decide (0 ≤ IntKind.wrap IntKind.i64 ((i : Int) - 1)) && decide (IntKind.wrap IntKind.i64 ((i : Int) - 1) < (es.length : Int)) then bif decide ((nth edit0 es i).1 ≤ (nth edit0 es (Int.toNat (IntKind.wrap IntKind.i64 ((i : Int) - 1)))).1) then true else false else false else false) = lateBad (prevE es i) (nth edit0 es i).1 ∧
        (decide ((i : Int) > 0) = true → (decide (0 ≤ IntKind.wrap IntKind.i64 ((i : Int) - 1)) && decide (IntKind.wrap IntKind.i64 ((i : Int) - 1) < (es.length : Int))) = true) := by
      cases i with
      | zero => simp [prevE, lateBad]
      | succ j =>
        rw [gt0S, wrapP (by omega), Int.toNat_natCast, ltT (by omega), nnT]
        simp only [cond_true, Bool.and_true, prevES, lateBad, implies_true, and_true]
        cases decide ((nth edit0 es (j + 1)).1 ≤ (nth edit0 es j).1) <;> rfl
    obtain ⟨hl1, hl2⟩ := hl
    generalize nth edit0 es i = x at *
    generalize (decide (0 ≤ IntKind.wrap IntKind.i64 ((i : Int) - 1)) && decide (IntKind.wrap IntKind.i64 ((i : Int) - 1) < (es.length : Int))) = b1 at *
    obtain ⟨t, cs⟩ := x
    simp only at hx
    simp only [cond_true, Bool.and_true, editsF, lookedOk, lookedM, hx, decide_true, beq_ne, ← hl1]
    generalize decide (t ≤ (nth edit0 es (Int.toNat (IntKind.wrap IntKind.i64 ((i : Int) - 1)))).1) = b2 at *
    by_cases hL : lookF (stK kind cases) none cs = 0
    · cases h0 : decide ((i : Int) > 0)
      · cases decide (t < bat) <;> cases decide (t > 1099511627776) <;> cases decide ((cs.length : Int) = 0) <;> simp [hL]
      · rw [hl2 h0]
        cases decide (t < bat) <;> cases decide (t > 1099511627776) <;> cases b2 <;> cases decide ((cs.length : Int) = 0) <;> simp [hL]
    · cases h0 : decide ((i : Int) > 0)
      · cases decide (t < bat) <;> cases decide (t > 1099511627776) <;> cases decide ((cs.length : Int) = 0) <;> simp [hL]
      · rw [hl2 h0]
        cases decide (t < bat) <;> cases decide (t > 1099511627776) <;> cases b2 <;> cases decide ((cs.length : Int) = 0) <;> simp [hL]

theorem valid_S1_eq (F n : Nat) (e c : Int) (bs : List Branch) (len : Int) (kind : Int) (cases : List Six) (first : List Cell) (i : Nat) (b : Branch) (hb : nth branch0 bs i = b) :
    valid_L0_S1 F n e c bs len i kind cases first bs = bif timeBad i b.2.1 then ⟨true, .int .i64 102, []⟩ else valid_L1 F n F e c bs len i b.2.2 b.2.2.length 0 kind cases first bs b.1 b.2.1 b.2.2 := by
  rw [valid_L0_S1, Int.toNat_natCast, hb, beq_ne, eq0, timeBad]
  cases decide (b.2.1 < 0) <;> cases decide (b.2.1 > 1099511627776) <;> cases decide (i = 0) <;> cases decide (b.2.1 = 0) <;> rfl
theorem valid_L0_spec (F : Nat) (bs : List Branch) (kind : Int) (cases : List Six) (first : List Cell) (hb : bs.length < big) (ho : bs.all branchOk = true) (hF : ∀ b ∈ bs, b.2.2.length < F) : ∀ (k f i : Nat) (e c : Int), i + k = bs.length → k < f →
    valid_L0 F f e c bs bs.length i kind cases first bs = ⟨true, .int .i64 (branchesF (stK kind cases) i (bs.drop i) e c), []⟩
  | k, 0, i, e, c, _, h => by omega
  | 0, f + 1, i, e, c, hi, _ => by
    rw [valid_L0_succ, ltF (by omega), cond_false, drop_len bs (by omega)]
    simp only [branchesF, cor, resI]
  | k + 1, f + 1, i, e, c, hi, hf => by
    have ih := fun e c => valid_L0_spec F bs kind cases first hb ho hF k f (i + 1) e c (by omega) (by omega)
    have hx := nth_all (d := branch0) ho (i := i) (by omega)
    have hm := hF _ (nth_mem branch0 bs (i := i) (by omega))
    rw [valid_L0_succ, ltT (by omega), nnT, drop_nth branch0 bs (by omega : i < bs.length), valid_L0_S2, valid_S1_eq F f e c bs bs.length kind cases first i _ rfl, Int.toNat_natCast, eq0]
    generalize nth branch0 bs i = b at *
    obtain ⟨fr, bat, es⟩ := b
    simp only [branchOk, Bool.and_eq_true, decide_eq_true_eq] at hx
    have hL := valid_L1_spec F f bs bs.length i kind cases first fr bat es hx.1 hx.2 es.length F 0 e c (by omega) hm
    rw [show ((0 : Nat) : Int) = 0 from rfl, List.drop_zero] at hL
    rw [hL, wrapS (by omega), ih]
    simp only [cond_true, Bool.and_true, branchesF, fromBad, beq_ne, show prevE es 0 = none from rfl]
    generalize editsF (stK kind cases) bat none es e c = r
    obtain ⟨r1, r2, r3⟩ := r
    simp only
    by_cases h0 : i = 0
    · subst h0
      by_cases hr : r1 = 0
      · cases decide (fr = -1) <;> cases timeBad 0 bat <;> simp [hr]
      · cases decide (fr = -1) <;> cases timeBad 0 bat <;> simp [hr]
    · have hp : decide ((i : Int) > 0) = true := by simp; omega
      rw [hp]
      by_cases hr : r1 = 0
      · cases decide (fr < 0) <;> cases decide (fr ≥ (i : Int)) <;> cases timeBad i bat <;> simp [hr, h0]
      · cases decide (fr < 0) <;> cases decide (fr ≥ (i : Int)) <;> cases timeBad i bat <;> simp [hr, h0]

def validOk : Journal → Bool := journalOk
def validM : Journal → Int := fun j => validF (stK j.1 j.2.1) (checkM (j.1, j.2.1)) (lookM (j.2.2.1, j.1, j.2.1)) j.2.2.2
def validFu : Journal → Nat := fun j => fuelJ j.2.2.2
theorem checkM_10 (x : Int × List Six) : checkM x = 0 ∨ checkM x = 10 := by
  simp only [checkM, checkF]
  cases decide (x.1 < 0) || decide (x.1 > 3) <;> cases decide (x.1 = 3) <;> cases decide ((x.2.length : Int) > 4096) <;> cases casesOk x.2 <;> cases decide (tableF 0 0 0 0 0 x.2 = 0) <;> simp
theorem valid_law (j : Journal) (h : journalOk j = true) : valid_run (validFu j) j = ⟨true, .int .i64 (validM j), []⟩ := by
  obtain ⟨kind, cases, first, bs⟩ := j
  simp only [journalOk, Bool.and_eq_true, decide_eq_true_eq] at h
  refine (valid_arg ..).trans ((valid_eq ..).trans ?_)
  simp only [lookOk, h.1, decide_true, cond_true, validM, validF, beq_ne]
  have hc := checkM_10 (kind, cases)
  by_cases h0 : bs.length ≤ 256
  · have := valid_L0_spec (fuelJ bs) bs kind cases first (by simp [big]; omega) h.2 (fun b hb => fuelJ_mem hb) bs.length (fuelJ bs) 0 0 0 (by omega) (by simp [fuelJ]; omega)
    rw [show ((0 : Nat) : Int) = 0 from rfl, List.drop_zero] at this
    rw [show validFu (kind, cases, first, bs) = fuelJ bs from rfl, this]
    rw [show decide ((bs.length : Int) > 256) = false by simp; omega]
    generalize checkM (kind, cases) = r1 at *
    generalize lookM (first, kind, cases) = r2
    rcases hc with rfl | rfl <;> cases decide ((bs.length : Int) = 0) <;> by_cases e2 : r2 = 0 <;> simp [e2]
  · rw [show decide ((bs.length : Int) > 256) = true by simp; omega]
    generalize checkM (kind, cases) = r1 at *
    generalize lookM (first, kind, cases) = r2
    rcases hc with rfl | rfl <;> cases decide ((bs.length : Int) = 0) <;> by_cases e2 : r2 = 0 <;> simp [e2]
theorem valid_ret (j : Journal) (h : validOk j = true) : Ret valid_re valid_R (valid_run (validFu j) j) (validM j) := Ret.of (valid_law j h) (Ret.int _ _)

/-! ### both say the same, where all states are numbers of 64 bits -/
def inR (s : Int) : Bool := decide (-9223372036854775808 ≤ s) && decide (s ≤ 9223372036854775807)
theorem check_same (x : Int × List Six) : checkM x = rCheckM x := rfl
theorem kind_of {kind : Int} {cases : List Six} (h : checkM (kind, cases) = 0) : 0 ≤ kind ∧ kind ≤ 3 := by
  simp only [checkM, checkF] at h
  by_cases hk : kind < 0 ∨ kind > 3
  · have : (decide (kind < 0) || decide (kind > 3)) = true := by simp [hk]
    rw [this] at h
    simp at h
  · omega
theorem yerr_same {s : Int} (h : inR s = true) : (yardOfM s).2.2.2.2.2.2.2.2.2.2 = (rYardOfM s).2.2.2.2.2.2.2.2.2.2 := by
  simp only [inR, Bool.and_eq_true, decide_eq_true_eq] at h
  rw [yard_same h.2]
theorem yneg {s : Int} (h : s < 0) : (rYardOfM s).2.2.2.2.2.2.2.2.2.2 = 11 := by simp [rYardOfM, h, noYard]
theorem ybig {s : Int} (h : s ≥ 8388608) : (rYardOfM s).2.2.2.2.2.2.2.2.2.2 = 11 := by
  have : ¬ s < 0 := by omega
  simp [rYardOfM, h, noYard, this]
theorem st_same {kind : Int} {cases : List Six} (hc : checkM (kind, cases) = 0) {s : Int} (hs : inR s = true) : stK kind cases s = st10 kind cases s := by
  have hk := kind_of hc
  have hy := yerr_same hs
  simp only [stK, st10, stC, hc, ← check_same, hy]
  by_cases s0 : s = 0
  · subst s0
    have : kind = 0 ∨ kind = 1 ∨ kind = 2 ∨ kind = 3 := by omega
    rcases this with rfl | rfl | rfl | rfl <;> simp
    decide
  · by_cases sn : s < 0
    · have h1 := yneg sn
      have : kind = 0 ∨ kind = 1 ∨ kind = 2 ∨ kind = 3 := by omega
      rcases this with rfl | rfl | rfl | rfl <;> simp [s0, sn, h1, show ¬ s ≥ 0 by omega]
    · have sp : s ≥ 0 := by omega
      have : kind = 0 ∨ kind = 1 ∨ kind = 2 ∨ kind = 3 := by omega
      rcases this with rfl | rfl | rfl | rfl
      · by_cases h : s < 29
        · simp [s0, sn, sp, h]
        · simp [s0, sn, sp, h, show s ≥ 29 by omega]
      · by_cases h : s < 32
        · simp [s0, sn, sp, h]
        · simp [s0, sn, sp, h, show s ≥ 32 by omega]
      · by_cases h : s ≥ 8388608
        · simp [s0, sn, h, ybig h]
        · simp [s0, sn, h]
      · by_cases h : s < 256
        · simp [s0, sn, sp, h]
        · simp [s0, sn, sp, h, show s ≥ 256 by omega]
theorem stC_same {kind : Int} {cases : List Six} (hc : checkM (kind, cases) = 0) {s : Int} (hs : inR s = true) : stC kind s = stP kind cases true s := by
  have hk := kind_of hc
  have hy := yerr_same hs
  simp only [stP, rst, stC, ← check_same, hc, hy]
  by_cases s0 : s = 0
  · subst s0; simp
  · by_cases sn : s < 1
    · have h1 := yneg (s := s) (by omega)
      have : kind = 0 ∨ kind = 1 ∨ kind = 2 ∨ kind = 3 := by omega
      rcases this with rfl | rfl | rfl | rfl <;> simp [s0, sn, h1, show ¬ s ≥ 0 by omega]
    · have sp : s ≥ 0 := by omega
      have : kind = 0 ∨ kind = 1 ∨ kind = 2 ∨ kind = 3 := by omega
      rcases this with rfl | rfl | rfl | rfl <;> simp [s0, sn, sp]
theorem lookF_same {st st' : Int → Bool} : ∀ {l : List Cell} {q : Option Cell}, (∀ c ∈ l, st c.2.2 = st' c.2.2) → lookF st q l = lookF st' q l
  | [], _, _ => rfl
  | c :: l, q, h => by
    simp only [lookF]
    rw [h c (by simp), lookF_same (l := l) fun x hx => h x (List.mem_cons_of_mem _ hx)]
theorem editsF_same {st st' : Int → Bool} {bat : Int} : ∀ {l : List Edit} {q : Option Int} {e c : Int}, (∀ x ∈ l, ∀ c ∈ x.2, st c.2.2 = st' c.2.2) → editsF st bat q l e c = editsF st' bat q l e c
  | [], _, _, _, _ => rfl
  | x :: l, q, e, c, h => by
    simp only [editsF]
    rw [lookF_same (h x (by simp)), editsF_same (l := l) fun y hy => h y (List.mem_cons_of_mem _ hy)]
theorem branchesF_same {st st' : Int → Bool} : ∀ {l : List Branch} {i : Nat} {e c : Int}, (∀ b ∈ l, ∀ x ∈ b.2.2, ∀ c ∈ x.2, st c.2.2 = st' c.2.2) → branchesF st i l e c = branchesF st' i l e c
  | [], _, _, _, _ => rfl
  | b :: l, i, e, c, h => by
    simp only [branchesF]
    rw [editsF_same (h b (by simp)), branchesF_same (l := l) fun y hy => h y (List.mem_cons_of_mem _ hy)]
/-- all states are numbers of 64 bits -/
def journalIn (j : Journal) : Prop := (∀ c ∈ j.2.2.1, inR c.2.2 = true) ∧ ∀ b ∈ j.2.2.2, ∀ x ∈ b.2.2, ∀ c ∈ x.2, inR c.2.2 = true
theorem valid_same {j : Journal} (h : journalIn j) : validM j = rValidM j := by
  obtain ⟨kind, cases, first, bs⟩ := j
  simp only [validM, rValidM, validF, ← check_same]
  by_cases hc : checkM (kind, cases) = 0
  · have e1 : lookM (first, kind, cases) = rproperM (kind, cases, true, first) := by
      simp only [lookM, rproperM]
      rw [lookF_same fun c hc' => stC_same hc (h.1 c hc')]
    rw [e1, branchesF_same fun b hb x hx c hc' => st_same hc (h.2 b hb x hx c hc')]
    rfl
  · simp [hc]
end Go.Proofs.Ytmiddecfdfbocaa

open Go Go.Abs Go.Proofs
set_option linter.unusedVariables false
namespace Go.Proofs.Ytmiddecfdfbocaa
noncomputable def tbTGL_1 : FuncId → List AV → List Blk → Res := addC 8 (tspec valid_sh valid_K valid_re valid_R validOk validM) tbTG
theorem tabTGL_1 : Tab Try.prog tbTGL_1 cxMd tbKTG := Tab.addTy (os := []) tabTG tabTG (KK := valid_K) (R := valid_R) (fn := Try.f8) (by kernel_rfl) (by kernel_rfl) (by kernel_rfl) (by kernel_rfl) _ validFu valid_ret
noncomputable def tbTGB : FuncId → List AV → List Blk → Res := tbTGL_1
noncomputable def tbKTGB : KT := tbKTG
theorem tabTGB : Tab Try.prog tbTGB cxMd tbKTGB := tabTGL_1
end Go.Proofs.Ytmiddecfdfbocaa
