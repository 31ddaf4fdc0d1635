/- Swaps within a range of a row; insertion sort. -/
import Derived.Test.YtaiokhbjjhicpaaKA
set_option linter.all false
set_option linter.unusedVariables false
set_option linter.unusedSimpArgs false
open Go Go.Abs Go.Proofs
set_option linter.unusedSimpArgs false
set_option linter.unusedVariables false
namespace Go.Proofs.Ytaiokhbjjhicpaa
abbrev rowR (l : List Int) : List Blk := [.row 0 2 (.int .i64) l]
abbrev R0 (l : List Int) : Res := ⟨true, .tup [], rowR l⟩
def sw (l : List Int) (i j : Nat) : List Int := (l.set i (nth 0 l j)).set j (nth 0 l i)
theorem sw_len (l : List Int) (i j : Nat) : (sw l i j).length = l.length := by simp [sw]
theorem sw_get {l : List Int} {i j : Nat} (hi : i < l.length) (hj : j < l.length) (k : Nat) : nth 0 (sw l i j) k = if k = j then nth 0 l i else if k = i then nth 0 l j else nth 0 l k := by
  simp only [sw]
  rw [nth_set 0 _ _ j k, nth_set 0 _ l i k, List.length_set]
  by_cases h1 : j = k
  · rw [if_pos (show j = k ∧ j < l.length from ⟨h1, hj⟩), if_pos (show k = j from h1.symm)]
  · rw [if_neg (show ¬ (j = k ∧ j < l.length) from fun h => h1 h.1), if_neg (show ¬ k = j from fun h => h1 h.symm)]
    by_cases h2 : i = k
    · rw [if_pos (show i = k ∧ i < l.length from ⟨h2, hi⟩), if_pos (show k = i from h2.symm)]
    · rw [if_neg (show ¬ (i = k ∧ i < l.length) from fun h => h2 h.1), if_neg (show ¬ k = i from fun h => h2 h.symm)]
theorem sw_perm {l : List Int} {i j : Nat} (hi : i < l.length) (hj : j < l.length) : (sw l i j).Perm l := by
  simp only [sw]
  rw [nth_lt _ _ _ hi, nth_lt _ _ _ hj]
  exact List.set_set_perm hi hj
/-- Swaps of places from a on, ahead of b. -/
inductive Sp (a b : Nat) : List Int → List Int → Prop
  | refl (l) : Sp a b l l
  | swap {l l'} (i j : Nat) : Sp a b l l' → a ≤ i → i < b → a ≤ j → j < b → b ≤ l'.length → Sp a b l (sw l' i j)
theorem Sp.len {a b : Nat} {l l' : List Int} (h : Sp a b l l') : l'.length = l.length := by
  induction h with
  | refl => rfl
  | swap i j _ _ _ _ _ _ ih => rw [sw_len, ih]
theorem Sp.perm {a b : Nat} {l l' : List Int} (h : Sp a b l l') : l'.Perm l := by
  induction h with
  | refl => exact .refl _
  | swap i j _ h1 h2 h3 h4 h5 ih => exact (sw_perm (by omega) (by omega)).trans ih
theorem Sp.out {a b : Nat} {l l' : List Int} (h : Sp a b l l') : ∀ k, k < a ∨ b ≤ k → nth 0 l' k = nth 0 l k := by
  induction h with
  | refl => exact fun _ _ => rfl
  | swap i j _ h1 h2 h3 h4 h5 ih =>
    intro k hk
    rw [sw_get (by omega) (by omega), if_neg (by omega), if_neg (by omega)]
    exact ih k hk
theorem Sp.elt {a b : Nat} {l l' : List Int} (h : Sp a b l l') : ∀ k, a ≤ k → k < b → ∃ k', a ≤ k' ∧ k' < b ∧ nth 0 l' k = nth 0 l k' := by
  induction h with
  | refl => exact fun k h1 h2 => ⟨k, h1, h2, rfl⟩
  | swap i j _ h1 h2 h3 h4 h5 ih =>
    intro k hk hk2
    rw [sw_get (by omega) (by omega)]
    by_cases e1 : k = j
    · rw [if_pos e1]; exact ih i h1 h2
    · rw [if_neg e1]
      by_cases e2 : k = i
      · rw [if_pos e2]; exact ih j h3 h4
      · rw [if_neg e2]; exact ih k hk hk2
theorem Sp.trans {a b : Nat} {l l' l'' : List Int} (h : Sp a b l l') (h' : Sp a b l' l'') : Sp a b l l'' := by
  induction h' with
  | refl => exact h
  | swap i j _ h1 h2 h3 h4 h5 ih => exact .swap i j ih h1 h2 h3 h4 h5
theorem Sp.mono {a b a' b' : Nat} {l l' : List Int} (h : Sp a b l l') (ha : a' ≤ a) (hb : b ≤ b') (hl : b' ≤ l.length) : Sp a' b' l l' := by
  induction h with
  | refl => exact .refl _
  | @swap l2 i j h0 h1 h2 h3 h4 h5 ih => exact .swap i j ih (by omega) (by omega) (by omega) (by omega) (by rw [h0.len]; exact hl)
def Srt (a b : Nat) (l : List Int) : Prop := ∀ i j, a ≤ i → i < j → j < b → nth 0 l i ≤ nth 0 l j
theorem wrapP {i : Nat} (h : 1 ≤ i) (h' : i < big) : IntKind.wrap IntKind.i64 ((i : Int) - 1) = ((i - 1 : Nat) : Int) := by rw [wrap_id (by omega) (by simp only [big] at h'; omega)]; omega
theorem dT {p : Prop} [Decidable p] (h : p) : decide p = true := decide_eq_true h
theorem dF {p : Prop} [Decidable p] (h : ¬ p) : decide p = false := decide_eq_false h
/-! ### insertion sort -/
theorem ins_less (F m n a b i j : Nat) (l : List Int) (hj : 1 ≤ j) (hjl : j < l.length) (hl : l.length < 1000) (haj : a < j) : ins_L1 F m (n + 1) a b i j l = bif decide (nth 0 l j < nth 0 l (j - 1)) then ins_L1 F m n a b i ((j - 1 : Nat) : Int) (sw l j (j - 1)) else ins_L0 F m a b (IntKind.wrap IntKind.i64 ((i : Int) + 1)) l := by
  rw [ins_L1_succ]
  simp only [ins_L1_S2, ins_L1_S1]
  rw [wrapP hj (by simp only [big]; omega)]
  simp only [nnT, ltT hjl, ltT (show j - 1 < l.length by omega), Int.toNat_natCast, dT hjl, dT (show j - 1 < l.length by omega), dT (show (j : Int) > (a : Int) by omega), List.length_set, bne_self_eq_false, Bool.and_self, cond_true, cond_false]
  rfl
def InsI (a i j : Nat) (l : List Int) : Prop := ∀ p q, a ≤ p → p < q → q ≤ i → q ≠ j → nth 0 l p ≤ nth 0 l q
theorem ins_L1_spec (F m a b i : Nat) (l0 : List Int) (hib : i < b) (hai : a ≤ i) : ∀ (n f j : Nat) (l : List Int), j = a + n → n < f → j ≤ i → b ≤ l.length → l.length < 1000 → Sp a b l0 l → InsI a i j l →
    ∃ l', ins_L1 F m f a b i j l = ins_L0 F m a b ((i + 1 : Nat) : Int) l' ∧ Sp a b l0 l' ∧ Srt a (i + 1) l'
  | n, 0, j, l, _, h, _, _, _, _, _ => by omega
  | 0, f + 1, j, l, hj, _, hji, hb, hl, hs, hi => by
    refine ⟨l, ?_, hs, fun p q h1 h2 h3 => hi p q h1 h2 (by omega) (by omega)⟩
    rw [ins_L1_succ, dF (show ¬ (j : Int) > (a : Int) by omega), wrapS (by simp only [big]; omega)]; rfl
  | n + 1, f + 1, j, l, hj, hf, hji, hb, hl, hs, hi => by
    rw [ins_less F m f a b i j l (by omega) (by omega) hl (by omega)]
    by_cases hlt : nth 0 l j < nth 0 l (j - 1)
    · rw [dT hlt]
      simp only [cond_true]
      refine ins_L1_spec F m a b i l0 hib hai n f (j - 1) (sw l j (j - 1)) (by omega) (by omega) (by omega) (by rw [sw_len]; exact hb) (by rw [sw_len]; exact hl) (.swap j (j - 1) hs (by omega) (by omega) (by omega) (by omega) hb) fun p q h1 h2 h3 h4 => ?_
      rw [sw_get (by omega) (by omega), sw_get (by omega) (by omega)]
      have hq1 : ¬ q = j - 1 := h4
      rw [if_neg hq1]
      by_cases e1 : q = j
      · rw [if_pos e1]
        by_cases e2 : p = j - 1
        · rw [if_pos e2]; omega
        · rw [if_neg e2, if_neg (by omega)]
          exact hi p (j - 1) h1 (by omega) (by omega) (by omega)
      · rw [if_neg e1]
        by_cases e2 : p = j - 1
        · rw [if_pos e2]
          exact hi j q (by omega) (by omega) h3 e1
        · rw [if_neg e2]
          by_cases e3 : p = j
          · rw [if_pos e3]
            exact hi (j - 1) q (by omega) (by omega) h3 e1
          · rw [if_neg e3]
            exact hi p q h1 h2 h3 e1
    · rw [dF hlt, wrapS (by simp only [big]; omega)]
      refine ⟨l, rfl, hs, fun p q h1 h2 h3 => ?_⟩
      by_cases e1 : q = j
      · subst e1
        by_cases e2 : p = q - 1
        · subst e2; omega
        · have := hi p (q - 1) h1 (by omega) (by omega) (by omega)
          omega
      · exact hi p q h1 h2 (by omega) e1
theorem ins_L0_spec (F a b : Nat) (hF : b < F) (l0 : List Int) : ∀ (n f i : Nat) (l : List Int), i + n = b → n < f → a < i → b ≤ l.length → l.length < 1000 → Sp a b l0 l → Srt a i l →
    ∃ l', ins_L0 F f a b i l = R0 l' ∧ Sp a b l0 l' ∧ Srt a b l'
  | n, 0, i, l, _, h, _, _, _, _, _ => by omega
  | 0, f + 1, i, l, hi, _, ha, hb, hl, hs, ho => by
    refine ⟨l, ?_, hs, by rw [show b = i by omega]; exact ho⟩
    rw [ins_L0_succ, dF (show ¬ (i : Int) < (b : Int) by omega)]; rfl
  | n + 1, f + 1, i, l, hi, hf, ha, hb, hl, hs, ho => by
    obtain ⟨l1, h1, h2, h3⟩ := ins_L1_spec F f a b i l0 (by omega) (by omega) (i - a) F i l (by omega) (by omega) (Nat.le_refl _) hb hl hs (fun p q h1 h2 h3 h4 => ho p q h1 h2 (by omega))
    rw [ins_L0_succ, dT (show (i : Int) < (b : Int) by omega)]
    simp only [cond_true]
    rw [h1]
    exact ins_L0_spec F a b hF l0 n f (i + 1) l1 (by omega) (by omega) (by omega) (by rw [h2.len, ← hs.len]; exact hb) (by rw [h2.len, ← hs.len]; exact hl) h2 h3
def rng2 (l : List Int) (is : List Int) : Bool := match is with | [a, b] => decide (0 ≤ a ∧ a ≤ b ∧ b ≤ l.length ∧ l.length < 50) | _ => false
theorem rng2_spec {l is : List Int} (h : rng2 l is = true) : ∃ a b : Nat, is = [(a : Int), (b : Int)] ∧ a ≤ b ∧ b ≤ l.length ∧ l.length < 50 := by
  unfold rng2 at h
  split at h
  · rename_i a b
    have h := of_decide_eq_true h
    exact ⟨a.toNat, b.toNat, by rw [Int.toNat_of_nonneg h.1, Int.toNat_of_nonneg (by omega)], by omega, by omega, h.2.2.2⟩
  · cases h
def insOk : List Int → List Int → Bool := rng2
def insP (l is l' : List Int) : Prop := ∀ a b : Nat, is = [(a : Int), (b : Int)] → a ≤ b → runF (cx_ins 100) Try.f9 (.sl 0 0 0 none :: is.map (AV.int .i64)) (rowR l) = R0 l' ∧ Sp a b l l' ∧ Srt a b l'
noncomputable def insY (l is : List Int) : List Int := oneOf (insP l is)
noncomputable def insM (l is : List Int) : Res := ⟨true, .tup [], [.row 0 2 (.int .i64) (insY l is)]⟩
def insFu : Nat := 100
theorem nat2 {a b a' b' : Nat} (h : [(a : Int), (b : Int)] = [(a' : Int), (b' : Int)]) : a = a' ∧ b = b' := by
  simp only [List.cons.injEq, Int.natCast_inj, and_true] at h
  exact h
theorem ins_law {l is : List Int} (h : insOk l is = true) : insP l is (insY l is) := by
  refine oneOf_spec ?_
  obtain ⟨a, b, rfl, h1, h2, h3⟩ := rng2_spec h
  have key : ∃ l', ins_L0 100 100 a b (IntKind.wrap IntKind.i64 ((a : Int) + 1)) l = R0 l' ∧ Sp a b l l' ∧ Srt a b l' := by
    rw [wrapS (by simp only [big]; omega)]
    rcases Nat.lt_or_ge a b with hab | hab
    · exact ins_L0_spec 100 a b (by omega) l (b - (a + 1)) 100 (a + 1) l (by omega) (by omega) (by omega) h2 (by omega) (.refl _) (fun i j h1 h2 h3 => by omega)
    · refine ⟨l, ?_, .refl _, fun i j _ _ _ => by omega⟩
      rw [ins_L0_succ, dF (show ¬ ((a + 1 : Nat) : Int) < (b : Int) by omega)]; rfl
  obtain ⟨l', e1, e2, e3⟩ := key
  refine ⟨l', fun a' b' he _ => ?_⟩
  obtain ⟨rfl, rfl⟩ := nat2 he
  exact ⟨(ins_eq 100 l a b).trans e1, e2, e3⟩
theorem ins_retB (l is : List Int) (h : insOk l is = true) : runF (cx_ins insFu) Try.f9 (.sl 0 0 0 none :: is.map (AV.int .i64)) [.row 0 2 (.int .i64) l] = ⟨true, (insM l is).val, (insM l is).heap⟩ := by
  obtain ⟨a, b, he, h1, _, _⟩ := rng2_spec h
  exact (ins_law h a b he h1).1
end Go.Proofs.Ytaiokhbjjhicpaa

open Go Go.Abs Go.Proofs
set_option linter.unusedSimpArgs false
set_option linter.unusedVariables false
namespace Go.Proofs.Ytaiokhbjjhicpaa
/-! ### reversing -/
theorem rev_L0_spec (F a b : Nat) (l0 : List Int) : ∀ (n f i j : Nat) (l : List Int), j ≤ i + n → n < f → a ≤ i → j < b → b ≤ l.length → l.length < 1000 → Sp a b l0 l → ∃ l', rev_L0 F f i j l = R0 l' ∧ Sp a b l0 l'
  | n, 0, _, _, _, _, h, _, _, _, _, _ => by omega
  | 0, f + 1, i, j, l, hij, _, ha, hj, hb, hl, hs => by
    refine ⟨l, ?_, hs⟩
    rw [rev_L0_succ, dF (show ¬ (i : Int) < (j : Int) by omega)]; rfl
  | n + 1, f + 1, i, j, l, hij, hf, ha, hj, hb, hl, hs => by
    by_cases h : i < j
    · have hil : i < l.length := by omega
      have hjl : j < l.length := by omega
      rw [rev_L0_succ, dT (show (i : Int) < (j : Int) by omega), wrapS (show i < big by simp only [big]; omega), wrapP (show 1 ≤ j by omega) (show j < big by simp only [big]; omega)]
      simp only [nnT, ltT hil, ltT hjl, Int.toNat_natCast, dT hil, dT hjl, List.length_set, Bool.and_self, cond_true]
      have e : (l.set i (nth 0 l j)).set j (nth 0 l i) = sw l i j := rfl
      rw [e]
      exact rev_L0_spec F a b l0 n f (i + 1) (j - 1) (sw l i j) (by omega) (by omega) (by omega) (by omega) (by rw [sw_len]; exact hb) (by rw [sw_len]; exact hl) (.swap i j hs ha (by omega) (by omega) hj hb)
    · refine ⟨l, ?_, hs⟩
      rw [rev_L0_succ, dF (show ¬ (i : Int) < (j : Int) by omega)]; rfl
def revOk : List Int → List Int → Bool := fun l is => rng2 l is && !(nth 0 is 1 == 0)
def revP (l is l' : List Int) : Prop := ∀ a b : Nat, is = [(a : Int), (b : Int)] → runF (cx_rev 100) Try.f13 (.sl 0 0 0 none :: is.map (AV.int .i64)) (rowR l) = R0 l' ∧ Sp a b l l'
noncomputable def revY (l is : List Int) : List Int := oneOf (revP l is)
noncomputable def revM (l is : List Int) : Res := ⟨true, .tup [], [.row 0 2 (.int .i64) (revY l is)]⟩
def revFu : Nat := 100
theorem rev_law {l is : List Int} (h : revOk l is = true) : revP l is (revY l is) := by
  refine oneOf_spec ?_
  simp only [revOk, Bool.and_eq_true] at h
  obtain ⟨a, b, rfl, h1, h2, h3⟩ := rng2_spec h.1
  have hb0 : b ≠ 0 := fun e => by subst e; simp [nth] at h
  obtain ⟨l', e1, e2⟩ := rev_L0_spec 100 a b l b 100 a (b - 1) l (by omega) (by omega) (Nat.le_refl _) (by omega) h2 (by omega) (.refl _)
  refine ⟨l', fun a' b' he => ?_⟩
  obtain ⟨rfl, rfl⟩ := nat2 he
  refine ⟨(rev_eq 100 l a b).trans ?_, e2⟩
  rw [wrapP (by omega) (by simp only [big]; omega)]
  exact e1
theorem rev_retB (l is : List Int) (h : revOk l is = true) : runF (cx_rev revFu) Try.f13 (.sl 0 0 0 none :: is.map (AV.int .i64)) [.row 0 2 (.int .i64) l] = ⟨true, (revM l is).val, (revM l is).heap⟩ := by
  have h0 := h
  simp only [revOk, Bool.and_eq_true] at h
  obtain ⟨a, b, he, _, _, _⟩ := rng2_spec h.1
  exact (rev_law h0 a b he).1
/-! ### is it sorted -/
theorem pins_L1_spec (F m a b : Nat) (l : List Int) (hb : b ≤ l.length) (hl : l.length < 50) : ∀ (n f i : Nat), i + n = b → n < f → a < i → Srt a i l →
    ∃ t : Bool, pins_L1 F m f a b i 0 l = ⟨true, .bool t, rowR l⟩ ∧ (t = true → Srt a b l)
  | n, 0, i, _, h, _, _ => by omega
  | 0, f + 1, i, hi, _, ha, hs => by
    refine ⟨true, ?_, fun _ => by rw [show b = i by omega]; exact hs⟩
    rw [pins_L1_succ, dF (show ¬ (i : Int) < (b : Int) by omega)]
    simp only [pins_L1_S1, cond_false, dT (show (i : Int) = (b : Int) by omega), cond_true]
  | n + 1, f + 1, i, hi, hf, ha, hs => by
    have hil : i < l.length := by omega
    have hil' : i - 1 < l.length := by omega
    rw [pins_L1_succ, dT (show (i : Int) < (b : Int) by omega)]
    simp only [pins_L1_S2]
    rw [wrapP (show 1 ≤ i by omega) (show i < big by simp only [big]; omega)]
    simp only [nnT, ltT hil, ltT hil', Int.toNat_natCast, dT hil, dT hil', bne_self_eq_false, Bool.and_self, cond_true, cond_false]
    by_cases hc : nth 0 l i < nth 0 l (i - 1)
    · refine ⟨false, ?_, fun h => by cases h⟩
      simp only [dT hc, Bool.not_true, cond_false, pins_L1_S1]
      rw [dF (show ¬ (i : Int) = (b : Int) by omega), wrap_id (n := (b : Int) - a) (by omega) (by omega), dT (show (b : Int) - a < 50 by omega)]
      rfl
    · simp only [dF hc, Bool.not_false, cond_true]
      rw [wrapS (show i < big by simp only [big]; omega)]
      refine pins_L1_spec F m a b l hb hl n f (i + 1) (by omega) (by omega) (by omega) fun p q h1 h2 h3 => ?_
      by_cases e : q = i
      · subst e
        by_cases e2 : p = q - 1
        · subst e2; omega
        · have := hs p (q - 1) h1 (by omega) (by omega); omega
      · exact hs p q h1 h2 (by omega)
def pinsOk : List Int → List Int → Bool := fun l is => rng2 l is && decide (nth 0 is 0 < nth 0 is 1)
def pinsP (l is : List Int) (t : Bool) : Prop := ∀ a b : Nat, is = [(a : Int), (b : Int)] → runF (cx_pins 100) Try.f14 (.sl 0 0 0 none :: is.map (AV.int .i64)) (rowR l) = ⟨true, .bool t, rowR l⟩ ∧ (t = true → Srt a b l)
noncomputable def pinsV (l is : List Int) : Bool := oneOf (pinsP l is)
noncomputable def pinsM (l is : List Int) : Res := ⟨true, .bool (pinsV l is), [.row 0 2 (.int .i64) l]⟩
def pinsFu : Nat := 100
theorem pins_law {l is : List Int} (h : pinsOk l is = true) : pinsP l is (pinsV l is) := by
  refine oneOf_spec ?_
  simp only [pinsOk, Bool.and_eq_true] at h
  obtain ⟨a, b, rfl, h1, h2, h3⟩ := rng2_spec h.1
  have hab : (a : Int) < b := of_decide_eq_true h.2
  obtain ⟨t, e1, e2⟩ := pins_L1_spec 100 99 a b l h2 h3 (b - (a + 1)) 100 (a + 1) (by omega) (by omega) (by omega) (fun i j h1 h2 h3 => by omega)
  refine ⟨t, fun a' b' he => ?_⟩
  obtain ⟨rfl, rfl⟩ := nat2 he
  refine ⟨(pins_eq 100 l a b).trans ?_, e2⟩
  rw [wrapS (show a < big by simp only [big]; omega), pins_L0_succ]
  exact e1
theorem pins_retB (l is : List Int) (h : pinsOk l is = true) : runF (cx_pins pinsFu) Try.f14 (.sl 0 0 0 none :: is.map (AV.int .i64)) [.row 0 2 (.int .i64) l] = ⟨true, (pinsM l is).val, (pinsM l is).heap⟩ := by
  have h0 := h
  simp only [pinsOk, Bool.and_eq_true] at h
  obtain ⟨a, b, he, _, _, _⟩ := rng2_spec h.1
  exact (pins_law h0 a b he).1
/-! ### a pivot -/
def Pv (i j k : Int) (r : Res) : Prop := ∃ p h : Int, r = ⟨true, .tup [.int .i64 p, .int .i64 h], []⟩ ∧ (p = i ∨ p = j ∨ p = k)
theorem Pv.ite {i j k : Int} {c : Bool} {r r' : Res} (h : Pv i j k r) (h' : Pv i j k r') : Pv i j k (bif c then r else r') := by cases c <;> assumption
abbrev LII := List Int × Int × Int
def chooseOk : LII → Bool := fun (l, a, b) => decide (0 ≤ a ∧ a + 8 ≤ b ∧ b ≤ l.length ∧ l.length < 50)
theorem choose_ex (l : List Int) (a b : Int) (h : chooseOk (l, a, b) = true) : ∃ p h : Int, choose_run 1 (l, a, b) = ⟨true, .tup [.int .i64 p, .int .i64 h], []⟩ ∧ a ≤ p ∧ p < b := by
  have h := of_decide_eq_true h
  have hq : Int.tdiv (b - a) 4 = (b - a) / 4 := Int.tdiv_eq_ediv_of_nonneg (by omega)
  have e0 : IntKind.wrap IntKind.i64 (b - a) = b - a := wrap_id (by omega) (by omega)
  have e1 : IntKind.wrap IntKind.i64 (Int.tdiv (b - a) 4) = (b - a) / 4 := by rw [hq]; exact wrap_id (by omega) (by omega)
  have f1 : IntKind.wrap IntKind.i64 ((b - a) / 4 * 1) = (b - a) / 4 := by rw [Int.mul_one]; exact wrap_id (by omega) (by omega)
  have f2 : IntKind.wrap IntKind.i64 ((b - a) / 4 * 2) = (b - a) / 4 * 2 := wrap_id (by omega) (by omega)
  have f3 : IntKind.wrap IntKind.i64 ((b - a) / 4 * 3) = (b - a) / 4 * 3 := wrap_id (by omega) (by omega)
  have g1 : IntKind.wrap IntKind.i64 (a + (b - a) / 4) = a + (b - a) / 4 := wrap_id (by omega) (by omega)
  have g2 : IntKind.wrap IntKind.i64 (a + (b - a) / 4 * 2) = a + (b - a) / 4 * 2 := wrap_id (by omega) (by omega)
  have g3 : IntKind.wrap IntKind.i64 (a + (b - a) / 4 * 3) = a + (b - a) / 4 * 3 := wrap_id (by omega) (by omega)
  have l1 : (decide (0 ≤ a + (b - a) / 4) && decide (a + (b - a) / 4 < (l.length : Int))) = true := by simp; omega
  have l2 : (decide (0 ≤ a + (b - a) / 4 * 2) && decide (a + (b - a) / 4 * 2 < (l.length : Int))) = true := by simp; omega
  have l3 : (decide (0 ≤ a + (b - a) / 4 * 3) && decide (a + (b - a) / 4 * 3 < (l.length : Int))) = true := by simp; omega
  have key : ∃ i j k : Int, (a ≤ i ∧ i < b) ∧ (a ≤ j ∧ j < b) ∧ (a ≤ k ∧ k < b) ∧ Pv i j k (choose_run 1 (l, a, b)) := by
    refine ⟨a + (b - a) / 4, a + (b - a) / 4 * 2, a + (b - a) / 4 * 3, by omega, by omega, by omega, ?_⟩
    have P1 : ∀ h, Pv (a + (b - a) / 4) (a + (b - a) / 4 * 2) (a + (b - a) / 4 * 3) ⟨true, .tup [.int .i64 (a + (b - a) / 4), .int .i64 h], []⟩ := fun h => ⟨_, h, rfl, .inl rfl⟩
    have P2 : ∀ h, Pv (a + (b - a) / 4) (a + (b - a) / 4 * 2) (a + (b - a) / 4 * 3) ⟨true, .tup [.int .i64 (a + (b - a) / 4 * 2), .int .i64 h], []⟩ := fun h => ⟨_, h, rfl, .inr (.inl rfl)⟩
    have P3 : ∀ h, Pv (a + (b - a) / 4) (a + (b - a) / 4 * 2) (a + (b - a) / 4 * 3) ⟨true, .tup [.int .i64 (a + (b - a) / 4 * 3), .int .i64 h], []⟩ := fun h => ⟨_, h, rfl, .inr (.inr rfl)⟩
    have S1 : Pv (a + (b - a) / 4) (a + (b - a) / 4 * 2) (a + (b - a) / 4 * 3) (choose_S1 l a b) := by
      simp only [choose_S1, e0, e1, f1, f2, f3, g1, g2, g3]; exact (P2 0).ite (P3 0)
    have S2 : Pv (a + (b - a) / 4) (a + (b - a) / 4 * 2) (a + (b - a) / 4 * 3) (choose_S2 l a b) := by
      simp only [choose_S2, e0, e1, f1, f2, f3, g1, g2, g3, l1, l2, l3, cond_true]; exact ((P2 0).ite S1).ite S1
    have S3 : Pv (a + (b - a) / 4) (a + (b - a) / 4 * 2) (a + (b - a) / 4 * 3) (choose_S3 l a b) := by
      simp only [choose_S3, e0, e1, f1, f2, f3, g1, g2, g3]; exact (P2 0).ite (P1 0)
    have S4 : Pv (a + (b - a) / 4) (a + (b - a) / 4 * 2) (a + (b - a) / 4 * 3) (choose_S4 l a b) := by
      simp only [choose_S4, e0, e1, f1, f2, f3, g1, g2, g3, l1, l2, l3, cond_true]; exact S2.ite (((P2 0).ite S3).ite S3)
    have S5 : Pv (a + (b - a) / 4) (a + (b - a) / 4 * 2) (a + (b - a) / 4 * 3) (choose_S5 l a b) := by
      simp only [choose_S5, e0, e1, f1, f2, f3, g1, g2, g3, l1, l2, l3, cond_true]; exact (S2.ite S4).ite S4
    have S6 : Pv (a + (b - a) / 4) (a + (b - a) / 4 * 2) (a + (b - a) / 4 * 3) (choose_S6 l a b) := by
      simp only [choose_S6, e0, e1, f1, f2, f3, g1, g2, g3]; exact (P1 0).ite (P3 0)
    have S7 : Pv (a + (b - a) / 4) (a + (b - a) / 4 * 2) (a + (b - a) / 4 * 3) (choose_S7 l a b) := by
      simp only [choose_S7, e0, e1, f1, f2, f3, g1, g2, g3, l1, l2, l3, cond_true]; exact ((P1 0).ite S6).ite S6
    have S8 : Pv (a + (b - a) / 4) (a + (b - a) / 4 * 2) (a + (b - a) / 4 * 3) (choose_S8 l a b) := by
      simp only [choose_S8, e0, e1, f1, f2, f3, g1, g2, g3]; exact (P1 0).ite (P2 1)
    have S9 : Pv (a + (b - a) / 4) (a + (b - a) / 4 * 2) (a + (b - a) / 4 * 3) (choose_S9 l a b) := by
      simp only [choose_S9, e0, e1, f1, f2, f3, g1, g2, g3, l1, l2, l3, cond_true]; exact S7.ite (((P1 0).ite S8).ite S8)
    have S10 : Pv (a + (b - a) / 4) (a + (b - a) / 4 * 2) (a + (b - a) / 4 * 3) (choose_S10 l a b) := by
      simp only [choose_S10, e0, e1, f1, f2, f3, g1, g2, g3, l1, l2, l3, cond_true]; exact S5.ite ((S7.ite S9).ite S9)
    have e : choose_run 1 (l, a, b) = _ := (choose_arg ..).trans (choose_eq ..)
    rw [e]
    simp only [e0, e1, f1, f2, f3, g1, g2, g3, l1, l2, l3, cond_true, dT (show b - a ≥ 8 by omega), dF (show ¬ b - a ≥ 50 by omega), cond_false]
    exact (S5.ite S10).ite S10
  obtain ⟨i, j, k, hi, hj, hk, p, h', e, hp⟩ := key
  exact ⟨p, h', e, by rcases hp with rfl | rfl | rfl <;> omega, by rcases hp with rfl | rfl | rfl <;> omega⟩
def chooseP (z : LII) (y : Int × Int) : Prop := choose_run 1 z = ⟨true, .tup [.int .i64 y.1, .int .i64 y.2], []⟩ ∧ z.2.1 ≤ y.1 ∧ y.1 < z.2.2
noncomputable def chooseM : LII → Int × Int := fun z => oneOf (chooseP z)
def chooseFu : LII → Nat := fun _ => 1
theorem choose_law {z : LII} (h : chooseOk z = true) : chooseP z (chooseM z) := by
  obtain ⟨l, a, b⟩ := z
  obtain ⟨p, h', e, h1, h2⟩ := choose_ex l a b h
  exact oneOf_spec ⟨(p, h'), e, h1, h2⟩
theorem Ret.int2' (k l : IntKind) (a b : Int) : Ret [none, none] (.pair (.int k) (.int l)) ⟨true, .tup [.int k a, .int l b], []⟩ (a, b) :=
  ⟨rfl, rfl, rfl, rfl, by simp [roVs, valsOf, view, view1, flatA, cellsA, decOk, nth, isInt, dropL, width], rfl, fun ws h => by cases h; simp⟩
theorem choose_ret (z : LII) (h : chooseOk z = true) : Ret choose_re choose_R (choose_run (chooseFu z) z) (chooseM z) := Ret.of (choose_law h).1 (Ret.int2' _ _ _ _)
end Go.Proofs.Ytaiokhbjjhicpaa

open Go Go.Abs Go.Proofs
set_option linter.unusedSimpArgs false
set_option linter.unusedVariables false
namespace Go.Proofs.Ytaiokhbjjhicpaa
structure PI (a b : Nat) (v : Int) (i j : Nat) (l : List Int) : Prop where
  ai : a < i
  ij : i ≤ j + 1
  jb : j < b
  at' : nth 0 l a = v
  lo : ∀ k, a < k → k < i → nth 0 l k < v
  hi : ∀ k, j < k → k < b → v ≤ nth 0 l k
theorem part_L0_spec (F a b : Nat) (v : Int) (l : List Int) (hb : b ≤ l.length) (hl : l.length < 50) (j : Nat) : ∀ (n f i : Nat), j + 1 = i + n → n < f → PI a b v i j l →
    ∃ i' : Nat, part_L0 F f a i j l = part_L1 F F a i' j l ∧ PI a b v i' j l ∧ (i' ≤ j → v ≤ nth 0 l i')
  | n, 0, i, _, h, _ => by omega
  | 0, f + 1, i, hi, _, hp => by
    refine ⟨i, ?_, hp, fun h => by omega⟩
    rw [part_L0_succ, dF (show ¬ (i : Int) ≤ (j : Int) by omega)]; rfl
  | n + 1, f + 1, i, hi, hf, hp => by
    have h1 := hp.ai
    have h2 := hp.jb
    have hil : i < l.length := by omega
    have hal : a < l.length := by omega
    rw [part_L0_succ, dT (show (i : Int) ≤ (j : Int) by omega)]
    simp only [nnT, ltT hil, ltT hal, Int.toNat_natCast, dT hil, dT hal, bne_self_eq_false, Bool.and_self, cond_true, cond_false]
    by_cases hc : nth 0 l i < nth 0 l a
    · rw [dT hc, wrapS (show i < big by simp only [big]; omega)]
      refine part_L0_spec F a b v l hb hl j n f (i + 1) (by omega) (by omega) ⟨by omega, by omega, hp.jb, hp.at', fun k k1 k2 => ?_, hp.hi⟩
      by_cases e : k = i
      · subst e; rw [← hp.at']; exact hc
      · exact hp.lo k k1 (by omega)
    · rw [dF hc]
      exact ⟨i, rfl, hp, fun _ => by rw [← hp.at']; omega⟩
theorem part_L1_spec (F a b : Nat) (v : Int) (l : List Int) (hb : b ≤ l.length) (hl : l.length < 50) (i : Nat) : ∀ (n f j : Nat), j + 1 = i + n → n < f → PI a b v i j l → (i ≤ j → v ≤ nth 0 l i) →
    ∃ j' : Nat, part_L1 F f a i j l = part_L1_S1 F a i j' l ∧ PI a b v i j' l ∧ (i ≤ j' → i < j' ∧ nth 0 l j' < v)
  | n, 0, j, _, h, _, _ => by omega
  | 0, f + 1, j, hj, _, hp, _ => by
    refine ⟨j, ?_, hp, fun h => by omega⟩
    rw [part_L1_succ, dF (show ¬ (i : Int) ≤ (j : Int) by omega)]; rfl
  | n + 1, f + 1, j, hj, hf, hp, hv => by
    have h1 := hp.ai
    have h2 := hp.jb
    have hjl : j < l.length := by omega
    have hal : a < l.length := by omega
    rw [part_L1_succ, dT (show (i : Int) ≤ (j : Int) by omega)]
    simp only [nnT, ltT hjl, ltT hal, Int.toNat_natCast, dT hjl, dT hal, bne_self_eq_false, Bool.and_self, cond_true, cond_false, part_L1_S2]
    by_cases hc : nth 0 l j < nth 0 l a
    · rw [dT hc]
      refine ⟨j, rfl, hp, fun h => ⟨?_, by rw [← hp.at']; exact hc⟩⟩
      have := hv h
      have := hp.at'
      rcases Nat.lt_or_ge i j with h' | h'
      · exact h'
      · have : i = j := by omega
        subst this; omega
    · rw [dF hc, wrapP (show 1 ≤ j by omega) (show j < big by simp only [big]; omega)]
      refine part_L1_spec F a b v l hb hl i n f (j - 1) (by omega) (by omega) ⟨hp.ai, by omega, by omega, hp.at', hp.lo, fun k k1 k2 => ?_⟩ (fun h => hv (by omega))
      by_cases e : k = j
      · subst e; rw [← hp.at']; omega
      · exact hp.hi k (by omega) k2
theorem part_L3_spec (F m a b : Nat) (v : Int) (l : List Int) (hb : b ≤ l.length) (hl : l.length < 50) (j : Nat) : ∀ (n f i : Nat), j + 1 = i + n → n < f → PI a b v i j l →
    ∃ i' : Nat, part_L3 F m f a i j l = part_L4 F m F a i' j l ∧ PI a b v i' j l ∧ (i' ≤ j → v ≤ nth 0 l i') ∧ i ≤ i'
  | n, 0, i, _, h, _ => by omega
  | 0, f + 1, i, hi, _, hp => by
    refine ⟨i, ?_, hp, fun h => by omega, Nat.le_refl _⟩
    rw [part_L3_succ, dF (show ¬ (i : Int) ≤ (j : Int) by omega)]; rfl
  | n + 1, f + 1, i, hi, hf, hp => by
    have h1 := hp.ai
    have h2 := hp.jb
    have hil : i < l.length := by omega
    have hal : a < l.length := by omega
    rw [part_L3_succ, dT (show (i : Int) ≤ (j : Int) by omega)]
    simp only [nnT, ltT hil, ltT hal, Int.toNat_natCast, dT hil, dT hal, bne_self_eq_false, Bool.and_self, cond_true, cond_false]
    by_cases hc : nth 0 l i < nth 0 l a
    · rw [dT hc, wrapS (show i < big by simp only [big]; omega)]
      obtain ⟨i', q1, q2, q3, q4⟩ := part_L3_spec F m a b v l hb hl j n f (i + 1) (by omega) (by omega) ⟨by omega, by omega, hp.jb, hp.at', fun k k1 k2 => by
        by_cases e : k = i
        · subst e; rw [← hp.at']; exact hc
        · exact hp.lo k k1 (by omega), hp.hi⟩
      exact ⟨i', q1, q2, q3, by omega⟩
    · rw [dF hc]
      exact ⟨i, rfl, hp, fun _ => by rw [← hp.at']; omega, Nat.le_refl _⟩
theorem part_L4_spec (F m a b : Nat) (v : Int) (l : List Int) (hb : b ≤ l.length) (hl : l.length < 50) (i : Nat) : ∀ (n f j : Nat), j + 1 = i + n → n < f → PI a b v i j l → (i ≤ j → v ≤ nth 0 l i) →
    ∃ j' : Nat, part_L4 F m f a i j l = part_L4_S1 F m a i j' l ∧ PI a b v i j' l ∧ (i ≤ j' → i < j' ∧ nth 0 l j' < v) ∧ j' ≤ j
  | n, 0, j, _, h, _, _ => by omega
  | 0, f + 1, j, hj, _, hp, _ => by
    refine ⟨j, ?_, hp, fun h => by omega, Nat.le_refl _⟩
    rw [part_L4_succ, dF (show ¬ (i : Int) ≤ (j : Int) by omega)]; rfl
  | n + 1, f + 1, j, hj, hf, hp, hv => by
    have h1 := hp.ai
    have h2 := hp.jb
    have hjl : j < l.length := by omega
    have hal : a < l.length := by omega
    rw [part_L4_succ, dT (show (i : Int) ≤ (j : Int) by omega)]
    simp only [nnT, ltT hjl, ltT hal, Int.toNat_natCast, dT hjl, dT hal, bne_self_eq_false, Bool.and_self, cond_true, cond_false, part_L4_S2]
    by_cases hc : nth 0 l j < nth 0 l a
    · rw [dT hc]
      refine ⟨j, rfl, hp, fun h => ⟨?_, by rw [← hp.at']; exact hc⟩, Nat.le_refl _⟩
      have := hv h
      have := hp.at'
      rcases Nat.lt_or_ge i j with h' | h'
      · exact h'
      · have : i = j := by omega
        subst this; omega
    · rw [dF hc, wrapP (show 1 ≤ j by omega) (show j < big by simp only [big]; omega)]
      obtain ⟨j', q1, q2, q3, q4⟩ := part_L4_spec F m a b v l hb hl i n f (j - 1) (by omega) (by omega) ⟨hp.ai, by omega, by omega, hp.at', hp.lo, fun k k1 k2 => by
        by_cases e : k = j
        · subst e; rw [← hp.at']; omega
        · exact hp.hi k (by omega) k2⟩ (fun h => hv (by omega))
      exact ⟨j', q1, q2, q3, by omega⟩
/-- The end: the pivot comes to its place. -/
structure PE (a b : Nat) (j : Nat) (l' : List Int) : Prop where
  aj : a ≤ j
  jb : j < b
  lo : ∀ k, a ≤ k → k < j → nth 0 l' k ≤ nth 0 l' j
  hi : ∀ k, j < k → k < b → nth 0 l' j ≤ nth 0 l' k
theorem part_end {a b : Nat} {v : Int} {i j : Nat} {l : List Int} (hb : b ≤ l.length) (hp : PI a b v i j l) (h : j < i) : PE a b j (sw l j a) := by
  have h1 := hp.ai
  have h2 := hp.ij
  have h3 := hp.jb
  have ej : j + 1 = i := by omega
  have g := fun k => sw_get (l := l) (i := j) (j := a) (by omega) (by omega) k
  have vj : nth 0 (sw l j a) j = v := by
    rw [g]
    by_cases e : j = a
    · rw [if_pos e, e]; exact hp.at'
    · rw [if_neg e, if_pos rfl]; exact hp.at'
  refine ⟨by omega, hp.jb, fun k k1 k2 => ?_, fun k k1 k2 => ?_⟩
  · rw [vj, g]
    by_cases e : k = a
    · rw [if_pos e]
      exact Int.le_of_lt (hp.lo j (by omega) (by omega))
    · rw [if_neg e, if_neg (by omega)]
      exact Int.le_of_lt (hp.lo k (by omega) (by omega))
  · rw [vj, g, if_neg (by omega), if_neg (by omega)]
    exact hp.hi k k1 k2
theorem PI.step {a b : Nat} {v : Int} {i j : Nat} {l : List Int} (hb : b ≤ l.length) (hp : PI a b v i j l) (hij : i < j) (h1 : v ≤ nth 0 l i) (h2 : nth 0 l j < v) : PI a b v (i + 1) (j - 1) (sw l i j) := by
  have g1 := hp.ai
  have g3 := hp.jb
  have g := fun k => sw_get (l := l) (i := i) (j := j) (by omega) (by omega) k
  refine ⟨by omega, by omega, by omega, ?_, fun k k1 k2 => ?_, fun k k1 k2 => ?_⟩
  · rw [g, if_neg (by omega), if_neg (by omega)]; exact hp.at'
  · rw [g]
    by_cases e : k = i
    · rw [if_neg (by omega), if_pos e]; exact h2
    · rw [if_neg (by omega), if_neg e]; exact hp.lo k k1 (by omega)
  · rw [g]
    by_cases e : k = j
    · rw [if_pos e]; exact h1
    · rw [if_neg e, if_neg (by omega)]; exact hp.hi k (by omega) k2
def partR (j : Nat) (t : Bool) (l : List Int) : Res := ⟨true, .tup [.int .i64 (j : Int), .bool t], rowR l⟩
theorem part_L2_spec (F a b : Nat) (hF : 60 ≤ F) (v : Int) (l0 : List Int) : ∀ (n f i j : Nat) (l : List Int), j + 1 ≤ i + n → n < f → b ≤ l.length → l.length < 50 → PI a b v i j l → Sp a b l0 l →
    ∃ (j' : Nat) (l' : List Int), part_L2 F f a i j l = partR j' false l' ∧ Sp a b l0 l' ∧ PE a b j' l'
  | n, 0, _, _, _, _, h, _, _, _, _ => by omega
  | n, f + 1, i, j, l, hij, hf, hb, hl, hp, hs => by
    have g1 := hp.ai
    have g2 := hp.ij
    have g3 := hp.jb
    obtain ⟨i1, e1, p1, c1, m1⟩ := part_L3_spec F f a b v l hb hl j (j + 1 - i) F i (by omega) (by omega) hp
    have g4 := p1.ij
    obtain ⟨j1, e2, p2, c2, m2⟩ := part_L4_spec F f a b v l hb hl i1 (j + 1 - i1) F j (by omega) (by omega) p1 c1
    have g5 := p2.ij
    have g6 := p2.ai
    rw [part_L2_succ, e1, e2]
    simp only [part_L4_S1]
    have hal : a < l.length := by omega
    have hjl : j1 < l.length := by omega
    by_cases hc : j1 < i1
    · rw [dT (show (i1 : Int) > (j1 : Int) by omega)]
      simp only [nnT, ltT hal, ltT hjl, Int.toNat_natCast, dT hal, dT hjl, List.length_set, Bool.and_self, cond_true]
      exact ⟨j1, sw l j1 a, rfl, .swap j1 a hs (by omega) (by omega) (Nat.le_refl _) (by omega) hb, part_end hb p2 hc⟩
    · obtain ⟨d1, d2⟩ := c2 (by omega)
      have hil : i1 < l.length := by omega
      rw [dF (show ¬ (i1 : Int) > (j1 : Int) by omega), wrapS (show i1 < big by simp only [big]; omega), wrapP (show 1 ≤ j1 by omega) (show j1 < big by simp only [big]; omega)]
      simp only [nnT, ltT hil, ltT hjl, Int.toNat_natCast, dT hil, dT hjl, List.length_set, Bool.and_self, cond_true, cond_false]
      exact part_L2_spec F a b hF v l0 (n - 1) f (i1 + 1) (j1 - 1) (sw l i1 j1) (by omega) (by omega) (by rw [sw_len]; exact hb) (by rw [sw_len]; exact hl) (p2.step hb d1 (c1 (by omega)) d2) (.swap i1 j1 hs (by omega) (by omega) (by omega) (by omega) hb)
def rng3 (l : List Int) (is : List Int) : Bool := match is with | [a, b, p] => decide (0 ≤ a ∧ a ≤ p ∧ p < b ∧ b ≤ l.length ∧ l.length < 50) | _ => false
theorem rng3_spec {l is : List Int} (h : rng3 l is = true) : ∃ a b p : Nat, is = [(a : Int), (b : Int), (p : Int)] ∧ a ≤ p ∧ p < b ∧ b ≤ l.length ∧ l.length < 50 := by
  unfold rng3 at h
  split at h
  · rename_i a b p
    have h := of_decide_eq_true h
    exact ⟨a.toNat, b.toNat, p.toNat, by rw [Int.toNat_of_nonneg (by omega), Int.toNat_of_nonneg (by omega), Int.toNat_of_nonneg (by omega)], by omega, by omega, by omega, h.2.2.2.2⟩
  · cases h
theorem nat3 {a b c a' b' c' : Nat} (h : [(a : Int), (b : Int), (c : Int)] = [(a' : Int), (b' : Int), (c' : Int)]) : a = a' ∧ b = b' ∧ c = c' := by
  simp only [List.cons.injEq, Int.natCast_inj, and_true] at h
  exact h
theorem part_ex (l : List Int) (a b p : Nat) (h1 : a ≤ p) (h2 : p < b) (hb : b ≤ l.length) (hl : l.length < 50) : ∃ (j : Nat) (t : Bool) (l' : List Int), runF (cx_part 100) Try.f17 (.sl 0 0 0 none :: [(a : Int), (b : Int), (p : Int)].map (AV.int .i64)) (rowR l) = partR j t l' ∧ Sp a b l l' ∧ PE a b j l' := by
  have hpl : p < l.length := by omega
  have hal : a < l.length := by omega
  have e0 : runF (cx_part 100) Try.f17 (.sl 0 0 0 none :: [(a : Int), (b : Int), (p : Int)].map (AV.int .i64)) (rowR l) = _ := part_eq 100 l a b p
  rw [e0]
  simp only [nnT, ltT hpl, ltT hal, Int.toNat_natCast, dT hpl, dT hal, List.length_set, Bool.and_self, cond_true]
  rw [wrapS (show a < big by simp only [big]; omega), wrapP (show 1 ≤ b by omega) (show b < big by simp only [big]; omega)]
  have esw : (l.set a (nth 0 l p)).set p (nth 0 l a) = sw l a p := rfl
  rw [esw]
  have hs : Sp a b l (sw l a p) := .swap a p (.refl _) (Nat.le_refl _) (by omega) h1 h2 hb
  have hlen := sw_len l a p
  have hp0 : PI a b (nth 0 (sw l a p) a) (a + 1) (b - 1) (sw l a p) := ⟨by omega, by omega, by omega, rfl, fun k k1 k2 => by omega, fun k k1 k2 => by omega⟩
  generalize sw l a p = l1 at *
  obtain ⟨i1, e1, p1, c1⟩ := part_L0_spec 100 a b _ l1 (by omega) (by omega) (b - 1) (b - 1 + 1 - (a + 1)) 100 (a + 1) (by omega) (by omega) hp0
  have g4 := p1.ij
  have g6 := p1.ai
  obtain ⟨j1, e2, p2, c2⟩ := part_L1_spec 100 a b _ l1 (by omega) (by omega) i1 (b - 1 + 1 - i1) 100 (b - 1) (by omega) (by omega) p1 c1
  have g5 := p2.ij
  have g7 := p2.jb
  rw [e1, e2]
  simp only [part_L1_S1]
  have hal1 : a < l1.length := by omega
  have hjl : j1 < l1.length := by omega
  by_cases hc : j1 < i1
  · rw [dT (show (i1 : Int) > (j1 : Int) by omega)]
    simp only [nnT, ltT hal1, ltT hjl, Int.toNat_natCast, dT hal1, dT hjl, List.length_set, Bool.and_self, cond_true]
    exact ⟨j1, true, sw l1 j1 a, rfl, .swap j1 a hs (by omega) (by omega) (Nat.le_refl _) (by omega) (by omega), part_end (by omega) p2 hc⟩
  · obtain ⟨d1, d2⟩ := c2 (by omega)
    have hil : i1 < l1.length := by omega
    rw [dF (show ¬ (i1 : Int) > (j1 : Int) by omega), wrapS (show i1 < big by simp only [big]; omega), wrapP (show 1 ≤ j1 by omega) (show j1 < big by simp only [big]; omega)]
    simp only [nnT, ltT hil, ltT hjl, Int.toNat_natCast, dT hil, dT hjl, List.length_set, Bool.and_self, cond_true, cond_false]
    have hlen2 := sw_len l1 i1 j1
    obtain ⟨j', l', q1, q2, q3⟩ := part_L2_spec 100 a b (by omega) _ l 60 100 (i1 + 1) (j1 - 1) (sw l1 i1 j1) (by omega) (by omega) (by omega) (by omega) (p2.step (by omega) d1 (c1 (by omega)) d2) (.swap i1 j1 hs (by omega) (by omega) (by omega) (by omega) (by omega))
    exact ⟨j', false, l', q1, q2, q3⟩
def partOk : List Int → List Int → Bool := rng3
def partP (l is : List Int) (y : Nat × Bool × List Int) : Prop := ∀ a b p : Nat, is = [(a : Int), (b : Int), (p : Int)] → runF (cx_part 100) Try.f17 (.sl 0 0 0 none :: is.map (AV.int .i64)) (rowR l) = partR y.1 y.2.1 y.2.2 ∧ Sp a b l y.2.2 ∧ PE a b y.1 y.2.2
noncomputable def partT (l is : List Int) : Nat × Bool × List Int := oneOf (partP l is)
noncomputable def partV (l is : List Int) : Int := ((partT l is).1 : Int)
noncomputable def partB (l is : List Int) : Bool := (partT l is).2.1
noncomputable def partY (l is : List Int) : List Int := (partT l is).2.2
noncomputable def partM (l is : List Int) : Res := ⟨true, .tup [.int .i64 (partV l is), .bool (partB l is)], [.row 0 2 (.int .i64) (partY l is)]⟩
def partFu : Nat := 100
theorem part_law {l is : List Int} (h : partOk l is = true) : partP l is (partT l is) := by
  refine oneOf_spec ?_
  obtain ⟨a, b, p, rfl, h1, h2, h3, h4⟩ := rng3_spec h
  obtain ⟨j, t, l', e1, e2, e3⟩ := part_ex l a b p h1 h2 h3 h4
  refine ⟨(j, t, l'), fun a' b' p' he => ?_⟩
  obtain ⟨rfl, rfl, rfl⟩ := nat3 he
  exact ⟨e1, e2, e3⟩
theorem part_retB (l is : List Int) (h : partOk l is = true) : runF (cx_part partFu) Try.f17 (.sl 0 0 0 none :: is.map (AV.int .i64)) [.row 0 2 (.int .i64) l] = ⟨true, (partM l is).val, (partM l is).heap⟩ := by
  obtain ⟨a, b, p, he, _, _, _, _⟩ := rng3_spec h
  exact (part_law h a b p he).1
/-! ### what is equal to the pivot -/
structure QI (a b : Nat) (v : Int) (i j : Nat) (l : List Int) : Prop where
  ai : a < i
  ij : i ≤ j + 1
  jb : j < b
  at' : nth 0 l a = v
  lo : ∀ k, a < k → k < i → nth 0 l k ≤ v
  hi : ∀ k, j < k → k < b → v < nth 0 l k
theorem peq_L1_spec (F m a b : Nat) (v : Int) (l : List Int) (hb : b ≤ l.length) (hl : l.length < 50) (j : Nat) : ∀ (n f i : Nat), j + 1 = i + n → n < f → QI a b v i j l →
    ∃ i' : Nat, peq_L1 F m f a i j l = peq_L2 F m F a i' j l ∧ QI a b v i' j l ∧ (i' ≤ j → v < nth 0 l i') ∧ i ≤ i'
  | n, 0, i, _, h, _ => by omega
  | 0, f + 1, i, hi, _, hp => by
    refine ⟨i, ?_, hp, fun h => by omega, Nat.le_refl _⟩
    rw [peq_L1_succ, dF (show ¬ (i : Int) ≤ (j : Int) by omega)]; rfl
  | n + 1, f + 1, i, hi, hf, hp => by
    have h1 := hp.ai
    have h2 := hp.jb
    have hil : i < l.length := by omega
    have hal : a < l.length := by omega
    rw [peq_L1_succ, dT (show (i : Int) ≤ (j : Int) by omega)]
    simp only [nnT, ltT hil, ltT hal, Int.toNat_natCast, dT hil, dT hal, bne_self_eq_false, Bool.and_self, cond_true, cond_false]
    by_cases hc : nth 0 l a < nth 0 l i
    · rw [dT hc]
      exact ⟨i, rfl, hp, fun _ => by rw [← hp.at']; exact hc, Nat.le_refl _⟩
    · rw [dF hc, wrapS (show i < big by simp only [big]; omega)]
      obtain ⟨i', q1, q2, q3, q4⟩ := peq_L1_spec F m a b v l hb hl j n f (i + 1) (by omega) (by omega) ⟨by omega, by omega, hp.jb, hp.at', fun k k1 k2 => by
        by_cases e : k = i
        · subst e; rw [← hp.at']; omega
        · exact hp.lo k k1 (by omega), hp.hi⟩
      exact ⟨i', q1, q2, q3, by omega⟩
theorem peq_L2_spec (F m a b : Nat) (v : Int) (l : List Int) (hb : b ≤ l.length) (hl : l.length < 50) (i : Nat) : ∀ (n f j : Nat), j + 1 = i + n → n < f → QI a b v i j l → (i ≤ j → v < nth 0 l i) →
    ∃ j' : Nat, peq_L2 F m f a i j l = peq_L2_S1 F m a i j' l ∧ QI a b v i j' l ∧ (i ≤ j' → i < j' ∧ nth 0 l j' ≤ v) ∧ j' ≤ j
  | n, 0, j, _, h, _, _ => by omega
  | 0, f + 1, j, hj, _, hp, _ => by
    refine ⟨j, ?_, hp, fun h => by omega, Nat.le_refl _⟩
    rw [peq_L2_succ, dF (show ¬ (i : Int) ≤ (j : Int) by omega)]; rfl
  | n + 1, f + 1, j, hj, hf, hp, hv => by
    have h1 := hp.ai
    have h2 := hp.jb
    have hjl : j < l.length := by omega
    have hal : a < l.length := by omega
    rw [peq_L2_succ, dT (show (i : Int) ≤ (j : Int) by omega)]
    simp only [nnT, ltT hjl, ltT hal, Int.toNat_natCast, dT hjl, dT hal, bne_self_eq_false, Bool.and_self, cond_true, cond_false, peq_L2_S2]
    by_cases hc : nth 0 l a < nth 0 l j
    · rw [dT hc, wrapP (show 1 ≤ j by omega) (show j < big by simp only [big]; omega)]
      obtain ⟨j', q1, q2, q3, q4⟩ := peq_L2_spec F m a b v l hb hl i n f (j - 1) (by omega) (by omega) ⟨hp.ai, by omega, by omega, hp.at', hp.lo, fun k k1 k2 => by
        by_cases e : k = j
        · subst e; rw [← hp.at']; exact hc
        · exact hp.hi k (by omega) k2⟩ (fun h => hv (by omega))
      exact ⟨j', q1, q2, q3, by omega⟩
    · rw [dF hc]
      refine ⟨j, rfl, hp, fun h => ⟨?_, by rw [← hp.at']; omega⟩, Nat.le_refl _⟩
      have := hv h
      have := hp.at'
      rcases Nat.lt_or_ge i j with h' | h'
      · exact h'
      · have : i = j := by omega
        subst this; omega
theorem QI.step {a b : Nat} {v : Int} {i j : Nat} {l : List Int} (hb : b ≤ l.length) (hp : QI a b v i j l) (hij : i < j) (h1 : v < nth 0 l i) (h2 : nth 0 l j ≤ v) : QI a b v (i + 1) (j - 1) (sw l i j) := by
  have g1 := hp.ai
  have g3 := hp.jb
  have g := fun k => sw_get (l := l) (i := i) (j := j) (by omega) (by omega) k
  refine ⟨by omega, by omega, by omega, ?_, fun k k1 k2 => ?_, fun k k1 k2 => ?_⟩
  · rw [g, if_neg (by omega), if_neg (by omega)]; exact hp.at'
  · rw [g]
    by_cases e : k = i
    · rw [if_neg (by omega), if_pos e]; exact h2
    · rw [if_neg (by omega), if_neg e]; exact hp.lo k k1 (by omega)
  · rw [g]
    by_cases e : k = j
    · rw [if_pos e]; exact h1
    · rw [if_neg e, if_neg (by omega)]; exact hp.hi k (by omega) k2
/-- Up to the place all are at most v, from it on more. -/
structure QE (a b : Nat) (v : Int) (i : Nat) (l' : List Int) : Prop where
  ai : a < i
  ib : i ≤ b
  lo : ∀ k, a ≤ k → k < i → nth 0 l' k ≤ v
  hi : ∀ k, i ≤ k → k < b → v < nth 0 l' k
def peqR (i : Nat) (l : List Int) : Res := ⟨true, .int .i64 (i : Int), rowR l⟩
theorem peq_L0_spec (F a b : Nat) (hF : 60 ≤ F) (v : Int) (l0 : List Int) : ∀ (n f i j : Nat) (l : List Int), j + 1 ≤ i + n → n < f → b ≤ l.length → l.length < 50 → QI a b v i j l → Sp a b l0 l →
    ∃ (i' : Nat) (l' : List Int), peq_L0 F f a i j l = peqR i' l' ∧ Sp a b l0 l' ∧ QE a b v i' l'
  | n, 0, _, _, _, _, h, _, _, _, _ => by omega
  | n, f + 1, i, j, l, hij, hf, hb, hl, hp, hs => by
    have g1 := hp.ai
    have g2 := hp.ij
    have g3 := hp.jb
    obtain ⟨i1, e1, p1, c1, m1⟩ := peq_L1_spec F f a b v l hb hl j (j + 1 - i) F i (by omega) (by omega) hp
    have g4 := p1.ij
    obtain ⟨j1, e2, p2, c2, m2⟩ := peq_L2_spec F f a b v l hb hl i1 (j + 1 - i1) F j (by omega) (by omega) p1 c1
    have g5 := p2.ij
    have g6 := p2.ai
    rw [peq_L0_succ, e1, e2]
    simp only [peq_L2_S1]
    have hjl : j1 < l.length := by omega
    by_cases hc : j1 < i1
    · rw [dT (show (i1 : Int) > (j1 : Int) by omega)]
      refine ⟨i1, l, rfl, hs, by omega, by omega, fun k k1 k2 => ?_, fun k k1 k2 => p2.hi k (by omega) k2⟩
      by_cases e : k = a
      · rw [e, p2.at']; exact Int.le_refl _
      · exact p2.lo k (by omega) k2
    · obtain ⟨d1, d2⟩ := c2 (by omega)
      have hil : i1 < l.length := by omega
      rw [dF (show ¬ (i1 : Int) > (j1 : Int) by omega), wrapS (show i1 < big by simp only [big]; omega), wrapP (show 1 ≤ j1 by omega) (show j1 < big by simp only [big]; omega)]
      simp only [nnT, ltT hil, ltT hjl, Int.toNat_natCast, dT hil, dT hjl, List.length_set, Bool.and_self, cond_true, cond_false]
      exact peq_L0_spec F a b hF v l0 (n - 1) f (i1 + 1) (j1 - 1) (sw l i1 j1) (by omega) (by omega) (by rw [sw_len]; exact hb) (by rw [sw_len]; exact hl) (p2.step hb d1 (c1 (by omega)) d2) (.swap i1 j1 hs (by omega) (by omega) (by omega) (by omega) hb)
theorem peq_ex (l : List Int) (a b p : Nat) (h1 : a ≤ p) (h2 : p < b) (hb : b ≤ l.length) (hl : l.length < 50) : ∃ (i : Nat) (l' : List Int), runF (cx_peq 100) Try.f16 (.sl 0 0 0 none :: [(a : Int), (b : Int), (p : Int)].map (AV.int .i64)) (rowR l) = peqR i l' ∧ Sp a b l l' ∧ QE a b (nth 0 l p) i l' := by
  have hpl : p < l.length := by omega
  have hal : a < l.length := by omega
  have e0 : runF (cx_peq 100) Try.f16 (.sl 0 0 0 none :: [(a : Int), (b : Int), (p : Int)].map (AV.int .i64)) (rowR l) = _ := peq_eq 100 l a b p
  rw [e0]
  simp only [nnT, ltT hpl, ltT hal, Int.toNat_natCast, dT hpl, dT hal, List.length_set, Bool.and_self, cond_true]
  rw [wrapS (show a < big by simp only [big]; omega), wrapP (show 1 ≤ b by omega) (show b < big by simp only [big]; omega)]
  have esw : (l.set a (nth 0 l p)).set p (nth 0 l a) = sw l a p := rfl
  rw [esw]
  have hs : Sp a b l (sw l a p) := .swap a p (.refl _) (Nat.le_refl _) (by omega) h1 h2 hb
  have hlen := sw_len l a p
  have hva : nth 0 (sw l a p) a = nth 0 l p := by
    rw [sw_get hal hpl]
    by_cases e : a = p
    · rw [if_pos e, e]
    · rw [if_neg e, if_pos rfl]
  exact peq_L0_spec 100 a b (by omega) (nth 0 l p) l 60 100 (a + 1) (b - 1) (sw l a p) (by omega) (by omega) (by omega) (by omega) ⟨by omega, by omega, by omega, hva, fun k k1 k2 => by omega, fun k k1 k2 => by omega⟩ hs
def peqOk : List Int → List Int → Bool := rng3
def peqP (l is : List Int) (y : Nat × List Int) : Prop := ∀ a b p : Nat, is = [(a : Int), (b : Int), (p : Int)] → runF (cx_peq 100) Try.f16 (.sl 0 0 0 none :: is.map (AV.int .i64)) (rowR l) = peqR y.1 y.2 ∧ Sp a b l y.2 ∧ QE a b (nth 0 l p) y.1 y.2
noncomputable def peqT (l is : List Int) : Nat × List Int := oneOf (peqP l is)
noncomputable def peqV (l is : List Int) : Int := ((peqT l is).1 : Int)
noncomputable def peqY (l is : List Int) : List Int := (peqT l is).2
noncomputable def peqM (l is : List Int) : Res := ⟨true, .int .i64 (peqV l is), [.row 0 2 (.int .i64) (peqY l is)]⟩
def peqFu : Nat := 100
theorem peq_law {l is : List Int} (h : peqOk l is = true) : peqP l is (peqT l is) := by
  refine oneOf_spec ?_
  obtain ⟨a, b, p, rfl, h1, h2, h3, h4⟩ := rng3_spec h
  obtain ⟨j, l', e1, e2, e3⟩ := peq_ex l a b p h1 h2 h3 h4
  refine ⟨(j, l'), fun a' b' p' he => ?_⟩
  obtain ⟨rfl, rfl, rfl⟩ := nat3 he
  exact ⟨e1, e2, e3⟩
theorem peq_retB (l is : List Int) (h : peqOk l is = true) : runF (cx_peq peqFu) Try.f16 (.sl 0 0 0 none :: is.map (AV.int .i64)) [.row 0 2 (.int .i64) l] = ⟨true, (peqM l is).val, (peqM l is).heap⟩ := by
  obtain ⟨a, b, p, he, _, _, _, _⟩ := rng3_spec h
  exact (peq_law h a b p he).1
end Go.Proofs.Ytaiokhbjjhicpaa

open Go Go.Abs Go.Proofs
set_option linter.unusedSimpArgs false
set_option linter.unusedVariables false
namespace Go.Proofs.Ytaiokhbjjhicpaa
def kid (hi f r : Nat) (l : List Int) : Nat := bif decide (2 * r + 1 + 1 < hi) && decide (nth 0 l (f + (2 * r + 1)) < nth 0 l (f + (2 * r + 1 + 1))) then 2 * r + 1 + 1 else 2 * r + 1
theorem wrapA {a b : Nat} (h : a < 1000) (h' : b < 1000) : IntKind.wrap IntKind.i64 ((a : Int) + (b : Int)) = ((a + b : Nat) : Int) := by rw [wrap_id (by omega) (by omega)]; omega
theorem sift_step (F n hi f r : Nat) (l : List Int) (hb : f + hi ≤ l.length) (hl : l.length < 50) (hr : 2 * r + 1 < hi) :
    sift_L0 F (n + 1) hi f r l = bif decide (nth 0 l (f + r) < nth 0 l (f + kid hi f r l)) then sift_L0 F n hi f (kid hi f r l) (sw l (f + r) (f + kid hi f r l)) else R0 l := by
  have w2 : IntKind.wrap IntKind.i64 (2 * (r : Int)) = ((2 * r : Nat) : Int) := by rw [wrap_id (by omega) (by omega)]; omega
  have w3 : IntKind.wrap IntKind.i64 (((2 * r : Nat) : Int) + 1) = ((2 * r + 1 : Nat) : Int) := wrapS (by simp only [big]; omega)
  have w4 : IntKind.wrap IntKind.i64 (((2 * r + 1 : Nat) : Int) + 1) = ((2 * r + 1 + 1 : Nat) : Int) := wrapS (by simp only [big]; omega)
  have a0 : IntKind.wrap IntKind.i64 ((f : Int) + (r : Int)) = ((f + r : Nat) : Int) := wrapA (by omega) (by omega)
  have a1 : IntKind.wrap IntKind.i64 ((f : Int) + ((2 * r + 1 : Nat) : Int)) = ((f + (2 * r + 1) : Nat) : Int) := wrapA (by omega) (by omega)
  have a2 : IntKind.wrap IntKind.i64 ((f : Int) + ((2 * r + 1 + 1 : Nat) : Int)) = ((f + (2 * r + 1 + 1) : Nat) : Int) := wrapA (by omega) (by omega)
  have a3 : IntKind.wrap IntKind.i64 (((f + (2 * r + 1) : Nat) : Int) + 1) = ((f + (2 * r + 1 + 1) : Nat) : Int) := wrapS (i := f + (2 * r + 1)) (by simp only [big]; omega)
  have i0 : f + r < l.length := by omega
  have i1 : f + (2 * r + 1) < l.length := by omega
  have hS6 : sift_L0_S6 F n hi f r l = bif decide (nth 0 l (f + r) < nth 0 l (f + (2 * r + 1))) then sift_L0 F n hi f ((2 * r + 1 : Nat) : Int) (sw l (f + r) (f + (2 * r + 1))) else R0 l := by
    simp only [sift_L0_S6, sift_L0_S5, sift_L0_S4, w2, w3, w4, a0, a1, a2, a3]
    simp only [nnT, ltT i0, ltT i1, Int.toNat_natCast, dT i0, dT i1, List.length_set, bne_self_eq_false, Bool.and_self, cond_true, cond_false]
    cases decide (nth 0 l (f + r) < nth 0 l (f + (2 * r + 1))) <;> rfl
  rw [sift_L0_succ]
  simp only [w2, w3, w4, dF (show ¬ (((2 * r + 1 : Nat) : Int) ≥ (hi : Int)) by omega), cond_false]
  by_cases h2 : 2 * r + 1 + 1 < hi
  · have i2 : f + (2 * r + 1 + 1) < l.length := by omega
    simp only [dT (show (((2 * r + 1 + 1 : Nat) : Int) < (hi : Int)) by omega), cond_true, sift_L0_S7, hS6, sift_L0_S3, sift_L0_S2, sift_L0_S1, w2, w3, w4, a0, a1, a2, a3]
    simp only [nnT, ltT i0, ltT i1, ltT i2, Int.toNat_natCast, dT i0, dT i1, dT i2, List.length_set, bne_self_eq_false, Bool.and_self, cond_true, cond_false, kid, dT h2, Bool.true_and]
    by_cases hc : nth 0 l (f + (2 * r + 1)) < nth 0 l (f + (2 * r + 1 + 1))
    · simp only [dT hc, cond_true]
      cases decide (nth 0 l (f + r) < nth 0 l (f + (2 * r + 1 + 1))) <;> rfl
    · simp only [dF hc, cond_false]
  · simp only [dF (show ¬ (((2 * r + 1 + 1 : Nat) : Int) < (hi : Int)) by omega), cond_false, hS6, kid, dF h2, Bool.false_and]
def Hp (f lo hi : Nat) (l : List Int) : Prop := ∀ p c, lo ≤ p → (c = 2 * p + 1 ∨ c = 2 * p + 2) → c < hi → nth 0 l (f + c) ≤ nth 0 l (f + p)
structure HI (f lo hi r : Nat) (l : List Int) : Prop where
  oth : ∀ p c, lo ≤ p → p ≠ r → (c = 2 * p + 1 ∨ c = 2 * p + 2) → c < hi → nth 0 l (f + c) ≤ nth 0 l (f + p)
  up : ∀ p c, lo ≤ p → (r = 2 * p + 1 ∨ r = 2 * p + 2) → (c = 2 * r + 1 ∨ c = 2 * r + 2) → c < hi → nth 0 l (f + c) ≤ nth 0 l (f + p)
  lr : lo ≤ r
theorem sift_L0_spec (F hi f lo : Nat) (l0 : List Int) : ∀ (n g r : Nat) (l : List Int), hi ≤ r + n → n < g → r < 1000 → f + hi ≤ l.length → l.length < 50 → Sp f (f + hi) l0 l →
    ∃ l', sift_L0 F g hi f r l = R0 l' ∧ Sp f (f + hi) l0 l' ∧ (HI f lo hi r l → Hp f lo hi l')
  | n, 0, _, _, _, h, _, _, _, _ => by omega
  | n, g + 1, r, l, hn, hg, hsm, hb, hl, hs => by
    by_cases hr : 2 * r + 1 < hi
    · rw [sift_step F g hi f r l hb hl hr]
      have hk : (kid hi f r l = 2 * r + 1 ∨ kid hi f r l = 2 * r + 2) ∧ kid hi f r l < hi ∧ ∀ c, (c = 2 * r + 1 ∨ c = 2 * r + 2) → c < hi → nth 0 l (f + c) ≤ nth 0 l (f + kid hi f r l) := by
        simp only [kid]
        by_cases h2 : 2 * r + 1 + 1 < hi
        · by_cases hc : nth 0 l (f + (2 * r + 1)) < nth 0 l (f + (2 * r + 1 + 1))
          · rw [dT h2, dT hc]
            refine ⟨.inr rfl, h2, fun c h1 _ => ?_⟩
            rcases h1 with rfl | rfl
            · exact Int.le_of_lt hc
            · exact Int.le_refl _
          · rw [dT h2, dF hc]
            refine ⟨.inl rfl, by simp only [Bool.and_false, cond_false]; omega, fun c h1 _ => ?_⟩
            simp only [Bool.and_false, cond_false]
            rcases h1 with rfl | rfl
            · exact Int.le_refl _
            · exact Int.not_lt.1 hc
        · rw [dF h2]
          refine ⟨.inl rfl, by simp only [Bool.false_and, cond_false]; omega, fun c h1 h3 => ?_⟩
          simp only [Bool.false_and, cond_false]
          rcases h1 with rfl | rfl
          · exact Int.le_refl _
          · omega
      generalize kid hi f r l = c at *
      obtain ⟨hc1, hc2, hc3⟩ := hk
      by_cases hlt : nth 0 l (f + r) < nth 0 l (f + c)
      · rw [dT hlt]
        simp only [cond_true]
        have gt := fun k => sw_get (l := l) (i := f + r) (j := f + c) (by omega) (by omega) k
        have gr : nth 0 (sw l (f + r) (f + c)) (f + r) = nth 0 l (f + c) := by rw [gt, if_neg (by omega), if_pos rfl]
        have gc : nth 0 (sw l (f + r) (f + c)) (f + c) = nth 0 l (f + r) := by rw [gt, if_pos rfl]
        have go : ∀ k, k ≠ r → k ≠ c → nth 0 (sw l (f + r) (f + c)) (f + k) = nth 0 l (f + k) := fun k h1 h2 => by rw [gt, if_neg (by omega), if_neg (by omega)]
        obtain ⟨l', q1, q2, q3⟩ := sift_L0_spec F hi f lo l0 (n - 1) g c (sw l (f + r) (f + c)) (by omega) (by omega) (by omega) (by rw [sw_len]; exact hb) (by rw [sw_len]; exact hl) (.swap _ _ hs (by omega) (by omega) (by omega) (by omega) hb)
        refine ⟨l', q1, q2, fun hi' => q3 ?_⟩
        have hlr := hi'.lr
        refine ⟨fun p d h1 h2 h3 h4 => ?_, fun p d h1 h2 h3 h4 => ?_, by omega⟩
        · by_cases hpr : p = r
          · subst hpr
            rw [gr]
            by_cases hdc : d = c
            · rw [hdc, gc]; exact Int.le_of_lt hlt
            · rw [go d (by omega) hdc]; exact hc3 d h3 h4
          · by_cases hdr : d = r
            · subst hdr
              rw [gr, go p hpr h2]
              exact hi'.up p c h1 h3 hc1 hc2
            · by_cases hdc : d = c
              · omega
              · rw [go d hdr hdc, go p hpr h2]
                exact hi'.oth p d h1 hpr h3 h4
        · have hp : p = r := by omega
          subst hp
          rw [gr, go d (by omega) (by omega)]
          exact hi'.oth c d (by omega) (by omega) h3 h4
      · rw [dF hlt]
        refine ⟨l, rfl, hs, fun hi' p d h1 h2 h3 => ?_⟩
        by_cases hpr : p = r
        · subst hpr
          have := hc3 d h2 h3
          omega
        · exact hi'.oth p d h1 hpr h2 h3
    · refine ⟨l, ?_, hs, fun hi' p d h1 h2 h3 => hi'.oth p d h1 (by omega) h2 h3⟩
      have w2 : IntKind.wrap IntKind.i64 (2 * (r : Int)) = ((2 * r : Nat) : Int) := by rw [wrap_id (by omega) (by omega)]; omega
      rw [sift_L0_succ, w2, wrapS (show 2 * r < big by simp only [big]; omega), dT (show (((2 * r + 1 : Nat) : Int) ≥ (hi : Int)) by omega)]; rfl
def siftOk : List Int → List Int → Bool := fun l is => match is with | [lo, hi, f] => decide (0 ≤ lo ∧ lo ≤ hi ∧ 0 ≤ f ∧ f + hi ≤ l.length ∧ l.length < 50) | _ => false
theorem sift_spec' {l is : List Int} (h : siftOk l is = true) : ∃ lo hi f : Nat, is = [(lo : Int), (hi : Int), (f : Int)] ∧ lo ≤ hi ∧ f + hi ≤ l.length ∧ l.length < 50 := by
  unfold siftOk at h
  split at h
  · rename_i a b p
    have h := of_decide_eq_true h
    exact ⟨a.toNat, b.toNat, p.toNat, by rw [Int.toNat_of_nonneg (by omega), Int.toNat_of_nonneg (by omega), Int.toNat_of_nonneg (by omega)], by omega, by omega, h.2.2.2.2⟩
  · cases h
def siftP (l is l' : List Int) : Prop := ∀ lo hi f : Nat, is = [(lo : Int), (hi : Int), (f : Int)] → runF (cx_sift 100) Try.f20 (.sl 0 0 0 none :: is.map (AV.int .i64)) (rowR l) = R0 l' ∧ Sp f (f + hi) l l' ∧ (Hp f (lo + 1) hi l → Hp f lo hi l')
noncomputable def siftY (l is : List Int) : List Int := oneOf (siftP l is)
noncomputable def siftM (l is : List Int) : Res := ⟨true, .tup [], [.row 0 2 (.int .i64) (siftY l is)]⟩
def siftFu : Nat := 100
theorem sift_law {l is : List Int} (h : siftOk l is = true) : siftP l is (siftY l is) := by
  refine oneOf_spec ?_
  obtain ⟨lo, hi, f, rfl, h1, h2, h3⟩ := sift_spec' h
  obtain ⟨l', e1, e2, e3⟩ := sift_L0_spec 100 hi f lo l 60 100 lo l (by omega) (by omega) (by omega) h2 h3 (.refl _)
  refine ⟨l', fun a b c he => ?_⟩
  obtain ⟨rfl, rfl, rfl⟩ := nat3 he
  exact ⟨(sift_eq 100 l lo hi f).trans e1, e2, fun hh => e3 ⟨fun p c k1 k2 k3 k4 => hh p c (by omega) k3 k4, fun p c k1 k2 k3 k4 => by omega, Nat.le_refl _⟩⟩
theorem sift_retB (l is : List Int) (h : siftOk l is = true) : runF (cx_sift siftFu) Try.f20 (.sl 0 0 0 none :: is.map (AV.int .i64)) [.row 0 2 (.int .i64) l] = ⟨true, (siftM l is).val, (siftM l is).heap⟩ := by
  obtain ⟨lo, hi, f, he, _, _, _⟩ := sift_spec' h
  exact (sift_law h lo hi f he).1
end Go.Proofs.Ytaiokhbjjhicpaa
