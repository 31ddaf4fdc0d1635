/- Sorting: one round of the way that parts a range, whatever sorts the smaller side. -/
import Derived.Test.YtaiokhbjjhicpaaKCL
set_option linter.all false
set_option linter.unusedVariables false
set_option linter.unusedSimpArgs false
open Go Go.Abs Go.Proofs
set_option linter.unusedSimpArgs false
set_option linter.unusedVariables false
namespace Go.Proofs.Ytaiokhbjjhicpaa
abbrev W (n : Int) : Int := IntKind.wrap IntKind.i64 n
abbrev Fl : Res := { ok := false, val := AV.junk }
section
variable (qOk : List Int → List Int → Bool) (qY : List Int → List Int → List Int) (ag : Int → Int → Int → Bool → Bool → List Int → Res)
noncomputable def tailP (s1 s2 s3 : Int) (R : List Int) (c : Int) : Res :=
  bif partOk R [s1, s2, c] then
    bif decide (W (partV R [s1, s2, c] - s1) < W (s2 - partV R [s1, s2, c])) then
      bif qOk (partY R [s1, s2, c]) [s1, partV R [s1, s2, c], s3] then
        ag (W (partV R [s1, s2, c] + 1)) s2 s3 (decide (W (partV R [s1, s2, c] - s1) ≥ W (Int.tdiv (W (s2 - s1)) 8))) (partB R [s1, s2, c]) (qY (partY R [s1, s2, c]) [s1, partV R [s1, s2, c], s3])
      else Fl
    else
      bif qOk (partY R [s1, s2, c]) [W (partV R [s1, s2, c] + 1), s2, s3] then
        ag s1 (partV R [s1, s2, c]) s3 (decide (W (s2 - partV R [s1, s2, c]) ≥ W (Int.tdiv (W (s2 - s1)) 8))) (partB R [s1, s2, c]) (qY (partY R [s1, s2, c]) [W (partV R [s1, s2, c] + 1), s2, s3])
      else Fl
  else Fl
noncomputable def tailQ (s1 s2 s3 : Int) (s8 s9 : Bool) (R : List Int) (c : Int) : Res :=
  bif decide (s1 > 0) then
    bif decide (0 ≤ W (s1 - 1)) && decide (W (s1 - 1) < (↑(List.length R) : Int)) then
      bif decide (Int.toNat (W (s1 - 1)) < List.length R) then
        bif decide (0 ≤ c) && decide (c < (↑(List.length R) : Int)) then
          bif decide (Int.toNat c < List.length R) then
            bif lessOk (nth 0 R (Int.toNat (W (s1 - 1))), nth 0 R (Int.toNat c)) then
              bif !lessM (nth 0 R (Int.toNat (W (s1 - 1))), nth 0 R (Int.toNat c)) then
                bif peqOk R [s1, s2, c] then ag (peqV R [s1, s2, c]) s2 s3 s8 s9 (peqY R [s1, s2, c]) else Fl
              else tailP qOk qY ag s1 s2 s3 R c
            else Fl
          else Fl
        else Fl
      else Fl
    else Fl
  else tailP qOk qY ag s1 s2 s3 R c
noncomputable def midG (s1 s2 s3 : Int) (s8 s9 : Bool) (h : List Int) : Res :=
  bif chooseOk (h, s1, s2) then
    bif decide (Prod.snd (chooseM (h, s1, s2)) = 2) then
      bif revOk h [s1, s2] then
        bif s8 then bif s9 then bif pinsOk (revY h [s1, s2]) [s1, s2] then bif pinsV (revY h [s1, s2]) [s1, s2] then R0 (revY h [s1, s2])
          else tailQ qOk qY ag s1 s2 s3 s8 s9 (revY h [s1, s2]) (W (W (s2 - 1) - W (Prod.fst (chooseM (h, s1, s2)) - s1))) else Fl
          else tailQ qOk qY ag s1 s2 s3 s8 s9 (revY h [s1, s2]) (W (W (s2 - 1) - W (Prod.fst (chooseM (h, s1, s2)) - s1)))
          else tailQ qOk qY ag s1 s2 s3 s8 s9 (revY h [s1, s2]) (W (W (s2 - 1) - W (Prod.fst (chooseM (h, s1, s2)) - s1)))
      else Fl
    else bif s8 then bif s9 then bif decide (Prod.snd (chooseM (h, s1, s2)) = 1) then bif pinsOk h [s1, s2] then bif pinsV h [s1, s2] then R0 h
        else tailQ qOk qY ag s1 s2 s3 s8 s9 h (Prod.fst (chooseM (h, s1, s2))) else Fl
        else tailQ qOk qY ag s1 s2 s3 s8 s9 h (Prod.fst (chooseM (h, s1, s2)))
        else tailQ qOk qY ag s1 s2 s3 s8 s9 h (Prod.fst (chooseM (h, s1, s2)))
        else tailQ qOk qY ag s1 s2 s3 s8 s9 h (Prod.fst (chooseM (h, s1, s2)))
  else Fl
noncomputable def stepG (s1 s2 s3 : Int) (s8 s9 : Bool) (h0 : List Int) : Res :=
  bif decide (W (s2 - s1) ≤ 12) then bif insOk h0 [s1, s2] then R0 (insY h0 [s1, s2]) else Fl
  else bif decide (s3 = 0) then bif heapOk h0 [s1, s2] then R0 (heapY h0 [s1, s2]) else Fl
  else bif !s8 then bif brkOk h0 [s1, s2] then midG qOk qY ag s1 s2 (W (s3 - 1)) s8 s9 (brkY h0 [s1, s2]) else Fl
  else midG qOk qY ag s1 s2 s3 s8 s9 h0
end
/-! ### what is given -/
theorem LB.sp {a b : Nat} {l l' : List Int} (h : Sp a b l l') (hl : LB a b l) : LB a b l' := fun k h0 h1 h2 => by
  obtain ⟨k', e1, e2, e3⟩ := h.elt k h1 h2
  rw [h.out (a - 1) (Or.inl (by omega)), e3]
  exact hl k' h0 e1 e2
/-- Both sides of a parted range sorted: the whole is. -/
theorem glue {a b j : Nat} {Y l : List Int} (hp : PE a b j Y) (hj : nth 0 l j = nth 0 Y j)
    (h1 : ∀ k, a ≤ k → k < j → ∃ k', a ≤ k' ∧ k' < j ∧ nth 0 l k = nth 0 Y k') (h2 : ∀ k, j < k → k < b → ∃ k', j < k' ∧ k' < b ∧ nth 0 l k = nth 0 Y k')
    (s1 : Srt a j l) (s2 : Srt (j + 1) b l) : Srt a b l := fun p q hp1 hpq hq => by
  have lo : ∀ k, a ≤ k → k < j → nth 0 l k ≤ nth 0 l j := fun k e1 e2 => by
    obtain ⟨k', f1, f2, f3⟩ := h1 k e1 e2
    rw [f3, hj]; exact hp.lo k' f1 f2
  have hi : ∀ k, j < k → k < b → nth 0 l j ≤ nth 0 l k := fun k e1 e2 => by
    obtain ⟨k', f1, f2, f3⟩ := h2 k e1 e2
    rw [f3, hj]; exact hp.hi k' f1 f2
  by_cases c1 : q < j
  · exact s1 p q hp1 hpq c1
  · by_cases c2 : j < p
    · exact s2 p q (by omega) hpq hq
    · have g1 : nth 0 l p ≤ nth 0 l j := by
        by_cases e : p = j
        · rw [e]; exact Int.le_refl _
        · exact lo p hp1 (by omega)
      have g2 : nth 0 l j ≤ nth 0 l q := by
        by_cases e : q = j
        · rw [e]; exact Int.le_refl _
        · exact hi q (by omega) hq
      omega
def Good (a b : Nat) (l : List Int) (r : Res) : Prop := ∃ l', r = R0 l' ∧ Sp a b l l' ∧ (LB a b l → Srt a b l')
section
variable {m N : Nat} {qY : List Int → List Int → List Int} {ag : Int → Int → Int → Bool → Bool → List Int → Res}
variable (hq : ∀ (l : List Int) (a b z : Nat), rngL m l [(a : Int), (b : Int), (z : Int)] = true → Sp a b l (qY l [(a : Int), (b : Int), (z : Int)]) ∧ (LB a b l → Srt a b (qY l [(a : Int), (b : Int), (z : Int)])))
variable (hag : ∀ (a b z : Nat) (s8 s9 : Bool) (l : List Int), a ≤ b → b ≤ l.length → l.length < 50 → b - a < N → z < 1000 → Good a b l (ag a b z s8 s9 l))
include hq hag
theorem tailP_law (hN : N ≤ 2 * m + 1) {a b z c : Nat} {R : List Int} (h1 : a ≤ c) (h2 : c < b) (hb : b ≤ R.length) (hl : R.length < 50) (hz : z < 1000) (hab : b - a ≤ N) : Good a b R (tailP (rngL m) qY ag a b z R c) := by
  have ok : partOk R [(a : Int), (b : Int), (c : Int)] = true := decide_eq_true ⟨by omega, by omega, by omega, by omega, hl⟩
  obtain ⟨-, sp, pe⟩ := part_law ok a b c rfl
  simp only [tailP, ok, cond_true]
  obtain ⟨j, hj⟩ : ∃ j : Nat, (partT R [(a : Int), (b : Int), (c : Int)]).1 = j := ⟨_, rfl⟩
  have hV : partV R [(a : Int), (b : Int), (c : Int)] = (j : Int) := by rw [partV, hj]
  rw [hV]
  rw [hj] at pe
  change Sp a b R (partY R [(a : Int), (b : Int), (c : Int)]) at sp
  change PE a b j (partY R [(a : Int), (b : Int), (c : Int)]) at pe
  generalize partY R [(a : Int), (b : Int), (c : Int)] = Y at sp pe ⊢
  generalize partB R [(a : Int), (b : Int), (c : Int)] = t
  have hY := sp.len
  have a1 := pe.aj
  have a2 := pe.jb
  have w1 : W ((j : Int) - a) = ((j - a : Nat) : Int) := by rw [W, wrap_id (by omega) (by omega)]; omega
  have w2 : W ((b : Int) - j) = ((b - j : Nat) : Int) := by rw [W, wrap_id (by omega) (by omega)]; omega
  have w3 : W ((j : Int) + 1) = ((j + 1 : Nat) : Int) := by rw [W, wrap_id (by omega) (by omega)]; omega
  rw [w1, w2, w3]
  by_cases hc : j - a < b - j
  · rw [dT (show ((j - a : Nat) : Int) < ((b - j : Nat) : Int) by omega), cond_true]
    have okq : rngL m Y [(a : Int), (j : Int), (z : Int)] = true := rngL_ok a1 (by omega) (by omega) (by omega) hz
    obtain ⟨q1, q2⟩ := hq Y a j z okq
    rw [okq, cond_true]
    generalize qY Y [(a : Int), (j : Int), (z : Int)] = Z at q1 q2 ⊢
    have hZ := q1.len
    obtain ⟨l', e, g1, g2⟩ := hag (j + 1) b z (decide (((j - a : Nat) : Int) ≥ W (Int.tdiv (W ((b : Int) - a)) 8))) t Z (by omega) (by omega) (by omega) (by omega) hz
    refine ⟨l', e, (sp.trans (q1.mono (Nat.le_refl _) (by omega) (by omega))).trans (g1.mono (by omega) (Nat.le_refl _) (by omega)), fun hlb => ?_⟩
    have lbY := LB.sp sp hlb
    have sZ : Srt a j Z := q2 (fun k h0 e1 e2 => lbY k h0 e1 (by omega))
    have sl : Srt (j + 1) b l' := g2 (fun k h0 e1 e2 => by
      rw [Nat.add_sub_cancel, q1.out j (Or.inr (Nat.le_refl _)), q1.out k (Or.inr (by omega))]
      exact pe.hi k (by omega) e2)
    refine glue pe ?_ ?_ ?_ ?_ sl
    · rw [g1.out j (Or.inl (by omega)), q1.out j (Or.inr (Nat.le_refl _))]
    · intro k e1 e2
      rw [g1.out k (Or.inl (by omega))]
      exact q1.elt k e1 e2
    · intro k e1 e2
      obtain ⟨k', f1, f2, f3⟩ := g1.elt k (by omega) e2
      exact ⟨k', by omega, f2, f3.trans (q1.out k' (Or.inr (by omega)))⟩
    · intro p q e1 e2 e3
      rw [g1.out p (Or.inl (by omega)), g1.out q (Or.inl (by omega))]
      exact sZ p q e1 e2 e3
  · rw [dF (show ¬ ((j - a : Nat) : Int) < ((b - j : Nat) : Int) by omega), cond_false]
    have okq : rngL m Y [((j + 1 : Nat) : Int), (b : Int), (z : Int)] = true := rngL_ok (by omega) (by omega) (by omega) (by omega) hz
    obtain ⟨q1, q2⟩ := hq Y (j + 1) b z okq
    rw [okq, cond_true]
    generalize qY Y [((j + 1 : Nat) : Int), (b : Int), (z : Int)] = Z at q1 q2 ⊢
    have hZ := q1.len
    obtain ⟨l', e, g1, g2⟩ := hag a j z (decide (((b - j : Nat) : Int) ≥ W (Int.tdiv (W ((b : Int) - a)) 8))) t Z (by omega) (by omega) (by omega) (by omega) hz
    refine ⟨l', e, (sp.trans (q1.mono (by omega) (Nat.le_refl _) (by omega))).trans (g1.mono (Nat.le_refl _) (by omega) (by omega)), fun hlb => ?_⟩
    have lbY := LB.sp sp hlb
    have sZ : Srt (j + 1) b Z := q2 (fun k h0 e1 e2 => by rw [Nat.add_sub_cancel]; exact pe.hi k (by omega) e2)
    have sl : Srt a j l' := g2 (fun k h0 e1 e2 => by
      rw [q1.out (a - 1) (Or.inl (by omega)), q1.out k (Or.inl (by omega))]
      exact lbY k h0 e1 (by omega))
    refine glue pe ?_ ?_ ?_ sl ?_
    · rw [g1.out j (Or.inr (Nat.le_refl _)), q1.out j (Or.inl (by omega))]
    · intro k e1 e2
      obtain ⟨k', f1, f2, f3⟩ := g1.elt k e1 e2
      exact ⟨k', f1, f2, f3.trans (q1.out k' (Or.inl (by omega)))⟩
    · intro k e1 e2
      rw [g1.out k (Or.inr (by omega))]
      obtain ⟨k', f1, f2, f3⟩ := q1.elt k (by omega) e2
      exact ⟨k', by omega, f2, f3⟩
    · intro p q e1 e2 e3
      rw [g1.out p (Or.inr (by omega)), g1.out q (Or.inr (by omega))]
      exact sZ p q e1 e2 e3
theorem tailQ_law (hN : N ≤ 2 * m + 1) {a b z c : Nat} (s8 s9 : Bool) {R : List Int} (h1 : a ≤ c) (h2 : c < b) (hb : b ≤ R.length) (hl : R.length < 50) (hz : z < 1000) (hab : b - a ≤ N) : Good a b R (tailQ (rngL m) qY ag a b z s8 s9 R c) := by
  have tp := tailP_law hq hag hN h1 h2 hb hl hz hab
  by_cases ha : a = 0
  · simp only [tailQ]
    rw [dF (show ¬ (a : Int) > 0 by omega)]
    exact tp
  · simp only [tailQ]
    have w : W ((a : Int) - 1) = ((a - 1 : Nat) : Int) := by rw [W, wrap_id (by omega) (by omega)]; omega
    rw [w, dT (show (a : Int) > 0 by omega), dT (show (0 : Int) ≤ ((a - 1 : Nat) : Int) by omega), dT (show ((a - 1 : Nat) : Int) < (R.length : Int) by omega), dT (show (0 : Int) ≤ (c : Int) by omega), dT (show (c : Int) < (R.length : Int) by omega), Int.toNat_natCast, Int.toNat_natCast, dT (show a - 1 < R.length by omega), dT (show c < R.length by omega)]
    simp only [lessOk, lessM, cond_true, Bool.and_self]
    by_cases hc : nth 0 R (a - 1) < nth 0 R c
    · rw [dT hc]
      exact tp
    · rw [dF hc, Bool.not_false, cond_true]
      have ok : peqOk R [(a : Int), (b : Int), (c : Int)] = true := decide_eq_true ⟨by omega, by omega, by omega, by omega, hl⟩
      obtain ⟨-, sp, qe⟩ := peq_law ok a b c rfl
      rw [ok, cond_true]
      obtain ⟨i, hi⟩ : ∃ i : Nat, (peqT R [(a : Int), (b : Int), (c : Int)]).1 = i := ⟨_, rfl⟩
      have hV : peqV R [(a : Int), (b : Int), (c : Int)] = (i : Int) := by rw [peqV, hi]
      rw [hV]
      rw [hi] at qe
      change Sp a b R (peqY R [(a : Int), (b : Int), (c : Int)]) at sp
      change QE a b (nth 0 R c) i (peqY R [(a : Int), (b : Int), (c : Int)]) at qe
      generalize peqY R [(a : Int), (b : Int), (c : Int)] = Y at sp qe ⊢
      have hY := sp.len
      have a1 := qe.ai
      have a2 := qe.ib
      obtain ⟨l', e, g1, g2⟩ := hag i b z s8 s9 Y a2 (by omega) (by omega) (by omega) hz
      refine ⟨l', e, sp.trans (g1.mono (by omega) (Nat.le_refl _) (by omega)), fun hlb => ?_⟩
      have lbY := LB.sp sp hlb
      have sl : Srt i b l' := g2 (fun k h0 e1 e2 => by
        have x1 := qe.lo (i - 1) (by omega) (by omega)
        have x2 := qe.hi k e1 e2
        omega)
      have hout := sp.out (a - 1) (Or.inl (by omega))
      intro p q e1 e2 e3
      by_cases c1 : i ≤ p
      · exact sl p q c1 e2 e3
      · have x1 := qe.lo p e1 (by omega)
        rw [g1.out p (Or.inl (by omega))]
        by_cases c2 : q < i
        · rw [g1.out q (Or.inl c2)]
          have x2 := lbY q (by omega) (by omega) e3
          omega
        · obtain ⟨q', f1, f2, f3⟩ := g1.elt q (by omega) e3
          have x2 := qe.hi q' f1 f2
          rw [f3]; omega
theorem Good.sp {a b : Nat} {l l' : List Int} {r : Res} (h : Sp a b l l') (g : Good a b l' r) : Good a b l r := by
  obtain ⟨l2, e, g1, g2⟩ := g
  exact ⟨l2, e, h.trans g1, fun hlb => g2 (LB.sp h hlb)⟩
theorem midG_law (hN : N ≤ 2 * m + 1) {a b z : Nat} (s8 s9 : Bool) {h : List Int} (h1 : a + 12 < b) (hb : b ≤ h.length) (hl : h.length < 50) (hz : z < 1000) (hab : b - a ≤ N) : Good a b h (midG (rngL m) qY ag a b z s8 s9 h) := by
  have ok : chooseOk (h, (a : Int), (b : Int)) = true := decide_eq_true ⟨by omega, by omega, by omega, hl⟩
  obtain ⟨-, c1, c2⟩ := choose_law ok
  dsimp only at c1 c2
  simp only [midG]
  rw [ok, cond_true]
  generalize chooseM (h, (a : Int), (b : Int)) = pc at c1 c2 ⊢
  obtain ⟨p, hint⟩ := pc
  dsimp only at c1 c2
  obtain ⟨c, rfl⟩ : ∃ c : Nat, p = (c : Int) := ⟨p.toNat, by omega⟩
  dsimp only
  have okr : revOk h [(a : Int), (b : Int)] = true := by
    have e1 : rng2 h [(a : Int), (b : Int)] = true := decide_eq_true ⟨by omega, by omega, by omega, hl⟩
    have e2 : (nth 0 [(a : Int), (b : Int)] 1 == 0) = false := by
      show ((b : Int) == 0) = false
      exact beq_eq_false_iff_ne.2 (by omega)
    simp only [revOk, e1, e2, Bool.not_false, Bool.and_self]
  obtain ⟨-, sr⟩ := rev_law okr a b rfl
  rw [okr, cond_true]
  have w : W (W ((b : Int) - 1) - W ((c : Int) - a)) = ((b - 1 - (c - a) : Nat) : Int) := by
    rw [show W ((b : Int) - 1) = ((b - 1 : Nat) : Int) by rw [W, wrap_id (by omega) (by omega)]; omega, show W ((c : Int) - a) = ((c - a : Nat) : Int) by rw [W, wrap_id (by omega) (by omega)]; omega, W, wrap_id (by omega) (by omega)]; omega
  rw [w]
  generalize revY h [(a : Int), (b : Int)] = R at sr ⊢
  have hR := sr.len
  have t1 : Good a b h (tailQ (rngL m) qY ag a b z s8 s9 R ((b - 1 - (c - a) : Nat) : Int)) := (tailQ_law hq hag hN s8 s9 (by omega) (by omega) (by omega) (by omega) hz hab).sp hq hag sr
  have t2 : Good a b h (tailQ (rngL m) qY ag a b z s8 s9 h (c : Int)) := tailQ_law hq hag hN s8 s9 (by omega) (by omega) (by omega) (by omega) hz hab
  have okp : ∀ l : List Int, b ≤ l.length → l.length < 50 → pinsOk l [(a : Int), (b : Int)] = true := fun l e1 e2 => by
    have e1 : rng2 l [(a : Int), (b : Int)] = true := decide_eq_true ⟨by omega, by omega, by omega, e2⟩
    have e2 : decide (nth 0 [(a : Int), (b : Int)] 0 < nth 0 [(a : Int), (b : Int)] 1) = true := dT (show (a : Int) < (b : Int) by omega)
    simp only [pinsOk, e1, e2, Bool.and_self]
  rw [okp R (by omega) (by omega), okp h hb hl]
  obtain ⟨-, p1⟩ := pins_law (okp R (by omega) (by omega)) a b rfl
  obtain ⟨-, p2⟩ := pins_law (okp h hb hl) a b rfl
  cases decide (hint = 2) with
  | true =>
    cases s8 with
    | false => exact t1
    | true =>
      cases s9 with
      | false => exact t1
      | true =>
        cases hv : pinsV R [(a : Int), (b : Int)] with
        | true => exact ⟨R, rfl, sr, fun _ => p1 hv⟩
        | false => exact t1
  | false =>
    cases s8 with
    | false => exact t2
    | true =>
      cases s9 with
      | false => exact t2
      | true =>
        cases decide (hint = 1) with
        | false => exact t2
        | true =>
          cases hv : pinsV h [(a : Int), (b : Int)] with
          | true => exact ⟨h, rfl, .refl _, fun _ => p2 hv⟩
          | false => exact t2
theorem stepG_law (hN : N ≤ 2 * m + 1) {a b z : Nat} (s8 s9 : Bool) {l : List Int} (h1 : a ≤ b) (hb : b ≤ l.length) (hl : l.length < 50) (hz : z < 1000) (hab : b - a ≤ N) : Good a b l (stepG (rngL m) qY ag a b z s8 s9 l) := by
  have ok2 : rng2 l [(a : Int), (b : Int)] = true := decide_eq_true ⟨by omega, by omega, by omega, hl⟩
  have w : W ((b : Int) - a) = ((b - a : Nat) : Int) := by rw [W, wrap_id (by omega) (by omega)]; omega
  simp only [stepG]
  rw [w]
  by_cases c1 : b - a ≤ 12
  · obtain ⟨q1, q2, q3⟩ := ins_is h1 hb hl
    rw [dT (show ((b - a : Nat) : Int) ≤ 12 by omega), q1]
    exact ⟨_, rfl, q2, fun _ => q3⟩
  · rw [dF (show ¬ ((b - a : Nat) : Int) ≤ 12 by omega), cond_false]
    by_cases c2 : z = 0
    · have okh : heapOk l [(a : Int), (b : Int)] = true := ok2
      obtain ⟨-, q2, q3⟩ := heap_law okh a b rfl
      rw [dT (show (z : Int) = 0 by omega), okh]
      exact ⟨_, rfl, q2, fun _ => q3⟩
    · rw [dF (show ¬ (z : Int) = 0 by omega), cond_false]
      cases s8 with
      | true => exact midG_law hq hag hN true s9 (by omega) hb hl hz hab
      | false =>
        have okb : brkOk l [(a : Int), (b : Int)] = true := ok2
        obtain ⟨-, sb⟩ := brk_law okb a b rfl
        rw [okb, Bool.not_false, cond_true, cond_true]
        generalize brkY l [(a : Int), (b : Int)] = B at sb ⊢
        have hB := sb.len
        rw [show W ((z : Int) - 1) = ((z - 1 : Nat) : Int) by rw [W, wrap_id (by omega) (by omega)]; omega]
        exact (midG_law hq hag hN false s9 (by omega) (by omega) (by omega) (by omega) hab).sp hq hag sb
end
end Go.Proofs.Ytaiokhbjjhicpaa
