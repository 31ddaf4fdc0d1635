/- Check, of both. -/
import Derived.Test.YtkecflbflcppkaaGreatDoorTD
import Derived.Test.YtkecflbflcppkaaGreatDoorTP1
set_option linter.all false
set_option linter.unusedVariables false
set_option linter.unusedSimpArgs false
open Go Go.Abs Go.Proofs
namespace Go.Proofs.YtkecflbflcppkaaGreatDoor
abbrev CkZ := Int × Int × Int × List Int × List Mo × Int × Int × Int × List (List Int) × List (List Int) × List (List Bool) × List Sit
def wordsB (k w h : Int) (ms : List Mo) (n p : List (List Int)) (l : List (List Bool)) (pr : List Sit) (s : Sit) : Nat → Nat → Bool
 | 0, _ => true
 | j + 1, a => (!nth false (nth [] l s.2.1.toNat) a || ((ltB k w h ms n p s.1 s.2.1 s.2.2 a).2.2.2 && decide (((ltB k w h ms n p s.1 s.2.1 s.2.2 a).1, (ltB k w h ms n p s.1 s.2.1 s.2.2 a).2.1, (ltB k w h ms n p s.1 s.2.1 s.2.2 a).2.2.1) ∈ pr))) && wordsB k w h ms n p l pr s j (a + 1)
def sitB (k w h : Int) (c : List Int) (ms : List Mo) (i o dl : Int) (n p : List (List Int)) (l : List (List Bool)) (pr : List Sit) (s : Sit) (q : Nat) : Bool :=
 formB k w h ms o dl n.length s.1 s.2.1 s.2.2 && ((!decide (q = 0) || eqSit s (c, 0, List.replicate dl.toNat 0)) && wordsB k w h ms n p l pr s (2 ^ i.toNat) 0)
def chkL (f : Sit → Nat → Bool) : List Sit → Nat → Option Nat
 | [], _ => none
 | s :: r, q => bif f s q then chkL f r (q + 1) else some q
def ckO (len : Nat) : Option Nat → Bool × Int × Int
 | none => (decide (0 < len), (len : Int), 0)
 | some q => (false, (q : Int), 0)
def ckM : CkZ → Bool × Int × Int := fun (k, w, h, c, ms, i, o, dl, n, p, l, pr) =>
 bif decide (askedM (k, w, h, c, ms, i, o, dl, n, p, l) = 0) then (bif decide (pr.length > 20000) then (false, 0, 54) else ckO pr.length (chkL (sitB k w h c ms i o dl n p l pr) pr 0)) else (false, 0, askedM (k, w, h, c, ms, i, o, dl, n, p, l))
def ckOk : CkZ → Bool := fun (k, w, h, c, ms, i, o, dl, n, p, l, pr) => decide (c.length < big ∧ ms.length < big ∧ pr.length < big) && pr.all sitFit
def resC (b : Bool) (q e : Int) : Res := { ok := true, val := AV.tup [AV.bool b, AV.int .i64 q, AV.int .i64 e] }
theorem retResC (b : Bool) (q e : Int) : Ret rCk_re rCk_R (resC b q e) ((b, q, e) : Bool × Int × Int) :=
 ⟨rfl, rfl, rfl, rfl, by simp [resC, rCk_R, roVs, valsOf, view, view1, flatA, cellsA, decOk, nth, isInt, isB, dropL, width], rfl, fun ws h => by cases h; simp⟩
def ckR (len : Nat) (q : Option Nat) : Res := resC (ckO len q).1 (ckO len q).2.1 (ckO len q).2.2
theorem asked0 {k w h : Int} {c : List Int} {ms : List Mo} {i o dl : Int} {n p : List (List Int)} {l : List (List Bool)} (ha : askedM (k, w, h, c, ms, i, o, dl, n, p, l) = 0) : OrgV k w h c ms ∧ CtV i o dl n p l ∧ (cntI ms : Int) = i := by
 simp only [askedM] at ha
 cases h1 : organB k w h c ms with
 | false => rw [h1] at ha; simp at ha
 | true =>
  cases h2 : contractOk i o dl n p l with
  | false => rw [h1, h2] at ha; simp at ha
  | true =>
   refine ⟨OrgV.of h1, CtV.of h2, ?_⟩
   rw [h1, h2] at ha
   by_cases h3 : (cntI ms : Int) = i ∧ (cntO ms : Int) = o
   ·exact h3.1
   ·simp [h3] at ha
theorem form_lt {k w h : Int} {ms : List Mo} {i o dl : Int} {n p : List (List Int)} {l : List (List Bool)} (c : CtV i o dl n p l) {s : Sit} (hf : formB k w h ms o dl n.length s.1 s.2.1 s.2.2 = true) {a : Nat} (ha : a < 2 ^ i.toNat) :
  orgG k w h s.1 ms = true ∧ (1 ≤ s.2.2.length ∧ s.2.2.length ≤ 1000) ∧ idxB n p s.2.1 a = true ∧ (0 ≤ s.2.1 ∧ s.2.1 < (l.length : Int) ∧ a < (nth [] l s.2.1.toNat).length) ∧
   sitFit ((ltB k w h ms n p s.1 s.2.1 s.2.2 a).1, (ltB k w h ms n p s.1 s.2.1 s.2.2 a).2.1, (ltB k w h ms n p s.1 s.2.1 s.2.2 a).2.2.1) = true := by
 simp only [formB, Bool.and_eq_true, decide_eq_true_eq] at hf
 obtain ⟨h1, ⟨h2, h3⟩, h4, h5⟩ := hf
 have v := OrgV.of h1
 have hl := c.late
 have hn := c.len
 obtain ⟨⟨r1, r2, r3⟩, _⟩ := c.row s.2.1.toNat (by omega)
 obtain ⟨hw, hh, hc, _, _, _, _⟩ := orgG_spec v.good
 have hlen : w * h ≤ 24 * 24 := Int.mul_le_mul hw.2 hh.2 (by omega) (by omega)
 refine ⟨v.good, by omega, ?_, ⟨h2, by omega, by rw [r3]; exact ha⟩, ?_⟩
 ·simp only [idxB, decide_eq_true_eq, r1, r2]
  exact ⟨⟨h2, h3, by omega⟩, by omega, by exact_mod_cast ha, by exact_mod_cast ha⟩
 ·simp only [ltB]
  cases decide (toldL w s.1 ms 0 0 = nth 0 s.2.2 0) && stOk k w h ms s.1 a with
  | false => exact decide_eq_true ⟨by simp, by simp⟩
  | true => exact decide_eq_true ⟨by simp only [cond_true, nextC_len]; simp only [big]; omega, by simp only [cond_true, List.length_append, List.length_drop, List.length_cons, List.length_nil]; simp only [big]; omega⟩
theorem rCk_w (F m0 : Nat) {k w h : Int} {c : List Int} {ms : List Mo} {i o dl : Int} {n p : List (List Int)} {l : List (List Bool)} (ct : CtV i o dl n p l) {pr : List Sit} {so : List Int} (t : TabI pr so) {s : Sit} (hf : formB k w h ms o dl n.length s.1 s.2.1 s.2.2 = true) {q : Nat} (hq : q < 1000000) : ∀ (j f a : Nat), a + j = 2 ^ i.toNat → j < f →
  rCk_L2 F m0 f pr q a k w h c ms i o dl n p l s.1 s.2.1 s.2.2 pr so = bif wordsB k w h ms n p l pr s j a then rCk_L1 F m0 pr ((q + 1 : Nat) : Int) k w h c ms i o dl n p l pr so else resC false q 0
 | j, 0, a, _, h => by omega
 | 0, f + 1, a, ha, _ => by
  have hi := ct.ins
  have hp := pow_le16 hi
  rw [rCk_L2_succ, wrapu_id (n := i) (by omega) (by omega), shl_one hi.1 (by omega), wrap_succ (i := q) (by omega)]
  have e : ¬ (a : Int) < 2 ^ i.toNat := by
   have : ((2 ^ i.toNat : Nat) : Int) = 2 ^ i.toNat := by simp
   omega
  simp only [e, hi.1, decide_true, decide_false, cond_true, cond_false, wordsB]
 | j + 1, f + 1, a, ha, hf' => by
  have hi := ct.ins
  have hp := pow_le16 hi
  have ih := rCk_w F m0 (c := c) ct t hf hq j f (a + 1) (by omega) (by omega)
  obtain ⟨g1, g2, g3, ⟨g4, g5, g6⟩, g7⟩ := form_lt (l := l) ct hf (a := a) (by omega)
  rw [rCk_L2_succ, wrapu_id (n := i) (by omega) (by omega), shl_one hi.1 (by omega), wrap_succ (i := a) (by omega), ih, Int.toNat_natCast]
  have e : (a : Int) < 2 ^ i.toNat := by
   have : ((2 ^ i.toNat : Nat) : Int) = 2 ^ i.toNat := by simp
   omega
  rw [show leadsToOk (k, w, h, c, ms, i, o, dl, n, p, l, s.1, s.2.1, s.2.2, (a : Int)) = true by simp only [leadsToOk, g1, g3, g2, and_self, decide_true, Bool.and_self],
   show leadsToM (k, w, h, c, ms, i, o, dl, n, p, l, s.1, s.2.1, s.2.2, (a : Int)) = ltB k w h ms n p s.1 s.2.1 s.2.2 a from rfl]
  obtain ⟨k1, k2⟩ := t.has g7
  have k1' : hasOk (pr, so, (ltB k w h ms n p s.1 s.2.1 s.2.2 a).1, (ltB k w h ms n p s.1 s.2.1 s.2.2 a).2.1, (ltB k w h ms n p s.1 s.2.1 s.2.2 a).2.2.1) = true := k1
  have k2' : hasM (pr, so, (ltB k w h ms n p s.1 s.2.1 s.2.2 a).1, (ltB k w h ms n p s.1 s.2.1 s.2.2 a).2.1, (ltB k w h ms n p s.1 s.2.1 s.2.2 a).2.2.1) = decide (((ltB k w h ms n p s.1 s.2.1 s.2.2 a).1, (ltB k w h ms n p s.1 s.2.1 s.2.2 a).2.1, (ltB k w h ms n p s.1 s.2.1 s.2.2 a).2.2.1) ∈ pr) := k2
  rw [k1', k2']
  simp only [e, hi.1, g4, g5, show (0 : Int) ≤ (a : Int) by omega, show (a : Int) < ((nth [] l s.2.1.toNat).length : Int) by omega, decide_true, Bool.and_self, cond_true, wordsB]
  cases nth false (nth [] l s.2.1.toNat) a with
  | false => rfl
  | true =>
   cases (ltB k w h ms n p s.1 s.2.1 s.2.2 a).2.2.2 with
   | false => rfl
   | true => cases decide (((ltB k w h ms n p s.1 s.2.1 s.2.2 a).1, (ltB k w h ms n p s.1 s.2.1 s.2.2 a).2.1, (ltB k w h ms n p s.1 s.2.1 s.2.2 a).2.2.1) ∈ pr) <;> rfl
theorem rCk_s (F : Nat) (hF : 17 ≤ F) {k w h : Int} {c : List Int} {ms : List Mo} {i o dl : Int} {n p : List (List Int)} {l : List (List Bool)} (v : OrgV k w h c ms) (ct : CtV i o dl n p l) {pr : List Sit} {so : List Int} (t : TabI pr so) : ∀ (j f q : Nat), q + j = pr.length → j < f →
  rCk_L1 F f pr q k w h c ms i o dl n p l pr so = bif decide (j = 0) && decide (pr.length = 0) then resC true 0 0 else ckR pr.length (chkL (sitB k w h c ms i o dl n p l pr) (pr.drop q) q)
 | j, 0, q, _, h => by omega
 | 0, f + 1, q, hq, _ => by
  rw [rCk_L1_succ, drop_len pr (by omega)]
  simp only [show ¬ ((q : Int) < pr.length) by omega, decide_false, cond_false, chkL, decide_true, Bool.true_and]
  by_cases h0 : pr.length = 0
  ·simp only [h0, decide_true, cond_true]; rfl
  ·simp only [h0, decide_false, cond_false, ckR, ckO, show 0 < pr.length by omega, decide_true]; rfl
 | j + 1, f + 1, q, hq, hf => by
  have hsz := t.size.2.2
  have ih := rCk_s F hF v ct t j f (q + 1) (by omega) (by omega)
  have hpw := pow_le16 ct.ins
  obtain ⟨hw, hh, hc, _, _, _, _⟩ := orgG_spec v.good
  have hlen : w * h ≤ 24 * 24 := Int.mul_le_mul hw.2 hh.2 (by omega) (by omega)
  have hml := v.len
  have hmem : nth ([], 0, []) pr q ∈ pr := nth_mem _ pr (by omega)
  have hfit := of_decide_eq_true (t.fit _ hmem)
  have hlate := ct.late
  have houts := ct.outs
  rw [show (decide (j + 1 = 0) && decide (pr.length = 0)) = false from rfl, cond_false, rCk_L1_succ, drop_nth ([], 0, []) pr (show q < pr.length by omega), Int.toNat_natCast]
  revert hfit
  generalize nth ([], 0, []) pr q = s
  intro hfit
  rw [show formedOk (k, w, h, c, ms, i, o, dl, n, p, l, s.1, s.2.1, s.2.2) = true from decide_eq_true ⟨hfit.1, by simp only [big]; omega, hfit.2, houts.1, by omega⟩, show formedM (k, w, h, c, ms, i, o, dl, n, p, l, s.1, s.2.1, s.2.2) = formB k w h ms o dl n.length s.1 s.2.1 s.2.2 from rfl,
   show rFirstOk (k, w, h, c, ms, i, o, dl, n, p, l) = true from decide_eq_true ⟨by omega, by omega, by omega⟩, show rFirstM (k, w, h, c, ms, i, o, dl, n, p, l) = (c, 0, List.replicate dl.toNat 0) from rfl,
   show rSameSOk (s.1, s.2.1, s.2.2, c, 0, List.replicate dl.toNat 0) = true from decide_eq_true hfit, show rSameSM (s.1, s.2.1, s.2.2, c, 0, List.replicate dl.toNat 0) = eqSit s (c, 0, List.replicate dl.toNat 0) from rfl]
  simp only [show (q : Int) < pr.length by omega, show (0 : Int) ≤ q by omega, decide_true, Bool.and_self, cond_true, chkL, sitB]
  cases hform : formB k w h ms o dl n.length s.1 s.2.1 s.2.2 with
  | false => rfl
  | true =>
   have lw := rCk_w F f (c := c) ct t hform (q := q) (by omega) (2 ^ i.toNat) F 0 (by omega) (by omega)
   rw [show ((0 : Nat) : Int) = 0 from rfl] at lw
   rw [lw, ih]
   have h0 : ¬ pr.length = 0 := by omega
   simp only [h0, decide_false, Bool.and_false, cond_false, Bool.not_true, Bool.true_and]
   by_cases hq0 : q = 0
   ·simp only [hq0, Int.natCast_zero, decide_true, cond_true, Bool.not_true, Bool.false_or]
    cases eqSit s (c, 0, List.replicate dl.toNat 0) with
    | false => rfl
    | true => cases wordsB k w h ms n p l pr s (2 ^ i.toNat) 0 <;> rfl
   ·have hq1 : ¬ (q : Int) = 0 := by omega
    simp only [hq0, hq1, decide_false, cond_false, Bool.not_false, Bool.true_or, Bool.true_and]
    cases wordsB k w h ms n p l pr s (2 ^ i.toNat) 0 <;> rfl
theorem rCk_t0 (F m : Nat) (pr : List Sit) (q k w h : Int) (c : List Int) (ms : List Mo) (i o dl : Int) (n p : List (List Int)) (l : List (List Bool)) (list : List Sit) (so : List Int) :
  rCk_L0 F (m + 1) pr q k w h c ms i o dl n p l list so = bif decide (q < (pr.length : Int)) then bif decide (0 ≤ q) && decide (q < (pr.length : Int)) then bif putOk (list, so, nth ([], 0, []) pr q.toNat) then
   rCk_L0 F m pr (IntKind.wrap .i64 (q + 1)) k w h c ms i o dl n p l (list ++ [nth ([], 0, []) pr q.toNat]) (putSlots list so (nth ([], 0, []) pr q.toNat)) else { ok := false, val := .junk } else { ok := false, val := .junk }
  else bif decide ((pr.length : Int) = 0) then resC false 0 0 else rCk_L1 F F pr 0 k w h c ms i o dl n p l list so := (rCk_L0_succ ..).trans (by kernel_rfl)
theorem rCk_p (F : Nat) {k w h : Int} {c : List Int} {ms : List Mo} {i o dl : Int} {n p : List (List Int)} {l : List (List Bool)} {pr : List Sit} (hl : pr.length ≤ 20000) (hfit : ∀ s ∈ pr, sitFit s = true) : ∀ (j f q : Nat) (so : List Int), q + j = pr.length → j < f → TabI (pr.take q) so → so.length = 2 * pr.length + 8 →
  ∃ so', TabI pr so' ∧ rCk_L0 F f pr q k w h c ms i o dl n p l (pr.take q) so = bif decide ((pr.length : Int) = 0) then resC false 0 0 else rCk_L1 F F pr 0 k w h c ms i o dl n p l pr so'
 | j, 0, q, _, _, h, _, _ => by omega
 | 0, f + 1, q, so, hq, _, t, hs => by
  have e : pr.take q = pr := List.take_of_length_le (by omega)
  rw [e] at t
  refine ⟨so, t, ?_⟩
  rw [rCk_t0, e]
  simp only [show ¬ ((q : Int) < pr.length) by omega, decide_false, cond_false]
 | j + 1, f + 1, q, so, hq, hf, t, hs => by
  have hmem : nth ([], 0, []) pr q ∈ pr := nth_mem _ pr (by omega)
  have hlt : (pr.take q).length = q := by rw [List.length_take]; omega
  obtain ⟨g1, g2⟩ := t.put (hfit _ hmem) (by rw [hlt, hs]; omega)
  rw [← take_nth ([], 0, []) pr (show q < pr.length by omega)] at g2
  obtain ⟨so', h1, h2⟩ := rCk_p F (k := k) (w := w) (h := h) (c := c) (ms := ms) (i := i) (o := o) (dl := dl) (n := n) (p := p) (l := l) hl hfit j f (q + 1) (putSlots (pr.take q) so (nth ([], 0, []) pr q)) (by omega) (by omega) g2 (by simp only [putSlots, List.length_set]; exact hs)
  refine ⟨so', h1, ?_⟩
  rw [rCk_t0, Int.toNat_natCast, wrap_succ (i := q) (by omega), g1, ← take_nth ([], 0, []) pr (show q < pr.length by omega), h2]
  simp only [show (q : Int) < pr.length by omega, show (0 : Int) ≤ q by omega, decide_true, Bool.and_self, cond_true]
def rCkOk : CkZ → Bool := ckOk
def rCkM : CkZ → Bool × Int × Int := ckM
def rCkFu : CkZ → Nat := fun (_, _, _, _, _, _, _, _, _, _, _, pr) => pr.length + 20
theorem rCk_txt (F : Nat) (k w h : Int) (c : List Int) (ms : List Mo) (i o dl : Int) (n p : List (List Int)) (l : List (List Bool)) (pr : List Sit) : rCk_run F (k, w, h, c, ms, i, o, dl, n, p, l, pr) =
  bif rAskedOk (k, w, h, c, ms, i, o, dl, n, p, l) then bif rAskedM (k, w, h, c, ms, i, o, dl, n, p, l) != 0 then resC false 0 (rAskedM (k, w, h, c, ms, i, o, dl, n, p, l)) else bif decide ((pr.length : Int) > 20000) then resC false 0 54 else
   bif decide (0 ≤ (pr.length : Int) ∧ (pr.length : Int) ≤ 400000) then rCk_L0 F F pr 0 k w h c ms i o dl n p l [] (List.replicate (2 * (pr.length : Int) + 8).toNat 0) else { ok := false, val := .junk } else { ok := false, val := .junk } :=
 (rCk_arg ..).trans ((rCk_eq ..).trans (by kernel_rfl))
theorem rCk_ret (z : CkZ) (hk : rCkOk z = true) : Ret rCk_re rCk_R (rCk_run (rCkFu z) z) (rCkM z) := by
 obtain ⟨k, w, h, c, ms, i, o, dl, n, p, l, pr⟩ := z
 simp only [rCkOk, ckOk, Bool.and_eq_true, decide_eq_true_eq] at hk
 obtain ⟨⟨hc, hm, hp⟩, hfit⟩ := hk
 refine Ret.of (r' := resC (ckM (k, w, h, c, ms, i, o, dl, n, p, l, pr)).1 (ckM (k, w, h, c, ms, i, o, dl, n, p, l, pr)).2.1 (ckM (k, w, h, c, ms, i, o, dl, n, p, l, pr)).2.2) ?_ (retResC _ _ _)
 refine (rCk_txt (pr.length + 20) k w h c ms i o dl n p l pr).trans ?_
 rw [show rAskedOk (k, w, h, c, ms, i, o, dl, n, p, l) = true from decide_eq_true ⟨hc, hm⟩, show rAskedM (k, w, h, c, ms, i, o, dl, n, p, l) = askedM (k, w, h, c, ms, i, o, dl, n, p, l) from rfl, beq_ne]
 simp only [cond_true, ckM]
 by_cases ha : askedM (k, w, h, c, ms, i, o, dl, n, p, l) = 0
 ·obtain ⟨v, ct, _⟩ := asked0 ha
  rw [decide_eq_true ha]
  simp only [Bool.not_true, cond_false, cond_true]
  by_cases hl : pr.length > 20000
  ·rw [decide_eq_true (show (pr.length : Int) > 20000 by omega), decide_eq_true hl]; rfl
  ·rw [decide_eq_false (show ¬ (pr.length : Int) > 20000 by omega), decide_eq_false hl, decide_eq_true (show 0 ≤ (pr.length : Int) ∧ (pr.length : Int) ≤ 400000 by omega)]
   simp only [cond_false, cond_true]
   rw [show (2 * (pr.length : Int) + 8).toNat = 2 * pr.length + 8 by omega]
   obtain ⟨so', h1, h2⟩ := rCk_p (pr.length + 20) (k := k) (w := w) (h := h) (c := c) (ms := ms) (i := i) (o := o) (dl := dl) (n := n) (p := p) (l := l) (pr := pr) (by omega) (fun s hs => List.all_eq_true.1 hfit s hs) pr.length (pr.length + 20) 0 (List.replicate (2 * pr.length + 8) 0) (by omega) (by omega) (TabI.new _ (by omega)) (by simp)
   rw [List.take_zero, show ((0 : Nat) : Int) = 0 from rfl] at h2
   rw [h2]
   by_cases h0 : pr.length = 0
   ·have hnil : pr = [] := List.eq_nil_of_length_eq_zero h0
    subst hnil
    rfl
   ·have ls := rCk_s (pr.length + 20) (by omega) v ct h1 pr.length (pr.length + 20) 0 (by omega) (by omega)
    rw [List.drop_zero, show ((0 : Nat) : Int) = 0 from rfl] at ls
    rw [decide_eq_false (show ¬ (pr.length : Int) = 0 by omega), cond_false, ls, decide_eq_false h0]
    rfl
 ·rw [decide_eq_false ha]; rfl
abbrev KeyK : CK := CK.pair CK.str (CK.pair CK.str KI)
abbrev MK := List (Key × Bool)
def getK (m : MK) (k : Key) : Bool := getM KeyK (V := Bool) false m (k : List UInt8 × List UInt8 × Int)
def insK (m : MK) (k : Key) : MK := insM KeyK (V := Bool) m (k : List UInt8 × List UInt8 × Int) true
def mapL (f : Sit → Bool) : List Sit → MK → MK
 | [], m => m
 | s :: r, m => mapL f r (bif f s then insK m (keyOfM s) else m)
theorem getK_insK (m : MK) (k k' : Key) : getK (insK m k) k' = (decide (k' = k) || getK m k') := by
 have e := getM_insM (V := Bool) KeyK rfl false m (k : List UInt8 × List UInt8 × Int) true (k' : List UInt8 × List UInt8 × Int)
 have e2 : eqK KeyK (k' : List UInt8 × List UInt8 × Int) (k : List UInt8 × List UInt8 × Int) = decide (k' = k) := by
  rw [Bool.eq_iff_iff, decide_eq_true_iff]
  exact eqK_spec KeyK _ _ rfl
 rw [e2] at e
 refine e.trans ?_
 cases decide (k' = k) <;> rfl
theorem mapL_get (f : Sit → Bool) (k : Key) : ∀ (l : List Sit) (m : MK), getK (mapL f l m) k = (l.any (fun s => f s && decide (k = keyOfM s)) || getK m k)
 | [], m => rfl
 | s :: r, m => by
  rw [mapL, mapL_get f k r]
  cases hf : f s with
  | true =>
   simp only [cond_true, getK_insK, List.any_cons, hf, Bool.true_and]
   cases decide (k = keyOfM s) <;> cases r.any (fun s => f s && decide (k = keyOfM s)) <;> cases getK m k <;> rfl
  | false => simp only [cond_false, List.any_cons, hf, Bool.false_and, Bool.false_or]
def keyEqB (a b : Key) : Bool := List.beq a.1 b.1 && (List.beq a.2.1 b.2.1 && (decide (a.2.2 = b.2.2) && true))
theorem keyEqB_iff {a b : Key} : keyEqB a b = true ↔ a = b := by
 obtain ⟨a1, a2, a3⟩ := a
 obtain ⟨b1, b2, b3⟩ := b
 have e : ∀ x y : List UInt8, List.beq x y = true ↔ x = y := fun x y => (beq_iff_eq : (x == y) = true ↔ x = y)
 simp only [keyEqB, Bool.and_eq_true, decide_eq_true_eq, e, Prod.mk.injEq, and_true]
section
variable {k w h : Int} {c : List Int} {ms : List Mo} {i o dl : Int} {n p : List (List Int)} {l : List (List Bool)} {pr : List Sit}
def fB (k w h : Int) (ms : List Mo) (o dl : Int) (n : List (List Int)) (s : Sit) : Bool := formB k w h ms o dl n.length s.1 s.2.1 s.2.2
theorem form_key (ct : CtV i o dl n p l) {s : Sit} (hf : fB k w h ms o dl n s = true) : keyOfOk s = true := by
 have hf' := hf
 simp only [fB, formB, Bool.and_eq_true, decide_eq_true_eq] at hf'
 obtain ⟨h1, _, h4, _⟩ := hf'
 have v := OrgV.of h1
 have hl := ct.late
 obtain ⟨hw, hh, hc, _, _, _, _⟩ := orgG_spec v.good
 have hlen : w * h ≤ 24 * 24 := Int.mul_le_mul hw.2 hh.2 (by omega) (by omega)
 have e1 : s.1.length ≤ 1000 := by omega
 have e2 : s.2.2.length ≤ 1000 := by omega
 obtain ⟨a, b, d⟩ := s
 simp only [keyOfOk, packOk, Bool.and_eq_true, decide_eq_true_eq]
 exact ⟨e1, e2⟩
theorem mem_key (ct : CtV i o dl n p l) {s : Sit} (hf : fB k w h ms o dl n s = true) : getK (mapL (fB k w h ms o dl n) pr []) (keyOfM s) = decide (s ∈ pr) := by
 rw [mapL_get, show getK [] (keyOfM s) = false from rfl, Bool.or_false, Bool.eq_iff_iff]
 simp only [List.any_eq_true, Bool.and_eq_true, decide_eq_true_eq]
 constructor
 ·rintro ⟨s', h1, h2, h3⟩
  have := keyOf_inj (form_bytes ct.outs hf) (form_bytes ct.outs h2) h3
  rw [this]; exact h1
 ·intro hm
  exact ⟨s, hm, hf, rfl⟩
theorem leadM_lt {s : Sit} (v : OrgV k w h s.1 ms) (c0 : List Int) (ins : Int) (i o dl : Int) (n p : List (List Int)) (l : List (List Bool)) (a : Int) : leadM ((k, w, h, c0, ms, k, ins, bodyMap ms 0 0 []), (i, o, dl, n, p, l), s, a) = ltB k w h ms n p s.1 s.2.1 s.2.2 a := by
 have e := stepM_eq v c0 ins a
 simp only [leadM, zL, e, ltB, Bool.not_not]
 rw [Bool.and_comm]
theorem leadOk_of (ct : CtV i o dl n p l) {s : Sit} (hf : fB k w h ms o dl n s = true) (c0 : List Int) (ins : Int) {a : Nat} (ha : a < 2 ^ i.toNat) : leadOk ((k, w, h, c0, ms, k, ins, bodyMap ms 0 0 []), (i, o, dl, n, p, l), s, (a : Int)) = true := by
 obtain ⟨g1, g2, g3, _, _⟩ := form_lt ct hf ha
 simp only [leadOk, zL, stepOk_of g1, g2, g3, and_self, decide_true, Bool.and_self]
theorem oCk_t0 (F m : Nat) (pr pr2 : List Sit) (len q k w h : Int) (c : List Int) (ms : List Mo) (i o dl : Int) (n p : List (List Int)) (l : List (List Bool)) (k2 w2 h2 : Int) (c2 : List Int) (ms2 : List Mo) (rk ins : Int) (mk : MK) (m4 : MM) :
  oCk_L0 F (m + 1) pr pr2 len q k w h c ms i o dl n p l k2 w2 h2 c2 ms2 rk ins mk m4 =
  bif decide (q < len) then bif decide (0 ≤ q) && decide (q < (pr2.length : Int)) then bif formOk (k, w, h, c, ms, i, o, dl, n, p, l, nth ([], 0, []) pr2 q.toNat) then bif formM (k, w, h, c, ms, i, o, dl, n, p, l, nth ([], 0, []) pr2 q.toNat) then
   bif keyOfOk (nth ([], 0, []) pr2 q.toNat) then oCk_L0 F m pr pr2 len (IntKind.wrap .i64 (q + 1)) k w h c ms i o dl n p l k2 w2 h2 c2 ms2 rk ins (insK mk (keyOfM (nth ([], 0, []) pr2 q.toNat))) m4 else { ok := false, val := .junk }
   else oCk_L0 F m pr pr2 len (IntKind.wrap .i64 (q + 1)) k w h c ms i o dl n p l k2 w2 h2 c2 ms2 rk ins mk m4 else { ok := false, val := .junk } else { ok := false, val := .junk }
  else oCk_L1 F F pr pr (pr.length : Int) 0 k w h c ms i o dl n p l k2 w2 h2 c2 ms2 rk ins mk m4 := (oCk_L0_succ ..).trans (by kernel_rfl)
theorem oCk_t1 (F m : Nat) (pr pr2 : List Sit) (len q k w h : Int) (c : List Int) (ms : List Mo) (i o dl : Int) (n p : List (List Int)) (l : List (List Bool)) (k2 w2 h2 : Int) (c2 : List Int) (ms2 : List Mo) (rk ins : Int) (mk : MK) (m4 : MM) :
  oCk_L1 F (m + 1) pr pr2 len q k w h c ms i o dl n p l k2 w2 h2 c2 ms2 rk ins mk m4 =
  bif decide (q < len) then bif decide (0 ≤ q) && decide (q < (pr2.length : Int)) then bif formOk (k, w, h, c, ms, i, o, dl, n, p, l, nth ([], 0, []) pr2 q.toNat) then bif !formM (k, w, h, c, ms, i, o, dl, n, p, l, nth ([], 0, []) pr2 q.toNat) then resC false q 0 else
   bif decide (q = 0) then bif keyOfOk (nth ([], 0, []) pr2 q.toNat) then bif oFirstOk (k, w, h, c, ms, i, o, dl, n, p, l) then bif keyOfOk (oFirstM (k, w, h, c, ms, i, o, dl, n, p, l)) then
    bif !keyEqB (keyOfM (nth ([], 0, []) pr2 q.toNat)) (keyOfM (oFirstM (k, w, h, c, ms, i, o, dl, n, p, l))) then resC false q 0 else
     bif decide (0 ≤ (nth ([], 0, []) pr2 q.toNat).2.1) && decide ((nth ([], 0, []) pr2 q.toNat).2.1 < (l.length : Int)) then
      oCk_L2 F m F pr q pr2 len q (nth [] l (nth ([], 0, []) pr2 q.toNat).2.1.toNat) ((nth [] l (nth ([], 0, []) pr2 q.toNat).2.1.toNat).length : Int) 0 k w h c ms i o dl n p l k2 w2 h2 c2 ms2 rk ins mk (nth ([], 0, []) pr2 q.toNat).1 (nth ([], 0, []) pr2 q.toNat).2.1 (nth ([], 0, []) pr2 q.toNat).2.2 m4
     else { ok := false, val := .junk }
    else { ok := false, val := .junk } else { ok := false, val := .junk } else { ok := false, val := .junk }
   else bif decide (0 ≤ (nth ([], 0, []) pr2 q.toNat).2.1) && decide ((nth ([], 0, []) pr2 q.toNat).2.1 < (l.length : Int)) then
      oCk_L2 F m F pr q pr2 len q (nth [] l (nth ([], 0, []) pr2 q.toNat).2.1.toNat) ((nth [] l (nth ([], 0, []) pr2 q.toNat).2.1.toNat).length : Int) 0 k w h c ms i o dl n p l k2 w2 h2 c2 ms2 rk ins mk (nth ([], 0, []) pr2 q.toNat).1 (nth ([], 0, []) pr2 q.toNat).2.1 (nth ([], 0, []) pr2 q.toNat).2.2 m4
     else { ok := false, val := .junk }
  else { ok := false, val := .junk } else { ok := false, val := .junk }
  else resC (decide ((pr.length : Int) > 0)) (pr.length : Int) 0 := (oCk_L1_succ ..).trans (by kernel_rfl)
theorem oCk_t2 (F m0 m : Nat) (pr pr2 : List Sit) (s14 len q a : Int) (row : List Bool) (rl k w h : Int) (c : List Int) (ms : List Mo) (i o dl : Int) (n p : List (List Int)) (l : List (List Bool)) (k2 w2 h2 : Int) (c2 : List Int) (ms2 : List Mo) (rk ins : Int) (mk : MK) (s : Sit) (m4 : MM) :
  oCk_L2 F m0 (m + 1) pr s14 pr2 len q row rl a k w h c ms i o dl n p l k2 w2 h2 c2 ms2 rk ins mk s.1 s.2.1 s.2.2 m4 =
  bif decide (a < rl) then bif decide (0 ≤ a) && decide (a < (row.length : Int)) then bif !nth false row a.toNat then oCk_L2 F m0 m pr s14 pr2 len q row rl (IntKind.wrap .i64 (a + 1)) k w h c ms i o dl n p l k2 w2 h2 c2 ms2 rk ins mk s.1 s.2.1 s.2.2 m4 else
   bif leadOk ((k2, w2, h2, c2, ms2, rk, ins, m4), (i, o, dl, n, p, l), s, a) then bif !(leadM ((k2, w2, h2, c2, ms2, rk, ins, m4), (i, o, dl, n, p, l), s, a)).2.2.2 then resC false s14 0 else
    bif keyOfOk ((leadM ((k2, w2, h2, c2, ms2, rk, ins, m4), (i, o, dl, n, p, l), s, a)).1, (leadM ((k2, w2, h2, c2, ms2, rk, ins, m4), (i, o, dl, n, p, l), s, a)).2.1, (leadM ((k2, w2, h2, c2, ms2, rk, ins, m4), (i, o, dl, n, p, l), s, a)).2.2.1) then
     bif !getK mk (keyOfM ((leadM ((k2, w2, h2, c2, ms2, rk, ins, m4), (i, o, dl, n, p, l), s, a)).1, (leadM ((k2, w2, h2, c2, ms2, rk, ins, m4), (i, o, dl, n, p, l), s, a)).2.1, (leadM ((k2, w2, h2, c2, ms2, rk, ins, m4), (i, o, dl, n, p, l), s, a)).2.2.1)) then resC false s14 0 else
      oCk_L2 F m0 m pr s14 pr2 len q row rl (IntKind.wrap .i64 (a + 1)) k w h c ms i o dl n p l k2 w2 h2 c2 ms2 rk ins mk s.1 s.2.1 s.2.2 m4
    else { ok := false, val := .junk } else { ok := false, val := .junk } else { ok := false, val := .junk }
  else oCk_L1 F m0 pr pr2 len (IntKind.wrap .i64 (q + 1)) k w h c ms i o dl n p l k2 w2 h2 c2 ms2 rk ins mk m4 := (oCk_L2_succ ..).trans (by kernel_rfl)
theorem oCk_p (F : Nat) (ct : CtV i o dl n p l) (hl : pr.length ≤ 20000) (hms : ms.length < 1000) (hfit : ∀ s ∈ pr, sitFit s = true) {rk ins : Int} {m4 : MM} : ∀ (j f q : Nat) (mk : MK), q + j = pr.length → j < f →
  oCk_L0 F f pr pr pr.length q k w h c ms i o dl n p l k w h c ms rk ins mk m4 = oCk_L1 F F pr pr pr.length 0 k w h c ms i o dl n p l k w h c ms rk ins (mapL (fB k w h ms o dl n) (pr.drop q) mk) m4
 | j, 0, q, _, _, h => by omega
 | 0, f + 1, q, mk, hq, _ => by
  rw [oCk_t0, drop_len pr (by omega)]
  simp only [show ¬ ((q : Int) < pr.length) by omega, decide_false, cond_false, mapL]
 | j + 1, f + 1, q, mk, hq, hf => by
  have ih := fun mk => oCk_p F (rk := rk) (ins := ins) (m4 := m4) ct hl hms hfit j f (q + 1) mk (by omega) (by omega)
  have hft := of_decide_eq_true (hfit _ (nth_mem ([], 0, []) pr (show q < pr.length by omega)))
  have houts := ct.outs
  rw [oCk_t0, Int.toNat_natCast, wrap_succ (i := q) (by omega), drop_nth ([], 0, []) pr (show q < pr.length by omega), ih, ih]
  revert hft
  generalize nth ([], 0, []) pr q = s
  intro hft
  rw [show formOk (k, w, h, c, ms, i, o, dl, n, p, l, s) = true from decide_eq_true ⟨hft.1, by simp only [big]; omega, hft.2, houts.1, by omega⟩, show formM (k, w, h, c, ms, i, o, dl, n, p, l, s) = fB k w h ms o dl n s from rfl]
  simp only [show (q : Int) < pr.length by omega, show (0 : Int) ≤ q by omega, decide_true, Bool.and_self, cond_true, mapL]
  cases hfs : fB k w h ms o dl n s with
  | false => rfl
  | true => rw [form_key ct hfs]; rfl
theorem oCk_w (F m0 : Nat) (ct : CtV i o dl n p l) {c0 : List Int} {ins : Int} {s : Sit} (hf : fB k w h ms o dl n s = true) {q : Nat} (hq : q < 1000000) : ∀ (j f a : Nat), a + j = 2 ^ i.toNat → j < f →
  oCk_L2 F m0 f pr q pr pr.length q (nth [] l s.2.1.toNat) ((nth [] l s.2.1.toNat).length : Int) a k w h c ms i o dl n p l k w h c0 ms k ins (mapL (fB k w h ms o dl n) pr []) s.1 s.2.1 s.2.2 (bodyMap ms 0 0 []) =
   bif wordsB k w h ms n p l pr s j a then oCk_L1 F m0 pr pr pr.length ((q + 1 : Nat) : Int) k w h c ms i o dl n p l k w h c0 ms k ins (mapL (fB k w h ms o dl n) pr []) (bodyMap ms 0 0 []) else resC false q 0
 | j, 0, a, _, h => by omega
 | 0, f + 1, a, ha, _ => by
  have hf' := hf
  simp only [fB, formB, Bool.and_eq_true, decide_eq_true_eq] at hf'
  obtain ⟨⟨_, _, r3⟩, _⟩ := ct.row s.2.1.toNat (by have := hf'.2.1; omega)
  rw [oCk_t2, wrap_succ (i := q) (by omega), r3]
  simp only [show ¬ (a : Int) < ((2 ^ i.toNat : Nat) : Int) by omega, decide_false, cond_false, wordsB, cond_true]
 | j + 1, f + 1, a, ha, hf' => by
  have hp := pow_le16 ct.ins
  have ih := oCk_w F m0 (c0 := c0) (ins := ins) ct hf hq j f (a + 1) (by omega) (by omega)
  obtain ⟨g1, g2, g3, ⟨g4, g5, g6⟩, g7⟩ := form_lt (l := l) ct hf (a := a) (by omega)
  have hfo := hf
  simp only [fB, formB, Bool.and_eq_true] at hfo
  have v := OrgV.of hfo.1
  rw [oCk_t2, wrap_succ (i := a) (by omega), ih, Int.toNat_natCast, leadOk_of ct hf c0 ins (show a < 2 ^ i.toNat by omega), leadM_lt v c0 ins i o dl n p l (a : Int)]
  simp only [show (0 : Int) ≤ (a : Int) by omega, show (a : Int) < ((nth [] l s.2.1.toNat).length : Int) by omega, decide_true, Bool.and_self, cond_true, wordsB]
  cases nth false (nth [] l s.2.1.toNat) a with
  | false => rfl
  | true =>
   cases hok : (ltB k w h ms n p s.1 s.2.1 s.2.2 a).2.2.2 with
   | false => rfl
   | true =>
    have hnf : fB k w h ms o dl n ((ltB k w h ms n p s.1 s.2.1 s.2.2 a).1, (ltB k w h ms n p s.1 s.2.1 s.2.2 a).2.1, (ltB k w h ms n p s.1 s.2.1 s.2.2 a).2.2.1) = true := lt_form ct (show a < 2 ^ i.toNat by omega) hf hok
    rw [form_key ct hnf, mem_key ct hnf]
    simp only [Bool.not_true, cond_false, cond_true, Bool.false_or, Bool.true_and]
    cases decide (((ltB k w h ms n p s.1 s.2.1 s.2.2 a).1, (ltB k w h ms n p s.1 s.2.1 s.2.2 a).2.1, (ltB k w h ms n p s.1 s.2.1 s.2.2 a).2.2.1) ∈ pr) <;> rfl
theorem first_byte (v : OrgV k w h c ms) (ct : CtV i o dl n p l) : byteL c ∧ byteL (List.replicate dl.toNat (0 : Int)) := by
 obtain ⟨_, _, _, hk, _, _, _⟩ := orgG_spec v.good
 refine ⟨fun x hx => ?_, fun x hx => ?_⟩
 ·have := List.all_eq_true.1 v.cell x hx
  simp only [cellOk, Bool.and_eq_true, decide_eq_true_eq] at this
  have h32 : rStatesM k ≤ 32 := by rcases hk with rfl | rfl <;> decide
  omega
 ·have := List.eq_of_mem_replicate hx
  omega
theorem oCk_s (F : Nat) (hF : 17 ≤ F) (v : OrgV k w h c ms) (ct : CtV i o dl n p l) (hl : pr.length ≤ 20000) (hfit : ∀ s ∈ pr, sitFit s = true) {ins : Int} : ∀ (j f q : Nat), q + j = pr.length → j < f →
  oCk_L1 F f pr pr pr.length q k w h c ms i o dl n p l k w h c ms k ins (mapL (fB k w h ms o dl n) pr []) (bodyMap ms 0 0 []) = ckR pr.length (chkL (sitB k w h c ms i o dl n p l pr) (pr.drop q) q)
 | j, 0, q, _, h => by omega
 | 0, f + 1, q, hq, _ => by
  rw [oCk_t1, drop_len pr (by omega)]
  simp only [show ¬ ((q : Int) < pr.length) by omega, decide_false, cond_false, chkL, ckR, ckO]
  by_cases h0 : 0 < pr.length
  ·simp only [h0, show ((pr.length : Int) > 0) by omega, decide_true]
  ·simp only [h0, show ¬ ((pr.length : Int) > 0) by omega, decide_false]
 | j + 1, f + 1, q, hq, hf => by
  have ih := oCk_s F hF v ct hl hfit (ins := ins) j f (q + 1) (by omega) (by omega)
  have hpw := pow_le16 ct.ins
  obtain ⟨hw, hh, hc, _, hml, _, _⟩ := orgG_spec v.good
  have hlen : w * h ≤ 24 * 24 := Int.mul_le_mul hw.2 hh.2 (by omega) (by omega)
  have hft := of_decide_eq_true (hfit _ (nth_mem ([], 0, []) pr (show q < pr.length by omega)))
  have hlate := ct.late
  have houts := ct.outs
  have hcl := ct.len
  have hfb := first_byte v ct
  rw [oCk_t1, drop_nth ([], 0, []) pr (show q < pr.length by omega), Int.toNat_natCast]
  revert hft
  generalize nth ([], 0, []) pr q = s
  intro hft
  rw [show formOk (k, w, h, c, ms, i, o, dl, n, p, l, s) = true from decide_eq_true ⟨hft.1, by simp only [big]; omega, hft.2, houts.1, by omega⟩, show formM (k, w, h, c, ms, i, o, dl, n, p, l, s) = fB k w h ms o dl n s from rfl,
   show oFirstOk (k, w, h, c, ms, i, o, dl, n, p, l) = true from decide_eq_true ⟨by omega, by omega, by omega⟩, show oFirstM (k, w, h, c, ms, i, o, dl, n, p, l) = (c, 0, List.replicate dl.toNat 0) from rfl,
   show keyOfOk (c, 0, List.replicate dl.toNat 0) = true by simp only [keyOfOk, packOk, List.length_replicate, Bool.and_eq_true, decide_eq_true_eq]; omega]
  simp only [show (q : Int) < pr.length by omega, show (0 : Int) ≤ q by omega, decide_true, Bool.and_self, cond_true, chkL, sitB]
  rw [show formB k w h ms o dl n.length s.1 s.2.1 s.2.2 = fB k w h ms o dl n s from rfl]
  cases hform : fB k w h ms o dl n s with
  | false => rfl
  | true =>
   have hfo := hform
   simp only [fB, formB, Bool.and_eq_true, decide_eq_true_eq] at hfo
   have lw := oCk_w F f (c := c) (c0 := c) (ins := ins) (pr := pr) ct hform (q := q) (by omega) (2 ^ i.toNat) F 0 (by omega) (by omega)
   rw [show ((0 : Nat) : Int) = 0 from rfl] at lw
   have hke : keyEqB (keyOfM s) (keyOfM (c, 0, List.replicate dl.toNat 0)) = eqSit s (c, 0, List.replicate dl.toNat 0) := by
    rw [Bool.eq_iff_iff, keyEqB_iff, eqSit_iff]
    exact ⟨fun h => keyOf_inj (form_bytes houts hform) hfb h, fun h => by rw [h]⟩
   rw [lw, ih, form_key ct hform, hke]
   simp only [show 0 ≤ s.2.1 from hfo.2.1.1, show s.2.1 < (l.length : Int) by have := hfo.2.1.2; omega, decide_true, Bool.and_self, cond_true, Bool.not_true, cond_false, Bool.true_and]
   by_cases hq0 : q = 0
   ·simp only [hq0, Int.natCast_zero, decide_true, cond_true, Bool.not_true, Bool.false_or]
    cases eqSit s (c, 0, List.replicate dl.toNat 0) with
    | false => rfl
    | true => cases wordsB k w h ms n p l pr s (2 ^ i.toNat) 0 <;> rfl
   ·have hq1 : ¬ (q : Int) = 0 := by omega
    simp only [hq0, hq1, decide_false, cond_false, Bool.not_false, Bool.true_or, Bool.true_and]
    cases wordsB k w h ms n p l pr s (2 ^ i.toNat) 0 <;> rfl
end
def oCkOk : CkZ → Bool := ckOk
def oCkM : CkZ → Bool × Int × Int := ckM
def oCkFu : CkZ → Nat := fun (_, _, _, _, _, _, _, _, _, _, _, pr) => pr.length + 20
theorem oCk_txt (F : Nat) (k w h : Int) (c : List Int) (ms : List Mo) (i o dl : Int) (n p : List (List Int)) (l : List (List Bool)) (pr : List Sit) : oCk_run F (k, w, h, c, ms, i, o, dl, n, p, l, pr) =
  bif oFitsOk (k, w, h, c, ms, i, o, dl, n, p, l) then bif oFitsM (k, w, h, c, ms, i, o, dl, n, p, l) != 0 then resC false 0 (oFitsM (k, w, h, c, ms, i, o, dl, n, p, l)) else bif decide ((pr.length : Int) > 20000) then resC false 0 54 else
   bif newBodyOk (k, w, h, c, ms) then oCk_L0 F F pr pr (pr.length : Int) 0 k w h c ms i o dl n p l k w h c ms k (cntI ms : Nat) [] (bodyMap ms 0 0 []) else { ok := false, val := .junk } else { ok := false, val := .junk } :=
 (oCk_arg ..).trans ((oCk_eq ..).trans (by kernel_rfl))
theorem oCk_ret (z : CkZ) (hk : oCkOk z = true) : Ret oCk_re oCk_R (oCk_run (oCkFu z) z) (oCkM z) := by
 obtain ⟨k, w, h, c, ms, i, o, dl, n, p, l, pr⟩ := z
 simp only [oCkOk, ckOk, Bool.and_eq_true, decide_eq_true_eq] at hk
 obtain ⟨⟨hc, hm, hp⟩, hfit⟩ := hk
 refine Ret.of (r' := resC (ckM (k, w, h, c, ms, i, o, dl, n, p, l, pr)).1 (ckM (k, w, h, c, ms, i, o, dl, n, p, l, pr)).2.1 (ckM (k, w, h, c, ms, i, o, dl, n, p, l, pr)).2.2) ?_ (retResC _ _ _)
 refine (oCk_txt (pr.length + 20) k w h c ms i o dl n p l pr).trans ?_
 rw [show oFitsOk (k, w, h, c, ms, i, o, dl, n, p, l) = true from decide_eq_true ⟨hc, hm⟩, show oFitsM (k, w, h, c, ms, i, o, dl, n, p, l) = askedM (k, w, h, c, ms, i, o, dl, n, p, l) from rfl, beq_ne]
 simp only [cond_true, ckM]
 by_cases ha : askedM (k, w, h, c, ms, i, o, dl, n, p, l) = 0
 ·obtain ⟨v, ct, _⟩ := asked0 ha
  have hml := v.len
  rw [decide_eq_true ha]
  simp only [Bool.not_true, cond_false, cond_true]
  by_cases hl : pr.length > 20000
  ·rw [decide_eq_true (show (pr.length : Int) > 20000 by omega), decide_eq_true hl]; rfl
  ·rw [decide_eq_false (show ¬ (pr.length : Int) > 20000 by omega), decide_eq_false hl, show newBodyOk (k, w, h, c, ms) = true from decide_eq_true (by omega)]
   simp only [cond_false, cond_true]
   have hfit' : ∀ s ∈ pr, sitFit s = true := fun s hs => List.all_eq_true.1 hfit s hs
   have l0 := oCk_p (pr.length + 20) (k := k) (w := w) (h := h) (c := c) (ms := ms) ct (by omega) (by omega) hfit' (rk := k) (ins := (cntI ms : Nat)) (m4 := bodyMap ms 0 0 []) pr.length (pr.length + 20) 0 [] (by omega) (by omega)
   have l1 := oCk_s (pr.length + 20) (by omega) v ct (pr := pr) (by omega) hfit' (ins := (cntI ms : Nat)) pr.length (pr.length + 20) 0 (by omega) (by omega)
   rw [List.drop_zero, show ((0 : Nat) : Int) = 0 from rfl] at l0 l1
   rw [l0, l1]
   rfl
 ·rw [decide_eq_false ha]; rfl
noncomputable def tbTDL_1 := addC 16 (tspec rCk_sh rCk_K rCk_re rCk_R rCkOk rCkM) tbTD
theorem tabTDL_1 : Tab Tryz.prog tbTDL_1 cxMd tbKTD := Tab.addTy (os := []) tabTD tabTD (KK := rCk_K) (R := rCk_R) (fn := Tryz.f16) (by kernel_rfl) (by kernel_rfl) (by kernel_rfl) (by kernel_rfl) _ rCkFu rCk_ret
noncomputable def tbTDL_2 := addC 17 (tspec oCk_sh oCk_K oCk_re oCk_R oCkOk oCkM) tbTDL_1
theorem tabTDL_2 : Tab Tryz.prog tbTDL_2 cxMd tbKTD := Tab.addTy (os := []) tabTDL_1 tabTD (KK := oCk_K) (R := oCk_R) (fn := Tryz.f17) (by kernel_rfl) (by kernel_rfl) (by kernel_rfl) (by kernel_rfl) _ oCkFu oCk_ret
noncomputable def tbTDB := tbTDL_2
noncomputable def tbKTDB : KT := tbKTD
theorem tabTDB : Tab Tryz.prog tbTDB cxMd tbKTDB := tabTDL_2
end Go.Proofs.YtkecflbflcppkaaGreatDoor
