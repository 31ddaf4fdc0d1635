/- Heap sort; breaking patterns. -/
import Derived.Test.YtaiokhbjjhicpaaKB
set_option linter.all false
set_option linter.unusedVariables false
set_option linter.unusedSimpArgs false
open Go Go.Abs Go.Proofs
set_option linter.unusedSimpArgs false
set_option linter.unusedVariables false
namespace Go.Proofs.Ytaiokhbjjhicpaa
theorem heap_max {f n : Nat} {l : List Int} (h : Hp f 0 n l) : ∀ k, k < n → nth 0 l (f + k) ≤ nth 0 l f := by
  intro k
  induction k using Nat.strongRecOn with
  | _ k ih =>
    intro hk
    by_cases h0 : k = 0
    · subst h0; exact Int.le_refl _
    · have h1 := h ((k - 1) / 2) k (Nat.zero_le _) (by omega) hk
      have h2 := ih ((k - 1) / 2) (by omega) (by omega)
      omega
theorem sift_is {l : List Int} {lo hi f : Nat} (h1 : lo ≤ hi) (h2 : f + hi ≤ l.length) (h3 : l.length < 50) : siftOk l [(lo : Int), (hi : Int), (f : Int)] = true ∧ Sp f (f + hi) l (siftY l [(lo : Int), (hi : Int), (f : Int)]) ∧ (Hp f (lo + 1) hi l → Hp f lo hi (siftY l [(lo : Int), (hi : Int), (f : Int)])) := by
  have ok : siftOk l [(lo : Int), (hi : Int), (f : Int)] = true := decide_eq_true ⟨by omega, by omega, by omega, by omega, h3⟩
  have := sift_law ok lo hi f rfl
  exact ⟨ok, this.2⟩
theorem heap_L0_spec (F a hi : Nat) (l0 : List Int) : ∀ (n f : Nat) (l : List Int), n < f → n ≤ hi + 1 → n ≤ 1 ∨ n ≤ hi → a + hi ≤ l.length → l.length < 50 → Sp a (a + hi) l0 l → Hp a n hi l →
    ∃ l', heap_L0 F f a 0 hi ((n : Int) - 1) l = heap_L1 F F a 0 (IntKind.wrap IntKind.i64 ((hi : Int) - 1)) l' ∧ Sp a (a + hi) l0 l' ∧ Hp a 0 hi l'
  | n, 0, _, h, _, _, _, _, _, _ => by omega
  | 0, f + 1, l, _, _, _, hb, hl, hs, hh => by
    refine ⟨l, ?_, hs, hh⟩
    rw [heap_L0_succ, dF (show ¬ ((0 : Nat) : Int) - 1 ≥ 0 by omega)]; rfl
  | n + 1, f + 1, l, hf, hn, hn2, hb, hl, hs, hh => by
    obtain ⟨q1, q2, q3⟩ := sift_is (l := l) (lo := n) (hi := hi) (f := a) (by omega) hb hl
    rw [heap_L0_succ, show ((n + 1 : Nat) : Int) - 1 = (n : Int) by omega, dT (show (n : Int) ≥ 0 by omega), q1, wrap_id (n := (n : Int) - 1) (by omega) (by omega)]
    simp only [cond_true]
    exact heap_L0_spec F a hi l0 n f _ (by omega) (by omega) (by omega) (by rw [q2.len]; exact hb) (by rw [q2.len]; exact hl) (hs.trans q2) (q3 hh)
structure Tail (a n hi : Nat) (l : List Int) : Prop where
  up : ∀ p q, n ≤ p → p < q → q < hi → nth 0 l (a + p) ≤ nth 0 l (a + q)
  cr : ∀ p q, p < n → n ≤ q → q < hi → nth 0 l (a + p) ≤ nth 0 l (a + q)
theorem heap_L1_spec (F a hi : Nat) (l0 : List Int) : ∀ (n f : Nat) (l : List Int), n < f → n ≤ hi → a + hi ≤ l.length → l.length < 50 → Sp a (a + hi) l0 l → Hp a 0 n l → Tail a n hi l →
    ∃ l', heap_L1 F f a 0 ((n : Int) - 1) l = R0 l' ∧ Sp a (a + hi) l0 l' ∧ Srt a (a + hi) l'
  | n, 0, _, h, _, _, _, _, _, _ => by omega
  | 0, f + 1, l, _, _, hb, hl, hs, hh, ht => by
    refine ⟨l, ?_, hs, fun i j h1 h2 h3 => ?_⟩
    · rw [heap_L1_succ, dF (show ¬ ((0 : Nat) : Int) - 1 ≥ 0 by omega)]; rfl
    · have := ht.up (i - a) (j - a) (by omega) (by omega) (by omega)
      rwa [show a + (i - a) = i by omega, show a + (j - a) = j by omega] at this
  | n + 1, f + 1, l, hf, hn, hb, hl, hs, hh, ht => by
    have i0 : a < l.length := by omega
    have i1 : a + n < l.length := by omega
    have hsl := sw_len l a (a + n)
    obtain ⟨q1, q2, q3⟩ := sift_is (l := sw l a (a + n)) (lo := 0) (hi := n) (f := a) (by omega) (by omega) (by omega)
    have gt := fun k => sw_get (l := l) (i := a) (j := a + n) i0 i1 k
    have hq3 := q3 (fun p c h1 h2 h3 => by
      rw [gt, gt, if_neg (by omega), if_neg (by omega), if_neg (by omega), if_neg (by omega)]
      exact hh p c (by omega) h2 (by omega))
    have hmx := heap_max hh
    -- what stands in the heap is no more than its root was
    have hel : ∀ p, p < n → nth 0 (siftY (sw l a (a + n)) [((0 : Nat) : Int), (n : Int), (a : Int)]) (a + p) ≤ nth 0 l a ∧ ∀ q, n + 1 ≤ q → q < hi → nth 0 (siftY (sw l a (a + n)) [((0 : Nat) : Int), (n : Int), (a : Int)]) (a + p) ≤ nth 0 l (a + q) := by
      intro p hp
      obtain ⟨k, k1, k2, e⟩ := q2.elt (a + p) (by omega) (by omega)
      rw [e, gt, if_neg (by omega)]
      by_cases hk : k = a
      · rw [if_pos hk]
        exact ⟨hmx n (by omega), fun q h1 h2 => ht.cr n q (by omega) h1 h2⟩
      · rw [if_neg hk]
        have e2 : k = a + (k - a) := by omega
        rw [e2]
        exact ⟨hmx (k - a) (by omega), fun q h1 h2 => ht.cr (k - a) q (by omega) h1 h2⟩
    have hou : ∀ q, n ≤ q → nth 0 (siftY (sw l a (a + n)) [((0 : Nat) : Int), (n : Int), (a : Int)]) (a + q) = if q = n then nth 0 l a else nth 0 l (a + q) := by
      intro q hq
      rw [q2.out (a + q) (by omega), gt]
      by_cases e : q = n
      · rw [if_pos (by omega), if_pos e]
      · rw [if_neg (by omega), if_neg (by omega), if_neg e]
    rw [heap_L1_succ, show ((n + 1 : Nat) : Int) - 1 = (n : Int) by omega, dT (show (n : Int) ≥ 0 by omega), wrapA (show a < 1000 by omega) (show n < 1000 by omega), wrap_id (n := (n : Int) - 1) (by omega) (by omega)]
    have esw : (l.set a (nth 0 l (a + n))).set (a + n) (nth 0 l a) = sw l a (a + n) := rfl
    simp only [nnT, ltT i0, ltT i1, Int.toNat_natCast, dT i0, dT i1, List.length_set, Bool.and_self, cond_true, esw]
    have q1' : siftOk (sw l a (a + n)) [0, (n : Int), (a : Int)] = true := q1
    rw [q1']
    simp only [cond_true]
    refine heap_L1_spec F a hi l0 n f _ (by omega) (by omega) (by have := q2.len; rw [show ((0 : Nat) : Int) = 0 from rfl] at this; omega) (by have := q2.len; rw [show ((0 : Nat) : Int) = 0 from rfl] at this; omega) ((Sp.swap a (a + n) hs (Nat.le_refl _) (by omega) (by omega) (by omega) hb).trans (q2.mono (Nat.le_refl _) (by omega) (by omega))) hq3 ⟨fun p q h1 h2 h3 => ?_, fun p q h1 h2 h3 => ?_⟩
    · have e1 := hou p h1
      have e2 := hou q (by omega)
      rw [show ((0 : Nat) : Int) = 0 from rfl] at e1 e2
      rw [e1, e2, if_neg (show ¬ q = n by omega)]
      by_cases e : p = n
      · rw [if_pos e]
        have := ht.cr 0 q (by omega) (by omega) h3
        exact this
      · rw [if_neg e]
        exact ht.up p q (by omega) h2 h3
    · have e2 := hou q h2
      have e3 := hel p h1
      rw [show ((0 : Nat) : Int) = 0 from rfl] at e2 e3
      rw [e2]
      by_cases e : q = n
      · rw [if_pos e]; exact e3.1
      · rw [if_neg e]; exact e3.2 q (by omega) h3
theorem heap_ex (l : List Int) (a b : Nat) (h1 : a ≤ b) (hb : b ≤ l.length) (hl : l.length < 50) : ∃ l', runF (cx_heap 100) Try.f10 (.sl 0 0 0 none :: [(a : Int), (b : Int)].map (AV.int .i64)) (rowR l) = R0 l' ∧ Sp a b l l' ∧ Srt a b l' := by
  have e0 : runF (cx_heap 100) Try.f10 (.sl 0 0 0 none :: [(a : Int), (b : Int)].map (AV.int .i64)) (rowR l) = _ := heap_eq 100 l a b
  rw [e0]
  obtain ⟨hi, rfl⟩ : ∃ hi, b = a + hi := ⟨b - a, by omega⟩
  have w1 : IntKind.wrap IntKind.i64 (((a + hi : Nat) : Int) - (a : Int)) = (hi : Int) := by rw [wrap_id (by omega) (by omega)]; omega
  rw [w1, wrap_id (n := (hi : Int) - 1) (by omega) (by omega)]
  have key : ∃ n : Nat, IntKind.wrap IntKind.i64 (Int.tdiv ((hi : Int) - 1) 2) = (n : Int) - 1 ∧ n ≤ hi + 1 ∧ (n ≤ 1 ∨ n ≤ hi) ∧ Hp a n hi l := by
    by_cases h0 : hi = 0
    · subst h0
      exact ⟨1, rfl, by omega, .inl (by omega), fun p c _ _ h => by omega⟩
    · have : Int.tdiv ((hi : Int) - 1) 2 = ((hi : Int) - 1) / 2 := Int.tdiv_eq_ediv_of_nonneg (by omega)
      refine ⟨(hi - 1) / 2 + 1, ?_, by omega, by omega, fun p c h1 h2 h3 => by omega⟩
      rw [this, wrap_id (by omega) (by omega)]
      omega
  obtain ⟨n, k1, k2, k2', k3⟩ := key
  rw [k1]
  obtain ⟨l1, e1, e2, e3⟩ := heap_L0_spec 100 a hi l n 100 l (by omega) k2 k2' hb hl (.refl _) k3
  have e1' : heap_L0 100 100 a 0 hi ((n : Int) - 1) l = _ := e1
  rw [e1']
  have hlen := e2.len
  by_cases h0 : hi = 0
  · subst h0
    obtain ⟨l', f1, f2, f3⟩ := heap_L1_spec 100 a 0 l 0 100 l1 (by omega) (by omega) (by omega) (by omega) e2 e3 ⟨fun p q _ _ h => by omega, fun p q _ _ h => by omega⟩
    exact ⟨l', f1, f2, f3⟩
  · rw [wrap_id (n := (hi : Int) - 1) (by omega) (by omega)]
    obtain ⟨l', f1, f2, f3⟩ := heap_L1_spec 100 a hi l hi 100 l1 (by omega) (Nat.le_refl _) (by omega) (by omega) e2 e3 ⟨fun p q _ _ h => by omega, fun p q _ _ h => by omega⟩
    exact ⟨l', f1, f2, f3⟩
def heapOk : List Int → List Int → Bool := rng2
def heapP (l is l' : List Int) : Prop := ∀ a b : Nat, is = [(a : Int), (b : Int)] → runF (cx_heap 100) Try.f10 (.sl 0 0 0 none :: is.map (AV.int .i64)) (rowR l) = R0 l' ∧ Sp a b l l' ∧ Srt a b l'
noncomputable def heapY (l is : List Int) : List Int := oneOf (heapP l is)
noncomputable def heapM (l is : List Int) : Res := ⟨true, .tup [], [.row 0 2 (.int .i64) (heapY l is)]⟩
def heapFu : Nat := 100
theorem heap_law {l is : List Int} (h : heapOk l is = true) : heapP l is (heapY l is) := by
  refine oneOf_spec ?_
  obtain ⟨a, b, rfl, h1, h2, h3⟩ := rng2_spec h
  obtain ⟨l', e1, e2, e3⟩ := heap_ex l a b h1 h2 h3
  refine ⟨l', fun a' b' he => ?_⟩
  obtain ⟨rfl, rfl⟩ := nat2 he
  exact ⟨e1, e2, e3⟩
theorem heap_retB (l is : List Int) (h : heapOk l is = true) : runF (cx_heap heapFu) Try.f10 (.sl 0 0 0 none :: is.map (AV.int .i64)) [.row 0 2 (.int .i64) l] = ⟨true, (heapM l is).val, (heapM l is).heap⟩ := by
  obtain ⟨a, b, he, _, _, _⟩ := rng2_spec h
  exact (heap_law h a b he).1
/-! ### breaking patterns -/
theorem andI_le {x m : Int} (h : 0 ≤ m) (h' : m < 18446744073709551616) : 0 ≤ andI .u64 x m ∧ andI .u64 x m ≤ m := by
  have e : (BitVec.ofInt 64 x &&& BitVec.ofInt 64 m).toNat ≤ m.toNat := by
    rw [BitVec.toNat_and]
    refine Nat.le_trans Nat.and_le_right ?_
    rw [BitVec.toNat_ofInt]
    have : m % ((2 ^ 64 : Nat) : Int) = m := Int.emod_eq_of_lt h (by simpa using h')
    rw [this]
    exact Nat.le_refl _
  have e' : ((BitVec.ofInt (IntKind.bits .u64) x &&& BitVec.ofInt (IntKind.bits .u64) m).toNat : Int) ≤ m := by
    have e2 : (BitVec.ofInt (IntKind.bits .u64) x &&& BitVec.ofInt (IntKind.bits .u64) m).toNat ≤ m.toNat := e
    omega
  have e0 : (0 : Int) ≤ ((BitVec.ofInt (IntKind.bits .u64) x &&& BitVec.ofInt (IntKind.bits .u64) m).toNat : Int) := by omega
  simp only [andI, IntKind.wrap, IntKind.signed]
  generalize ((BitVec.ofInt (IntKind.bits .u64) x &&& BitVec.ofInt (IntKind.bits .u64) m).toNat : Int) = z at *
  simp only [IntKind.bits]
  have : z % 2 ^ 64 = z := Int.emod_eq_of_lt e0 (by omega)
  simp [this]
  omega
def rnd (x : Int) : Int := xorI IntKind.u64 (xorI IntKind.u64 (xorI IntKind.u64 x (shlI IntKind.u64 x 13)) (shrI IntKind.u64 (xorI IntKind.u64 x (shlI IntKind.u64 x 13)) 7)) (shlI IntKind.u64 (xorI IntKind.u64 (xorI IntKind.u64 x (shlI IntKind.u64 x 13)) (shrI IntKind.u64 (xorI IntKind.u64 x (shlI IntKind.u64 x 13)) 7)) 17)
theorem rnd_eq (x : Int) : xorI IntKind.u64 (xorI IntKind.u64 (xorI IntKind.u64 x (shlI IntKind.u64 x 13)) (shrI IntKind.u64 (xorI IntKind.u64 x (shlI IntKind.u64 x 13)) 7)) (shlI IntKind.u64 (xorI IntKind.u64 (xorI IntKind.u64 x (shlI IntKind.u64 x 13)) (shrI IntKind.u64 (xorI IntKind.u64 x (shlI IntKind.u64 x 13)) 7)) 17) = rnd x := rfl
theorem brk_L0_spec (F a n : Nat) (md : Int) (hm : 1 ≤ md ∧ md ≤ 2 * n) (hn : 8 ≤ n) (l0 : List Int) : ∀ (k f i : Nat) (l : List Int) (x : Int), i + k = a + n / 4 * 2 + 2 → k < f → a ≤ i → a + n ≤ l.length → l.length < 50 → Sp a (a + n) l0 l →
    ∃ l', brk_L0 F f a n md i l x = R0 l' ∧ Sp a (a + n) l0 l'
  | k, 0, _, _, _, _, h, _, _, _, _ => by omega
  | 0, f + 1, i, l, x, hi, _, ha, hb, hl, hs => by
    have t1 : Int.tdiv (n : Int) 4 = ((n / 4 : Nat) : Int) := by rw [Int.tdiv_eq_ediv_of_nonneg (by omega)]; omega
    have t2 : IntKind.wrap IntKind.i64 (((n / 4 : Nat) : Int)) = ((n / 4 : Nat) : Int) := wrap_id (by omega) (by omega)
    have t3 : IntKind.wrap IntKind.i64 (((n / 4 : Nat) : Int) * 2) = ((n / 4 * 2 : Nat) : Int) := by rw [wrap_id (by omega) (by omega)]; omega
    refine ⟨l, ?_, hs⟩
    rw [brk_L0_succ, t1, t2, t3, wrapA (show a < 1000 by omega) (show n / 4 * 2 < 1000 by omega), wrapS (i := a + n / 4 * 2) (by simp only [big]; omega), dF (show ¬ (i : Int) ≤ ((a + n / 4 * 2 + 1 : Nat) : Int) by omega)]
    rfl
  | k + 1, f + 1, i, l, x, hi, hf, ha, hb, hl, hs => by
    have t1 : Int.tdiv (n : Int) 4 = ((n / 4 : Nat) : Int) := by rw [Int.tdiv_eq_ediv_of_nonneg (by omega)]; omega
    have t2 : IntKind.wrap IntKind.i64 (((n / 4 : Nat) : Int)) = ((n / 4 : Nat) : Int) := wrap_id (by omega) (by omega)
    have t3 : IntKind.wrap IntKind.i64 (((n / 4 : Nat) : Int) * 2) = ((n / 4 * 2 : Nat) : Int) := by rw [wrap_id (by omega) (by omega)]; omega
    have hX := andI_le (x := rnd x) (m := md - 1) (by omega) (by omega)
    have hil : i < l.length := by omega
    rw [brk_L0_succ, t1, t2, t3, wrapA (show a < 1000 by omega) (show n / 4 * 2 < 1000 by omega), wrapS (i := a + n / 4 * 2) (by simp only [big]; omega), dT (show (i : Int) ≤ ((a + n / 4 * 2 + 1 : Nat) : Int) by omega), rnd_eq, wrapu_id (n := md - 1) (by omega) (by omega)]
    generalize andI IntKind.u64 (rnd x) (md - 1) = X at *
    obtain ⟨y, rfl⟩ : ∃ y : Nat, X = y := ⟨X.toNat, by omega⟩
    rw [wrap_id (n := (y : Int)) (by omega) (by omega), wrapS (show i < big by simp only [big]; omega)]
    by_cases hc : n ≤ y
    · have w1 : IntKind.wrap IntKind.i64 ((y : Int) - (n : Int)) = ((y - n : Nat) : Int) := by rw [wrap_id (by omega) (by omega)]; omega
      have hol : a + (y - n) < l.length := by omega
      rw [dT (show (y : Int) ≥ (n : Int) by omega), w1, wrapA (show a < 1000 by omega) (show y - n < 1000 by omega)]
      simp only [nnT, ltT hil, ltT hol, Int.toNat_natCast, dT hil, dT hol, List.length_set, Bool.and_self, cond_true]
      exact brk_L0_spec F a n md hm hn l0 k f (i + 1) (sw l i (a + (y - n))) (rnd x) (by omega) (by omega) (by omega) (by rw [sw_len]; exact hb) (by rw [sw_len]; exact hl) (.swap i (a + (y - n)) hs ha (by omega) (by omega) (by omega) hb)
    · have hol : a + y < l.length := by omega
      rw [dF (show ¬ (y : Int) ≥ (n : Int) by omega), wrapA (show a < 1000 by omega) (show y < 1000 by omega)]
      simp only [nnT, ltT hil, ltT hol, Int.toNat_natCast, dT hil, dT hol, List.length_set, Bool.and_self, cond_true, cond_false]
      exact brk_L0_spec F a n md hm hn l0 k f (i + 1) (sw l i (a + y)) (rnd x) (by omega) (by omega) (by omega) (by rw [sw_len]; exact hb) (by rw [sw_len]; exact hl) (.swap i (a + y) hs ha (by omega) (by omega) (by omega) hb)
theorem len_pow : ∀ m : Nat, m < 50 → 1 ≤ m → 0 ≤ bitsLenM (m : Int) ∧ 1 ≤ shlI .u64 1 (bitsLenM (m : Int)) ∧ shlI .u64 1 (bitsLenM (m : Int)) ≤ 2 * (m : Int) := by decide +kernel
theorem brk_ex (l : List Int) (a b : Nat) (h1 : a ≤ b) (hb : b ≤ l.length) (hl : l.length < 50) : ∃ l', runF (cx_brk 100) Try.f11 (.sl 0 0 0 none :: [(a : Int), (b : Int)].map (AV.int .i64)) (rowR l) = R0 l' ∧ Sp a b l l' := by
  have e0 : runF (cx_brk 100) Try.f11 (.sl 0 0 0 none :: [(a : Int), (b : Int)].map (AV.int .i64)) (rowR l) = _ := brk_eq 100 l a b
  rw [e0]
  obtain ⟨n, rfl⟩ : ∃ n, b = a + n := ⟨b - a, by omega⟩
  have w1 : IntKind.wrap IntKind.i64 (((a + n : Nat) : Int) - (a : Int)) = (n : Int) := by rw [wrap_id (by omega) (by omega)]; omega
  rw [w1]
  by_cases h8 : 8 ≤ n
  · have w2 : IntKind.wrap IntKind.u64 (n : Int) = (n : Int) := wrapu_id (by omega) (by omega)
    obtain ⟨p0, p1, p2⟩ := len_pow n (by omega) (by omega)
    have t1 : Int.tdiv (n : Int) 4 = ((n / 4 : Nat) : Int) := by rw [Int.tdiv_eq_ediv_of_nonneg (by omega)]; omega
    have t2 : IntKind.wrap IntKind.i64 (((n / 4 : Nat) : Int)) = ((n / 4 : Nat) : Int) := wrap_id (by omega) (by omega)
    have t3 : IntKind.wrap IntKind.i64 (((n / 4 : Nat) : Int) * 2) = ((n / 4 * 2 : Nat) : Int) := by rw [wrap_id (by omega) (by omega)]; omega
    have ok : bitsLenOk (n : Int) = true := decide_eq_true ⟨by omega, by omega⟩
    rw [w2, dT (show (n : Int) ≥ 8 by omega), ok, dT p0, t1, t2, t3, wrapA (show a < 1000 by omega) (show n / 4 * 2 < 1000 by omega), wrapP (i := a + n / 4 * 2) (by omega) (by simp only [big]; omega)]
    simp only [cond_true]
    exact brk_L0_spec 100 a n _ ⟨p1, p2⟩ h8 l 3 100 (a + n / 4 * 2 - 1) l _ (by omega) (by omega) (by omega) hb hl (.refl _)
  · rw [dF (show ¬ (n : Int) ≥ 8 by omega)]
    exact ⟨l, rfl, .refl _⟩
def brkOk : List Int → List Int → Bool := rng2
def brkP (l is l' : List Int) : Prop := ∀ a b : Nat, is = [(a : Int), (b : Int)] → runF (cx_brk 100) Try.f11 (.sl 0 0 0 none :: is.map (AV.int .i64)) (rowR l) = R0 l' ∧ Sp a b l l'
noncomputable def brkY (l is : List Int) : List Int := oneOf (brkP l is)
noncomputable def brkM (l is : List Int) : Res := ⟨true, .tup [], [.row 0 2 (.int .i64) (brkY l is)]⟩
def brkFu : Nat := 100
theorem brk_law {l is : List Int} (h : brkOk l is = true) : brkP l is (brkY l is) := by
  refine oneOf_spec ?_
  obtain ⟨a, b, rfl, h1, h2, h3⟩ := rng2_spec h
  obtain ⟨l', e1, e2⟩ := brk_ex l a b h1 h2 h3
  refine ⟨l', fun a' b' he => ?_⟩
  obtain ⟨rfl, rfl⟩ := nat2 he
  exact ⟨e1, e2⟩
theorem brk_retB (l is : List Int) (h : brkOk l is = true) : runF (cx_brk brkFu) Try.f11 (.sl 0 0 0 none :: is.map (AV.int .i64)) [.row 0 2 (.int .i64) l] = ⟨true, (brkM l is).val, (brkM l is).heap⟩ := by
  obtain ⟨a, b, he, _, _, _⟩ := rng2_spec h
  exact (brk_law h a b he).1
end Go.Proofs.Ytaiokhbjjhicpaa

open Go Go.Abs Go.Proofs
set_option linter.unusedVariables false
namespace Go.Proofs.Ytaiokhbjjhicpaa
noncomputable def tbKBL_1 : FuncId → List AV → List Blk → Res := addC 10 (tspecB heap_e heap_k heapOk heapM) tbKB
theorem tabKBL_1 : Tab Try.prog tbKBL_1 cxMd tbKKB := Tab.addTyB tabKB tabKB (e := heap_e) (k := heap_k) (fn := Try.f10) (by kernel_rfl) (by kernel_rfl) (by kernel_rfl) (by kernel_rfl) _ heapFu heap_retB
noncomputable def tbKBL_2 : FuncId → List AV → List Blk → Res := addC 11 (tspecB brk_e brk_k brkOk brkM) tbKBL_1
theorem tabKBL_2 : Tab Try.prog tbKBL_2 cxMd tbKKB := Tab.addTyB tabKBL_1 tabKB (e := brk_e) (k := brk_k) (fn := Try.f11) (by kernel_rfl) (by kernel_rfl) (by kernel_rfl) (by kernel_rfl) _ brkFu brk_retB
noncomputable def tbKBB : FuncId → List AV → List Blk → Res := tbKBL_2
noncomputable def tbKKBB : KT := tbKKB
theorem tabKBB : Tab Try.prog tbKBB cxMd tbKKBB := tabKBL_2
end Go.Proofs.Ytaiokhbjjhicpaa
