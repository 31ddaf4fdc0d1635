/- Sort: a row of fewer than fifty, sorted. -/
import Derived.Test.YtaiokhbjjhicpaaKEL
import Derived.Test.YtaiokhbjjhicpaaProg
import Derived.KernelRfl
set_option linter.all false
set_option linter.unusedVariables false
set_option linter.unusedSimpArgs false
open Go Go.Abs Go.Proofs
set_option linter.unusedVariables false
namespace Go.Proofs.Ytaiokhbjjhicpaa
noncomputable def tbKF : FuncId → List AV → List Blk → Res := tbKEB
noncomputable def tbKKF : KT := tbKKEB
theorem tabKF : Tab Try.prog tbKF cxMd tbKKF := tabKEB
noncomputable def cx_sort (F : Nat) : Cx := { P := Try.prog, C := tbKF, K := tbKKF, mode := cxMd, fuel := F, live := liveTab [], pin := 1 }
def sort_e : TypeId := 2
def sort_k : CK := CK.int IntKind.i64
theorem sort_eq (F : Nat) (x0 : List Int) : runF (cx_sort F) Try.f6 [AV.sl 0 0 0 none] [Blk.row 0 2 (CK.int IntKind.i64) x0] = bif bitsLenOk (IntKind.wrap IntKind.u64 (↑(List.length x0) : Int)) then bif pdq2Ok x0 [0, (↑(List.length x0) : Int), bitsLenM (IntKind.wrap IntKind.u64 (↑(List.length x0) : Int))] then { ok := true, val := AV.tup [], heap := [Blk.row 0 2 (CK.int IntKind.i64) (pdq2Y x0 [0, (↑(List.length x0) : Int), bitsLenM (IntKind.wrap IntKind.u64 (↑(List.length x0) : Int))])] } else { ok := false, val := AV.junk } else { ok := false, val := AV.junk } := by kernel_rfl
end Go.Proofs.Ytaiokhbjjhicpaa

open Go Go.Abs Go.Proofs
set_option linter.unusedSimpArgs false
set_option linter.unusedVariables false
namespace Go.Proofs.Ytaiokhbjjhicpaa
theorem wrap_u {n : Nat} (h : n < 50) : IntKind.wrap IntKind.u64 (n : Int) = (n : Int) := by
  simp [IntKind.wrap, IntKind.bits, IntKind.signed]; omega
theorem len_r : ∀ n : Nat, n < 50 → 0 ≤ bitsLenM (n : Int) ∧ bitsLenM (n : Int) < 1000 := by decide +kernel
def sortOk : List Int → List Int → Bool := fun l is => match is with | [] => decide (l.length < 50) | _ => false
theorem sort_ok {l is : List Int} (h : sortOk l is = true) : is = [] ∧ l.length < 50 := by
  unfold sortOk at h
  split at h
  · exact ⟨rfl, of_decide_eq_true h⟩
  · cases h
def sortP (l is l' : List Int) : Prop := runF (cx_sort 1) Try.f6 (.sl 0 0 0 none :: is.map (AV.int .i64)) (rowR l) = R0 l' ∧ l'.Perm l ∧ Srt 0 l.length l'
noncomputable def sortY (l is : List Int) : List Int := oneOf (sortP l is)
noncomputable def sortM (l is : List Int) : Res := ⟨true, .tup [], [.row 0 2 (.int .i64) (sortY l is)]⟩
def sortFu : Nat := 1
theorem sort_law {l is : List Int} (h : sortOk l is = true) : sortP l is (sortY l is) := by
  refine oneOf_spec ?_
  obtain ⟨rfl, hl⟩ := sort_ok h
  obtain ⟨z, hz⟩ : ∃ z : Nat, bitsLenM (l.length : Int) = (z : Int) := ⟨(bitsLenM (l.length : Int)).toNat, by have := (len_r l.length hl).1; omega⟩
  have hz1 := (len_r l.length hl).2
  have ok : pdq2Ok l [((0 : Nat) : Int), (l.length : Int), (z : Int)] = true := rngL_ok (Nat.zero_le _) (Nat.le_refl _) hl (by omega) (by omega)
  obtain ⟨-, g1, g2⟩ := pdq2_law ok 0 l.length z rfl
  refine ⟨_, (sort_eq 1 l).trans ?_, g1.perm, g2 (fun k h0 _ _ => by omega)⟩
  rw [wrap_u hl, hz]
  have okb : bitsLenOk (l.length : Int) = true := decide_eq_true ⟨by omega, by omega⟩
  rw [okb, cond_true]
  have ok' : pdq2Ok l [0, (l.length : Int), (z : Int)] = true := ok
  rw [ok', cond_true]
  rfl
theorem sort_retB (l is : List Int) (h : sortOk l is = true) : runF (cx_sort sortFu) Try.f6 (.sl 0 0 0 none :: is.map (AV.int .i64)) [.row 0 2 (.int .i64) l] = ⟨true, (sortM l is).val, (sortM l is).heap⟩ := (sort_law h).1
end Go.Proofs.Ytaiokhbjjhicpaa

open Go Go.Abs Go.Proofs
set_option linter.unusedVariables false
namespace Go.Proofs.Ytaiokhbjjhicpaa
noncomputable def tbKFL_1 : FuncId → List AV → List Blk → Res := addC 6 (tspecB sort_e sort_k sortOk sortM) tbKF
theorem tabKFL_1 : Tab Try.prog tbKFL_1 cxMd tbKKF := Tab.addTyB tabKF tabKF (e := sort_e) (k := sort_k) (fn := Try.f6) (by kernel_rfl) (by kernel_rfl) (by kernel_rfl) (by kernel_rfl) _ sortFu sort_retB
noncomputable def tbKFB : FuncId → List AV → List Blk → Res := tbKFL_1
noncomputable def tbKKFB : KT := tbKKF
theorem tabKFB : Tab Try.prog tbKFB cxMd tbKKFB := tabKFL_1
end Go.Proofs.Ytaiokhbjjhicpaa

open Go Go.Abs Go.Proofs
set_option linter.unusedSimpArgs false
set_option linter.unusedVariables false
namespace Go.Proofs.Ytaiokhbjjhicpaa
def dn (t : Nat) : Nat := t &&& (t - 1)
theorem dn_lt {t : Nat} (h : 0 < t) : dn t < t := by
  have : t &&& (t - 1) ≤ t - 1 := Nat.and_le_right
  unfold dn; omega
def rk (t : Nat) : List Nat := if h : t = 0 then [0] else rk (dn t) ++ [t]
termination_by t
decreasing_by exact dn_lt (by omega)
theorem rk_zero : rk 0 = [0] := by rw [rk]; rfl
theorem rk_pos {t : Nat} (h : 0 < t) : rk t = rk (dn t) ++ [t] := by rw [rk, dif_neg (by omega)]
theorem rk_le : ∀ t u : Nat, u ∈ rk t → u ≤ t := by
  intro t
  induction t using Nat.strongRecOn with
  | ind t ih =>
    intro u hu
    by_cases h : t = 0
    · subst h; rw [rk_zero] at hu; simp at hu; omega
    · rw [rk_pos (by omega)] at hu
      rcases List.mem_append.1 hu with hu | hu
      · have := ih (dn t) (dn_lt (by omega)) u hu
        have := dn_lt (show 0 < t by omega)
        omega
      · simp at hu; omega
theorem rk_self (t : Nat) : t ∈ rk t := by
  by_cases h : t = 0
  · subst h; rw [rk_zero]; simp
  · rw [rk_pos (by omega)]; simp
theorem rk_rises : ∀ t : Nat, (rk t).Pairwise (· < ·) := by
  intro t
  induction t using Nat.strongRecOn with
  | ind t ih =>
    by_cases h : t = 0
    · subst h; rw [rk_zero]; simp
    · rw [rk_pos (by omega)]
      have hd := dn_lt (show 0 < t by omega)
      refine List.pairwise_append.2 ⟨ih (dn t) hd, by simp, fun u hu v hv => ?_⟩
      have := rk_le _ u hu
      simp at hv; omega
theorem rk_head : ∀ t : Nat, ∃ r, rk t = 0 :: r := by
  intro t
  induction t using Nat.strongRecOn with
  | ind t ih =>
    by_cases h : t = 0
    · subst h; exact ⟨[], rk_zero⟩
    · obtain ⟨r, hr⟩ := ih (dn t) (dn_lt (by omega))
      exact ⟨r ++ [t], by rw [rk_pos (by omega), hr]; rfl⟩
theorem rk_trans : ∀ t v u : Nat, v ∈ rk t → u ∈ rk v → u ∈ rk t := by
  intro t
  induction t using Nat.strongRecOn with
  | ind t ih =>
    intro v u hv hu
    by_cases h : t = 0
    · subst h; rw [rk_zero] at hv; simp at hv; subst hv; exact hu
    · rw [rk_pos (by omega)] at hv
      rcases List.mem_append.1 hv with hv | hv
      · rw [rk_pos (by omega)]
        exact List.mem_append.2 (Or.inl (ih (dn t) (dn_lt (by omega)) v u hv hu))
      · simp at hv; subst hv; exact hu
/-- The lowest bit. -/
theorem low_bit : ∀ t : Nat, 0 < t → ∃ k a, t = 2 ^ (k + 1) * a + 2 ^ k := by
  intro t
  induction t using Nat.strongRecOn with
  | ind t ih =>
    intro h
    by_cases he : t % 2 = 1
    · exact ⟨0, t / 2, by simp; omega⟩
    · obtain ⟨k, a, e⟩ := ih (t / 2) (by omega) (by omega)
      refine ⟨k + 1, a, ?_⟩
      have h2 : t = 2 * (t / 2) := by omega
      rw [h2, e, Nat.pow_succ 2 (k + 1), Nat.pow_succ 2 k]
      have : 2 * (2 ^ k * 2 * a + 2 ^ k) = 2 ^ k * 2 * a * 2 + 2 ^ k * 2 := by omega
      rw [this]
      congr 1
      rw [Nat.mul_assoc, Nat.mul_comm a 2, ← Nat.mul_assoc]
theorem and_split (k a b b' : Nat) (hb : b < 2 ^ k) (hb' : b' < 2 ^ k) : (2 ^ k * a + b) &&& (2 ^ k * a + b') = 2 ^ k * a + (b &&& b') := by
  apply Nat.eq_of_testBit_eq
  intro i
  have hbb : b &&& b' < 2 ^ k := Nat.lt_of_le_of_lt Nat.and_le_left hb
  rw [Nat.testBit_and, Nat.testBit_two_pow_mul_add a hb, Nat.testBit_two_pow_mul_add a hb', Nat.testBit_two_pow_mul_add a hbb]
  by_cases h : i < k
  · simp only [h, if_true, Nat.testBit_and]
  · simp only [h, if_false, Bool.and_self]
theorem dn_low (k a : Nat) : dn (2 ^ (k + 1) * a + 2 ^ k) = 2 ^ (k + 1) * a := by
  have hp : 0 < 2 ^ k := Nat.two_pow_pos k
  have hk : 2 ^ k < 2 ^ (k + 1) := by rw [Nat.pow_succ]; omega
  have e : 2 ^ (k + 1) * a + 2 ^ k - 1 = 2 ^ (k + 1) * a + (2 ^ k - 1) := by omega
  have z : 2 ^ k &&& (2 ^ k - 1) = 0 := by rw [Nat.and_two_pow_sub_one_eq_mod, Nat.mod_self]
  rw [dn, e, and_split (k + 1) a _ _ hk (by omega), z]
  rfl
theorem rk_high : ∀ (k a b : Nat), b < 2 ^ k → 2 ^ k * a ∈ rk (2 ^ k * a + b) := by
  intro k a b
  induction b using Nat.strongRecOn with
  | ind b ih =>
    intro hb
    by_cases h : b = 0
    · subst h; exact rk_self _
    · have hd := dn_lt (show 0 < b by omega)
      have e : 2 ^ k * a + b - 1 = 2 ^ k * a + (b - 1) := by omega
      have ed : dn (2 ^ k * a + b) = 2 ^ k * a + dn b := by
        rw [dn, e, and_split k a _ _ hb (by omega)]; rfl
      rw [rk_pos (by omega), ed]
      exact List.mem_append.2 (Or.inl (ih (dn b) hd (by omega)))
theorem rk_ahead {t u : Nat} (h : u ∈ rk t) : u = t ∨ (0 < t ∧ u ∈ rk (t - 1)) := by
  by_cases h0 : t = 0
  · subst h0; rw [rk_zero] at h; simp at h; exact Or.inl h
  · rw [rk_pos (by omega)] at h
    rcases List.mem_append.1 h with h | h
    · refine Or.inr ⟨by omega, ?_⟩
      obtain ⟨k, a, e⟩ := low_bit t (by omega)
      have hp : 0 < 2 ^ k := Nat.two_pow_pos k
      have hk : 2 ^ k < 2 ^ (k + 1) := by rw [Nat.pow_succ]; omega
      rw [e, dn_low] at h
      have m := rk_high (k + 1) a (2 ^ k - 1) (by omega)
      rw [show 2 ^ (k + 1) * a + (2 ^ k - 1) = t - 1 by omega] at m
      exact rk_trans _ _ _ m h
    · simp at h; exact Or.inl h
theorem rk_short : ∀ (t n j : Nat), t < 2 ^ n → 2 ^ j ∣ t → (rk t).length ≤ n - j + 1 := by
  intro t
  induction t using Nat.strongRecOn with
  | ind t ih =>
    intro n j hn hj
    by_cases h0 : t = 0
    · subst h0; rw [rk_zero]; simp
    · obtain ⟨k, a, e⟩ := low_bit t (by omega)
      have hd := dn_lt (show 0 < t by omega)
      rw [rk_pos (by omega), List.length_append, List.length_singleton]
      have ed : dn t = 2 ^ (k + 1) * a := by rw [e, dn_low]
      have hjk : j ≤ k := by
        by_cases hc : j ≤ k
        · exact hc
        · exfalso
          have d1 : 2 ^ (k + 1) ∣ t := Nat.dvd_trans (Nat.pow_dvd_pow 2 (by omega)) hj
          have d2 : 2 ^ (k + 1) ∣ 2 ^ k := by
            have := (Nat.dvd_add_iff_right (m := 2 ^ (k + 1) * a) (n := 2 ^ k) (Nat.dvd_mul_right _ _)).2 (e ▸ d1)
            exact this
          have := Nat.le_of_dvd (Nat.two_pow_pos k) d2
          rw [Nat.pow_succ] at this
          have := Nat.two_pow_pos k
          omega
      have hkn : k < n := by
        by_cases hc : k < n
        · exact hc
        · exfalso
          have : 2 ^ n ≤ 2 ^ k := Nat.pow_le_pow_right (by omega) (by omega)
          omega
      have := ih (dn t) hd n (k + 1) (by omega) (by rw [ed]; exact Nat.dvd_mul_right _ _)
      omega
theorem rk_len {t : Nat} (h : t ≤ 1099511627776) : (rk t).length ≤ 42 := by
  have := rk_short t 41 0 (by omega) (by simp)
  omega
def kpt (t : Int) : List Int := if 0 ≤ t ∧ t ≤ 1099511627776 then (rk t.toNat).map (fun n : Nat => (n : Int)) else []
theorem andI_nat {a b : Nat} (ha : a < 9223372036854775808) (hb : b < 9223372036854775808) : andI .i64 (a : Int) (b : Int) = ((a &&& b : Nat) : Int) := by
  have e : ((BitVec.ofInt 64 (a : Int) &&& BitVec.ofInt 64 (b : Int)).toNat : Int) = ((a &&& b : Nat) : Int) := by
    rw [BitVec.toNat_and, BitVec.toNat_ofInt, BitVec.toNat_ofInt]
    have h1 : ((a : Int) % ((2 ^ 64 : Nat) : Int)).toNat = a := by rw [Int.emod_eq_of_lt (by omega) (by simp; omega)]; omega
    have h2 : ((b : Int) % ((2 ^ 64 : Nat) : Int)).toNat = b := by rw [Int.emod_eq_of_lt (by omega) (by simp; omega)]; omega
    rw [h1, h2]
  have hle : a &&& b ≤ a := Nat.and_le_left
  show IntKind.wrap .i64 ((BitVec.ofInt 64 (a : Int) &&& BitVec.ofInt 64 (b : Int)).toNat : Int) = _
  rw [e, wrap_id (by omega) (by omega)]
theorem dn_and {t : Nat} (h : 0 < t) (h' : t < 9223372036854775808) : andI .i64 (t : Int) (IntKind.wrap .i64 ((t : Int) - 1)) = (dn t : Int) := by
  rw [show IntKind.wrap .i64 ((t : Int) - 1) = ((t - 1 : Nat) : Int) by rw [wrap_id (by omega) (by omega)]; omega, andI_nat h' (by omega)]
  rfl
end Go.Proofs.Ytaiokhbjjhicpaa
