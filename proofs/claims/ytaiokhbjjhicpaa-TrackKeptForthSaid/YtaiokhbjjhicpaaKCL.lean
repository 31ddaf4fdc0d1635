/- Sorting: short ranges. -/
import Derived.Test.YtaiokhbjjhicpaaKC
set_option linter.all false
set_option linter.unusedVariables false
set_option linter.unusedSimpArgs false
open Go Go.Abs Go.Proofs
set_option linter.unusedSimpArgs false
set_option linter.unusedVariables false
namespace Go.Proofs.Ytaiokhbjjhicpaa
/-- What stands ahead of a range is no more than what stands in it. -/
def LB (a b : Nat) (l : List Int) : Prop := ∀ k, 0 < a → a ≤ k → k < b → nth 0 l (a - 1) ≤ nth 0 l k
def rngL (m : Nat) (l : List Int) (is : List Int) : Bool := match is with | [a, b, z] => decide (0 ≤ a ∧ a ≤ b ∧ b ≤ l.length ∧ l.length < 50 ∧ b - a ≤ m ∧ 0 ≤ z ∧ z < 1000) | _ => false
theorem rngL_spec {m : Nat} {l is : List Int} (h : rngL m l is = true) : ∃ a b z : Nat, is = [(a : Int), (b : Int), (z : Int)] ∧ a ≤ b ∧ b ≤ l.length ∧ l.length < 50 ∧ b - a ≤ m ∧ z < 1000 := by
  unfold rngL at h
  split at h
  · rename_i a b z
    have h := of_decide_eq_true h
    exact ⟨a.toNat, b.toNat, z.toNat, by rw [Int.toNat_of_nonneg h.1, Int.toNat_of_nonneg (by omega), Int.toNat_of_nonneg (by omega)], by omega, by omega, by omega, by omega, by omega⟩
  · cases h
theorem rngL_ok {m : Nat} {l : List Int} {a b z : Nat} (h1 : a ≤ b) (h2 : b ≤ l.length) (h3 : l.length < 50) (h4 : b - a ≤ m) (h5 : z < 1000) : rngL m l [(a : Int), (b : Int), (z : Int)] = true := decide_eq_true ⟨by omega, by omega, by omega, h3, by omega, by omega, by omega⟩
theorem ins_is {l : List Int} {a b : Nat} (h1 : a ≤ b) (h2 : b ≤ l.length) (h3 : l.length < 50) : insOk l [(a : Int), (b : Int)] = true ∧ Sp a b l (insY l [(a : Int), (b : Int)]) ∧ Srt a b (insY l [(a : Int), (b : Int)]) := by
  have ok : insOk l [(a : Int), (b : Int)] = true := decide_eq_true ⟨by omega, by omega, by omega, h3⟩
  exact ⟨ok, (ins_law ok a b rfl h1).2⟩
def pdq0Ok : List Int → List Int → Bool := rngL 12
def pdq0P (l is l' : List Int) : Prop := ∀ a b z : Nat, is = [(a : Int), (b : Int), (z : Int)] → runF (cx_pdq0 100) Try.f7 (.sl 0 0 0 none :: is.map (AV.int .i64)) (rowR l) = R0 l' ∧ Sp a b l l' ∧ (LB a b l → Srt a b l')
noncomputable def pdq0Y (l is : List Int) : List Int := oneOf (pdq0P l is)
noncomputable def pdq0M (l is : List Int) : Res := ⟨true, .tup [], [.row 0 2 (.int .i64) (pdq0Y l is)]⟩
def pdq0Fu : Nat := 100
theorem pdq0_law {l is : List Int} (h : pdq0Ok l is = true) : pdq0P l is (pdq0Y l is) := by
  refine oneOf_spec ?_
  obtain ⟨a, b, z, rfl, h1, h2, h3, h4, h5⟩ := rngL_spec h
  obtain ⟨q1, q2, q3⟩ := ins_is h1 h2 h3
  refine ⟨insY l [(a : Int), (b : Int)], fun a' b' z' he => ?_⟩
  obtain ⟨rfl, rfl, rfl⟩ := nat3 he
  refine ⟨(pdq0_eq 100 l a b z).trans ?_, q2, fun _ => q3⟩
  rw [pdq0_L0_succ, wrap_id (n := (b : Int) - (a : Int)) (by omega) (by omega), dT (show (b : Int) - (a : Int) ≤ 12 by omega), q1]
  rfl
theorem pdq0_retB (l is : List Int) (h : pdq0Ok l is = true) : runF (cx_pdq0 pdq0Fu) Try.f7 (.sl 0 0 0 none :: is.map (AV.int .i64)) [.row 0 2 (.int .i64) l] = ⟨true, (pdq0M l is).val, (pdq0M l is).heap⟩ := by
  obtain ⟨a, b, z, he, _⟩ := rngL_spec h
  exact (pdq0_law h a b z he).1
end Go.Proofs.Ytaiokhbjjhicpaa

open Go Go.Abs Go.Proofs
set_option linter.unusedVariables false
namespace Go.Proofs.Ytaiokhbjjhicpaa
noncomputable def tbKCL_1 : FuncId → List AV → List Blk → Res := addC 7 (tspecB pdq0_e pdq0_k pdq0Ok pdq0M) tbKC
theorem tabKCL_1 : Tab Try.prog tbKCL_1 cxMd tbKKC := Tab.addTyB tabKC tabKC (e := pdq0_e) (k := pdq0_k) (fn := Try.f7) (by kernel_rfl) (by kernel_rfl) (by kernel_rfl) (by kernel_rfl) _ pdq0Fu pdq0_retB
noncomputable def tbKCB : FuncId → List AV → List Blk → Res := tbKCL_1
noncomputable def tbKKCB : KT := tbKKC
theorem tabKCB : Tab Try.prog tbKCB cxMd tbKKCB := tabKCL_1
end Go.Proofs.Ytaiokhbjjhicpaa
