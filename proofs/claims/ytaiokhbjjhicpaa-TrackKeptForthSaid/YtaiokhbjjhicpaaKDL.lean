/- Sorting: ranges of at most 25. -/
import Derived.Test.YtaiokhbjjhicpaaKDa
import Derived.Test.YtaiokhbjjhicpaaKDb
import Derived.Test.YtaiokhbjjhicpaaKDc
import Derived.Test.YtaiokhbjjhicpaaKT
set_option linter.all false
set_option linter.unusedVariables false
set_option linter.unusedSimpArgs false
open Go Go.Abs Go.Proofs
set_option linter.unusedSimpArgs false
set_option linter.unusedVariables false
namespace Go.Proofs.Ytaiokhbjjhicpaa
theorem pdq1_step (F n : Nat) (s1 s2 s3 : Int) (s8 s9 : Bool) (h0 : List Int) : pdq1_L0 F (n + 1) s1 s2 s3 s8 s9 h0 = stepG pdq0Ok pdq0Y (pdq1_L0 F n) s1 s2 s3 s8 s9 h0 := by
  cases s8 with
  | false => exact pdq1_L0_succa F n s1 s2 s3 s9 h0
  | true =>
    cases s9 with
    | false => exact pdq1_L0_succb F n s1 s2 s3 h0
    | true => exact pdq1_L0_succc F n s1 s2 s3 h0
theorem pdq0_sp (l : List Int) (a b z : Nat) (h : rngL 12 l [(a : Int), (b : Int), (z : Int)] = true) : Sp a b l (pdq0Y l [(a : Int), (b : Int), (z : Int)]) ∧ (LB a b l → Srt a b (pdq0Y l [(a : Int), (b : Int), (z : Int)])) := (pdq0_law h a b z rfl).2
theorem pdq1_loop (F : Nat) : ∀ N, N ≤ 25 → ∀ f, N < f → ∀ (a b z : Nat) (s8 s9 : Bool) (l : List Int), a ≤ b → b ≤ l.length → l.length < 50 → b - a ≤ N → z < 1000 → Good a b l (pdq1_L0 F f a b z s8 s9 l) := by
  intro N
  induction N with
  | zero =>
    intro hN f hf a b z s8 s9 l h1 h2 h3 h4 h5
    obtain ⟨f, rfl⟩ : ∃ f', f = f' + 1 := ⟨f - 1, by omega⟩
    rw [pdq1_step]
    exact stepG_law (m := 12) (N := 0) pdq0_sp (fun a b z s8 s9 l h1 h2 h3 h4 h5 => by omega) (by omega) s8 s9 h1 h2 h3 h5 h4
  | succ N ih =>
    intro hN f hf a b z s8 s9 l h1 h2 h3 h4 h5
    obtain ⟨f, rfl⟩ : ∃ f', f = f' + 1 := ⟨f - 1, by omega⟩
    rw [pdq1_step]
    exact stepG_law (m := 12) (N := N + 1) pdq0_sp (fun a b z s8 s9 l h1 h2 h3 h4 h5 => ih (by omega) f (by omega) a b z s8 s9 l h1 h2 h3 (by omega) h5) (by omega) s8 s9 h1 h2 h3 h5 h4
def pdq1Ok : List Int → List Int → Bool := rngL 25
def pdq1P (l is l' : List Int) : Prop := ∀ a b z : Nat, is = [(a : Int), (b : Int), (z : Int)] → runF (cx_pdq1 100) Try.f7 (.sl 0 0 0 none :: is.map (AV.int .i64)) (rowR l) = R0 l' ∧ Sp a b l l' ∧ (LB a b l → Srt a b l')
noncomputable def pdq1Y (l is : List Int) : List Int := oneOf (pdq1P l is)
noncomputable def pdq1M (l is : List Int) : Res := ⟨true, .tup [], [.row 0 2 (.int .i64) (pdq1Y l is)]⟩
def pdq1Fu : Nat := 100
theorem pdq1_law {l is : List Int} (h : pdq1Ok l is = true) : pdq1P l is (pdq1Y l is) := by
  refine oneOf_spec ?_
  obtain ⟨a, b, z, rfl, h1, h2, h3, h4, h5⟩ := rngL_spec h
  obtain ⟨l', e, g1, g2⟩ := pdq1_loop 100 25 (by omega) 100 (by omega) a b z true true l h1 h2 h3 h4 h5
  refine ⟨l', fun a' b' z' he => ?_⟩
  obtain ⟨rfl, rfl, rfl⟩ := nat3 he
  exact ⟨(pdq1_eq 100 l a b z).trans e, g1, g2⟩
theorem pdq1_retB (l is : List Int) (h : pdq1Ok l is = true) : runF (cx_pdq1 pdq1Fu) Try.f7 (.sl 0 0 0 none :: is.map (AV.int .i64)) [.row 0 2 (.int .i64) l] = ⟨true, (pdq1M l is).val, (pdq1M l is).heap⟩ := by
  obtain ⟨a, b, z, he, _⟩ := rngL_spec h
  exact (pdq1_law h a b z he).1
end Go.Proofs.Ytaiokhbjjhicpaa

open Go Go.Abs Go.Proofs
set_option linter.unusedVariables false
namespace Go.Proofs.Ytaiokhbjjhicpaa
noncomputable def tbKDL_1 : FuncId → List AV → List Blk → Res := addC 7 (tspecB pdq1_e pdq1_k pdq1Ok pdq1M) tbKD
theorem tabKDL_1 : Tab Try.prog tbKDL_1 cxMd tbKKD := Tab.addTyB tabKD tabKD (e := pdq1_e) (k := pdq1_k) (fn := Try.f7) (by kernel_rfl) (by kernel_rfl) (by kernel_rfl) (by kernel_rfl) _ pdq1Fu pdq1_retB
noncomputable def tbKDB : FuncId → List AV → List Blk → Res := tbKDL_1
noncomputable def tbKKDB : KT := tbKKD
theorem tabKDB : Tab Try.prog tbKDB cxMd tbKKDB := tabKDL_1
end Go.Proofs.Ytaiokhbjjhicpaa
