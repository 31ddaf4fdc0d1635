/- Sorting: ranges of at most 49. -/
import Derived.Test.YtaiokhbjjhicpaaKEa
import Derived.Test.YtaiokhbjjhicpaaKEb
import Derived.Test.YtaiokhbjjhicpaaKEc
import Derived.Test.YtaiokhbjjhicpaaKT
set_option linter.all false
set_option linter.unusedVariables false
set_option linter.unusedSimpArgs false
open Go Go.Abs Go.Proofs
set_option linter.unusedSimpArgs false
set_option linter.unusedVariables false
namespace Go.Proofs.Ytaiokhbjjhicpaa
theorem pdq2_step (F n : Nat) (s1 s2 s3 : Int) (s8 s9 : Bool) (h0 : List Int) : pdq2_L0 F (n + 1) s1 s2 s3 s8 s9 h0 = stepG pdq1Ok pdq1Y (pdq2_L0 F n) s1 s2 s3 s8 s9 h0 := by
  cases s8 with
  | false => exact pdq2_L0_succa F n s1 s2 s3 s9 h0
  | true =>
    cases s9 with
    | false => exact pdq2_L0_succb F n s1 s2 s3 h0
    | true => exact pdq2_L0_succc F n s1 s2 s3 h0
theorem pdq1_sp (l : List Int) (a b z : Nat) (h : rngL 25 l [(a : Int), (b : Int), (z : Int)] = true) : Sp a b l (pdq1Y l [(a : Int), (b : Int), (z : Int)]) ∧ (LB a b l → Srt a b (pdq1Y l [(a : Int), (b : Int), (z : Int)])) := (pdq1_law h a b z rfl).2
theorem pdq2_loop (F : Nat) : ∀ N, N ≤ 49 → ∀ f, N < f → ∀ (a b z : Nat) (s8 s9 : Bool) (l : List Int), a ≤ b → b ≤ l.length → l.length < 50 → b - a ≤ N → z < 1000 → Good a b l (pdq2_L0 F f a b z s8 s9 l) := by
  intro N
  induction N with
  | zero =>
    intro hN f hf a b z s8 s9 l h1 h2 h3 h4 h5
    obtain ⟨f, rfl⟩ : ∃ f', f = f' + 1 := ⟨f - 1, by omega⟩
    rw [pdq2_step]
    exact stepG_law (m := 25) (N := 0) pdq1_sp (fun a b z s8 s9 l h1 h2 h3 h4 h5 => by omega) (by omega) s8 s9 h1 h2 h3 h5 h4
  | succ N ih =>
    intro hN f hf a b z s8 s9 l h1 h2 h3 h4 h5
    obtain ⟨f, rfl⟩ : ∃ f', f = f' + 1 := ⟨f - 1, by omega⟩
    rw [pdq2_step]
    exact stepG_law (m := 25) (N := N + 1) pdq1_sp (fun a b z s8 s9 l h1 h2 h3 h4 h5 => ih (by omega) f (by omega) a b z s8 s9 l h1 h2 h3 (by omega) h5) (by omega) s8 s9 h1 h2 h3 h5 h4
def pdq2Ok : List Int → List Int → Bool := rngL 49
def pdq2P (l is l' : List Int) : Prop := ∀ a b z : Nat, is = [(a : Int), (b : Int), (z : Int)] → runF (cx_pdq2 100) Try.f7 (.sl 0 0 0 none :: is.map (AV.int .i64)) (rowR l) = R0 l' ∧ Sp a b l l' ∧ (LB a b l → Srt a b l')
noncomputable def pdq2Y (l is : List Int) : List Int := oneOf (pdq2P l is)
noncomputable def pdq2M (l is : List Int) : Res := ⟨true, .tup [], [.row 0 2 (.int .i64) (pdq2Y l is)]⟩
def pdq2Fu : Nat := 100
theorem pdq2_law {l is : List Int} (h : pdq2Ok l is = true) : pdq2P l is (pdq2Y l is) := by
  refine oneOf_spec ?_
  obtain ⟨a, b, z, rfl, h1, h2, h3, h4, h5⟩ := rngL_spec h
  obtain ⟨l', e, g1, g2⟩ := pdq2_loop 100 49 (by omega) 100 (by omega) a b z true true l h1 h2 h3 h4 h5
  refine ⟨l', fun a' b' z' he => ?_⟩
  obtain ⟨rfl, rfl, rfl⟩ := nat3 he
  exact ⟨(pdq2_eq 100 l a b z).trans e, g1, g2⟩
theorem pdq2_retB (l is : List Int) (h : pdq2Ok l is = true) : runF (cx_pdq2 pdq2Fu) Try.f7 (.sl 0 0 0 none :: is.map (AV.int .i64)) [.row 0 2 (.int .i64) l] = ⟨true, (pdq2M l is).val, (pdq2M l is).heap⟩ := by
  obtain ⟨a, b, z, he, _⟩ := rngL_spec h
  exact (pdq2_law h a b z he).1
end Go.Proofs.Ytaiokhbjjhicpaa

open Go Go.Abs Go.Proofs
set_option linter.unusedVariables false
namespace Go.Proofs.Ytaiokhbjjhicpaa
noncomputable def tbKEL_1 : FuncId → List AV → List Blk → Res := addC 7 (tspecB pdq2_e pdq2_k pdq2Ok pdq2M) tbKE
theorem tabKEL_1 : Tab Try.prog tbKEL_1 cxMd tbKKE := Tab.addTyB tabKE tabKE (e := pdq2_e) (k := pdq2_k) (fn := Try.f7) (by kernel_rfl) (by kernel_rfl) (by kernel_rfl) (by kernel_rfl) _ pdq2Fu pdq2_retB
noncomputable def tbKEB : FuncId → List AV → List Blk → Res := tbKEL_1
noncomputable def tbKKEB : KT := tbKKE
theorem tabKEB : Tab Try.prog tbKEB cxMd tbKKEB := tabKEL_1
end Go.Proofs.Ytaiokhbjjhicpaa
