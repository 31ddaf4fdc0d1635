/- A journal in new memory; whether branches are the same. -/
import Derived.Test.YtmiddecfdfbocaaTJ
import Derived.Test.YtmiddecfdfbocaaA22
set_option linter.all false
set_option linter.unusedVariables false
set_option linter.unusedSimpArgs false
open Go Go.Abs Go.Proofs
set_option linter.unusedSimpArgs false
set_option linter.unusedVariables false
namespace Go.Proofs.Ytmiddecfdfbocaa
def editFit (e : Edit) : Bool := decide (e.2.length * 24 ≤ 140737488355328)
def branchFit (b : Branch) : Bool := decide (b.2.2.length * 32 ≤ 140737488355328) && b.2.2.all editFit
def copiedOk : Journal → Bool := fun j => decide (j.2.1.length * 48 ≤ 140737488355328) && (decide (j.2.2.1.length * 24 ≤ 140737488355328) && (decide (j.2.2.2.length * 40 ≤ 140737488355328) && j.2.2.2.all branchFit))
def copiedM : Journal → Journal := fun j => j
abbrev copiedFu : Journal → Nat := fun j => fuelJ j.2.2.2
theorem copied_L1_spec (F m : Nat) (bs : List Branch) (len q : Int) (z kind : Int) (cases : List Six) (first : List Cell) (fr bat : Int) (es : List Edit) (h3 : List Six) (h4 : List Cell) (h5 acc : List Branch) (hs : es.length * 32 ≤ 140737488355328) (ho : es.all editFit = true) (ha : (acc.length + 1) * 40 ≤ 140737488355328) : ∀ (k f i : Nat), i + k = es.length → k < f →
    copied_L1 F m f bs len q es es.length i z kind cases first fr bat h3 h4 h5 acc (es.take i) = copied_L0 F m bs len (IntKind.wrap IntKind.i64 (q + 1)) z kind cases first h3 h4 h5 (acc ++ [(fr, bat, es)])
  | k, 0, i, _, h => by omega
  | 0, f + 1, i, hi, _ => by
    rw [copied_L1_succ, ltF (by omega), cond_false, List.take_of_length_le (by omega)]
    have : (Nat.ble 0 acc.length && decide (Nat.mul (Nat.add acc.length 1) 40 ≤ 140737488355328)) = true := by
      rw [Bool.and_eq_true]
      exact ⟨Nat.ble_eq_true_of_le (Nat.zero_le _), decide_eq_true ha⟩
    rw [this, cond_true]
  | k + 1, f + 1, i, hi, hf => by
    have ih := copied_L1_spec F m bs len q z kind cases first fr bat es h3 h4 h5 acc hs ho ha k f (i + 1) (by omega) (by omega)
    have hx := nth_all (d := edit0) ho (i := i) (by omega)
    rw [copied_L1_succ, ltT (by omega), nnT, Int.toNat_natCast, wrapS (by simp [big]; omega)]
    have hc : cloneCellOk (nth edit0 es i).2 = true := hx
    have : (Nat.ble 0 (es.take i).length && decide (Nat.mul (Nat.add (es.take i).length 1) 32 ≤ 140737488355328)) = true := by
      have h1 : (es.take i).length = i := by rw [List.length_take]; omega
      have : Nat.mul (Nat.add (es.take i).length 1) 32 ≤ 140737488355328 := by
        rw [h1]
        show (i + 1) * 32 ≤ _
        omega
      rw [Bool.and_eq_true]
      exact ⟨Nat.ble_eq_true_of_le (Nat.zero_le _), decide_eq_true this⟩
    rw [this, hc]
    simp only [cond_true, Bool.and_true, cloneCellM]
    rw [take_nth edit0 es (by omega)] at ih
    exact ih
theorem copied_L0_spec (F : Nat) (bs : List Branch) (z kind : Int) (cases : List Six) (first : List Cell) (h3 : List Six) (h4 : List Cell) (h5 : List Branch) (hs : bs.length * 40 ≤ 140737488355328) (ho : bs.all branchFit = true) (hF : ∀ b ∈ bs, b.2.2.length < F) : ∀ (k f i : Nat), i + k = bs.length → k < f →
    copied_L0 F f bs bs.length i z kind cases first h3 h4 h5 (bs.take i) = ⟨true, .agg [.int .i64 kind, .ro cloneCase_k cases, .ro cloneCell_k first, .sl 0 0 0 none], [.row 0 45 (.pair (.int .i64) (.pair (.int .i64) (.slice 47 (.pair (.int .i64) (.slice 58 cloneCell_k))))) bs]⟩
  | k, 0, i, _, h => by omega
  | 0, f + 1, i, hi, _ => by
    rw [copied_L0_succ, ltF (by omega), cond_false, List.take_of_length_le (by omega)]
    rfl
  | k + 1, f + 1, i, hi, hf => by
    have ih := copied_L0_spec F bs z kind cases first h3 h4 h5 hs ho hF k f (i + 1) (by omega) (by omega)
    have hx := nth_all (d := branch0) ho (i := i) (by omega)
    have hm := hF _ (nth_mem branch0 bs (i := i) (by omega))
    rw [copied_L0_succ, ltT (by omega), nnT, Int.toNat_natCast]
    rw [take_nth branch0 bs (by omega)] at ih
    generalize nth branch0 bs i = b at *
    obtain ⟨fr, bat, es⟩ := b
    simp only [branchFit, Bool.and_eq_true, decide_eq_true_eq] at hx
    have h1 : (bs.take i).length = i := by rw [List.length_take]; omega
    have := copied_L1_spec F f bs bs.length i z kind cases first fr bat es h3 h4 h5 (bs.take i) hx.1 hx.2 (by rw [h1]; omega) es.length F 0 (by omega) hm
    rw [List.take_zero, show ((0 : Nat) : Int) = 0 from rfl] at this
    simp only [cond_true, Bool.and_true]
    rw [this, wrapS (by simp [big]; omega)]
    exact ih
theorem copied_fin (kind : Int) (cases : List Six) (first : List Cell) (bs : List Branch) : Ret copied_re copied_R ⟨true, .agg [.int .i64 kind, .ro cloneCase_k cases, .ro cloneCell_k first, .sl 0 0 0 none], [.row 0 45 (.pair (.int .i64) (.pair (.int .i64) (.slice 47 (.pair (.int .i64) (.slice 58 cloneCell_k))))) bs]⟩ (kind, cases, first, bs) := by
  refine ⟨rfl, rfl, rfl, rfl, ?_, ?_, fun _ h => by cases h⟩
  · kernel_rfl
  · kernel_rfl
theorem copied_ret (j : Journal) (h : copiedOk j = true) : Ret copied_re copied_R (copied_run (copiedFu j) j) (copiedM j) := by
  obtain ⟨kind, cases, first, bs⟩ := j
  simp only [copiedOk, Bool.and_eq_true, decide_eq_true_eq] at h
  obtain ⟨h1, h2, h3, h4⟩ := h
  refine Ret.of ((copied_arg ..).trans ((copied_eq ..).trans ?_)) (copied_fin kind cases first bs)
  rw [show cloneCaseOk cases = true by simp [cloneCaseOk, h1], show cloneCellOk first = true by simp [cloneCellOk, h2]]
  have := copied_L0_spec (fuelJ bs) bs 0 kind cases first [] [] [] h3 h4 (fun b hb => fuelJ_mem hb) bs.length (fuelJ bs) 0 (by omega) (by simp [fuelJ]; omega)
  rw [List.take_zero, show ((0 : Nat) : Int) = 0 from rfl] at this
  exact this

def eqEdit (a b : Edit) : Bool := decide (a.1 = b.1) && sameCellsF a.2 b.2
def sameBranchF (a b : Branch) : Bool := decide (a.1 = b.1) && (decide (a.2.1 = b.2.1) && (decide (a.2.2.length = b.2.2.length) && eqL eqEdit a.2.2 b.2.2))
theorem sameBranch_L0_spec (F : Nat) (x1 x2 y1 y2 : Int) (a b : List Edit) (hl : a.length < big) (hb : b.length = a.length) (ho : a.all editOk = true) : ∀ (k f i : Nat), i + k = a.length → k < f → sameBranch_L0 F f a.length i x1 x2 a y1 y2 b = ⟨true, .bool (eqL eqEdit (a.drop i) (b.drop i)), []⟩
  | k, 0, i, _, h => by omega
  | 0, f + 1, i, hi, _ => by
    rw [sameBranch_L0_succ, ltF (by omega), cond_false, drop_len a (by omega), drop_len b (by omega)]
    rfl
  | k + 1, f + 1, i, hi, hf => by
    have ih := sameBranch_L0_spec F x1 x2 y1 y2 a b hl hb ho k f (i + 1) (by omega) (by omega)
    have hx := nth_all (d := edit0) ho (i := i) (by omega)
    rw [sameBranch_L0_succ, ltT (by omega), ltT (by omega), nnT, drop_nth edit0 a (by omega : i < a.length), drop_nth edit0 b (by omega : i < b.length), Int.toNat_natCast, wrapS (by omega), ih]
    generalize nth edit0 a i = x at *
    generalize nth edit0 b i = y at *
    have hc : sameCellsOk (x.2, y.2) = true := hx
    rw [hc]
    simp only [cond_true, Bool.and_true, eqL, eqEdit, Bool.cond_not, resB, beq_ne, sameCellsM]
    cases decide (x.1 = y.1) <;> cases sameCellsF x.2 y.2 <;> rfl
abbrev TwoBranches := Int × Int × List Edit × Int × Int × List Edit
def sameBranchOk : TwoBranches → Bool := fun x => decide (x.2.2.1.length < big) && x.2.2.1.all editOk
def sameBranchM : TwoBranches → Bool := fun (x1, x2, a, y1, y2, b) => sameBranchF (x1, x2, a) (y1, y2, b)
abbrev sameBranchFu : TwoBranches → Nat := fun x => x.2.2.1.length + 1
theorem sameBranch_ret (x : TwoBranches) (h : sameBranchOk x = true) : Ret sameBranch_re sameBranch_R (sameBranch_run (sameBranchFu x) x) (sameBranchM x) := by
  obtain ⟨x1, x2, a, y1, y2, b⟩ := x
  simp only [sameBranchOk, Bool.and_eq_true, decide_eq_true_eq] at h
  refine Ret.of ((sameBranch_arg ..).trans ((sameBranch_eq ..).trans ?_)) (Ret.bool _)
  simp only [sameBranchM, sameBranchF, beq_ne, natEq]
  by_cases hb : a.length = b.length
  · have := sameBranch_L0_spec (sameBranchFu (x1, x2, a, y1, y2, b)) x1 x2 y1 y2 a b h.1 hb.symm h.2 a.length (sameBranchFu (x1, x2, a, y1, y2, b)) 0 (by omega) (Nat.lt_succ_self _)
    rw [List.drop_zero, List.drop_zero, show ((0 : Nat) : Int) = 0 from rfl] at this
    rw [this]
    by_cases h1 : x1 = y1 <;> by_cases h2 : x2 = y2 <;> simp [h1, h2, hb]
  · rw [show decide (a.length = b.length) = false by simp [hb]]
    by_cases h1 : x1 = y1 <;> by_cases h2 : x2 = y2 <;> simp [h1, h2]
end Go.Proofs.Ytmiddecfdfbocaa

open Go Go.Abs Go.Proofs
set_option linter.unusedVariables false
namespace Go.Proofs.Ytmiddecfdfbocaa
noncomputable def tbTJL_1 : FuncId → List AV → List Blk → Res := addC 21 (tspec copied_sh copied_K copied_re copied_R copiedOk copiedM) tbTJ
theorem tabTJL_1 : Tab Try.prog tbTJL_1 cxMd tbKTJ := Tab.addTy (os := []) tabTJ tabTJ (KK := copied_K) (R := copied_R) (fn := Try.f21) (by kernel_rfl) (by kernel_rfl) (by kernel_rfl) (by kernel_rfl) _ copiedFu copied_ret
noncomputable def tbTJL_2 : FuncId → List AV → List Blk → Res := addC 24 (tspec sameBranch_sh sameBranch_K sameBranch_re sameBranch_R sameBranchOk sameBranchM) tbTJL_1
theorem tabTJL_2 : Tab Try.prog tbTJL_2 cxMd tbKTJ := Tab.addTy (os := []) tabTJL_1 tabTJ (KK := sameBranch_K) (R := sameBranch_R) (fn := Try.f24) (by kernel_rfl) (by kernel_rfl) (by kernel_rfl) (by kernel_rfl) _ sameBranchFu sameBranch_ret
noncomputable def tbTJB : FuncId → List AV → List Blk → Res := tbTJL_2
noncomputable def tbKTJB : KT := tbKTJ
theorem tabTJB : Tab Try.prog tbTJB cxMd tbKTJB := tabTJL_2
end Go.Proofs.Ytmiddecfdfbocaa
