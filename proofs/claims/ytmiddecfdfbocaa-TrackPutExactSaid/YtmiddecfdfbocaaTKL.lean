/- Whether journals are the same; a journal of one branch. -/
import Derived.Test.YtmiddecfdfbocaaTK
import Derived.Test.YtmiddecfdfbocaaA22
set_option linter.all false
set_option linter.unusedVariables false
set_option linter.unusedSimpArgs false
open Go Go.Abs Go.Proofs
set_option linter.unusedSimpArgs false
set_option linter.unusedVariables false
namespace Go.Proofs.Ytmiddecfdfbocaa
def sameF (a b : Journal) : Bool := sameRuleF a.1 a.2.1 b.1 b.2.1 && (sameCellsF a.2.2.1 b.2.2.1 && (decide (a.2.2.2.length = b.2.2.2.length) && eqL sameBranchF a.2.2.2 b.2.2.2))
theorem same_L0_spec (F : Nat) (x1 y1 : Int) (x2 y2 : List Six) (x3 y3 : List Cell) (a b : List Branch) (hl : a.length < big) (hb : b.length = a.length) (ho : a.all branchOk = true) : ∀ (k f i : Nat), i + k = a.length → k < f → same_L0 F f a.length i x1 x2 x3 a y1 y2 y3 b = ⟨true, .bool (eqL sameBranchF (a.drop i) (b.drop i)), []⟩
  | k, 0, i, _, h => by omega
  | 0, f + 1, i, hi, _ => by
    rw [same_L0_succ, ltF (by omega), cond_false, drop_len a (by omega), drop_len b (by omega)]
    rfl
  | k + 1, f + 1, i, hi, hf => by
    have ih := same_L0_spec F x1 y1 x2 y2 x3 y3 a b hl hb ho k f (i + 1) (by omega) (by omega)
    have hx := nth_all (d := branch0) ho (i := i) (by omega)
    rw [same_L0_succ, ltT (by omega), ltT (by omega), nnT, drop_nth branch0 a (by omega : i < a.length), drop_nth branch0 b (by omega : i < b.length), Int.toNat_natCast, wrapS (by omega), ih]
    generalize nth branch0 a i = x at *
    generalize nth branch0 b i = y at *
    obtain ⟨f1, f2, f3⟩ := x
    obtain ⟨g1, g2, g3⟩ := y
    have hc : sameBranchOk (f1, f2, f3, g1, g2, g3) = true := hx
    simp only [hc, cond_true, Bool.and_true, eqL, Bool.cond_not, sameBranchM, resB]
    cases sameBranchF (f1, f2, f3) (g1, g2, g3) <;> rfl
abbrev TwoJournals := Int × List Six × List Cell × List Branch × Int × List Six × List Cell × List Branch
def sameOk : TwoJournals → Bool := fun (x1, x2, x3, x4, _) => decide (x2.length < big) && (decide (x3.length < big) && (decide (x4.length < big) && x4.all branchOk))
def sameM : TwoJournals → Bool := fun (x1, x2, x3, x4, y) => sameF (x1, x2, x3, x4) y
abbrev sameFu : TwoJournals → Nat := fun x => x.2.2.2.1.length + 1
theorem same_ret (x : TwoJournals) (h : sameOk x = true) : Ret same_re same_R (same_run (sameFu x) x) (sameM x) := by
  obtain ⟨x1, x2, x3, x4, y1, y2, y3, y4⟩ := x
  simp only [sameOk, Bool.and_eq_true, decide_eq_true_eq] at h
  obtain ⟨h2, h3, h4, h5⟩ := h
  refine Ret.of ((same_arg ..).trans ((same_eq ..).trans ?_)) (Ret.bool _)
  rw [show sameRuleOk (x1, x2, y1, y2) = true by simp [sameRuleOk, h2], show sameCellsOk (x3, y3) = true by simp [sameCellsOk, h3], lenEq]
  simp only [sameM, sameF, sameRuleM, sameCellsM, cond_true]
  by_cases hb : x4.length = y4.length
  · have := same_L0_spec (sameFu (x1, x2, x3, x4, y1, y2, y3, y4)) x1 y1 x2 y2 x3 y3 x4 y4 h4 hb.symm h5 x4.length (sameFu (x1, x2, x3, x4, y1, y2, y3, y4)) 0 (by omega) (Nat.lt_succ_self _)
    rw [List.drop_zero, List.drop_zero, show ((0 : Nat) : Int) = 0 from rfl] at this
    rw [this]
    cases sameRuleF x1 x2 y1 y2 <;> cases sameCellsF x3 y3 <;> simp [hb]
  · rw [show decide (x4.length = y4.length) = false by simp [hb]]
    cases sameRuleF x1 x2 y1 y2 <;> cases sameCellsF x3 y3 <;> simp
theorem eqCell_refl (x : Cell) : eqCell x x = true := by simp [eqCell]
theorem sameCells_refl (l : List Cell) : sameCellsF l l = true := by simp [sameCellsF, eqL_refl eqCell_refl]
theorem eqEdit_refl (x : Edit) : eqEdit x x = true := by simp [eqEdit, sameCells_refl]
theorem sameBranch_refl (x : Branch) : sameBranchF x x = true := by simp [sameBranchF, eqL_refl eqEdit_refl]
theorem eqSix_refl (x : Six) : eqSix x x = true := by simp [eqSix]
theorem sameRule_refl (k : Int) (l : List Six) : sameRuleF k l k l = true := by simp [sameRuleF, eqL_refl eqSix_refl]
theorem same_refl (j : Journal) : sameF j j = true := by simp [sameF, sameRule_refl, sameCells_refl, eqL_refl sameBranch_refl]

/-! ### a journal of one branch -/
abbrev oneBranch : List Branch := [(-1, 0, [])]
abbrev Begun := Int × List Six × List Cell × List Branch × Int
abbrev Start := Int × List Six × List Cell
def beginOk : Start → Bool := fun (k, cs, p) => copiedOk (k, cs, p, oneBranch) && validOk (k, cs, p, oneBranch)
def begunF (e : Int) (x : Start) : Begun := bif !decide (e = 0) then (0, [], [], [], e) else (x.1, x.2.1, x.2.2, oneBranch, 0)
def beginM : Start → Begun := fun (k, cs, p) => begunF (validM (k, cs, p, oneBranch)) (k, cs, p)
abbrev beginFu : Start → Nat := fun _ => 1
theorem begin_none (e : Int) : Ret begin_re begin_R ⟨true, .tup [.agg [.int .i64 0, .sl 0 0 0 none, .sl 1 0 0 none, .sl 2 0 0 none], .int .i64 e], [.row 0 71 cloneCase_k [], .row 0 58 cloneCell_k [], .row 0 45 (.pair (.int .i64) (.pair (.int .i64) (.slice 47 (.pair (.int .i64) (.slice 58 cloneCell_k))))) []]⟩ (show Begun from (0, [], [], [], e)) := by
  refine ⟨rfl, rfl, rfl, rfl, ?_, ?_, fun _ h => by cases h; simp⟩
  · kernel_rfl
  · kernel_rfl
theorem begin_some (k : Int) (cs : List Six) (p : List Cell) (bs : List Branch) (e : Int) : Ret begin_re begin_R ⟨true, .tup [.agg [.int .i64 k, .ro cloneCase_k cs, .ro cloneCell_k p, .ro (.pair (.int .i64) (.pair (.int .i64) (.slice 47 (.pair (.int .i64) (.slice 58 cloneCell_k))))) bs], .int .i64 e], []⟩ (k, cs, p, bs, e) := by
  refine ⟨rfl, rfl, rfl, rfl, ?_, ?_, fun _ h => by cases h; simp⟩
  · kernel_rfl
  · kernel_rfl
theorem begin_ret (x : Start) (h : beginOk x = true) : Ret begin_re begin_R (begin_run (beginFu x) x) (beginM x) := by
  obtain ⟨k, cs, p⟩ := x
  simp only [beginOk, Bool.and_eq_true] at h
  have he := (begin_arg (beginFu (k, cs, p)) k cs p).trans (begin_eq (beginFu (k, cs, p)) k cs p)
  rw [h.1, show validOk ((copiedM (k, cs, p, oneBranch)).1, (copiedM (k, cs, p, oneBranch)).2.1, (copiedM (k, cs, p, oneBranch)).2.2.1, (copiedM (k, cs, p, oneBranch)).2.2.2) = true from h.2, cond_true, cond_true, beq_ne] at he
  by_cases hv : validM (k, cs, p, oneBranch) = 0
  · refine Ret.of (he.trans (cNT (by exact hv))) ?_
    simp only [beginM, begunF, hv, decide_true, Bool.not_true, cond_false]
    exact begin_some k cs p oneBranch 0
  · refine Ret.of (he.trans (cNF (by exact hv))) ?_
    simp only [beginM, begunF, hv, decide_false, Bool.not_false, cond_true]
    exact begin_none _
end Go.Proofs.Ytmiddecfdfbocaa

open Go Go.Abs Go.Proofs
set_option linter.unusedVariables false
namespace Go.Proofs.Ytmiddecfdfbocaa
noncomputable def tbTKL_1 : FuncId → List AV → List Blk → Res := addC 11 (tspec same_sh same_K same_re same_R sameOk sameM) tbTK
theorem tabTKL_1 : Tab Try.prog tbTKL_1 cxMd tbKTK := Tab.addTy (os := []) tabTK tabTK (KK := same_K) (R := same_R) (fn := Try.f11) (by kernel_rfl) (by kernel_rfl) (by kernel_rfl) (by kernel_rfl) _ sameFu same_ret
noncomputable def tbTKL_2 : FuncId → List AV → List Blk → Res := addC 10 (tspec begin_sh begin_K begin_re begin_R beginOk beginM) tbTKL_1
theorem tabTKL_2 : Tab Try.prog tbTKL_2 cxMd tbKTK := Tab.addTy (os := []) tabTKL_1 tabTK (KK := begin_K) (R := begin_R) (fn := Try.f10) (by kernel_rfl) (by kernel_rfl) (by kernel_rfl) (by kernel_rfl) _ beginFu begin_ret
noncomputable def tbTKB : FuncId → List AV → List Blk → Res := tbTKL_2
noncomputable def tbKTKB : KT := tbKTK
theorem tabTKB : Tab Try.prog tbTKB cxMd tbKTKB := tabTKL_2
end Go.Proofs.Ytmiddecfdfbocaa
